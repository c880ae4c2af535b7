/-
  Texts of the proof, put together without their remarks: Ast3, Sk, Kg, Rcp, Scl, Ip, Ir, Stn, Enp, Enq.
-/
import Derived.Test.YtembgnhbpmfhpaaGreatV4
import Derived.Recover
set_option linter.unusedSimpArgs false
set_option linter.unusedVariables false
set_option maxHeartbeats 8000000
set_option maxRecDepth 100000
namespace Go.Proofs.YtembgnhbpmfhpaaGreat
open Tryz
section
open Go.RowKit
def zl0(t:T):Prop:=∀(v:Value) (w:World),NV w Any t v->Calls prog 121 #[v] w fun e w'=>e=.returned (.bool (isS t))/\Below w.heap.size w w'
def zlx(t:T):Prop:=∀(v:Value) (w:World),NV w Any t v->Calls prog 109 #[v] w fun e w'=>e=.returned (.bool (isB t))/\Below w.heap.size w w'
theorem zvM(n:Int)(s:ByteArray)(ks:List T)(aN:∀t∈ks,zlx t):zl0 (.nd 40 n s ks):=by
 intro v w hv;have HX:=zh (show isS (.nd 40 n s ks)=(zkr n s&&zkH 2 (fun i=>if i=0 then isP else isE) ks) by simp[isS]);have IH:=zh aN;have HV:=zh hv;obtain⟨Ad,c,rfl,hf,hlk,hlc,hrow⟩:=hv.open_;simp only[T.k_nd,T.n_nd,T.s_nd,T.ks_nd]at *
 have aB:=zkJ hlk;clear hf hv hlk hrow hlc aN;by_cases hnb:zkr n s=true
 ·go_enter func121,ntmps121;go_wp2_with fail;refine(zkn _ _ _ _ _ _ _).mono ?_;rintro e w1 ⟨rfl,hb1⟩;obtain⟨hc1,hf1⟩:=zlD hb1;have hbb:Below w.heap.size w w1:=zAB hb1;go_wp2_with fail;refine(zkP (.nd 40 n s ks) _ _ (HV.out.later (hbb.alloc hbb.size _)) _ 2 (fun i=>if i=0 then 161 else 162) (fun i=>if i=0 then f161 else f162) (fun i=>if i=0 then isP else isE) (by decide) (by simp) (fun i hi=>zmn (by rcases i with _|_|_|_|i<;>first|omega|rfl)) (fun i hi=>by rcases i with _|i;exact zk7;exact zk3) (fun hl i hi=>by rcases i with _|i;exact zkO _;exact zkM _)).mono ?_;rintro e w2 ⟨rfl,hb2⟩;have hbc:Below w.heap.size w w2:=zAC hbb hb2;go_wp2_with fail;go_ret;exact⟨by rw[HX.out];simp[*],hbc⟩
 ·have hnb':zkr n s=false:=by simpa using hnb
  clear hnb;go_enter func121,ntmps121;go_wp2_with fail;refine(zkn _ _ _ _ _ _ _).mono ?_;rintro e w1 ⟨rfl,hb1⟩;have hbb:Below w.heap.size w w1:=zAB hb1;go_wp2_with fail;go_ret;exact⟨by rw[HX.out];simp[*],hbb⟩
theorem zvL(n:Int)(s:ByteArray)(ks:List T)(aN:∀t∈ks,zlx t):zl0 (.nd 41 n s ks):=by
 intro v w hv;have HX:=zh (show isS (.nd 41 n s ks)=(zkr n s&&zkH 2 (fun i=>if i=0 then isP else isE) ks) by simp[isS]);have IH:=zh aN;have HV:=zh hv;obtain⟨Ad,c,rfl,hf,hlk,hlc,hrow⟩:=hv.open_;simp only[T.k_nd,T.n_nd,T.s_nd,T.ks_nd]at *
 have aB:=zkJ hlk;clear hf hv hlk hrow hlc aN;by_cases hnb:zkr n s=true
 ·go_enter func121,ntmps121;go_wp2_with fail;refine(zkn _ _ _ _ _ _ _).mono ?_;rintro e w1 ⟨rfl,hb1⟩;obtain⟨hc1,hf1⟩:=zlD hb1;have hbb:Below w.heap.size w w1:=zAB hb1;go_wp2_with fail;refine(zkP (.nd 41 n s ks) _ _ (HV.out.later (hbb.alloc hbb.size _)) _ 2 (fun i=>if i=0 then 161 else 162) (fun i=>if i=0 then f161 else f162) (fun i=>if i=0 then isP else isE) (by decide) (by simp) (fun i hi=>zmn (by rcases i with _|_|_|_|i<;>first|omega|rfl)) (fun i hi=>by rcases i with _|i;exact zk7;exact zk3) (fun hl i hi=>by rcases i with _|i;exact zkO _;exact zkM _)).mono ?_;rintro e w2 ⟨rfl,hb2⟩;have hbc:Below w.heap.size w w2:=zAC hbb hb2;go_wp2_with fail;go_ret;exact⟨by rw[HX.out];simp[*],hbc⟩
 ·have hnb':zkr n s=false:=by simpa using hnb
  clear hnb;go_enter func121,ntmps121;go_wp2_with fail;refine(zkn _ _ _ _ _ _ _).mono ?_;rintro e w1 ⟨rfl,hb1⟩;have hbb:Below w.heap.size w w1:=zAB hb1;go_wp2_with fail;go_ret;exact⟨by rw[HX.out];simp[*],hbb⟩
theorem zvK(n:Int)(s:ByteArray)(ks:List T)(aN:∀t∈ks,zlx t):zl0 (.nd 42 n s ks):=by
 intro v w hv;have HX:=zh (show isS (.nd 42 n s ks)=(zkr n s&&zkH 2 (fun i=>if i=0 then isP else isE) ks) by simp[isS]);have IH:=zh aN;have HV:=zh hv;obtain⟨Ad,c,rfl,hf,hlk,hlc,hrow⟩:=hv.open_;simp only[T.k_nd,T.n_nd,T.s_nd,T.ks_nd]at *
 have aB:=zkJ hlk;clear hf hv hlk hrow hlc aN;by_cases hnb:zkr n s=true
 ·go_enter func121,ntmps121;go_wp2_with fail;refine(zkn _ _ _ _ _ _ _).mono ?_;rintro e w1 ⟨rfl,hb1⟩;obtain⟨hc1,hf1⟩:=zlD hb1;have hbb:Below w.heap.size w w1:=zAB hb1;go_wp2_with fail;refine(zkP (.nd 42 n s ks) _ _ (HV.out.later (hbb.alloc hbb.size _)) _ 2 (fun i=>if i=0 then 161 else 162) (fun i=>if i=0 then f161 else f162) (fun i=>if i=0 then isP else isE) (by decide) (by simp) (fun i hi=>zmn (by rcases i with _|_|_|_|i<;>first|omega|rfl)) (fun i hi=>by rcases i with _|i;exact zk7;exact zk3) (fun hl i hi=>by rcases i with _|i;exact zkO _;exact zkM _)).mono ?_;rintro e w2 ⟨rfl,hb2⟩;have hbc:Below w.heap.size w w2:=zAC hbb hb2;go_wp2_with fail;go_ret;exact⟨by rw[HX.out];simp[*],hbc⟩
 ·have hnb':zkr n s=false:=by simpa using hnb
  clear hnb;go_enter func121,ntmps121;go_wp2_with fail;refine(zkn _ _ _ _ _ _ _).mono ?_;rintro e w1 ⟨rfl,hb1⟩;have hbb:Below w.heap.size w w1:=zAB hb1;go_wp2_with fail;go_ret;exact⟨by rw[HX.out];simp[*],hbb⟩
theorem zvw(n:Int)(s:ByteArray)(ks:List T)(aN:∀t∈ks,zlx t):zl0 (.nd 56 n s ks):=by
 intro v w hv;have HX:=zh (show isS (.nd 56 n s ks)=(zkr n s&&zkH 2 (fun i=>if i=0 then isP else isE) ks) by simp[isS]);have IH:=zh aN;have HV:=zh hv;obtain⟨Ad,c,rfl,hf,hlk,hlc,hrow⟩:=hv.open_;simp only[T.k_nd,T.n_nd,T.s_nd,T.ks_nd]at *
 have aB:=zkJ hlk;clear hf hv hlk hrow hlc aN;by_cases hnb:zkr n s=true
 ·go_enter func121,ntmps121;go_wp2_with fail;refine(zkn _ _ _ _ _ _ _).mono ?_;rintro e w1 ⟨rfl,hb1⟩;obtain⟨hc1,hf1⟩:=zlD hb1;have hbb:Below w.heap.size w w1:=zAB hb1;go_wp2_with fail;refine(zkP (.nd 56 n s ks) _ _ (HV.out.later (hbb.alloc hbb.size _)) _ 2 (fun i=>if i=0 then 161 else 162) (fun i=>if i=0 then f161 else f162) (fun i=>if i=0 then isP else isE) (by decide) (by simp) (fun i hi=>zmn (by rcases i with _|_|_|_|i<;>first|omega|rfl)) (fun i hi=>by rcases i with _|i;exact zk7;exact zk3) (fun hl i hi=>by rcases i with _|i;exact zkO _;exact zkM _)).mono ?_;rintro e w2 ⟨rfl,hb2⟩;have hbc:Below w.heap.size w w2:=zAC hbb hb2;go_wp2_with fail;go_ret;exact⟨by rw[HX.out];simp[*],hbc⟩
 ·have hnb':zkr n s=false:=by simpa using hnb
  clear hnb;go_enter func121,ntmps121;go_wp2_with fail;refine(zkn _ _ _ _ _ _ _).mono ?_;rintro e w1 ⟨rfl,hb1⟩;have hbb:Below w.heap.size w w1:=zAB hb1;go_wp2_with fail;go_ret;exact⟨by rw[HX.out];simp[*],hbb⟩
theorem zvJ(n:Int)(s:ByteArray)(ks:List T)(aN:∀t∈ks,zlx t):zl0 (.nd 43 n s ks):=by
 intro v w hv;have HX:=zh (show isS (.nd 43 n s ks)=(zkr n s&&zkH 2 (fun _=>isP) ks) by simp[isS]);have IH:=zh aN;have HV:=zh hv;obtain⟨Ad,c,rfl,hf,hlk,hlc,hrow⟩:=hv.open_;simp only[T.k_nd,T.n_nd,T.s_nd,T.ks_nd]at *
 have aB:=zkJ hlk;clear hf hv hlk hrow hlc aN;by_cases hnb:zkr n s=true
 ·go_enter func121,ntmps121;go_wp2_with fail;refine(zkn _ _ _ _ _ _ _).mono ?_;rintro e w1 ⟨rfl,hb1⟩;obtain⟨hc1,hf1⟩:=zlD hb1;have hbb:Below w.heap.size w w1:=zAB hb1;go_wp2_with fail;refine(zkP (.nd 43 n s ks) _ _ (HV.out.later (hbb.alloc hbb.size _)) _ 2 (fun _=>161) (fun _=>f161) (fun _=>isP) (by decide) (by simp) (fun i hi=>zmn (by rcases i with _|_|_|_|i<;>first|omega|rfl)) (fun _ _=>zk7) (fun hl i hi=>zkO _)).mono ?_;rintro e w2 ⟨rfl,hb2⟩;have hbc:Below w.heap.size w w2:=zAC hbb hb2;go_wp2_with fail;go_ret;exact⟨by rw[HX.out];simp[*],hbc⟩
 ·have hnb':zkr n s=false:=by simpa using hnb
  clear hnb;go_enter func121,ntmps121;go_wp2_with fail;refine(zkn _ _ _ _ _ _ _).mono ?_;rintro e w1 ⟨rfl,hb1⟩;have hbb:Below w.heap.size w w1:=zAB hb1;go_wp2_with fail;go_ret;exact⟨by rw[HX.out];simp[*],hbb⟩
theorem zvI(n:Int)(s:ByteArray)(ks:List T)(aN:∀t∈ks,zlx t):zl0 (.nd 44 n s ks):=by
 intro v w hv;have HX:=zh (show isS (.nd 44 n s ks)=(zkD n s&&zkH 1 (fun _=>isP) ks) by simp[isS]);have IH:=zh aN;have HV:=zh hv;obtain⟨Ad,c,rfl,hf,hlk,hlc,hrow⟩:=hv.open_;simp only[T.k_nd,T.n_nd,T.s_nd,T.ks_nd]at *
 have aB:=zkJ hlk;clear hf hv hlk hrow hlc aN;by_cases hnb:zkD n s=true
 ·go_enter func121,ntmps121;go_wp2_with fail;refine(zkw _ _ _ _ _ _ _).mono ?_;rintro e w1 ⟨rfl,hb1⟩;obtain⟨hc1,hf1⟩:=zlD hb1;have hbb:Below w.heap.size w w1:=zAB hb1;go_wp2_with fail;refine(zkP (.nd 44 n s ks) _ _ (HV.out.later (hbb.alloc hbb.size _)) _ 1 (fun _=>161) (fun _=>f161) (fun _=>isP) (by decide) (by simp) (fun i hi=>zmn (by rcases i with _|_|_|_|i<;>first|omega|rfl)) (fun _ _=>zk7) (fun hl i hi=>zkO _)).mono ?_;rintro e w2 ⟨rfl,hb2⟩;have hbc:Below w.heap.size w w2:=zAC hbb hb2;go_wp2_with fail;go_ret;exact⟨by rw[HX.out];simp[*],hbc⟩
 ·have hnb':zkD n s=false:=by simpa using hnb
  clear hnb;go_enter func121,ntmps121;go_wp2_with fail;refine(zkw _ _ _ _ _ _ _).mono ?_;rintro e w1 ⟨rfl,hb1⟩;have hbb:Below w.heap.size w w1:=zAB hb1;go_wp2_with fail;go_ret;exact⟨by rw[HX.out];simp[*],hbb⟩
theorem zvH(n:Int)(s:ByteArray)(ks:List T)(aN:∀t∈ks,zlx t):zl0 (.nd 45 n s ks):=by
 intro v w hv;have HX:=zh (show isS (.nd 45 n s ks)=(zkD n s&&zkH 1 (fun _=>isP) ks) by simp[isS]);have IH:=zh aN;have HV:=zh hv;obtain⟨Ad,c,rfl,hf,hlk,hlc,hrow⟩:=hv.open_;simp only[T.k_nd,T.n_nd,T.s_nd,T.ks_nd]at *
 have aB:=zkJ hlk;clear hf hv hlk hrow hlc aN;by_cases hnb:zkD n s=true
 ·go_enter func121,ntmps121;go_wp2_with fail;refine(zkw _ _ _ _ _ _ _).mono ?_;rintro e w1 ⟨rfl,hb1⟩;obtain⟨hc1,hf1⟩:=zlD hb1;have hbb:Below w.heap.size w w1:=zAB hb1;go_wp2_with fail;refine(zkP (.nd 45 n s ks) _ _ (HV.out.later (hbb.alloc hbb.size _)) _ 1 (fun _=>161) (fun _=>f161) (fun _=>isP) (by decide) (by simp) (fun i hi=>zmn (by rcases i with _|_|_|_|i<;>first|omega|rfl)) (fun _ _=>zk7) (fun hl i hi=>zkO _)).mono ?_;rintro e w2 ⟨rfl,hb2⟩;have hbc:Below w.heap.size w w2:=zAC hbb hb2;go_wp2_with fail;go_ret;exact⟨by rw[HX.out];simp[*],hbc⟩
 ·have hnb':zkD n s=false:=by simpa using hnb
  clear hnb;go_enter func121,ntmps121;go_wp2_with fail;refine(zkw _ _ _ _ _ _ _).mono ?_;rintro e w1 ⟨rfl,hb1⟩;have hbb:Below w.heap.size w w1:=zAB hb1;go_wp2_with fail;go_ret;exact⟨by rw[HX.out];simp[*],hbb⟩
theorem zvG(n:Int)(s:ByteArray)(ks:List T)(aN:∀t∈ks,zlx t):zl0 (.nd 46 n s ks):=by
 intro v w hv;have HX:=zh (show isS (.nd 46 n s ks)=(zkr n s&&zkH 1 (fun _=>isP) ks) by simp[isS]);have IH:=zh aN;have HV:=zh hv;obtain⟨Ad,c,rfl,hf,hlk,hlc,hrow⟩:=hv.open_;simp only[T.k_nd,T.n_nd,T.s_nd,T.ks_nd]at *
 have aB:=zkJ hlk;clear hf hv hlk hrow hlc aN;by_cases hnb:zkr n s=true
 ·go_enter func121,ntmps121;go_wp2_with fail;refine(zkn _ _ _ _ _ _ _).mono ?_;rintro e w1 ⟨rfl,hb1⟩;obtain⟨hc1,hf1⟩:=zlD hb1;have hbb:Below w.heap.size w w1:=zAB hb1;go_wp2_with fail;refine(zkP (.nd 46 n s ks) _ _ (HV.out.later (hbb.alloc hbb.size _)) _ 1 (fun _=>161) (fun _=>f161) (fun _=>isP) (by decide) (by simp) (fun i hi=>zmn (by rcases i with _|_|_|_|i<;>first|omega|rfl)) (fun _ _=>zk7) (fun hl i hi=>zkO _)).mono ?_;rintro e w2 ⟨rfl,hb2⟩;have hbc:Below w.heap.size w w2:=zAC hbb hb2;go_wp2_with fail;go_ret;exact⟨by rw[HX.out];simp[*],hbc⟩
 ·have hnb':zkr n s=false:=by simpa using hnb
  clear hnb;go_enter func121,ntmps121;go_wp2_with fail;refine(zkn _ _ _ _ _ _ _).mono ?_;rintro e w1 ⟨rfl,hb1⟩;have hbb:Below w.heap.size w w1:=zAB hb1;go_wp2_with fail;go_ret;exact⟨by rw[HX.out];simp[*],hbb⟩
theorem zvF(n:Int)(s:ByteArray)(ks:List T)(aN:∀t∈ks,zlx t):zl0 (.nd 47 n s ks):=by
 intro v w hv;have HX:=zh (show isS (.nd 47 n s ks)=(zkr n s&&zkH 1 (fun _=>isP) ks) by simp[isS]);have IH:=zh aN;have HV:=zh hv;obtain⟨Ad,c,rfl,hf,hlk,hlc,hrow⟩:=hv.open_;simp only[T.k_nd,T.n_nd,T.s_nd,T.ks_nd]at *
 have aB:=zkJ hlk;clear hf hv hlk hrow hlc aN;by_cases hnb:zkr n s=true
 ·go_enter func121,ntmps121;go_wp2_with fail;refine(zkn _ _ _ _ _ _ _).mono ?_;rintro e w1 ⟨rfl,hb1⟩;obtain⟨hc1,hf1⟩:=zlD hb1;have hbb:Below w.heap.size w w1:=zAB hb1;go_wp2_with fail;refine(zkP (.nd 47 n s ks) _ _ (HV.out.later (hbb.alloc hbb.size _)) _ 1 (fun _=>161) (fun _=>f161) (fun _=>isP) (by decide) (by simp) (fun i hi=>zmn (by rcases i with _|_|_|_|i<;>first|omega|rfl)) (fun _ _=>zk7) (fun hl i hi=>zkO _)).mono ?_;rintro e w2 ⟨rfl,hb2⟩;have hbc:Below w.heap.size w w2:=zAC hbb hb2;go_wp2_with fail;go_ret;exact⟨by rw[HX.out];simp[*],hbc⟩
 ·have hnb':zkr n s=false:=by simpa using hnb
  clear hnb;go_enter func121,ntmps121;go_wp2_with fail;refine(zkn _ _ _ _ _ _ _).mono ?_;rintro e w1 ⟨rfl,hb1⟩;have hbb:Below w.heap.size w w1:=zAB hb1;go_wp2_with fail;go_ret;exact⟨by rw[HX.out];simp[*],hbb⟩
theorem zvE(n:Int)(s:ByteArray)(ks:List T)(aN:∀t∈ks,zlx t):zl0 (.nd 48 n s ks):=by
 intro v w hv;have HX:=zh (show isS (.nd 48 n s ks)=(zkr n s&&zkH 1 (fun _=>isP) ks) by simp[isS]);have IH:=zh aN;have HV:=zh hv;obtain⟨Ad,c,rfl,hf,hlk,hlc,hrow⟩:=hv.open_;simp only[T.k_nd,T.n_nd,T.s_nd,T.ks_nd]at *
 have aB:=zkJ hlk;clear hf hv hlk hrow hlc aN;by_cases hnb:zkr n s=true
 ·go_enter func121,ntmps121;go_wp2_with fail;refine(zkn _ _ _ _ _ _ _).mono ?_;rintro e w1 ⟨rfl,hb1⟩;obtain⟨hc1,hf1⟩:=zlD hb1;have hbb:Below w.heap.size w w1:=zAB hb1;go_wp2_with fail;refine(zkP (.nd 48 n s ks) _ _ (HV.out.later (hbb.alloc hbb.size _)) _ 1 (fun _=>161) (fun _=>f161) (fun _=>isP) (by decide) (by simp) (fun i hi=>zmn (by rcases i with _|_|_|_|i<;>first|omega|rfl)) (fun _ _=>zk7) (fun hl i hi=>zkO _)).mono ?_;rintro e w2 ⟨rfl,hb2⟩;have hbc:Below w.heap.size w w2:=zAC hbb hb2;go_wp2_with fail;go_ret;exact⟨by rw[HX.out];simp[*],hbc⟩
 ·have hnb':zkr n s=false:=by simpa using hnb
  clear hnb;go_enter func121,ntmps121;go_wp2_with fail;refine(zkn _ _ _ _ _ _ _).mono ?_;rintro e w1 ⟨rfl,hb1⟩;have hbb:Below w.heap.size w w1:=zAB hb1;go_wp2_with fail;go_ret;exact⟨by rw[HX.out];simp[*],hbb⟩
theorem zvD(n:Int)(s:ByteArray)(ks:List T)(aN:∀t∈ks,zlx t):zl0 (.nd 49 n s ks):=by
 intro v w hv;have HX:=zh (show isS (.nd 49 n s ks)=(zkr n s&&zkH 1 (fun _=>isP) ks) by simp[isS]);have IH:=zh aN;have HV:=zh hv;obtain⟨Ad,c,rfl,hf,hlk,hlc,hrow⟩:=hv.open_;simp only[T.k_nd,T.n_nd,T.s_nd,T.ks_nd]at *
 have aB:=zkJ hlk;clear hf hv hlk hrow hlc aN;by_cases hnb:zkr n s=true
 ·go_enter func121,ntmps121;go_wp2_with fail;refine(zkn _ _ _ _ _ _ _).mono ?_;rintro e w1 ⟨rfl,hb1⟩;obtain⟨hc1,hf1⟩:=zlD hb1;have hbb:Below w.heap.size w w1:=zAB hb1;go_wp2_with fail;refine(zkP (.nd 49 n s ks) _ _ (HV.out.later (hbb.alloc hbb.size _)) _ 1 (fun _=>161) (fun _=>f161) (fun _=>isP) (by decide) (by simp) (fun i hi=>zmn (by rcases i with _|_|_|_|i<;>first|omega|rfl)) (fun _ _=>zk7) (fun hl i hi=>zkO _)).mono ?_;rintro e w2 ⟨rfl,hb2⟩;have hbc:Below w.heap.size w w2:=zAC hbb hb2;go_wp2_with fail;go_ret;exact⟨by rw[HX.out];simp[*],hbc⟩
 ·have hnb':zkr n s=false:=by simpa using hnb
  clear hnb;go_enter func121,ntmps121;go_wp2_with fail;refine(zkn _ _ _ _ _ _ _).mono ?_;rintro e w1 ⟨rfl,hb1⟩;have hbb:Below w.heap.size w w1:=zAB hb1;go_wp2_with fail;go_ret;exact⟨by rw[HX.out];simp[*],hbb⟩
theorem zvA(n:Int)(s:ByteArray)(ks:List T)(aN:∀t∈ks,zlx t):zl0 (.nd 52 n s ks):=by
 intro v w hv;have HX:=zh (show isS (.nd 52 n s ks)=(zkr n s&&zkH 4 (pEB 0) ks) by simp[isS,zkH,<-znJ]);have IH:=zh aN;have HV:=zh hv;obtain⟨Ad,c,rfl,hf,hlk,hlc,hrow⟩:=hv.open_;simp only[T.k_nd,T.n_nd,T.s_nd,T.ks_nd]at *
 have aB:=zkJ hlk;clear hf hv hlk hrow hlc aN;by_cases hnb:zkr n s=true
 ·go_enter func121,ntmps121;go_wp2_with fail;refine(zkn _ _ _ _ _ _ _).mono ?_;rintro e w1 ⟨rfl,hb1⟩;obtain⟨hc1,hf1⟩:=zlD hb1;have hbb:Below w.heap.size w w1:=zAB hb1;go_wp2_with fail;refine(zkP (.nd 52 n s ks) _ _ (HV.out.later (hbb.alloc hbb.size _)) _ 4 (fun i=>if i=0\/i=3 then 162 else 109) (fun i=>if i=0\/i=3 then f162 else f109) (pEB 0) (by decide) (by simp) (fun i hi=>zmn (by rcases i with _|_|_|_|i<;>first|omega|rfl)) (fun i hi=>by rcases i with _|_|_|_|i;exact zk3;exact zmb;exact zmb;exact zk3;omega) (fun hl i hi=>by rcases i with _|_|_|_|i;exact zkM _;exact IH.out _ (List.getElem_mem hi);exact IH.out _ (List.getElem_mem hi);exact zkM _;exact absurd hi (by simp only[T.ks_nd]at hl ⊢;omega))).mono ?_;rintro e w2 ⟨rfl,hb2⟩;have hbc:Below w.heap.size w w2:=zAC hbb hb2;go_wp2_with fail;go_ret
  exact⟨by rw[HX.out];simp[*],hbc⟩
 ·have hnb':zkr n s=false:=by simpa using hnb
  clear hnb;go_enter func121,ntmps121;go_wp2_with fail;refine(zkn _ _ _ _ _ _ _).mono ?_;rintro e w1 ⟨rfl,hb1⟩;have hbb:Below w.heap.size w w1:=zAB hb1;go_wp2_with fail;go_ret;exact⟨by rw[HX.out];simp[*],hbb⟩
theorem zvz(n:Int)(s:ByteArray)(ks:List T)(aN:∀t∈ks,zlx t):zl0 (.nd 53 n s ks):=by
 intro v w hv;have HX:=zh (show isS (.nd 53 n s ks)=(zkr n s&&zkH 4 (pEB 0) ks) by simp[isS,zkH,<-znJ]);have IH:=zh aN;have HV:=zh hv;obtain⟨Ad,c,rfl,hf,hlk,hlc,hrow⟩:=hv.open_;simp only[T.k_nd,T.n_nd,T.s_nd,T.ks_nd]at *
 have aB:=zkJ hlk;clear hf hv hlk hrow hlc aN;by_cases hnb:zkr n s=true
 ·go_enter func121,ntmps121;go_wp2_with fail;refine(zkn _ _ _ _ _ _ _).mono ?_;rintro e w1 ⟨rfl,hb1⟩;obtain⟨hc1,hf1⟩:=zlD hb1;have hbb:Below w.heap.size w w1:=zAB hb1;go_wp2_with fail;refine(zkP (.nd 53 n s ks) _ _ (HV.out.later (hbb.alloc hbb.size _)) _ 4 (fun i=>if i=0\/i=3 then 162 else 109) (fun i=>if i=0\/i=3 then f162 else f109) (pEB 0) (by decide) (by simp) (fun i hi=>zmn (by rcases i with _|_|_|_|i<;>first|omega|rfl)) (fun i hi=>by rcases i with _|_|_|_|i;exact zk3;exact zmb;exact zmb;exact zk3;omega) (fun hl i hi=>by rcases i with _|_|_|_|i;exact zkM _;exact IH.out _ (List.getElem_mem hi);exact IH.out _ (List.getElem_mem hi);exact zkM _;exact absurd hi (by simp only[T.ks_nd]at hl ⊢;omega))).mono ?_;rintro e w2 ⟨rfl,hb2⟩;have hbc:Below w.heap.size w w2:=zAC hbb hb2;go_wp2_with fail;go_ret
  exact⟨by rw[HX.out];simp[*],hbc⟩
 ·have hnb':zkr n s=false:=by simpa using hnb
  clear hnb;go_enter func121,ntmps121;go_wp2_with fail;refine(zkn _ _ _ _ _ _ _).mono ?_;rintro e w1 ⟨rfl,hb1⟩;have hbb:Below w.heap.size w w1:=zAB hb1;go_wp2_with fail;go_ret;exact⟨by rw[HX.out];simp[*],hbb⟩
theorem zvy(n:Int)(s:ByteArray)(ks:List T)(aN:∀t∈ks,zlx t):zl0 (.nd 54 n s ks):=by
 intro v w hv;have HX:=zh (show isS (.nd 54 n s ks)=(zkD n s&&zkH 3 (pEB 4) ks) by simp[isS,zkH,<-znJ]);have IH:=zh aN;have HV:=zh hv;obtain⟨Ad,c,rfl,hf,hlk,hlc,hrow⟩:=hv.open_;simp only[T.k_nd,T.n_nd,T.s_nd,T.ks_nd]at *
 have aB:=zkJ hlk;clear hf hv hlk hrow hlc aN;by_cases hnb:zkD n s=true
 ·go_enter func121,ntmps121;go_wp2_with fail;refine(zkw _ _ _ _ _ _ _).mono ?_;rintro e w1 ⟨rfl,hb1⟩;obtain⟨hc1,hf1⟩:=zlD hb1;have hbb:Below w.heap.size w w1:=zAB hb1;go_wp2_with fail;refine(zkP (.nd 54 n s ks) _ _ (HV.out.later (hbb.alloc hbb.size _)) _ 3 (fun i=>if i=1 then 109 else 162) (fun i=>if i=1 then f109 else f162) (pEB 4) (by decide) (by simp) (fun i hi=>zmn (by rcases i with _|_|_|_|i<;>first|omega|rfl)) (fun i hi=>by rcases i with _|_|_|i;exact zk3;exact zmb;exact zk3;omega) (fun hl i hi=>by rcases i with _|_|_|i;exact zkM _;exact IH.out _ (List.getElem_mem hi);exact zkM _;exact absurd hi (by simp only[T.ks_nd]at hl ⊢;omega))).mono ?_;rintro e w2 ⟨rfl,hb2⟩;have hbc:Below w.heap.size w w2:=zAC hbb hb2;go_wp2_with fail;go_ret;exact⟨by rw[HX.out];simp[*],hbc⟩
 ·have hnb':zkD n s=false:=by simpa using hnb
  clear hnb;go_enter func121,ntmps121;go_wp2_with fail;refine(zkw _ _ _ _ _ _ _).mono ?_;rintro e w1 ⟨rfl,hb1⟩;have hbb:Below w.heap.size w w1:=zAB hb1;go_wp2_with fail;go_ret;exact⟨by rw[HX.out];simp[*],hbb⟩
theorem zvx(n:Int)(s:ByteArray)(ks:List T)(aN:∀t∈ks,zlx t):zl0 (.nd 55 n s ks):=by
 intro v w hv;have HX:=zh (show isS (.nd 55 n s ks)=(zkD n s&&zkH 1 (pEB 7) ks) by simp[isS,zkH,<-znJ]);have IH:=zh aN;have HV:=zh hv;obtain⟨Ad,c,rfl,hf,hlk,hlc,hrow⟩:=hv.open_;simp only[T.k_nd,T.n_nd,T.s_nd,T.ks_nd]at *
 have aB:=zkJ hlk;clear hf hv hlk hrow hlc aN;by_cases hnb:zkD n s=true
 ·go_enter func121,ntmps121;go_wp2_with fail;refine(zkw _ _ _ _ _ _ _).mono ?_;rintro e w1 ⟨rfl,hb1⟩;obtain⟨hc1,hf1⟩:=zlD hb1;have hbb:Below w.heap.size w w1:=zAB hb1;go_wp2_with fail;refine(zkP (.nd 55 n s ks) _ _ (HV.out.later (hbb.alloc hbb.size _)) _ 1 (fun _=>109) (fun _=>f109) (pEB 7) (by decide) (by simp) (fun i hi=>zmn (by rcases i with _|_|_|_|i<;>first|omega|rfl)) (fun _ _=>zmb) (fun hl i hi=>by rcases i with _|i;exact IH.out _ (List.getElem_mem hi);exact absurd hi (by simp only[T.ks_nd]at hl ⊢;omega))).mono ?_;rintro e w2 ⟨rfl,hb2⟩;have hbc:Below w.heap.size w w2:=zAC hbb hb2;go_wp2_with fail;go_ret;exact⟨by rw[HX.out];simp[*],hbc⟩
 ·have hnb':zkD n s=false:=by simpa using hnb
  clear hnb;go_enter func121,ntmps121;go_wp2_with fail;refine(zkw _ _ _ _ _ _ _).mono ?_;rintro e w1 ⟨rfl,hb1⟩;have hbb:Below w.heap.size w w1:=zAB hb1;go_wp2_with fail;go_ret;exact⟨by rw[HX.out];simp[*],hbb⟩
theorem zvC(n:Int)(s:ByteArray)(ks:List T):zl0 (.nd 50 n s ks):=by
 intro v w hv;have HX:=zh (show isS (.nd 50 n s ks)=(zkD n s&&decide (ks.length<=8)&&zkC (fun _=>isV) 0 ks) by simp[isS]);have HV:=zh hv;obtain⟨Ad,c,rfl,hf,hlk,hlc,hrow⟩:=hv.open_;simp only[T.k_nd,T.n_nd,T.s_nd,T.ks_nd]at *
 have aB:=zkJ hlk;clear hf hv hlc;by_cases hnb:zkD n s=true
 ·by_cases AR:ks.length<=8
  ·go_enter func121,ntmps121;go_wp2_with fail;refine(zkw _ _ _ _ _ _ _).mono ?_;rintro e w1 ⟨rfl,hb1⟩;obtain⟨hc1,hf1⟩:=zlD hb1;have hbb:Below w.heap.size w w1:=zAB hb1;go_wp2_with fail;refine(zoD ks _ _ _ (hrow.later hbb) hlk _ _ zuF isV (fun i hi=>zqx _)).mono ?_;rintro e w2 ⟨rfl,hb2⟩;have hbc:Below w.heap.size w w2:=hbb.trans (hb2.mono hbb.size);go_wp2_with fail;go_ret;exact⟨by rw[HX.out];simp[*],hbc⟩
  ·have hl9:8<ks.length:=by omega
   clear AR;go_enter func121,ntmps121;go_wp2_with fail;refine(zkw _ _ _ _ _ _ _).mono ?_;rintro e w1 ⟨rfl,hb1⟩;obtain⟨hc1,hf1⟩:=zlD hb1;have hbb:Below w.heap.size w w1:=zAB hb1;go_wp2_with fail;go_ret;exact⟨by rw[HX.out];simp[show ¬ ks.length<=8 by omega],hbb⟩
 ·have hnb':zkD n s=false:=by simpa using hnb
  clear hnb;go_enter func121,ntmps121;go_wp2_with fail;refine(zkw _ _ _ _ _ _ _).mono ?_;rintro e w1 ⟨rfl,hb1⟩;have hbb:Below w.heap.size w w1:=zAB hb1;go_wp2_with fail;go_ret;exact⟨by rw[HX.out];simp[*],hbb⟩
theorem zvB(n:Int)(s:ByteArray)(ks:List T):zl0 (.nd 51 n s ks):=by
 intro v w hv;have HX:=zh (show isS (.nd 51 n s ks)=(zkD n s&&decide (ks.length<=8)&&zkC (fun _=>isV) 0 ks) by simp[isS]);have HV:=zh hv;obtain⟨Ad,c,rfl,hf,hlk,hlc,hrow⟩:=hv.open_;simp only[T.k_nd,T.n_nd,T.s_nd,T.ks_nd]at *
 have aB:=zkJ hlk;clear hf hv hlc;by_cases hnb:zkD n s=true
 ·by_cases AR:ks.length<=8
  ·go_enter func121,ntmps121;go_wp2_with fail;refine(zkw _ _ _ _ _ _ _).mono ?_;rintro e w1 ⟨rfl,hb1⟩;obtain⟨hc1,hf1⟩:=zlD hb1;have hbb:Below w.heap.size w w1:=zAB hb1;go_wp2_with fail;refine(zoD ks _ _ _ (hrow.later hbb) hlk _ _ zuF isV (fun i hi=>zqx _)).mono ?_;rintro e w2 ⟨rfl,hb2⟩;have hbc:Below w.heap.size w w2:=hbb.trans (hb2.mono hbb.size);go_wp2_with fail;go_ret;exact⟨by rw[HX.out];simp[*],hbc⟩
  ·have hl9:8<ks.length:=by omega
   clear AR;go_enter func121,ntmps121;go_wp2_with fail;refine(zkw _ _ _ _ _ _ _).mono ?_;rintro e w1 ⟨rfl,hb1⟩;obtain⟨hc1,hf1⟩:=zlD hb1;have hbb:Below w.heap.size w w1:=zAB hb1;go_wp2_with fail;go_ret;exact⟨by rw[HX.out];simp[show ¬ ks.length<=8 by omega],hbb⟩
 ·have hnb':zkD n s=false:=by simpa using hnb
  clear hnb;go_enter func121,ntmps121;go_wp2_with fail;refine(zkw _ _ _ _ _ _ _).mono ?_;rintro e w1 ⟨rfl,hb1⟩;have hbb:Below w.heap.size w w1:=zAB hb1;go_wp2_with fail;go_ret;exact⟨by rw[HX.out];simp[*],hbb⟩
theorem ztk(k n:Int)(s:ByteArray)(ks:List T)(n40:(k==40)=false)(n41:(k==41)=false)(n42:(k==42)=false)(n43:(k==43)=false)(n44:(k==44)=false)(n45:(k==45)=false)(n46:(k==46)=false)(n47:(k==47)=false)(n48:(k==48)=false)(n49:(k==49)=false)(n50:(k==50)=false)(n51:(k==51)=false)(n52:(k==52)=false)(n53:(k==53)=false)(n54:(k==54)=false)(n55:(k==55)=false)(n56:(k==56)=false):zl0 (.nd k n s ks):=by
 intro v w hv;obtain⟨Ad,c,rfl,hf,hlk,hlc,hrow⟩:=hv.open_;simp only[T.k_nd,T.n_nd,T.s_nd,T.ks_nd]at *
 have aB:=zkJ hlk;have HX:=zh (show isS (.nd k n s ks)=false by
  simp only[beq_eq_false_iff_ne,ne_eq]at n40 n41 n42 n43 n44 n45 n46 n47 n48 n49 n50 n51 n52 n53 n54 n55 n56;rw[isS,if_neg (by omega),if_neg (by omega),if_neg (by omega),if_neg (by omega),if_neg (by omega),if_neg (by omega),if_neg (by omega),if_neg (by omega)])
 clear hf hv hlk hrow hlc;go_enter func121,ntmps121;go_wp2;go_ret;exact⟨by rw[HX.out];rfl,zr.alloc zl _⟩
theorem zto(k n:Int)(s:ByteArray)(ks:List T)(ih:∀t∈ks,zl0 t):zlx (.nd k n s ks):=by
 intro v w hv;have HX:=zh (show isB (.nd k n s ks)=((k==57)&&zkr n s&&zkC (fun _=>isS) 0 ks) by rw[isB,zpL 0];rfl);have IH:=zh ih;obtain⟨Ad,c,rfl,hf,hlk,hlc,hrow⟩:=hv.open_;simp only[T.k_nd,T.n_nd,T.s_nd,T.ks_nd]at *
 have aB:=zkJ hlk;clear hf hv hlc ih;by_cases hk:(k==57)=true
 ·by_cases hnb:zkr n s=true
  ·go_enter func109,ntmps109;go_wp2_with fail;refine(zkn _ _ _ _ _ _ _).mono ?_;rintro e w1 ⟨rfl,hb1⟩;obtain⟨hc1,hf1⟩:=zlD hb1;have hbb:Below w.heap.size w w1:=zAB hb1;go_wp2_with fail;refine(zoD ks _ _ _ (hrow.later hbb) hlk _ _ zwT isS (fun i hi=>IH.out _ (List.getElem_mem hi))).mono ?_;rintro e w2 ⟨rfl,hb2⟩;have hbc:Below w.heap.size w w2:=hbb.trans (hb2.mono hbb.size);go_wp2_with fail;go_ret;exact⟨by rw[HX.out];simp[*],hbc⟩
  ·have hnb':zkr n s=false:=by simpa using hnb
   clear hnb;go_enter func109,ntmps109;go_wp2_with fail;refine(zkn _ _ _ _ _ _ _).mono ?_;rintro e w1 ⟨rfl,hb1⟩;have hbb:Below w.heap.size w w1:=zAB hb1;go_wp2_with fail;go_ret;exact⟨by rw[HX.out];simp[*],hbb⟩
 ·have hk':(k==57)=false:=by simpa using hk
  clear hk;go_enter func109,ntmps109;go_wp2_with fail;go_ret;exact⟨by rw[HX.out];simp[*],zr.alloc zl _⟩
theorem zsy(t:T):zl0 t/\zlx t:=by
 induction t using T.ind with
 | _ k n s ks ih =>
 have ihS:∀t∈ks,zl0 t:=fun t ht=>(ih t ht).1;have aN:∀t∈ks,zlx t:=fun t ht=>(ih t ht).2;refine⟨?_,zto k n s ks ihS⟩;by_cases h40:k=40
 ·subst h40;exact zvM n s ks aN
 by_cases h41:k=41
 ·subst h41;exact zvL n s ks aN
 by_cases h42:k=42
 ·subst h42;exact zvK n s ks aN
 by_cases h43:k=43
 ·subst h43;exact zvJ n s ks aN
 by_cases ug:k=44
 ·subst ug;exact zvI n s ks aN
 by_cases h45:k=45
 ·subst h45;exact zvH n s ks aN
 by_cases h46:k=46
 ·subst h46;exact zvG n s ks aN
 by_cases h47:k=47
 ·subst h47;exact zvF n s ks aN
 by_cases h48:k=48
 ·subst h48;exact zvE n s ks aN
 by_cases yN:k=49
 ·subst yN;exact zvD n s ks aN
 by_cases h50:k=50
 ·subst h50;exact zvC n s ks
 by_cases lK:k=51
 ·subst lK;exact zvB n s ks
 by_cases lJ:k=52
 ·subst lJ;exact zvA n s ks aN
 by_cases mJ:k=53
 ·subst mJ;exact zvz n s ks aN
 by_cases eQ:k=54
 ·subst eQ;exact zvy n s ks aN
 by_cases fw:k=55
 ·subst fw;exact zvx n s ks aN
 by_cases qP:k=56
 ·subst qP;exact zvw n s ks aN
 exact ztk k n s ks (by simpa using h40) (by simpa using h41) (by simpa using h42) (by simpa using h43) (by simpa using ug) (by simpa using h45) (by simpa using h46) (by simpa using h47) (by simpa using h48) (by simpa using yN) (by simpa using h50) (by simpa using lK) (by simpa using lJ) (by simpa using mJ) (by simpa using eQ) (by simpa using fw) (by simpa using qP)
theorem ztl(t:T):zl0 t:=(zsy t).1
theorem zrB(t:T):zlx t:=(zsy t).2
end
section
open Go Go.RowKit
theorem zxV{f:Nat->T->Bool}{ks:List T}(h:zkH 1 f ks=true):∃p,ks=[p]/\f 0 p=true:=by
 match ks with
 | [p]=>simp[zkH,zkC]at h;exact⟨p,rfl,h⟩
 | []=>simp[zkH]at h
 | a::b::l=>simp[zkH]at h
theorem zuu{f:Nat->T->Bool}{ks:List T}(h:zkH 2 f ks=true):∃p q,ks=[p,q]/\f 0 p=true/\f 1 q=true:=by
 match ks with
 | [p,q]=>simp[zkH,zkC]at h;exact⟨p,q,rfl,h⟩
 | []=>simp[zkH]at h
 | [a]=>simp[zkH]at h
 | a::b::c::l=>simp[zkH]at h
theorem zuw{k n:Int}{s:ByteArray}{ks:List T}(h:isS (.nd k n s ks)=true)(hb:basB k=true) :
  ((k=40\/k=41\/k=42)/\∃p q,ks=[p,q]/\isP p=true/\isE q=true)\/(k=43/\∃p q,ks=[p,q]/\isP p=true/\isP q=true)\/((44<=k/\k<=49)/\∃p,ks=[p]/\isP p=true):=by
 have hr:=of_decide_eq_true hb;rw[isS]at h;by_cases h1:k=40\/k=41\/k=42\/k=56
 ·rw[if_pos h1,Bool.and_eq_true]at h;obtain⟨p,q,e,a,b⟩:=zuu h.2;exact .inl ⟨by omega,p,q,e,by simpa using a,by simpa using b⟩
 ·rw[if_neg h1]at h;by_cases h2:k=43
  ·rw[if_pos h2,Bool.and_eq_true]at h;obtain⟨p,q,e,a,b⟩:=zuu h.2;exact .inr (.inl ⟨h2,p,q,e,a,b⟩)
  ·rw[if_neg h2]at h;by_cases h3:k=44\/k=45
   ·rw[if_pos h3,Bool.and_eq_true]at h;obtain⟨p,e,a⟩:=zxV h.2;exact .inr (.inr ⟨by omega,p,e,a⟩)
   ·rw[if_neg h3,if_pos (by omega),Bool.and_eq_true]at h;obtain⟨p,e,a⟩:=zxV h.2;exact .inr (.inr ⟨by omega,p,e,a⟩)
def DoP(n0:Nat)(P:Ph)(S:ST)(W:World)(R:Int×ST)(e:Ending)(W':World):Prop:=e=.returned (.int .i64 R.1)/\∃P',SStp n0 P S W P' R.2 W'/\P'.sb=P.sb
theorem zrq{W:World}{n0:Nat}{P:Ph}{S:ST}(h:SR W n0 P S)(t:T)(v:Value)(hv:NV W Any t v)(hs:isS t=true)(hb:basB t.k=true)(hf:fltE S.cur.vs t=0) :
  Calls prog 172 #[.pointer (some ⟨P.sb,0,none⟩),v] W (DoP n0 P S W (zoO S t)):=by
 obtain⟨k,n,s,ks⟩:=t;obtain⟨fo,fk⟩:=zpP hf;rcases zuw hs hb with⟨hk,p,q,rfl,hp,hq⟩|⟨rfl,p,q,rfl,hp,hq⟩|⟨hk,p,rfl,hp⟩
 ·obtain⟨id,kp,h1,h2,h3⟩:=zol h.wf hp (zmM fk p (by simp));have:=zw0 h k n s p q v hv hk id h1 kp h2;have e:zoO S (.nd k n s [p,q])=zlg S k s p q (indE S.look p) (zk9 S.look q):=by
   show zlg S k s p q (indE S.look p) (zlM S k q)=_
   rw[zlM,if_neg (by omega),if_pos hk]
  unfold DoP;rw[e];exact this
 ·obtain⟨id,kp,h1,h2,h3⟩:=zol h.wf hp (zmM fk p (by simp));obtain⟨jd,kq,h4,h5,h6⟩:=zol h.wf hq (zmM fk q (by simp));have:=zuO h 43 n s p q v hv rfl id h1 kp h2 jd h4 kq h5;have e:zoO S (.nd 43 n s [p,q])=zlg S 43 s p q (indE S.look p) (indE S.look q):=by
   show zlg S 43 s p q (indE S.look p) (zlM S 43 q)=_
   rw[zlM,if_pos rfl]
  unfold DoP;rw[e];exact this
 ·obtain⟨id,kp,h1,h2,h3⟩:=zol h.wf hp (zmM fk p (by simp));have hst:k=44\/k=45->∃aj,S.num s=some aj/\CurK S aj 3:=fun h45=>by
   have hn:zoN k=3:=by rcases h45 with rfl|rfl<;>rfl
   obtain⟨u,h4,h5⟩:=znY fo (by rw[hn];decide);obtain⟨aj,h6,h7⟩:=zr9 h.wf h4;exact⟨aj,h6,by rw[h5,hn]at h7;exact h7⟩
  have:=zw1 h k n s p v hv hk id h1 kp h2 h3 hst;have e:zoO S (.nd k n s [p])=zlg S k s p nil0 (indE S.look p) (0,0):=by
   show zlg S k s p nil0 (indE S.look p) (zlM S k nil0)=_
   rw[zlM,if_neg (by omega),if_neg (by omega)]
  unfold DoP;rw[e];exact this
theorem zuG:IsFn prog 170 f170:=⟨func170,by kernel_rfl,by kernel_rfl⟩
theorem zwW:IsFn prog 171 f171:=⟨func171,by kernel_rfl,by kernel_rfl⟩
theorem zyd{W:World}{n0:Nat}{P:Ph}{S:ST}(h:SR W n0 P S)(t:T)(v:Value)(hv:NV W Any t v) :
  Calls prog 123 #[.pointer (some ⟨P.sb,0,none⟩),v] W (DoP n0 P S W (doE S t)):=by
 obtain⟨R,hR⟩:=zX (doE S t);rw[hR];have HRR:=zh hR;have HS:=zh h;have HV:=zh hv;obtain⟨A,c,rfl,-,-,-,-⟩:=hv.open_;obtain⟨b,hb⟩:=zX (isS t);have HIS:=zh (show ∀(v:Value) (w:World),NV w Any t v->Calls prog 121 #[v] w fun e w'=>e=.returned (.bool b)/\Below w.heap.size w w' from fun v w h=>hb▸ztl t v w h);have rM:=zh hb;have rE:=zh (show ∀(v:Value) (W':World),NV W' Any t v->Below W.heap.size W W'->isS t=true->basB t.k=true->fltE S.cur.vs t=0->doE S t=zoO S t->Calls prog 172 #[.pointer (some ⟨P.sb,0,none⟩),v] W' (DoP n0 P S W R)from fun v W' hv' hbl h1 h2 h3 h4=>by
  refine(zrq (h.later hbl) t v hv' h1 h2 h3).mono ?_;rintro e W2 ⟨a1,P',a2,a3⟩;rw[<-h4,hR]at a1 a2;exact⟨a1,P',⟨a2.st.after hbl h.rws,a2.wf⟩,a3⟩)
 obtain⟨kd,hw⟩:=h.curWF;obtain⟨A0,c0,hcv,hc,hrow⟩:=h.curVs;obtain⟨h3,h4,h5⟩:=h.cur3;rw[hcv]at h3;have dm:=zh (fun W' (hb:Below W.heap.size W W')=>zlo (h.later hb));have Ct:=zh (fun(v:Value) W' (hb:Below W.heap.size W W') (hv':NV W' Any t v)=>ztb S.cur.vs A0 c0 (curP P S) hw.lim t v W' hv' (zb hb h3) (hrow.later hb));obtain⟨cp,hcp⟩:=zX (curP P S);rw[hcp]at dm Ct;obtain⟨fe,hfe⟩:=zX (fltE S.cur.vs t);rw[hfe]at Ct rE;have rO:=zh (fun w=>zvh t.k w);obtain⟨bb,hbb⟩:=zX (basB t.k);rw[hbb]at rO rE;have HD:=zh (show R=if b=false then(3,S)else if t.k=56 then(9,S)else if bb=false then(7,S)else if fe≠0 then(fe,S)else zoO S t by rw[<-hR,doE,hb,hbb,hfe]);have uO:=zh (show doE S t=R from hR);obtain⟨k,hk⟩:=zX (t.k);obtain⟨n,hn⟩:=zX (t.n);obtain⟨s,hs⟩:=zX (t.s);obtain⟨m,hm⟩:=zX (t.ks.length);rw[hk,hn,hs,hm]at HV ⊢;rw[hk]at rO HD
 clear h hv hR hb hw hcv hc hrow h3 h4 h5 hcp hfe hbb hk hn hs hm;have hbx:=box4 (heap_alloc_new W (.cells #[.int .u8 k,.int .i64 n,.string s,.slice A m c] 41));have aC:=zh (heap_alloc_new W (.cells #[.int .u8 k,.int .i64 n,.string s,.slice A m c] 41));obtain⟨W0,hW0⟩:=zX (W.alloc (.cells #[.int .u8 k,.int .i64 n,.string s,.slice A m c] 41));have q0:Below W.heap.size W W0:=hW0▸zkb zr _;rw[hW0]at hbx aC;have ik:=zh q0;obtain⟨x0,x1,x2,x3⟩:=hbx;clear q0;go_enter func123,ntmps123;go_wp2_with fail;refine(HIS.out _ _ (HV.out.later ik.out)).mono ?_;rintro e w1 ⟨rfl,ae⟩;have HB1:=zh (zka ik.out ae);have aA:=zh (zkc aC.out ae);obtain⟨y0,y1,y2,y3⟩:=box4 aA.out;clear ae x0 x1 x2 x3
 cases b
 ·have HN:=zh (show R=(3,S) by rw[HD.out,if_pos rfl]);go_wp2_with fail;go_ret;exact⟨by rw[HN.out];rfl,P,by rw[HN.out];exact SStp.refl HS.out HB1.out,rfl⟩
 ·by_cases qP:k=56
  ·have HN:=zh (show R=(9,S) by rw[HD.out,if_neg (by decide),if_pos qP]);subst qP;go_wp2_with fail;go_ret;exact⟨by rw[HN.out];rfl,P,by rw[HN.out];exact SStp.refl HS.out HB1.out,rfl⟩
  ·have k56:(k==56)=false:=by simpa using qP
   go_wp2_with fail;refine(rO.out _).mono ?_;rintro e w2 ⟨rfl,rfl⟩
   cases bb
   ·have HN:=zh (show R=(7,S) by rw[HD.out,if_neg (by decide),if_neg qP,if_pos rfl]);go_wp2_with fail;go_ret;exact⟨by rw[HN.out];rfl,P,by rw[HN.out];exact SStp.refl HS.out HB1.out,rfl⟩
   ·have HD2:=zh (show R=if fe≠0 then(fe,S)else zoO S t by rw[HD.out,if_neg (by decide),if_neg qP,if_neg (by decide)]);clear HD rO;go_upto_region 9 with fail;have hSS:zW (fun w':World=>zN4 w' W.heap.size (.int .u8 k) (.int .i64 n) (.string s) (.slice A m c)) zU w2.drew:=⟨⟨y0,y1,y2,y3⟩,trivial⟩
    refine wp_region_noPanic ?_;refine zG hSS 3 ?_;refine zT 0 hSS ?_;refine zT 2 hSS ?_;have had:Calls prog 170 [.pointer (some ⟨P.sb,0,none⟩)].toArray w2.drew fun e W'=>∃u,e=.returned u/\u=.pointer (some cp)/\W'=w2.drew :=
     (dm.out _ HB1.out.drew).mono fun e W' hh=>⟨_,hh.1,rfl,hh.2⟩
    refine zo 1 fun K hK=>?_;refine zkf (by rfl) (.func 170) [.tmp 22] _ (by rfl) 170 _ zuG (by rfl) _ (by rfl) _ had ?_;rintro v4 w4 ⟨rfl,rfl⟩;refine hK.out _ _ hSS ?_;clear hK K had;(try simp only[zQ]);have had:Calls prog 171 [.pointer (some cp),nv k n s A m c].toArray w2.drew fun e W'=>∃u,e=.returned u/\u=.int .i64 fe/\Below w2.drew.heap.size w2.drew W' :=
     (Ct.out _ _ HB1.out.drew ((HV.out.later HB1.out).later zr.drew)).mono fun e W' hh=>⟨_,hh.1,rfl,hh.2⟩
    refine zp 3 fun K hK=>?_;refine zkf (by rfl) (.func 171) [.tmp 23,.tmp 24] _ (by rfl) 171 _ zwW (by rfl) _ (by rfl) _ had ?_;rintro v5 w5 ⟨rfl,hb5⟩;have aO:=zh (zka HB1.out.drew hb5);have iQ:=zh (zkc (show w2.drew.heap[W.heap.size]?=_ from aA.out) hb5);obtain⟨u0,u1,u2,u3⟩:=box4 iQ.out;refine hK.out _ _ ⟨u0,u1,u2,u3⟩ ?_;clear hK K had hb5 hSS y0 y1 y2 y3;(try simp only[zQ]);refine zp 4 fun K hK=>?_;(try simp only[zA,zB,zC]);go_simp;refine hK.out _ _ ⟨u0,u1,u2,u3⟩ ?_;clear hK K;(try simp only[zQ]);refine zd ?_;refine NoPanic.normal ?_;by_cases hfe:fe=0
    ·subst hfe;have aP:=zh (rE.out (nv k n s A m c) w5 (HV.out.later aO.out) aO.out rM.out (by first|rfl|trivial) (by first|rfl|trivial) (by rw[uO.out,HD2.out];simp));clear HD2 rE;go_wp2_with fail;refine aP.out.mono ?_;rintro e w6 ⟨rfl,hh⟩;have HH:=zh hh;clear hh;go_wp2_with fail;go_ret;exact⟨rfl,HH.out⟩
    ·have HN:=zh (show R=(fe,S) by rw[HD2.out,if_pos hfe]);have e1:(fe==0)=false:=by simpa using hfe
     have e2:(fe != 0)=true:=by simpa using hfe
     clear HD2;go_wp2_with fail;go_ret;exact⟨by rw[HN.out];rfl,P,by rw[HN.out];exact SStp.refl HS.out aO.out,rfl⟩
theorem zxo{W:World}{n0:Nat}{P:Ph}{S:ST}(h:SR W n0 P S)(t:T)(v:Value)(hv:NV W Any t v) :
  Calls prog 184 #[.pointer (some ⟨P.sb,0,none⟩),v] W (DoP n0 P S W (zmf S t)):=by
 obtain⟨k,n,s,ks⟩:=t;obtain⟨A,c,rfl,hf,hlk,hlc,hrow⟩:=hv.open_;simp only[T.k_nd,T.n_nd,T.s_nd,T.ks_nd]at *
 obtain⟨k',hk'⟩:∃k',zs2 k=k':=⟨_,rfl⟩
 have hf':Fld k' n s:=by
  refine⟨?_,hf.2⟩;rw[<-hk'];unfold zs2;have:=hf.1
  split
  ·omega
  ·split
   ·omega
   ·split
    ·omega
    ·split
     ·omega
     ·split
      ·omega
      ·split
       ·omega
       ·split
        ·omega
        ·split
         ·omega
         ·exact this
 obtain⟨R,hR⟩:=zX (zmf S (.nd k n s ks));rw[hR];have HDO:=zh (show ∀W',Below W.heap.size W W'->Calls prog 123 #[.pointer (some ⟨P.sb,0,none⟩),nv k' n s A ks.length c] W' (DoP n0 P S W R)from fun W' hb=>by
  have e:doE S (.nd k' n s ks)=R:=by rw[<-hR,<-hk'];rfl
  have:=zyd (h.later hb) (.nd k' n s ks) (nv k' n s A ks.length c) (NV.shut hf' hlk hlc (hrow.later hb));rw[e]at this;refine this.mono ?_;rintro e W2 ⟨a1,P',a2,a3⟩;exact⟨a1,P',⟨a2.st.after hb h.rws,a2.wf⟩,a3⟩)
 have qC:=zh (fun w=>hk'▸zrn k w);obtain⟨m,hm⟩:=zX (ks.length);rw[hm]at HDO ⊢;clear h hv hR hf hf' hrow hlk hlc hm hk';go_enter func184,ntmps184;go_wp2_with fail;refine(qC.out _).mono ?_;rintro e w1 ⟨rfl,rfl⟩;go_wp2_with fail;refine(HDO.out _ (zkb zr _)).mono ?_;rintro e w6 ⟨rfl,hh⟩;have HH:=zh hh;clear hh;go_wp2_with fail;go_ret;exact⟨rfl,HH.out⟩
def FrK(S S':ST):Prop:=S'.base=S.base/\S'.calls=S.calls/\S'.nc=S.nc
theorem zwA(S:ST)(k:Int)(id i aj:Nat):FrK S (zmr S k id i aj).2:=by
 unfold zmr
 repeat' split
 all_goals exact⟨rfl,rfl,rfl⟩
theorem ztH(S:ST)(k:Int)(id i:Nat):FrK S (zk6 S k id i).2:=by
 unfold zk6
 repeat' split
 all_goals exact⟨rfl,rfl,rfl⟩
theorem zw4(S:ST)(k:Int)(s qs:ByteArray)(r2:Int)(id i:Nat):FrK S (zms S k s qs r2 id i).2:=by
 unfold zms
 repeat' split
 all_goals first|exact zwA _ _ _ _ _|exact ztH _ _ _ _|exact⟨rfl,rfl,rfl⟩
theorem zw5(S:ST)(k:Int)(s ps qs:ByteArray)(r1:Int)(r2:Int×Int):FrK S (zm3 S k s ps qs r1 r2).2:=by
 unfold zm3
 repeat' split
 all_goals first|exact zw4 _ _ _ _ _ _ _|exact⟨rfl,rfl,rfl⟩
theorem zw6(S:ST)(k:Int)(s:ByteArray)(p q:T)(r1 r2:Int×Int):FrK S (zlg S k s p q r1 r2).2:=by
 unfold zlg;by_cases h:r1.2≠0
 ·rw[if_pos h];exact⟨rfl,rfl,rfl⟩
 ·rw[if_neg h];exact zw5 _ _ _ _ _ _ _
theorem zuY(S:ST)(t:T):FrK S (doE S t).2:=by
 unfold doE
 repeat' split
 all_goals first|exact⟨rfl,rfl,rfl⟩|skip
 obtain⟨k,n,s,ks⟩:=t;exact zw6 _ _ _ _ _ _ _
theorem zv3(S:ST)(t:T):FrK S (zmf S t).2:=by
 obtain⟨k,n,s,ks⟩:=t;exact zuY _ _
theorem zss{f:FR}:∀(l:List (VD×ByteArray)) (acc g:FR),entL f acc l=.ok g->g.vs.length=acc.vs.length+l.length
 | [],acc,g,h=>by rw[entL]at h;injection h with h;subst h;simp
 | (v,a)::r,acc,g,h=>by
  rw[entL]at h
  split at h
  ·cases h
  ·split at h
   ·have:=zss r _ _ h;simp at this ⊢;omega
   ·cases h
theorem zky{w:World}{b:Nat}{E:TypeId}{u0 u1 u2:Value}(h:w.heap[b]?=some (.cells #[u0,u1,u2] E (0,0))):w.cell? ⟨b,0,none⟩=some u0/\w.cell? ⟨b,1,none⟩=some u1/\w.cell? ⟨b,2,none⟩=some u2 :=
 ⟨zc h rfl,zc h rfl,zc h rfl⟩
theorem zrX{W:World}{n0:Nat}{E:TypeId}{v:Value}{l:List Int}(h:W.ownsRow n0 E 1 v l.length (zkg l))(hf:∀x∈l,I64 x):∃A c,v=.slice A l.length c/\l.length<=c/\RowI W (fun b=>n0<=b) A l:=by
 obtain⟨A,c,e,hc,hr⟩:=zlF (xs:=l) h hf;exact⟨A,c,e,hc,hr.keep (fun b hb _=>(h.lt b hb).1) (fun _ _ _=>rfl)⟩
theorem OwnS.svR{W:World}{n0:Nat}{s:SS}{v:Value}(h:OwnS W n0 s v)(hl:s.Lim):SV W (fun b=>n0<=b) s v:=by
 obtain⟨vc,vi,vo,fc,rfl,hr,h1,h2,h3⟩:=h;obtain⟨AI,cI,e2,k2,r2⟩:=zrX (hr.row .inp) h2;obtain⟨AO,cO,e3,k3,r3⟩:=zrX (hr.row .out) h3;change vi=_ at e2;change vo=_ at e3;have key:∃A c,vc=.slice A s.cells.length c/\s.cells.length<=c/\zlw W (fun b=>n0<=b) A s.cells:=by
  rcases Nat.eq_zero_or_pos s.cells.length with h0|h0
  ·obtain⟨A,c,e1,hc,_⟩:=zkd (hr.row .all);exact⟨A,c,e1,hc,fun i hi=>by omega⟩
  ·obtain⟨g,c,e1,hc,_,hcell⟩:=zlf (hr.row .all) h0;change vc=_ at e1;have hg:n0<=g:=(hr.lt .all g (by show vc.ownBlock=some g;rw[e1];rfl)).1;refine⟨_,c,e1,hc,fun i hi=>?_⟩;have aV:=hr.row (.el i);simp only[zmU,hi,if_true,List.getD_eq_getElem?_getD,List.getElem?_eq_getElem hi,Option.getD_some]at aV;obtain⟨A',c',e4,k4,r4⟩:=zrX aV (h1 _ (List.getElem_mem hi));have ha:(⟨g,0,none⟩:Addr).add i=⟨g,i,none⟩:=by rw[Addr.add_lit,Nat.zero_add]
   refine⟨⟨g,0,none⟩,A',c',rfl,hg,?_,k4,r4⟩;rw[ha,<-e4,hcell i (by show i<s.cells.length*1;omega)];simp[zmU,hi]
 obtain⟨A,c,e1,k1,r1⟩:=key;exact⟨A,c,AI,cI,AO,cO,by rw[e1,e2,e3],r1,r2,r3,k1,k2,k3,hl⟩
theorem SV.any{W:World}{S:Nat->Prop}{s:SS}{v:Value}(h:SV W S s v):SV W Any s v:=h.keep (fun _ _ _=>trivial) fun _ _ _=>rfl
theorem SR.n0le{W:World}{n0:Nat}{P:Ph}{S:ST}(h:SR W n0 P S):n0<=W.heap.size:=by have:=h.rws.lt .sb _ rfl;omega
theorem SR.own_lt{W:World}{n0:Nat}{P:Ph}{S:ST}(h:SR W n0 P S){b:Nat}(hb:OwnB (rows P S) b):n0<=b/\b<W.heap.size:=by
 obtain⟨q,hq⟩:=hb;exact h.rws.lt q b hq
theorem SStp.frame{w W W':World}{n0:Nat}{P P':Ph}{S S':ST}(hst:SStp n0 P S W P' S' W')(hs:SR W n0 P S)(hb:Below w.heap.size w W)(hn:w.heap.size<=n0):Below w.heap.size w W' :=
 hb.trans (hst.st.chg.below (Nat.le_trans hn hs.n0le) fun _ ho=>Nat.le_trans hn (hs.own_lt ho).1)
theorem SStp.no{W W':World}{n0:Nat}{P P':Ph}{S S':ST}{b:Nat}(hst:SStp n0 P S W P' S' W')(hlt:b<W.heap.size)(hno:¬ OwnB (rows P S) b):¬ OwnB (rows P' S') b:=fun ho=>by
 rcases hst.st.own _ ho with h|h
 ·exact hno h
 ·omega
theorem zlz{P:Program}{ops:Array Oper}{o:Oper}{a:Act}{w:World}{K:Act->World->Prop}{Q:Exit->Act->World->Prop}{F:Prop}(hw:Region.wanted o (yielded ops a.tmps)=true)(x:Operand)(xs:List Operand)(ats:Array TypeId)
  (ho:o.op=.call { callee:=.value x,args:=xs.toArray,argTypes:=ats })(f:FuncId)(fn:Func)(hf:IsFn P f fn)(hv:a.eval x=.func (.func f) #[] #[])(l:List Value)(hargs:xs.map a.eval=l)(R:Value->World->Prop)
  (hc:Calls P f l.toArray w fun e w'=>∃v,e=.returned v/\R v w')(h:∀v w',R v w'->K (a.put o.dst v) w') :
  if Region.wanted o (yielded ops a.tmps)=true then Oper.wp P o a w K Q else F:=by
 rw[if_pos hw];subst hargs;have e:(execOp a.eval o).run P w=.ok (.enter f (xs.map a.eval).toArray) w:=by
  unfold execOp;simp only[ho,resolve,hv,Deferred.ofValue,Sem.run_bind,Sem.run_pure,Result.andThen_ok,invoke,zkQ hf,Array.empty_append,List.map_toArray,Array.append_empty]
 unfold Oper.wp;rw[e,Oper.upon_enter];refine hc.mono ?_;rintro e w' ⟨v,rfl,hR⟩;exact h v w' hR
structure KS(w:World)(n0 sb:Nat)(kb:Nat->Prop)(W:World)(S:ST):Prop where
 bl:Below w.heap.size w W
 hn:w.heap.size<=n0
 sr:∃P,SR W n0 P S/\P.sb=sb/\∀b,kb b->b<W.heap.size/\¬ OwnB (rows P S) b
structure Kpt(n0:Nat)(kb:Nat->Prop)(W W':World):Prop where
 size:W.heap.size<=W'.heap.size
 kept:∀b,b<W.heap.size->(b<n0\/kb b)->W'.heap[b]?=W.heap[b]?
section
variable {w W W' W'':World} {n0 sb:Nat} {kb kb':Nat->Prop} {S S':ST}
theorem Kpt.refl(n0:Nat)(kb:Nat->Prop)(W:World):Kpt n0 kb W W:=⟨zl,fun _ _ _=>rfl⟩
theorem Kpt.trans(h:Kpt n0 kb W W')(h':Kpt n0 kb W' W''):Kpt n0 kb W W'':=⟨Nat.le_trans h.size h'.size,fun b hb hk=>(h'.kept b (Nat.lt_of_lt_of_le hb h.size) hk).trans (h.kept b hb hk)⟩
theorem Kpt.of_below(h:Below W.heap.size W W'):Kpt n0 kb W W':=⟨h.size,fun b hb _=>h.block b hb⟩
theorem Kpt.cell{b o:Nat}{u:Value}(h:Kpt n0 kb W W')(hk:b<n0\/kb b)(hc:W.cell? ⟨b,o,none⟩=some u):W'.cell? ⟨b,o,none⟩=some u :=
 zkN hc (h.kept b (World.block_lt_of_cell? W _ hc) hk)
theorem Kpt.blk{b:Nat}{o:Obj}(h:Kpt n0 kb W W')(hk:b<n0\/kb b)(hc:W.heap[b]?=some o):W'.heap[b]?=some o:=(h.kept b (zko hc) hk).trans hc
theorem KS.wf(h:KS w n0 sb kb W S):S.WF:=by obtain⟨P,hs,_⟩:=h.sr;exact hs.wf
theorem KS.later(h:KS w n0 sb kb W S)(hb:Below W.heap.size W W'):KS w n0 sb kb W' S:=by
 obtain⟨P,hs,e,hk⟩:=h.sr;exact⟨zka h.bl hb,h.hn,P,hs.later hb,e,fun b hb'=>⟨Nat.lt_of_lt_of_le (hk b hb').1 hb.size,(hk b hb').2⟩⟩
theorem KS.also(h:KS w n0 sb kb W S)(hb:Below W.heap.size W W')(hkb:∀b,kb' b->kb b\/(W.heap.size<=b/\b<W'.heap.size)):KS w n0 sb kb' W' S:=by
 obtain⟨P,hs,e,hk⟩:=h.sr;refine⟨zka h.bl hb,h.hn,P,hs.later hb,e,fun b hb'=>?_⟩;rcases hkb b hb' with h1|⟨h1,h2⟩
 ·exact⟨Nat.lt_of_lt_of_le (hk b h1).1 hb.size,(hk b h1).2⟩
 ·exact⟨h2,fun ho=>by have:=(hs.own_lt ho).2;omega⟩
theorem KS.less(h:KS w n0 sb kb W S)(hkb:∀b,kb' b->kb b):KS w n0 sb kb' W S:=h.also zr fun b hb=>.inl (hkb b hb)
theorem KS.new{P:Ph}{vs:List VD}{s:SS}{W0:World}(h0:Below w.heap.size w W0)(hb:Below W0.heap.size W0 W)(hs:SR W W0.heap.size P (newS vs s)):KS w W0.heap.size P.sb (fun _=>False) W (newS vs s) :=
 ⟨zka h0 hb,h0.size,P,hs,rfl,fun _ h=>h.elim⟩
def KP(w:World)(n0 sb:Nat)(kb:Nat->Prop)(W:World)(R:Int×ST)(e:Ending)(W':World):Prop:=e=.returned (.int .i64 R.1)/\KS w n0 sb kb W' R.2/\Kpt n0 kb W W'
theorem KS.stp{P P':Ph}(hbl:Below w.heap.size w W)(hn0:w.heap.size<=n0)(hs:SR W n0 P S)(hk:∀b,kb b->b<W.heap.size/\¬ OwnB (rows P S) b)(hst:SStp n0 P S W P' S' W')(hsb:P'.sb=sb):KS w n0 sb kb W' S'/\Kpt n0 kb W W':=by
 refine⟨⟨hst.frame hs hbl hn0,hn0,P',hst.sr,hsb,fun b hb=>⟨Nat.lt_of_lt_of_le (hk b hb).1 hst.st.chg.size,hst.no (hk b hb).1 (hk b hb).2⟩⟩,hst.st.chg.size,fun b hlt hb=>hst.st.chg.block b hlt fun ho=>?_⟩;rcases hb with hb|hb
 ·have:=(hs.own_lt ho).1;omega
 ·exact(hk b hb).2 ho
theorem KS.dop(h:KS w n0 sb kb W S){f:FuncId}{args:Array Value}{R:Int×ST}(hc:∀P,SR W n0 P S->P.sb=sb->Calls prog f args W (DoP n0 P S W R)):Calls prog f args W (KP w n0 sb kb W R):=by
 obtain⟨P,hs,e,hk⟩:=h.sr;refine(hc P hs e).mono ?_;rintro e' W2 ⟨a1,P',a2,a3⟩;exact⟨a1,KS.stp h.bl h.hn hs hk a2 (a3.trans e)⟩
theorem KS.do_(h:KS w n0 sb kb W S)(t:T)(v:Value)(hv:NV W Any t v):Calls prog 123 #[.pointer (some ⟨sb,0,none⟩),v] W (KP w n0 sb kb W (doE S t)) :=
 h.dop fun _ hs e=>e▸zyd hs t v hv
theorem KS.undo(h:KS w n0 sb kb W S)(t:T)(v:Value)(hv:NV W Any t v):Calls prog 184 #[.pointer (some ⟨sb,0,none⟩),v] W (KP w n0 sb kb W (zmf S t)) :=
 h.dop fun _ hs e=>e▸zxo hs t v hv
theorem KS.open_(h:KS w n0 sb kb W S)(v:VD)(hfv:FldV v)(x:Int)(hx:I64 x)(hlim:S.cur.vs.length+1<=4398046511000):Calls prog 181 #[.pointer (some ⟨sb,0,none⟩),.agg #[.string v.s,.int .u8 v.k,.int .i64 v.n],.int .i64 x] W (KP w n0 sb kb W (zk4 S v x)) :=
 h.dop fun _ hs e=>e▸zxx hs v hfv x hx hlim
theorem KS.close(h:KS w n0 sb kb W S)(s:ByteArray)(x:Int):Calls prog 182 #[.pointer (some ⟨sb,0,none⟩),.string s,.int .i64 x] W (KP w n0 sb kb W (zkG S s x)) :=
 h.dop fun _ hs e=>e▸zvO hs s x
theorem KS.enter(h:KS w n0 sb kb W S)(ps:List VD)(ss:List ByteArray)(A D:Option Addr)(c d:Nat)(hp:RowV W Any A ps)(hs:RowS W D ss)(hlp:ps.length<=4398046511000)(hls:ss.length<=17592186044416):Calls prog 203 #[.pointer (some ⟨sb,0,none⟩),.slice A ps.length c,.slice D ss.length d] W (KP w n0 sb kb W (zk1 S ps ss)) :=
 h.dop fun _ hs' e=>e▸zvN hs' ps ss A D c d hp hs hlp hls
theorem KS.leave(h:KS w n0 sb kb W S):Calls prog 204 #[.pointer (some ⟨sb,0,none⟩)] W (KP w n0 sb kb W (zk2 S)) :=
 h.dop fun _ hs e=>e▸zvv hs
theorem KS.cell(h:KS w n0 sb kb W S)(s:ByteArray):Calls prog 166 #[.pointer (some ⟨sb,0,none⟩),.string s] W (zKC W S s):=by
 obtain⟨P,hs,rfl,-⟩:=h.sr;exact zvt hs s
theorem KS.state(h:KS w n0 sb kb W S):Calls prog 102 #[.pointer (some ⟨sb,0,none⟩)] W fun e W'=>∃v,e=.returned v/\OwnS W' W.heap.size S.state v/\Below W.heap.size W W':=by
 obtain⟨P,hs,rfl,-⟩:=h.sr;exact zvr hs
end
theorem KS.chg{w W W':World}{n0 sb:Nat}{kb C:Nat->Prop}{S:ST}(h:KS w n0 sb kb W S)(hc:Chg C W W')(hC:∀b,b<W.heap.size->C b->w.heap.size<=b/\(b<n0\/kb b)):KS w n0 sb kb W' S:=by
 obtain⟨P,hs,e,hk⟩:=h.sr;have hno:∀b,OwnB (rows P S) b->¬ C b:=fun b ho hcb=>by
  obtain⟨-,h2⟩:=hC b (hs.own_lt ho).2 hcb;rcases h2 with h2|h2
  ·have:=(hs.own_lt ho).1;omega
  ·exact(hk b h2).2 ho
 refine⟨?_,h.hn,P,⟨hs.rws.chg hc fun i b hb=>hno b ⟨i,hb⟩,hs.wf⟩,e,fun b hb=>⟨Nat.lt_of_lt_of_le (hk b hb).1 hc.size,(hk b hb).2⟩⟩;exact⟨hc.os.trans h.bl.os,hc.tape.trans h.bl.tape,hc.output.trans h.bl.output,Nat.le_trans h.bl.size hc.size,fun b hb=>by
  rw[hc.block b (Nat.lt_of_lt_of_le hb h.bl.size) fun hcb=>by have:=(hC b (Nat.lt_of_lt_of_le hb h.bl.size) hcb).1;omega];exact h.bl.block b hb⟩
theorem zKs(A:Option Addr)(l c:Nat)(w:World):(Instr.buildSlice 29 1 #[(0,.slice A l c)]).run prog w=.ok (.slice (some ⟨w.heap.size,0,none⟩) 1 1) (w.alloc (.cells #[.slice A l c] 30)):=by kernel_rfl
theorem bS12(B C:Option Addr)(m d n e:Nat)(w:World):(Instr.build 32 #[(1,.slice B m d),(2,.slice C n e)]).run prog w=.ok (.agg #[.slice none 0 0,.slice B m d,.slice C n e]) w:=by kernel_rfl
section
variable {P:Program} {ops:Array Oper} {Q:Exit->Act->World->Prop} {md:Region.Mode} {S1 S2:World->Prop} {k:Nat}
theorem zp8(I:Nat->Array Bool->Act->World->Prop)(hS:∀f l a w,I f l a w->S1 w/\S2 w)
  (h:∀f l a w,I f l a w->wpG P md ops Q S1 S2 k f l a w\/∃f',f=f'+1/\Region.ready md ops l≠[]/\∀i∈Region.ready md ops l,wpOp P ops Q i (fun a' w'=>I f' (l.setIfInBounds i true) a' w') a w) :
  ∀f l a w,I f l a w->wpG P md ops Q S1 S2 k f l a w
 | 0,l,a,w,hi=>by
  rcases h 0 l a w hi with h1|⟨f',h1,_⟩
  ·exact h1
  ·omega
 | f+1,l,a,w,hi=>by
  rcases h (f+1) l a w hi with h1|⟨f',h1,h2,h3⟩
  ·exact h1
  ·obtain rfl:f=f':=by omega
   exact⟨fun h0=>absurd h0 h2,fun i hm=>wpOp_mono (fun a' w' h'=>⟨⟨(hS _ _ _ _ h').1,fun _=>(hS _ _ _ _ h').2⟩,zp8 I hS h f _ a' w' h'⟩) (h3 i hm)⟩
theorem zrH{a0:Act}{f0:Nat}{l0:Array Bool}{w0:World}(I:Act->Nat->Array Bool->Act->World->Prop)(hS:∀A f l a w,I A f l a w->S1 w/\S2 w)
  (h:∀A,A=a0->∀f l a w,I A f l a w->wpG P md ops Q S1 S2 k f l a w\/∃f',f=f'+1/\Region.ready md ops l≠[]/\∀i∈Region.ready md ops l,wpOp P ops Q i (fun a' w'=>I A f' (l.setIfInBounds i true) a' w') a w)
  (h0:I a0 f0 l0 a0 w0):wpG P md ops Q S1 S2 k f0 l0 a0 w0:=zp8 (I a0) (hS a0) (h a0 rfl) _ _ _ _ h0
end
def zoL(l0 l3 l4 l7 l9:Bool)(v5 v8 v9 v12:Value)(b3:Nat)(s:SS):Option SI->RowD
 | none=>if l9=true then⟨boxV b3,32,3,1,[.slice none 0 0,.slice none 0 0,.slice none 0 0]⟩else nilR
 | some .inp=>if l3=true then⟨v8,3,1,s.tin.length,zkg s.tin⟩else if l0=true then⟨v5,3,1,0,[]⟩else nilR
 | some .out=>if l7=true then⟨v12,3,1,s.tout.length,zkg s.tout⟩else if l4=true then⟨v9,3,1,0,[]⟩else nilR
 | some _=>nilR
def zlZ(vc vi vo:Value)(fc:Nat->Value)(b3:Nat)(s:SS)(j:Nat):Option SI->RowD
 | none=>⟨boxV b3,32,3,1,[vc,vi,vo]⟩
 | some .all=>⟨vc,30,1,j,(List.range j).map fc⟩
 | some (.el i)=>if i<j then⟨fc i,3,1,(s.cells.getD i []).length,zkg (s.cells.getD i [])⟩else nilR
 | some .inp=>⟨vi,3,1,s.tin.length,zkg s.tin⟩
 | some .out=>⟨vo,3,1,s.tout.length,zkg s.tout⟩
theorem zyI(w:World)(n0:Nat)(v5 v8 v9 v12:Value)(b3:Nat)(s:SS):Rws w n0 (zoL false false false false false v5 v8 v9 v12 b3 s):=by
 have e:∀i,zoL false false false false false v5 v8 v9 v12 b3 s i=nilR:=by
  intro i;rcases i with _|i
  ·rfl
  ·cases i<;>rfl
 refine⟨fun i=>by rw[e];exact zl3 w n0,fun i j b _ hi _=>?_⟩;rw[e]at hi;simp[nilR,Value.ownBlock]at hi
theorem zwp(w:World)(n0:Nat)(h:n0<=w.heap.size)(a b c:Value)(E:TypeId):(w.alloc (.cells #[a,b,c] E)).ownsRow n0 E 3 (boxV w.heap.size) 1 [a,b,c] :=
 ⟨rfl,.inr ⟨w.heap.size,1,#[a,b,c],rfl,h,heap_alloc_new w _,zl,by unfold maxLen;omega,rfl,rfl⟩⟩
theorem zsS(vc iX vi vo:Value)(fc:Nat->Value)(b3:Nat)(s:SS)(j:Nat)(l:List Int)(v8 r5:Value)(hl:s.cells.getD j []=l) :
  updR (updR (updR (updR (zlZ vc vi vo fc b3 s j) (some (.el j)) ⟨r5,3,1,0,[]⟩) (some (.el j)) ⟨v8,3,1,l.length,zkg l⟩) (some .all) ⟨iX,30,1,j+1,(List.range j).map fc++[v8]⟩) none ⟨boxV b3,32,3,1,[iX,vi,vo]⟩=zlZ iX vi vo (fun i=>if i=j then v8 else fc i) b3 s (j+1):=by
 funext i;rcases i with _|i
 ·rfl
 ·cases i with
  | all =>
   simp only[updR,zlZ,reduceCtorEq,if_false,if_true,RowD.mk.injEq,true_and];rw[List.range_succ,List.map_append];congr 1
   ·refine List.map_congr_left fun i hi=>?_;have:i≠j:=by have:=List.mem_range.1 hi;omega
    simp[this]
   ·simp
  | inp=>rfl
  | out=>rfl
  | el i =>
   by_cases e:i=j
   ·subst e;simp[updR,zlZ,<-hl]
   ·have e2:(i<j+1)↔(i<j):=by omega
    simp[updR,zlZ,e,e2]
theorem zql{W:World}{n0:Nat}{vc vi vo:Value}{fc:Nat->Value}{b3:Nat}{s:SS}(h:Rws W n0 (zlZ vc vi vo fc b3 s s.cells.length)):Rws W n0 (zmU vc vi vo fc s):=by
 have e:∀i,zmU vc vi vo fc s i=zlZ vc vi vo fc b3 s s.cells.length (some i):=fun i=>by cases i<;>rfl
 refine⟨fun i=>by rw[e];exact h.row (some i),fun i j b hij hi hj=>?_⟩;rw[e]at hi hj;exact h.sep (some i) (some j) b (fun e'=>hij (by injection e')) hi hj
theorem zt7{w:World}{n0 b:Nat}{x y z:Value}{E:TypeId}(hn:n0<=b)(h:w.heap[b]?=some (.cells #[x,y,z] E (0,0))):w.ownsRow n0 E 3 (boxV b) 1 [x,y,z] :=
 ⟨rfl,.inr ⟨b,1,#[x,y,z],rfl,hn,h,zl,by unfold maxLen;omega,rfl,rfl⟩⟩
theorem zrg(w:World)(n0:Nat)(E:TypeId):w.ownsRow n0 E 1 (.slice none 0 0) 0 []:=⟨rfl,.inl ⟨rfl,rfl⟩⟩
theorem k_2(l5 l9:Bool)(v5 v8 v8' v9 v12:Value)(b3:Nat)(s:SS):updR (zoL false false false l5 l9 v5 v8' v9 v12 b3 s) (some .inp) ⟨v8,3,1,s.tin.length,zkg s.tin⟩=zoL false true false l5 l9 v5 v8 v9 v12 b3 s:=by
 funext i;rcases i with _|i
 ·rfl
 ·cases i<;>rfl
theorem k_5(l2 l9:Bool)(v5 v8 v9 v12 v12':Value)(b3:Nat)(s:SS):updR (zoL false l2 false false l9 v5 v8 v9 v12' b3 s) (some .out) ⟨v12,3,1,s.tout.length,zkg s.tout⟩=zoL false l2 false true l9 v5 v8 v9 v12 b3 s:=by
 funext i;rcases i with _|i
 ·rfl
 ·cases i<;>rfl
theorem k_7(l2 l5:Bool)(v5 v8 v9 v12:Value)(b3 b3':Nat)(s:SS):updR (zoL false l2 false l5 false v5 v8 v9 v12 b3' s) none ⟨boxV b3,32,3,1,[.slice none 0 0,.slice none 0 0,.slice none 0 0]⟩=zoL false l2 false l5 true v5 v8 v9 v12 b3 s:=by
 funext i;rcases i with _|i
 ·rfl
 ·cases i<;>rfl
theorem zKX(vi vo v5 v9:Value)(fc:Nat->Value)(b3:Nat)(s:SS):updR (updR (zoL false true false true true v5 vi v9 vo b3 s) none ⟨boxV b3,32,3,1,[.slice none 0 0,vi,vo]⟩) (some .all) ⟨.slice none 0 0,30,1,0,[]⟩=zlZ (.slice none 0 0) vi vo fc b3 s 0:=by
 funext i;rcases i with _|i
 ·rfl
 ·cases i<;>rfl
theorem zxW(vc iX vi vo:Value)(fc:Nat->Value)(b3:Nat)(s:SS)(j:Nat)(l:List Int)(v8:Value)(hl:s.cells.getD j []=l) :
  updR (updR (updR (zlZ vc vi vo fc b3 s j) (some (.el j)) ⟨v8,3,1,l.length,zkg l⟩) (some .all) ⟨iX,30,1,j+1,(List.range j).map fc++[v8]⟩) none ⟨boxV b3,32,3,1,[iX,vi,vo]⟩=zlZ iX vi vo (fun i=>if i=j then v8 else fc i) b3 s (j+1):=by
 rw[<-zsS vc iX vi vo fc b3 s j l v8 v8 hl];congr 2;funext i;by_cases e:i=some (.el j)
 ·subst e;simp[updR]
 ·simp[updR,e]
theorem zp6(s:SS)(v:Value)(w:World)(hv:SV w Any s v)(hcl:s.cells.length<=5864062014800):Calls prog 47 #[v] w fun e W'=>∃v',e=.returned v'/\OwnS W' w.heap.size s v'/\Below w.heap.size w W':=by
 have h1:=bS12;have HV:=zh hv;obtain⟨A,c,B,d,D,e,rfl,hr1,hr2,hr3,hc1,hc2,hc3,hl1,hl2,hl3,hl4⟩:=hv;have hk:=heap_alloc_new w (.cells #[.slice A s.cells.length c,.slice B s.tin.length d,.slice D s.tout.length e] 32);have hbw:Below w.heap.size w ((w.alloc (.cells #[.slice A s.cells.length c,.slice B s.tin.length d,.slice D s.tout.length e] 32)).alloc (.cells #[.slice none 0 0,.slice none 0 0,.slice none 0 0] 32)):=zkb (zkb zr _) _;have hk2:=zke hk (.cells #[.slice none 0 0,.slice none 0 0,.slice none 0 0] 32);have hz1:((w.alloc (.cells #[.slice A s.cells.length c,.slice B s.tin.length d,.slice D s.tout.length e] 32)).alloc (.cells #[.slice none 0 0,.slice none 0 0,.slice none 0 0] 32)).heap.size=w.heap.size+1+1:=by simp
 have hk3:=heap_alloc_new (w.alloc (.cells #[.slice A s.cells.length c,.slice B s.tin.length d,.slice D s.tout.length e] 32)) (.cells #[.slice none 0 0,.slice none 0 0,.slice none 0 0] 32);rw[World.size_alloc]at hk3;have HI:=zh (show s.I from⟨fun l hl=>by
  obtain⟨i,hi,rfl⟩:=List.mem_iff_getElem.1 hl;obtain⟨_,_,_,_,_,_,_,hr⟩:=hr1 i hi;exact hr.fits,hr2.fits,hr3.fits⟩)
 go_enter func47,ntmps47;go_upto_region 1 with fail;obtain⟨w1,hw1⟩:=zX ((w.alloc (.cells #[.slice A s.cells.length c,.slice B s.tin.length d,.slice D s.tout.length e] 32)).alloc (.cells #[.slice none 0 0,.slice none 0 0,.slice none 0 0] 32));rw[hw1]at hbw hk2 hk3 hz1 ⊢;have HB1:=zh hbw;have aA:=zh hk2;have gT:=zh hk3;have HR1:=zh (hr1.later hbw);have HR2:=zh (hr2.later hbw);have HR3:=zh (hr3.later hbw);have HL:=zh (show s.Lim from⟨hl1,hl2,hl3,hl4⟩);clear hk hbw hk2 hk3 hw1 hr1 hr2 hr3 hl1 hl2 hl3 hl4 HV;obtain⟨z0,z1,z2⟩:=zky aA.out;have hSS:zW (fun w':World=>zv w' w.heap.size 1 (.slice B s.tin.length d)/\zv w' w.heap.size 2 (.slice D s.tout.length e)) zU w1.drew:=⟨⟨z1,z2⟩,trivial⟩
 refine wp_region_noPanic ?_;refine zG hSS 8 ?_;refine zT 0 hSS ?_;refine zT 1 hSS ?_;refine zT 3 hSS ?_;refine zT 4 hSS ?_;refine zrH (fun A f l a wr=>∃(l2 l5 l6 l7:Bool) (v8 v12 v13 v3:Value) (b3:Nat),f=(!l2).toNat+(!l5).toNat+(!l6).toNat+(!l7).toNat+1/\l = #[true,true,l2,true,true,l5,l6,l7,false] /\
  a=(((A.put (some 8) v8).put (some 11) v12).put (some 12) v13).put (some 3) v3/\Hid (Below w1.heap.size w1 wr)/\Hid (Rws wr w1.heap.size (zoL false l2 false l5 l7 undef v8 undef v12 b3 s))/\Hid ((l5=true->l2=true)/\(l6=true->v13=.agg #[.slice none 0 0,v8,v12]/\l2=true/\l5=true)/\(l7=true->v3=.pointer (some ⟨b3,0,none⟩)))/\Hid (l7=false->v3=undef)) (fun A f l a wr h=>?_) ?_ ⟨false,false,false,false,undef,undef,undef,undef,0,rfl,rfl,(by simp only[Act.put,zD,zE,zF]),zh zr.drew,zh (zyI _ _ _ _ _ _ _ _),zh ⟨fun h=>(by cases h),fun h=>(by cases h),fun h=>(by cases h)⟩,zh (fun _=>rfl)⟩
 ·obtain⟨_,_,_,_,_,_,_,_,_,_,_,_,hb,_⟩:=h;exact⟨⟨zb hb.out z1,zb hb.out z2⟩,trivial⟩
 rintro A' hA f l a wr ⟨l2,l5,l6,l7,v8,v12,v13,v3,b3,hf,rfl,ha,ag,HRW,HC,HU⟩;by_cases hall:(l2&&l5&&l6&&l7)=true
 ·left
  simp only[Bool.and_eq_true]at hall;obtain⟨⟨⟨rfl,rfl⟩,rfl⟩,rfl⟩:=hall;obtain⟨-,lL,h3⟩:=HC.out;obtain⟨rfl,-,-⟩:=lL rfl;obtain rfl:=h3 rfl;subst hf ha hA;have hrow:=HRW.out.row none;obtain⟨B8,c8,e8,-,-⟩:=zkd (HRW.out.row (some .inp));change v8=.slice B8 s.tin.length c8 at e8;obtain⟨lg,c12,e12,-,-⟩:=zkd (HRW.out.row (some .out));change v12=.slice lg s.tout.length c12 at e12;subst e8 e12;have hbx:=zlW hrow;have c0:wr.cell? ⟨b3,0,none⟩=some (.slice none 0 0):=zc hbx rfl;have c1:wr.cell? ⟨b3,1,none⟩=some (.slice none 0 0):=zc hbx rfl;have c2:wr.cell? ⟨b3,2,none⟩=some (.slice none 0 0):=zc hbx rfl;have cf:∀j,wr.frozen? ⟨b3,j,none⟩=false:=fun j=>zf hbx;refine zp 8 fun K hK=>?_;(try simp only[zQ]);go_simp;have hb3:w1.heap.size<=b3/\b3<wr.heap.size:=hrow.lt b3 rfl
  have hch:Chg (fun b=>b=b3) wr (((wr.setCell ⟨b3,0,none⟩ (.slice none 0 0)).setCell ⟨b3,1,none⟩ (.slice B8 s.tin.length c8)).setCell ⟨b3,2,none⟩ (.slice lg s.tout.length c12)) :=
   (((Chg.refl (fun b=>b=b3) wr).setCell (p:=⟨b3,0,none⟩) (.inl rfl) _).setCell (p:=⟨b3,1,none⟩) (.inl rfl) _).setCell (p:=⟨b3,2,none⟩) (.inl rfl) _
  have hh:=heap_setCell_same _ b3 2 _ _ (.slice lg s.tout.length c12) (heap_setCell_same _ b3 1 _ _ (.slice B8 s.tin.length c8) (heap_setCell_same wr b3 0 _ _ (.slice none 0 0) hbx));have aX:=zh (ag.out.trans (hch.below ag.out.size fun b e=>by omega));have hrw:=(HRW.out.upd none (r:=⟨boxV b3,32,3,1,[.slice none 0 0,.slice B8 s.tin.length c8,.slice lg s.tout.length c12]⟩) (hch.mono fun b _ e=>by subst e;rfl) (zt7 hb3.1 hh) (fun b hb=>.inl hb)).upd (some .all) (r:=⟨.slice none 0 0,30,1,0,[]⟩) (Chg.refl _ _) (zrg _ _ _) (fun b hb=>by simp[Value.ownBlock]at hb);rw[zKX (fc:=fun _=>.slice none 0 0)]at hrw;have qZ:=zh hrw;obtain⟨w2,hw2⟩:=zX (((wr.setCell ⟨b3,0,none⟩ (.slice none 0 0)).setCell ⟨b3,1,none⟩ (.slice B8 s.tin.length c8)).setCell ⟨b3,2,none⟩ (.slice lg s.tout.length c12));rw[hw2]at aX qZ ⊢
  have aM:(fun w':World=>zv w' w.heap.size 1 (.slice B s.tin.length d)/\zv w' w.heap.size 2 (.slice D s.tout.length e)) w2:=⟨zb aX.out z1,zb aX.out z2⟩
  refine hK.out _ _ aM ?_;clear hK K hSS aM hch hh hrw hw2 hbx c0 c1 c2 cf hrow HRW ag HU HC lL h3 h1;refine zd ?_;refine NoPanic.normal ?_;obtain⟨vi,rX⟩:=zX (Value.slice B8 s.tin.length c8);obtain⟨vo,zZ⟩:=zX (Value.slice lg s.tout.length c12);rw[rX,zZ]at qZ;have xB:=zh rX;have HVO:=zh zZ;clear rX zZ;have q0:=zb aX.out z0;go_wp2_with fail;clear q0
  go_loopw [16] (fun i wr=>∃j:Nat,j<=s.cells.length/\i=.int .i64 j/\Hid (Below w1.heap.size w1 wr)/\∃vc fc,Hid (Rws wr w1.heap.size (zlZ vc vi vo fc b3 s j))) (fun i _=>s.cells.length-(intOf i).toNat)
  case atStart=>exact⟨0,Nat.zero_le _,rfl,aX,_,_,qZ⟩
  case round =>
   clear aX qZ;obtain⟨j,hj,rfl,ag,vc,fc,HRW⟩:=hrel;have y0:=zb ag.out z0;by_cases hlt:j<s.cells.length
   ·have hj1:(j:Int)<(s.cells.length:Int):=by omega
    have hj0:(0:Int)<=(j:Int):=by omega
    obtain⟨a,l,Al,cl,rfl,Hl,hcl0,hlc,hrl⟩:=(HR1.out.later ag.out).nd hlt;have gZ:=zh hrl;have bH:=zh (show l.length<=LI by rw[<-Hl.out];exact HL.out.2.1 _ (List.getElem_mem hlt));have hbx:=zlW (HRW.out.row none);have x0:wr.cell? ⟨b3,0,none⟩=some vc:=zc hbx rfl;have hz0:wr.frozen? ⟨b3,0,none⟩=false:=zf hbx;obtain⟨Av,cv,dn,-⟩:=zkd (HRW.out.row (some .all));change vc=.slice Av j cv at dn;subst dn;have hS0:zU wr.drew/\(fun w':World=>zv w' b3 0 (.slice Av j cv)) wr.drew:=⟨trivial,x0⟩
    obtain⟨i0,hi0,hq0,hq1,hq2⟩:=info_parts znb;have eP:=zh (zkS l Al cl Any wr.drew (gZ.out.later zr.drew) bH.out);go_upto_region 5 with fail;refine wp_region_noPanic ?_;refine zkl zU (fun w':World=>zv w' b3 0 (.slice Av j cv)) 7 (by kernel_rfl) ?_;refine zT 0 hS0 ?_;refine zJ 1 hS0 ?_;refine zT 2 hS0 ?_;have hsz:=ag.out.size;have had:Calls prog 70 [.slice Al l.length cl].toArray wr.drew fun e w'=>∃v,e=.returned v/\(w'.ownsRow wr.heap.size 3 1 v l.length (zkg l)/\Below wr.heap.size wr w') :=
     eP.out.mono fun e w' ⟨v,h1,h2,_,h4⟩=>⟨v,h1,h2,zka (zs wr).drew h4⟩
    refine zo 3 fun K hK=>?_;refine zkf (by rfl) (.func 70) [.tmp 22] _ (by rfl) 70 _ znj (by rfl) _ (by rfl) _ had ?_;rintro v8 wb ⟨ho,hbb⟩;have hd1:=HRW.out.upd (some (.el j)) (r:=⟨v8,3,1,l.length,zkg l⟩) (Chg.of_below hbb) (zlv ho hsz) (fun b hb=>.inr (ho.lt b hb).1);have HD1:=zh hd1;have dC:=zh hbb;have hS2:zU wb/\(fun w':World=>zv w' b3 0 (.slice Av j cv)) wb:=⟨trivial,zb dC.out x0⟩
    obtain⟨A8,mM,rfl,-⟩:=zkd ho;refine hK.out _ _ hS2 ?_;clear hK K hd1 ho hS0 hbb had;(try simp only[zQ]);have h1:=zKs;refine zo 4 fun K hK=>?_;(try simp only[zA,zB,zC]);go_simp;have j3:=zh (show Below wr.heap.size wr (wb.alloc (.cells #[.slice A8 l.length mM] 30))from zkb dC.out _);have HD2:=zh (HD1.out.later (show Below wb.heap.size wb (wb.alloc (.cells #[.slice A8 l.length mM] 30))from zkb zr _));have aK:=zh (show(wb.alloc (.cells #[.slice A8 l.length mM] 30)).heap[wb.heap.size]?=some (.cells #[.slice A8 l.length mM] 30 (0,0))from heap_alloc_new wb _);have vD:zU (wb.alloc (.cells #[.slice A8 l.length mM] 30))/\(fun w':World=>zv w' b3 0 (.slice Av j cv)) (wb.alloc (.cells #[.slice A8 l.length mM] 30)):=⟨trivial,zb j3.out x0⟩
    obtain⟨wc,hwc⟩:=zX ((wb.alloc (.cells #[.slice A8 l.length mM] 30)));rw[hwc]at j3 HD2 aK vD ⊢;refine hK.out _ _ vD ?_;clear hK K hwc hS2 HD1;(try simp only[zQ]);have oQ:=(zka ag.out j3.out).size;have hrow:=HD2.out.row (some .all);rw[zkk (by simp)]at hrow;change wc.ownsRow w1.heap.size 30 1 (.slice Av j cv) j ((List.range j).map fc)at hrow;refine zo 5 fun K hK=>?_;refine zkT (by rfl) (.tmp 21) (.tmp 24) 29 (by rfl) w1.heap.size 30 i0 _ 1 24 underlying29 hi0 hq0 hq1 hq2 rfl (by decide) (.slice Av j cv) j ((List.range j).map fc) (by rfl) hrow ⟨wb.heap.size,0,none⟩ 1 1 [.slice A8 l.length mM] (by rfl) rfl (fun q u hq=>by
     match q,hq with
     | 0,hq=>injection hq with hq;subst hq;exact zc aK.out rfl) (fun u hu=>by simp at hu;subst hu;rfl) (by unfold maxLen;omega) (by omega) oQ (fun vd wd ho hg ak=>?_)
    have hd3:=HD2.out.upd (some .all) (r:=⟨vd,30,1,j+1,(List.range j).map fc++[.slice A8 l.length mM]⟩) ((Chg.row hg).mono fun b _ hb=>hb) ho (fun b hb=>by
     rcases ak with h5|h5
     ·exact .inl (h5▸hb)
     ·exact .inr (by rw[h5]at hb;injection hb with hb;omega))
    have HD3:=zh hd3;have hav:∀g,(Value.slice Av j cv).ownBlock=some g->(zlZ (.slice Av j cv) vi vo fc b3 s j (some .all)).v.ownBlock=some g:=fun g e=>e;have hsep:∀g,(Value.slice Av j cv).ownBlock=some g->g≠b3:=fun g e h=>HRW.out.sep (some .all) none g (by simp) e (by rw[h];rfl);have hlo:∀g,(Value.slice Av j cv).ownBlock=some g->w1.heap.size<=g:=fun g e=>(HRW.out.lt (some .all) g e).1;have gJ:Chg (fun b=>(Value.slice Av j cv).ownBlock=some b) wc wd:=Chg.row hg;have gV:=zh (show Below w1.heap.size w1 wd from(zka ag.out j3.out).grown hg oQ (fun g e=>hlo g e));have jy:=zlW (HD3.out.row none);have e0:wd.cell? ⟨b3,0,none⟩=some (.slice Av j cv):=zc jy rfl;have ez:wd.frozen? ⟨b3,0,none⟩=false:=zf jy;have hab:a.block<w1.heap.size:=by
     obtain⟨a',_,_,e',_,hc',_⟩:=HR1.out j hlt;injection e' with e';subst e';have:=World.block_lt_of_cell? w1 _ hc';rwa[zkz]at this
    have mG:zU wd/\(fun w':World=>zv w' b3 0 (.slice Av j cv)) wd:=⟨trivial,e0⟩
    have hd4:=HD3.out.set none (g:=b3) (o:=0) (by rfl) (by show 0<3;decide) vd;have hd5:Rws (wd.setCell ⟨b3,0,none⟩ vd) w1.heap.size (zlZ vd vi vo (fun i=>if i=j then .slice A8 l.length mM else fc i) b3 s (j+1)):=by
     rw[<-zxW (.slice Av j cv) vd vi vo fc b3 s j l (.slice A8 l.length mM) (by rw[List.getD_eq_getElem?_getD,List.getElem?_eq_getElem hlt];exact Hl.out)];exact hd4
    have HD5:=zh hd5;have hb3lt:=(HD3.out.lt none b3 rfl)
    have rM:=zh (show Below w1.heap.size w1 (wd.setCell ⟨b3,0,none⟩ vd)from gV.out.trans ((((Chg.refl (fun b=>b=b3) wd).setCell (p:=⟨b3,0,none⟩) (.inl rfl) vd)).below gV.out.size fun b e=>by omega));obtain⟨Ad,cd',rfl,-⟩:=zkd ho;refine hK.out _ _ mG ?_;clear hK K hd3 hd4 hd5 ho hg ak hrow vD gJ hav hsep hlo jy;(try simp only[zQ]);refine zo 6 fun K hK=>?_;(try simp only[zA,zB,zC]);go_simp;refine hK.out _ _ mG ?_;clear hK K;(try simp only[zQ]);refine zp 7 fun K hK=>?_;(try simp only[zA,zB,zC]);go_simp;refine hK.out _ _ trivial ?_;clear hK K;(try simp only[zQ]);refine zd ?_;refine NoPanic.normal ?_;go_wp2_with fail
    go_roundw
    case rel=>exact⟨j+1,by omega,by go_num,rM,_,_,HD5⟩
    case measure=>simp[intOf];omega
   ·obtain rfl:j=s.cells.length:=by omega
    have hj1:¬ (s.cells.length:Int)<(s.cells.length:Int):=by omega
    have hbx:=zlW (HRW.out.row none);have x0:wr.cell? ⟨b3,0,none⟩=some vc:=zc hbx rfl;have x1:wr.cell? ⟨b3,1,none⟩=some vi:=zc hbx rfl;have x2:wr.cell? ⟨b3,2,none⟩=some vo:=zc hbx rfl;obtain⟨Av,cv,dn,-⟩:=zkd (HRW.out.row (some .all));change vc=.slice Av s.cells.length cv at dn;subst dn;rw[<-xB.out]at x1;rw[<-HVO.out]at x2;have hk3:=zkc gT.out ag.out;have q0:wr.cell? ⟨w.heap.size+1,0,none⟩=some (.slice none 0 0):=zc hk3 rfl;have q1:wr.cell? ⟨w.heap.size+1,1,none⟩=some (.slice none 0 0):=zc hk3 rfl;have q2:wr.cell? ⟨w.heap.size+1,2,none⟩=some (.slice none 0 0):=zc hk3 rfl;have cf:∀j,wr.frozen? ⟨w.heap.size+1,j,none⟩=false:=fun j=>zf hk3;have dx:=zh (zql HRW.out);have HK3E:=zh hk3;clear hbx hk3 HRW;go_wp2_with fail
    have hch:Chg (fun b=>b=w.heap.size+1) wr (((wr.setCell ⟨w.heap.size+1,0,none⟩ (.slice Av s.cells.length cv)).setCell ⟨w.heap.size+1,1,none⟩ (.slice B8 s.tin.length c8)).setCell ⟨w.heap.size+1,2,none⟩ (.slice lg s.tout.length c12)) :=
     (((Chg.refl (fun b=>b=w.heap.size+1) wr).setCell (p:=⟨w.heap.size+1,0,none⟩) (.inl rfl) _).setCell (p:=⟨w.heap.size+1,1,none⟩) (.inl rfl) _).setCell (p:=⟨w.heap.size+1,2,none⟩) (.inl rfl) _
    have hh:=heap_setCell_same _ (w.heap.size+1) 2 _ _ (.slice lg s.tout.length c12) (heap_setCell_same _ (w.heap.size+1) 1 _ _ (.slice B8 s.tin.length c8) (heap_setCell_same wr (w.heap.size+1) 0 _ _ (.slice Av s.cells.length cv) HK3E.out));obtain⟨w9,bX⟩:=zX (((wr.setCell ⟨w.heap.size+1,0,none⟩ (.slice Av s.cells.length cv)).setCell ⟨w.heap.size+1,1,none⟩ (.slice B8 s.tin.length c8)).setCell ⟨w.heap.size+1,2,none⟩ (.slice lg s.tout.length c12));rw[bX]at hch hh ⊢;have t0:w9.cell? ⟨w.heap.size+1,0,none⟩=some (.slice Av s.cells.length cv):=zc hh (by simp);have t1:w9.cell? ⟨w.heap.size+1,1,none⟩=some (.slice B8 s.tin.length c8):=zc hh (by simp);have t2:w9.cell? ⟨w.heap.size+1,2,none⟩=some (.slice lg s.tout.length c12):=zc hh (by simp)
    refine bodyPost_ret (v:=.agg #[.slice Av s.cells.length cv,.slice B8 s.tin.length c8,.slice lg s.tout.length c12]) (by simp[results,results47,go_sem,t0,t1,t2]) rfl ⟨_,rfl,?_,(zka HB1.out ag.out).trans (hch.below (zka HB1.out ag.out).size fun b e=>by omega)⟩;have hrw:=dx.out.chg hch (fun i b hb e=>by have:=(dx.out.lt i b hb).1;omega);rw[<-xB.out,<-HVO.out]at hrw;exact⟨_,_,_,_,rfl,hrw.mono (by omega),HI.out⟩
 ·right
  have bB:=HC.out;have hcc:(l5=true->l2=true)/\(l6=true->l2=true/\l5=true):=⟨bB.1,fun h=>(bB.2.1 h).2⟩
  refine⟨f-1,?_,?_,?_⟩
  ·clear HC bB HRW HU ha ag hcc;subst hf;revert hall;revert l2 l5 l6 l7
   decide
  ·clear HC bB HRW HU ha ag hf;revert hall hcc;revert l2 l5 l6 l7
   decide +kernel
  intro i hi;have hcase:(i=2/\l2=false)\/(i=5/\l5=false/\l2=true)\/(i=6/\l6=false/\l2=true/\l5=true)\/(i=7/\l7=false):=by
   refine of_decide_eq_true ((List.all_eq_true (p:=fun i=>decide ((i=2/\l2=false)\/(i=5/\l5=false/\l2=true)\/(i=6/\l6=false/\l2=true/\l5=true)\/(i=7/\l7=false)))).1 ?_ i hi);clear HC bB HRW HU ha ag hf hi;revert hall hcc;revert l2 l5 l6 l7
   decide +kernel
  clear hi hall;subst ha hA;rcases hcase with⟨rfl,rfl⟩|⟨rfl,rfl,rfl⟩|⟨rfl,rfl,rfl,rfl⟩|⟨rfl,rfl⟩
  ·refine wpOp_step rfl (fun K' aa=>?_);have hK:=zh aa;clear aa;have hsz:=ag.out.size;have had:Calls prog 70 [.slice B s.tin.length d].toArray wr fun e w'=>∃v,e=.returned v/\(w'.ownsRow wr.heap.size 3 1 v s.tin.length (zkg s.tin)/\Below wr.heap.size wr w') :=
    (zkS s.tin B d Any wr (HR2.out.later ag.out) HL.out.2.2.1).mono fun e w' ⟨v,h1,h2,_,h4⟩=>⟨v,h1,h2,h4⟩
   refine zkf (by rfl) (.func 70) [.tmp 7] _ (by rfl) 70 _ znj (by rfl) _ (by rfl) _ had ?_;rintro v' w' ⟨ho,hb⟩;obtain rfl:l6=false:=by
    rcases l6 with _|_
    ·rfl
    ·exact absurd (hcc.2 rfl).1 (by decide)
   obtain rfl:l5=false:=by
    rcases l5 with _|_
    ·rfl
    ·exact absurd (hcc.1 rfl) (by decide)
   have hrw:=HRW.out.upd (some .inp) (r:=⟨v',3,1,s.tin.length,zkg s.tin⟩) (Chg.of_below hb) (zlv ho hsz) (fun b hb=>.inr (ho.lt b hb).1);rw[k_2]at hrw;exact hK.out _ _ ⟨true,false,false,l7,_,v12,v13,v3,b3,(by subst hf;simp<;>omega),rfl,(by simp only[zQ]),zh (zka ag.out hb),zh hrw,zh ⟨fun h=>(by cases h),fun h=>(by cases h),bB.2.2⟩,HU⟩
  ·refine wpOp_step rfl (fun K' aa=>?_);have hK:=zh aa;clear aa;have hsz:=ag.out.size;have had:Calls prog 70 [.slice D s.tout.length e].toArray wr fun e w'=>∃v,e=.returned v/\(w'.ownsRow wr.heap.size 3 1 v s.tout.length (zkg s.tout)/\Below wr.heap.size wr w') :=
    (zkS s.tout D e Any wr (HR3.out.later ag.out) HL.out.2.2.2).mono fun e w' ⟨v,h1,h2,_,h4⟩=>⟨v,h1,h2,h4⟩
   refine zkf (by rfl) (.func 70) [.tmp 10] _ (by rfl) 70 _ znj (by rfl) _ (by rfl) _ had ?_;rintro v' w' ⟨ho,hb⟩;obtain rfl:l6=false:=by
    rcases l6 with _|_
    ·rfl
    ·exact absurd (hcc.2 rfl).2 (by decide)
   have hrw:=HRW.out.upd (some .out) (r:=⟨v',3,1,s.tout.length,zkg s.tout⟩) (Chg.of_below hb) (zlv ho hsz) (fun b hb=>.inr (ho.lt b hb).1);rw[k_5]at hrw;exact hK.out _ _ ⟨true,true,false,l7,v8,_,v13,v3,b3,(by subst hf;simp<;>omega),rfl,(by simp only[zQ]),zh (zka ag.out hb),zh hrw,zh ⟨fun _=>rfl,fun h=>(by cases h),bB.2.2⟩,HU⟩
  ·refine wpOp_step rfl (fun K' aa=>?_);have hK:=zh aa;clear aa;obtain⟨B8,c8,e8,-,-⟩:=zkd (HRW.out.row (some .inp));change v8=.slice B8 s.tin.length c8 at e8;obtain⟨lg,c12,e12,-,-⟩:=zkd (HRW.out.row (some .out));change v12=.slice lg s.tout.length c12 at e12;subst e8 e12;(try simp only[zQ]);go_simp;exact hK.out _ _ ⟨true,true,true,l7,_,_,_,v3,b3,(by subst hf;simp<;>omega),rfl,(by simp only[Act.put,zD,zE,zF]),ag,HRW,zh ⟨fun _=>rfl,fun _=>⟨rfl,rfl,rfl⟩,bB.2.2⟩,HU⟩
  ·refine wpOp_step rfl (fun K' aa=>?_);have hK:=zh aa;clear aa;obtain rfl:=HU.out rfl;(try simp only[zQ]);go_simp;have hsz:=ag.out.size;have hrw:=HRW.out.upd none (r:=⟨boxV wr.heap.size,32,3,1,[.slice none 0 0,.slice none 0 0,.slice none 0 0]⟩) (W':=wr.alloc (.cells #[.slice none 0 0,.slice none 0 0,.slice none 0 0] 32)) (Chg.of_below (zkb zr _)) (zwp wr _ hsz _ _ _ _) (fun b hb=>.inr (by simp[Value.ownBlock]at hb;omega));rw[k_7]at hrw;exact hK.out _ _ ⟨l2,l5,l6,true,v8,v12,v13,_,wr.heap.size,(by subst hf;simp<;>omega),rfl,(by simp only[Act.put,zD,zE,zF]),zh (zkb ag.out _),zh hrw,zh ⟨bB.1,bB.2.1,fun _=>rfl⟩,zh (fun h=>(by cases h))⟩
structure RS where
 S:ST
 n:Nat
 ent:List Nat
inductive Out where
 | gas
 | err (e:Int)
 | ok (r:RS)
def Out.bind:Out->(RS->Out)->Out
 | .ok r,f=>f r
 | .err e,_=>.err e
 | .gas,_=>.gas
def zkB(F:Int)(r:RS):Out:=if F<=r.n then .err 18 else .ok { r with n:=r.n+1 }
def zkj(r:RS)(R:Int×ST):Out:=if R.1≠0 then .err R.1 else .ok { r with S:=R.2 }
def valO(t:T)(r:RS)(f:Int->RS->Out):Out:=if (zk9 r.S.look t).2≠0 then .err (zk9 r.S.look t).2 else f (zk9 r.S.look t).1 r
def zk0(F:Int)(t:T)(r:RS)(f:Bool->RS->Out):Out:=(zkB F r).bind fun r=>valO t r fun x r=>f (decide (x≠0)) r
def zks(F:Int)(t:T)(b:Bool)(r:RS):Out:=zk0 F t r fun b' r=>if b'=b then .ok r else .err 15
def zkK(f:T->RS->Out):List T->RS->Out
 | [],r=>.ok r
 | t::ts,r=>(f t r).bind (zkK f ts)
def blkL(back:Bool)(b:T):List T:=if back=true then b.ks.reverse else b.ks
def zlJ(F:Int)(f:T->RS->Out)(entry test:T)(l1 l2:List T):Nat->RS->Out
 | 0,_=>.gas
 | m+1,r=>(zkK f l1 r).bind fun r=>zk0 F test r fun b r=>if b=true then .ok r else(zkK f l2 r).bind fun r=>(zks F entry false r).bind (zlJ F f entry test l1 l2 m)
def prcI:List PR->ByteArray->Option Nat
 | [],_=>none
 | q::qs,s=>if (q.s.toList==s.toList)=true then some 0 else(prcI qs s).map (· + 1)
def kid(t:T)(i:Nat):T:=t.ks.getD i nil0
def fstT(back:Bool)(t:T):T:=if back=true then kid t (t.ks.length-1)else kid t 0
def lstT(back:Bool)(t:T):T:=if back=true then kid t 0 else kid t (t.ks.length-1)
def zkt(prs:List PR)(F:Int):Nat->Bool->T->RS->Out
 | 0,_,_,_=>.gas
 | g+1,back,t,r =>
  if t.k=52 then
   zk0 F (fstT back t) r fun yes r=>(zkK (zkt prs F g back) (blkL back (if yes=true then kid t 1 else kid t 2)) r).bind (zks F (lstT back t) yes)
  else if t.k=53 then
   (zks F (fstT back t) true r).bind (zlJ F (zkt prs F g back) (fstT back t) (lstT back t) (blkL back (kid t 1)) (blkL back (kid t 2)) g)
  else if t.k=54 then
   (zkB F r).bind fun r=>valO (fstT back t) r fun x r=>(zkj r (zk4 r.S ⟨t.s,1,0⟩ x)).bind fun r=>(zkK (zkt prs F g back) (blkL back (kid t 1)) r).bind fun r =>
    (zkB F r).bind fun r=>valO (lstT back t) r fun x r=>zkj r (zkG r.S t.s x)
  else if t.k=55 then
   (zkB F r).bind fun r=>(zkj r (zk4 r.S ⟨t.s,3,0⟩ 0)).bind fun r=>(zkK (zkt prs F g back) (blkL back (kid t 0)) r).bind fun r =>
    (zkB F r).bind fun r=>zkj r (zkG r.S t.s 0)
  else if t.k=50\/t.k=51 then
   match prcI prs t.s with
   | none=>.err 0
   | some i=>(zkB F r).bind fun r=>(zkj r (zk1 r.S (prs.getD i ⟨⟨#[]⟩,[],nil0⟩).ps (t.ks.map (·.s)))).bind fun r =>
     (zkK (zkt prs F g (back != decide (t.k=51))) (blkL (back != decide (t.k=51)) (prs.getD i ⟨⟨#[]⟩,[],nil0⟩).b) { r with ent:=r.ent.set i (r.ent.getD i 0+1) }).bind fun r =>
      (zkB F r).bind fun r=>zkj r (zk2 r.S)
  else(zkB F r).bind fun r=>zkj r (if back=true then zmf r.S t else doE r.S t)
def runO(prs:List PR)(F:Int)(g:Nat)(back:Bool)(b:T)(r:RS):Out:=zkK (zkt prs F g back) (blkL back b) r
def Good(n:Nat)(o:Out):Prop:=o ≠ .gas/\∀r,o=.ok r->n<=r.n
theorem Good.err(n:Nat)(e:Int):Good n (.err e):=⟨by simp,by simp⟩
theorem Good.ok{n:Nat}{r:RS}(h:n<=r.n):Good n (.ok r):=⟨by simp,fun r' e=>by injection e with e;subst e;exact h⟩
theorem Good.mono{m n:Nat}{o:Out}(h:Good n o)(hm:m<=n):Good m o:=⟨h.1,fun r e=>Nat.le_trans hm (h.2 r e)⟩
theorem Good.bind{m n:Nat}{o:Out}{f:RS->Out}(h:Good n o)(uY:m<=n)(hf:∀r,n<=r.n->o=.ok r->Good m (f r)):Good m (o.bind f):=by
 cases o with
 | gas=>exact absurd rfl h.1
 | err e=>exact Good.err _ _
 | ok r=>exact hf r (h.2 r rfl) rfl
theorem zkU{F:Int}{r r':RS}(h:zkB F r=.ok r'):r'={ r with n:=r.n+1 }/\(r.n:Int)<F:=by
 unfold zkB at h
 split at h
 ·cases h
 ·injection h with h;exact⟨h.symm,by omega⟩
theorem zkv(F:Int)(r:RS):Good (r.n+1) (zkB F r):=by
 unfold zkB
 split
 ·exact Good.err _ _
 ·exact Good.ok zl
theorem zkE(r:RS)(R:Int×ST):Good r.n (zkj r R):=by
 unfold zkj
 split
 ·exact Good.err _ _
 ·exact Good.ok zl
theorem zod{m:Nat}{t:T}{r:RS}{f:Int->RS->Out}(hf:∀x,Good m (f x r)):Good m (valO t r f):=by
 unfold valO
 split
 ·exact Good.err _ _
 ·exact hf _
theorem zm1{m:Nat}{F:Int}{t:T}{r:RS}{f:Bool->RS->Out}(hm:m<=r.n+1)(hf:∀b,(r.n:Int)<F->Good m (f b { r with n:=r.n+1 })):Good m (zk0 F t r f):=by
 unfold zk0;refine(zkv F r).bind hm fun r' _ e=>?_;obtain⟨rfl,h⟩:=zkU e;exact zod fun x=>hf _ h
theorem zls(F:Int)(t:T)(b:Bool)(r:RS):Good (r.n+1) (zks F t b r):=by
 unfold zks;refine zm1 zl fun b' _=>?_
 split
 ·exact Good.ok zl
 ·exact Good.err _ _
theorem znK{F:Int}{t:T}{b:Bool}{r r':RS}(h:zks F t b r=.ok r'):r'={ r with n:=r.n+1 }/\(r.n:Int)<F:=by
 unfold zks zk0 at h
 cases hs:zkB F r with
 | gas=>rw[hs]at h;cases h
 | err e=>rw[hs]at h;cases h
 | ok r1 =>
  rw[hs]at h;obtain⟨rfl,hl⟩:=zkU hs;simp only[Out.bind,valO]at h
  split at h
  ·cases h
  ·split at h
   ·injection h with h;exact⟨h.symm,hl⟩
   ·cases h
theorem zlQ{f:T->RS->Out}:∀(l:List T) (r:RS),(∀t∈l,∀r',r.n<=r'.n->Good r'.n (f t r'))->Good r.n (zkK f l r)
 | [],r,_=>Good.ok zl
 | t::ts,r,h=>by
  rw[zkK];refine(h t (List.mem_cons_self ..) r zl).bind zl fun r1 h1 _=>?_;exact(zlQ ts r1 fun u hu r' hr'=>h u (List.mem_cons_of_mem _ hu) r' (Nat.le_trans h1 hr')).mono h1
theorem zo7{F:Int}{f:T->RS->Out}{entry test:T}{l1 l2:List T}:∀(m:Nat) (r:RS),F.toNat-r.n<m->(∀t∈l1,∀r',r.n<=r'.n->Good r'.n (f t r'))->(∀t∈l2,∀r',r.n<=r'.n->Good r'.n (f t r'))->Good r.n (zlJ F f entry test l1 l2 m r)
 | 0,_,h,_,_=>by omega
 | m+1,r,h,h1,h2=>by
  rw[zlJ];refine(zlQ l1 r h1).bind zl fun r1 hr1 _=>?_;refine zm1 (by omega) fun b hF=>?_
  split
  ·exact Good.ok (by simp only;omega)
  ·refine(zlQ l2 { r1 with n:=r1.n+1 } fun t ht r' hr'=>h2 t ht r' (by simp only at hr';omega)).bind (by simp only;omega) fun r2 hr2 _=>?_;refine(zls F entry false r2).bind (by simp only at hr2;omega) fun r3 hr3 e=>?_;obtain⟨rfl,hF2⟩:=znK e;refine(zo7 m _ ?_ (fun t ht r' hr'=>h1 t ht r' ?_) (fun t ht r' hr'=>h2 t ht r' ?_)).mono ?_
   all_goals (simp only at *;omega)
theorem zmg:∀ {ts:List T} {u:T},u∈ts->size u<=zkR ts
 | t::ts,u,h=>by
  rw[zkR];rcases List.mem_cons.1 h with rfl|h
  ·omega
  ·have:=zmg h;omega
theorem zwH{t:T}{i:Nat}(h:i<t.ks.length):size (kid t i)<size t:=by
 obtain⟨k,n,s,ks⟩:=t;have h':i<ks.length:=h;have:kid (.nd k n s ks) i=ks[i]:=by simp[kid,h']
 rw[this,size];have:=zmg (List.getElem_mem h');omega
theorem zpG{t u:T}(h:u∈t.ks):size u<size t:=by
 obtain⟨k,n,s,ks⟩:=t;rw[size];have:=zmg (ts:=ks) h;omega
theorem zlh{back:Bool}{b u:T}(h:u∈blkL back b):u∈b.ks:=by
 unfold blkL at h
 split at h
 ·simpa using h
 ·exact h
theorem zuv(t:T)(i:Nat):∀u∈(kid t i).ks,size u+1<size t:=by
 intro u hu;by_cases h:i<t.ks.length
 ·have:=zwH h;have:=zpG hu;omega
 ·have:kid t i=nil0:=by
   unfold kid;rw[List.getD_eq_getElem?_getD,List.getElem?_eq_none (by omega)];rfl
  rw[this]at hu;simp[nil0]at hu
theorem zmc{prs:List PR}{F:Int}{M:Nat}(hM:∀q∈prs,size q.b<=M)(hM1:1<=M):∀(g:Nat) (back:Bool) (t:T) (r:RS),(F.toNat-r.n)*M+size t<=g->Good r.n (zkt prs F g back t r)
 | 0,_,t,r,h=>by
  have:0<size t:=by obtain⟨k,n,s,ks⟩:=t;rw[size];omega
  omega
 | g+1,back,t,r,h=>by
  have hmul:∀a b:Nat,a<=b->a*M<=b*M:=fun a b h=>Nat.mul_le_mul_right _ h;have hone:F.toNat-r.n<=(F.toNat-r.n)*M:=Nat.le_mul_of_pos_right _ hM1;have hb:∀(back:Bool) i r1,r.n<=r1.n->Good r1.n (zkK (zkt prs F g back) (blkL back (kid t i)) r1):=fun back i r1 h1 =>
   zlQ _ _ fun u hu r2 h2=>zmc hM hM1 g back u r2 (by
    have:=zuv t i u (zlh hu);have:=hmul (F.toNat-r2.n) (F.toNat-r.n) (by omega);omega)
  rw[zkt]
  split
  ·refine zm1 (by omega) fun yes hF=>?_;have:Good (r.n+1) (zkK (zkt prs F g back) (blkL back (if yes=true then kid t 1 else kid t 2)) { r with n:=r.n+1 }):=by
    split
    ·exact hb back 1 _ (by simp only;omega)
    ·exact hb back 2 _ (by simp only;omega)
   exact this.bind (by omega) fun r1 h1 _=>(zls _ _ _ _).mono (by omega)
  ·split
   ·refine(zls _ _ _ _).bind (by omega) fun r1 h1 e=>?_;obtain⟨rfl,hF⟩:=znK e;have hs:0<size t:=by obtain⟨k,n,s,ks⟩:=t;rw[size];omega
    refine(zo7 g _ (by simp only;omega) (fun u hu r' hr'=>?_) (fun u hu r' hr'=>?_)).mono (by simp only;omega)
    ·have:=zuv t 1 u (zlh hu);have:=hmul (F.toNat-r'.n) (F.toNat-r.n) (by simp only at hr';omega);exact zmc hM hM1 g back u r' (by omega)
    ·have:=zuv t 2 u (zlh hu);have:=hmul (F.toNat-r'.n) (F.toNat-r.n) (by simp only at hr';omega);exact zmc hM hM1 g back u r' (by omega)
   ·split
    ·refine(zkv F r).bind (by omega) fun r1 h1 _=>zod fun x=>?_;refine(zkE r1 _).bind (by omega) fun r2 h2 _=>?_;refine(hb back 1 r2 (by omega)).bind (by omega) fun r3 h3 _=>?_;refine(zkv F r3).bind (by omega) fun r4 h4 _=>zod fun x=>?_;exact(zkE r4 _).mono (by omega)
    ·split
     ·refine(zkv F r).bind (by omega) fun r1 h1 _=>?_;refine(zkE r1 _).bind (by omega) fun r2 h2 _=>?_;refine(hb back 0 r2 (by omega)).bind (by omega) fun r3 h3 _=>?_;refine(zkv F r3).bind (by omega) fun r4 h4 _=>?_;exact(zkE r4 _).mono (by omega)
     ·split
      ·split
       ·exact Good.err _ _
       ·rename_i i hi;refine(zkv F r).bind (by omega) fun r1 h1 e1=>?_;obtain⟨rfl,hF⟩:=zkU e1;refine(zkE _ _).bind (by simp only;omega) fun r2 h2 _=>?_;have hbody:Good r2.n (zkK (zkt prs F g (back != decide (t.k=51))) (blkL (back != decide (t.k=51)) (prs.getD i ⟨⟨#[]⟩,[],nil0⟩).b) { r2 with ent:=r2.ent.set i (r2.ent.getD i 0+1) }):=by
         refine zlQ _ _ fun u hu r3 h3=>zmc hM hM1 g _ u r3 ?_;have hu':=zlh hu;by_cases hi:i<prs.length
         ·have hq:prs.getD i ⟨⟨#[]⟩,[],nil0⟩=prs[i]:=by simp[hi]
          rw[hq]at hu';have hl:=zpG hu';have hMq:=hM _ (List.getElem_mem hi);have hsub:F.toNat-r3.n+1<=F.toNat-r.n:=by simp only at h2 h3;omega
          have:=hmul _ _ hsub;rw[Nat.add_mul,Nat.one_mul]at this;omega
         ·have hq:prs.getD i ⟨⟨#[]⟩,[],nil0⟩=⟨⟨#[]⟩,[],nil0⟩:=by
           rw[List.getD_eq_getElem?_getD,List.getElem?_eq_none (by omega)];rfl
          rw[hq]at hu';simp[nil0]at hu'
        refine hbody.bind (by simp only at h2;omega) fun r3 h3 _=>?_;refine(zkv F r3).bind (by simp only at h2;omega) fun r4 h4 _=>?_;exact(zkE r4 _).mono (by simp only at h2;omega)
      ·refine(zkv F r).bind (by omega) fun r1 h1 _=>?_;exact(zkE r1 _).mono (by omega)
abbrev zlK(x:Int):Ending:=.panicked [{ v:=.iface 198 (.agg #[.int .i64 x]),recovered:=false }]
theorem zp4(x:Int)(hx:x≠0)(w:World):Calls prog 201 #[.int .i64 x] w fun e w'=>e=zlK x/\w'=w:=by
 have e1:(x==0)=false:=by simpa using hx
 have hb:∀w,(Instr.build 198 #[(0,.int .i64 x)]).run prog w=.ok (.agg #[.int .i64 x]) w:=fun w=>by kernel_rfl
 go_enter func201,ntmps201;go_wp2_with fail;exact⟨rfl,rfl,rfl⟩
theorem zmi{W W':World}{base:Nat}{E:TypeId}{size:Nat}{v:Value}{n:Nat}{xs:List Value}(h:W.ownsRow base E size v n xs)(hk:∀b,v.ownBlock=some b->W'.heap[b]?=W.heap[b]?):W'.ownsRow base E size v n xs:=by
 obtain⟨e1,h2⟩:=h;refine⟨e1,?_⟩;rcases h2 with h2|⟨g,cap,cur,rfl,hb,hg,rest⟩
 ·exact .inl h2
 ·exact .inr ⟨g,cap,cur,rfl,hb,(hk g rfl).trans hg,rest⟩
structure RC where
 w:World
 n0:Nat
 sb:Nat
 rb:Nat
 p:PG
 A1:Option Addr
 c1:Nat
 A2:Option Addr
 c2:Nat
 A3:Option Addr
 c3:Nat
 F:Int
 ev:Value
 kb:Nat->Prop
structure RC.Ok(C:RC):Prop where
 pg:PgR C.w Any C.p C.A1 C.c1 C.A2 C.c2 C.A3 C.c3
 F:I64 C.F
 F6:C.F<=1000000
 rb:C.n0<=C.rb/\¬ C.kb C.rb
 ev:C.ev.ownBlock≠some C.rb/\∀b,C.ev.ownBlock=some b->¬ C.kb b
 ps:∀q∈C.p.prs,q.ps.length<=1000
def RC.cells(C:RC)(n:Nat):Array Value := #[.slice C.A1 C.p.vs.length C.c1,.slice C.A2 C.p.prs.length C.c2,.int .u8 C.p.m.k,.int .i64 C.p.m.n,.string C.p.m.s,.slice C.A3 C.p.m.ks.length C.c3,.pointer (some ⟨C.sb,0,none⟩),.int .i64 n,.int .i64 C.F,C.ev]
def FB(j:Nat)(S:ST):Prop:=S.base.vs.length<=1000+j/\∀f∈S.calls,f.vs.length<=1000+j
structure RI(C:RC)(W:World)(r:RS):Prop where
 ks:KS C.w C.n0 C.sb (fun b=>C.kb b\/b=C.rb\/C.ev.ownBlock=some b) W r.S
 box:W.heap[C.rb]?=some (.cells (C.cells r.n) 147 (0,0))
 ent:W.ownsRow C.n0 3 1 C.ev r.ent.length (zkg (r.ent.map Int.ofNat))
 el:r.ent.length=C.p.prs.length
 en:∀c∈r.ent,c<=r.n
 n:(r.n:Int)<=1000000
 fb:FB r.n r.S
section
variable {C:RC} {W W' W'':World} {r r':RS}
theorem RI.below(h:RI C W r):Below C.w.heap.size C.w W:=h.ks.bl
theorem RI.later(h:RI C W r)(hb:Below W.heap.size W W'):RI C W' r:=⟨h.ks.later hb,zkc h.box hb,zkp h.ent hb,h.el,h.en,h.n,h.fb⟩
def RunP(C:RC)(W:World)(o:Out)(e:Ending)(W':World):Prop :=
 Kpt C.n0 C.kb W W'/\Below C.w.heap.size C.w W'/\match o with
 | .gas=>True
 | .err x=>e=zlK x
 | .ok r=>(∃u,e=.returned u)/\RI C W' r
theorem RI.cells(h:RI C W r):W.cell? ⟨C.rb,6,none⟩=some (.pointer (some ⟨C.sb,0,none⟩))/\W.cell? ⟨C.rb,7,none⟩=some (.int .i64 r.n)/\W.cell? ⟨C.rb,8,none⟩=some (.int .i64 C.F)/\W.cell? ⟨C.rb,9,none⟩=some C.ev/\∀o,W.frozen? ⟨C.rb,o,none⟩=false :=
 ⟨zc h.box rfl,zc h.box rfl,zc h.box rfl,zc h.box rfl,fun _=>zf h.box⟩
theorem FB.mono{j k:Nat}{S:ST}(h:FB j S)(hk:j<=k):FB k S:=⟨by have:=h.1;omega,fun f hf=>by have:=h.2 f hf;omega⟩
theorem Kpt.chg{n0:Nat}{kb Cc:Nat->Prop}(h:Chg Cc W W')(hC:∀b,Cc b->n0<=b/\¬ kb b):Kpt n0 kb W W' :=
 ⟨h.size,fun b hb hk=>h.block b hb fun hc=>by rcases hk with hk|hk;have:=(hC b hc).1;omega;exact(hC b hc).2 hk⟩
theorem RI.tick(hC:C.Ok)(h:RI C W r)(hF:(r.n:Int)<C.F):RI C (W.setCell ⟨C.rb,7,none⟩ (.int .i64 ((r.n:Int)+1))) { r with n:=r.n+1 }/\Kpt C.n0 C.kb W (W.setCell ⟨C.rb,7,none⟩ (.int .i64 ((r.n:Int)+1))):=by
 have hch:Chg (fun b=>b=C.rb) W (W.setCell ⟨C.rb,7,none⟩ (.int .i64 ((r.n:Int)+1))):=(Chg.refl (fun b=>b=C.rb) W).setCell (p:=⟨C.rb,7,none⟩) (.inl rfl) _;have hn:=h.ks.hn;refine⟨⟨h.ks.chg hch fun b _ e=>⟨by have:=hC.rb.1;omega,.inr (.inr (.inl e))⟩,?_,zmi h.ent fun b hb=>?_,h.el,fun c hc=>by have:=h.en c hc;simp only;omega,by have:=hC.F6;simp only;omega,h.fb.mono (Nat.le_succ _)⟩,Kpt.chg hch fun b e=>⟨by have:=hC.rb.1;omega,by rw[e];exact hC.rb.2⟩⟩
 ·have:=heap_setCell_same W C.rb 7 _ _ (.int .i64 ((r.n:Int)+1)) h.box;rw[this];simp[RC.cells]
 ·have hne:b≠C.rb:=fun e=>hC.ev.1 (by rw[hb,e]);have hlt:=(h.ent.lt b hb).2;exact hch.block b hlt hne
end
theorem zl1{C:RC}(hC:C.Ok){W:World}{r:RS}(h:RI C W r):Calls prog 179 #[.pointer (some ⟨C.rb,0,none⟩)] W (RunP C W (zkB C.F r)):=by
 obtain⟨-,y7,y8,-,yf⟩:=h.cells;have wW:=h.n;obtain⟨rb,hrb⟩:=zX (C.rb);obtain⟨F,hF⟩:=zX (C.F);obtain⟨n,hn⟩:=zX (r.n);have HS:=zh (show(fun w':World=>zv w' rb 7 (.int .i64 n)/\zv w' rb 8 (.int .i64 F)) W.drew from⟨by rw[<-hrb,<-hn];exact y7,by rw[<-hrb,<-hF];exact y8⟩);have hd:Below W.heap.size W W.drew:=zr.drew;have HK:=zh (show Kpt C.n0 C.kb W W.drew/\Below C.w.heap.size C.w W.drew from⟨Kpt.of_below hd,zka h.below hd⟩);have HT:=zh (fun hlt=>RI.tick hC h hlt);have dC:=zh h.below;have yf':∀o,W.drew.frozen? ⟨rb,o,none⟩=false:=by rw[<-hrb];exact yf
 rw[hrb]at HT;rw[hn]at HT wW;rw[hF]at HT;by_cases hlt:F<=(n:Int)
 ·have HO:=zh (show zkB C.F r=.err 18 by unfold zkB;rw[if_pos (by rw[hF,hn];exact hlt)]);rw[hrb];clear h y7 y8 yf hrb hF hn HT;go_enter func179,ntmps179;go_upto_region 0 with fail
  go_region_held3 (fun w':World=>zv w' rb 7 (.int .i64 n)/\zv w' rb 8 (.int .i64 F))
   (with_reducible exact HS.out)
   (first|fail)
  go_wp2_with fail;refine(zp4 18 (by decide) _).mono ?_;rintro e w1 ⟨rfl,rfl⟩;refine⟨rfl,?_⟩;rw[HO.out];exact⟨HK.out.1,HK.out.2,rfl⟩
 ·have hw1:IntKind.i64.wrap ((n:Int)+1)=(n:Int)+1:=IntWalk.i64_in _ (by omega);have HO:=zh (show zkB C.F r=.ok { r with n:=n+1 } by unfold zkB;rw[if_neg (by rw[hF,hn];exact hlt),hn]);have HT2:=zh (HT.out (by omega));rw[hrb];have hlt':¬ F<=(n:Int):=hlt;clear h y7 y8 yf hrb hF hn HT;go_enter func179,ntmps179;go_upto_region 0 with fail
  go_region_held3 (fun w':World=>zv w' rb 7 (.int .i64 n)/\zv w' rb 8 (.int .i64 F))
   (with_reducible exact HS.out)
   (first|fail)
  obtain⟨z7,z8⟩:=HS.out;go_wp2_with fail;go_end0;rw[HO.out];have hd2:∀W:World,Below W.heap.size W W.drew:=fun W=>zr.drew;exact⟨HT2.out.2.trans (Kpt.of_below (hd2 _)),(HT2.out.1.later (hd2 _)).below,⟨_,rfl⟩,HT2.out.1.later (hd2 _)⟩
theorem zlm(p:Addr)(x:Int)(w:World):Calls prog 180 #[.pointer (some p),.int .i64 x] w fun e w'=>w'=w/\((x=0/\∃u,e=.returned u)\/(x≠0/\e=zlK x)):=by
 by_cases hx:x=0
 ·subst hx;go_enter func180,ntmps180;go_wp2_with fail;go_end0;exact⟨rfl,.inl ⟨trivial,_,rfl⟩⟩
 ·have e1:(x != 0)=true:=by simpa using hx
  go_enter func180,ntmps180;go_wp2_with fail;refine(zp4 x hx _).mono ?_;rintro e w1 ⟨rfl,rfl⟩;exact⟨rfl,rfl,.inr ⟨hx,rfl⟩⟩
theorem zwR:IsFn prog 166 f166:=⟨func166,by kernel_rfl,by kernel_rfl⟩
theorem zKm(w:World)(n0 sb:Nat)(kb:Nat->Prop)(S:ST)(hw:S.WF):zrz 166 f166 (.pointer (some ⟨sb,0,none⟩)) (fun W=>KS w n0 sb kb W S) S.look where
 isFn:=zwR
 later:=fun _ _ h hb=>h.later hb
 fits:=(zui 0 ⟨0,0,undef,undef,undef,undef,undef,fun _=>undef,fun _=>undef,fun _=>0,fun _=>undef⟩ S hw).fits
 call:=fun s W h=>by
  refine(h.cell s).mono ?_;rintro e W' ⟨v,l,b,rfl,hlk,hl0,ho,hf,hb⟩;refine⟨hb,?_⟩
  cases b
  ·obtain rfl:=hl0 rfl;obtain⟨A,c,rfl,-⟩:=zkd ho;exact .inl ⟨by simpa using hlk,A,c,rfl⟩
  ·obtain⟨A,c,rfl,-,hr⟩:=zre ho hf;exact .inr ⟨l,A,c,by simpa using hlk,rfl,hr⟩
theorem zxp{f:FuncId}{fn:Func}{rv:Value}{Rd:World->Prop}{look:ByteArray->Option (List Int)}(hL:zrz f fn rv Rd look)(t:T)(v:Value)(w:World)(hv:NV w Any t v)(hR:Rd w) :
  Calls prog 216 #[v,.func (.func f) #[rv] #[]] w fun e w'=>e=.returned (.tuple #[.bool (decide ((zk9 look t).1≠0)),.int .i64 (zk9 look t).2])/\Below w.heap.size w w':=by
 have HV:=zh hv;obtain⟨A,c,rfl,-⟩:=hv.open_;have rE:=zh (fun w' (hb:Below w.heap.size w w')=>zp5 hL t _ w' (hv.later hb) (hL.later _ _ hR hb));obtain⟨⟨x,y⟩,hx⟩:=zX (zk9 look t);rw[hx]at rE ⊢;dsimp only[NumE]at rE ⊢;clear hv hR hx;go_enter func216,ntmps216;have hb0:=zkb (zs w) (.cells #[.int .u8 t.k,.int .i64 t.n,.string t.s,.slice A t.ks.length c] 41);have HB0:=zh hb0;obtain⟨x0,x1,x2,x3⟩:=box4 (heap_alloc_new w (.cells #[.int .u8 t.k,.int .i64 t.n,.string t.s,.slice A t.ks.length c] 41));clear hb0;go_wp2_with fail;refine(rE.out _ HB0.out).mono ?_;rintro e w1 ⟨rfl,ae⟩;have HB1:=zh (zka HB0.out ae);clear ae x0 x1 x2 x3;by_cases h0:x=0
 ·subst h0;go_wp2_with fail;go_ret2;exact⟨by simp,HB1.out⟩
 ·have e1:(x != 0)=true:=by simpa using h0
  go_wp2_with fail;go_ret2;exact⟨by simp[h0],HB1.out⟩
def RC.plus(C:RC)(lo hi:Nat):RC:={ C with kb:=fun b=>C.kb b\/(lo<=b/\b<hi) }
section
variable {C:RC} {W W' W'':World} {r r':RS} {lo hi:Nat}
theorem RI.rlt(h:RI C W r):C.rb<W.heap.size:=zko h.box
theorem RI.plus(hC:C.Ok)(h:RI C W r)(hb:Below W.heap.size W W'):(C.plus W.heap.size W'.heap.size).Ok/\RI (C.plus W.heap.size W'.heap.size) W' r:=by
 have h1:=h.rlt;refine⟨⟨hC.pg,hC.F,hC.F6,⟨hC.rb.1,fun hk=>?_⟩,⟨hC.ev.1,fun b hb' hk=>?_⟩,hC.ps⟩,⟨h.ks.also hb fun b hk=>?_,zkc h.box hb,zkp h.ent hb,h.el,h.en,h.n,h.fb⟩⟩
 ·rcases hk with hk|hk
  ·exact hC.rb.2 hk
  ·have:W.heap.size<=C.rb:=hk.1;omega
 ·rcases hk with hk|hk
  ·exact hC.ev.2 b hb' hk
  ·have:=(h.ent.lt b hb').2;have:=hk.1;omega
 ·rcases hk with(hk|hk)|hk|hk
  ·exact .inl (.inl hk)
  ·exact .inr hk
  ·exact .inl (.inr (.inl hk))
  ·exact .inl (.inr (.inr hk))
theorem RI.less(h:RI (C.plus lo hi) W r):RI C W r :=
 ⟨h.ks.less fun b hk=>hk.elim (fun hk=>.inl (.inl hk)) .inr,h.box,h.ent,h.el,h.en,h.n,h.fb⟩
theorem Kpt.less(h:Kpt C.n0 (C.plus lo hi).kb W W'):Kpt C.n0 C.kb W W':=⟨h.size,fun b hb hk=>h.kept b hb (hk.imp id .inl)⟩
theorem Kpt.plus{b o:Nat}{u:Value}(h:Kpt C.n0 (C.plus lo hi).kb W W')(hb:lo<=b/\b<hi)(hc:W.cell? ⟨b,o,none⟩=some u):W'.cell? ⟨b,o,none⟩=some u:=h.cell (.inr (.inr hb)) hc
end
def zLh(C:RC)(W:World)(t:T)(r:RS)(e:Ending)(W':World):Prop :=
 Kpt C.n0 C.kb W W'/\Below C.w.heap.size C.w W'/\((∃x,e=zlK x/\∀f,zk0 C.F t r f=.err x)\/∃b r',e=.returned (.bool b)/\RI C W' r'/\∀f,zk0 C.F t r f=f b r')
theorem zou{C:RC}(hC:C.Ok){W:World}{r:RS}(h:RI C W r)(t:T)(v:Value)(hv:NV C.w Any t v):Calls prog 198 #[.pointer (some ⟨C.rb,0,none⟩),v] W (zLh C W t r):=by
 have HV:=zh hv;obtain⟨A,c,rfl,-⟩:=hv.open_;have nZ:∀(fn:Fn) (first cap:Array Value) (w:World),(Instr.makeFunc fn first cap).run prog w=.ok (.func fn first cap) w:=fun _ _ _ _=>rfl;have hb0:=zkb (zs W) (.cells #[.int .u8 t.k,.int .i64 t.n,.string t.s,.slice A t.ks.length c] 41);obtain⟨di,h1⟩:=h.plus hC hb0;have hz1:(W.alloc (.cells #[.int .u8 t.k,.int .i64 t.n,.string t.s,.slice A t.ks.length c] 41)).heap.size=W.heap.size+1:=by simp
 have hbx:=box4 (heap_alloc_new W (.cells #[.int .u8 t.k,.int .i64 t.n,.string t.s,.slice A t.ks.length c] 41));have aD:=zh (Kpt.of_below (n0:=C.n0) (kb:=C.kb) hb0);obtain⟨W1,hW1⟩:=zX (W.alloc (.cells #[.int .u8 t.k,.int .i64 t.n,.string t.s,.slice A t.ks.length c] 41));rw[hW1]at di h1 hz1 hbx aD;have lU:=zh di;have H1:=zh h1;have HST:=zh (zl1 di h1);obtain⟨hi,hhi⟩:=zX (W1.heap.size);rw[hhi]at lU H1 HST hz1;have aX:=zh hbx;have HZ1:=zh (show W.heap.size<hi by omega);clear hv di h1 hbx hb0 h hhi hz1;go_enter func198,ntmps198;go_wp2_with fail;refine HST.out.mono ?_;rintro e w1 ⟨hk1,hbl1,ho1⟩;have aA:=zh (aD.out.trans (Kpt.less (C:=C) hk1));have HB1:=zh hbl1
 cases hs:zkB C.F r with
 | gas=>exact absurd hs (zkv _ _).1
 | err x =>
  rw[show zkB (C.plus W.heap.size hi).F r=zkB C.F r from rfl,hs]at ho1;subst ho1;exact⟨rfl,aA.out,HB1.out,.inl ⟨x,rfl,fun f=>by unfold zk0;rw[hs];rfl⟩⟩
 | ok r1 =>
  rw[show zkB (C.plus W.heap.size hi).F r=zkB C.F r from rfl,hs]at ho1;obtain⟨⟨u,rfl⟩,hr1⟩:=ho1;have x0:=Kpt.plus (C:=C) hk1 (b:=W.heap.size) ⟨zl,HZ1.out⟩ aX.out.1;have x1:=Kpt.plus (C:=C) hk1 (b:=W.heap.size) ⟨zl,HZ1.out⟩ aX.out.2.1;have x2:=Kpt.plus (C:=C) hk1 (b:=W.heap.size) ⟨zl,HZ1.out⟩ aX.out.2.2.1;have x3:=Kpt.plus (C:=C) hk1 (b:=W.heap.size) ⟨zl,HZ1.out⟩ aX.out.2.2.2;have HS:=zh hs;have HR1:=zh hr1.less;obtain⟨y6,-⟩:=hr1.cells;have y6':w1.cell? ⟨C.rb,6,none⟩=some (.pointer (some ⟨C.sb,0,none⟩)):=y6;have uj:=zh (fun w' (hb:Below w1.heap.size w1 w')=>zxp (zKm C.w C.n0 C.sb _ r1.S HR1.out.ks.wf) t _ w' (HV.out.later (zka HR1.out.below hb)) (HR1.out.ks.later hb));obtain⟨⟨x,y⟩,hx⟩:=zX (zk9 r1.S.look t);rw[hx]at uj;dsimp only at uj;obtain⟨bb,hbb⟩:=zX (decide (x≠0));rw[hbb]at uj;have aP:=zh hx;have HBBB:=zh hbb;clear hbb hk1 hbl1 hs hr1 y6 hx HST aX
  have az:=zh (show ∀w',Below w1.heap.size w1 w'->(fun w':World=>zv w' W.heap.size 0 (.int .u8 t.k)/\zv w' W.heap.size 1 (.int .i64 t.n)/\zv w' W.heap.size 2 (.string t.s)/\zv w' W.heap.size 3 (.slice A t.ks.length c)/\zv w' C.rb 6 (.pointer (some ⟨C.sb,0,none⟩))) w' from fun w' hb=>⟨zb hb x0,zb hb x1,zb hb x2,zb hb x3,zb hb y6'⟩);have ik:=zh (az.out _ zr.drew);clear x0 x1 x2 x3 y6';go_upto_region 2 with fail
  go_region_held3 (fun w':World=>zv w' W.heap.size 0 (.int .u8 t.k)/\zv w' W.heap.size 1 (.int .i64 t.n)/\zv w' W.heap.size 2 (.string t.s)/\zv w' W.heap.size 3 (.slice A t.ks.length c)/\zv w' C.rb 6 (.pointer (some ⟨C.sb,0,none⟩)))
   (first|with_reducible exact dL.out|with_reducible exact ik.out)
   (first
    | (go_at_call 216;refine(uj.out _ zr.drew).mono ?_;rintro e y1 ⟨rfl,dZ⟩;have b1:=zka (zs w1).drew dZ;have dL:=zh (az.out _ b1))
    | fail)
  have HB2:=zh b1;clear b1 dZ dL;go_wp2_with fail;refine(zlm _ y _).mono ?_;rintro e w3 ⟨rfl,hcs⟩;rcases hcs with⟨rfl,u2,rfl⟩|⟨hy,rfl⟩
  ·go_wp2_with fail;go_ret;refine⟨aA.out.trans (Kpt.of_below HB2.out),zka HB1.out HB2.out,.inr ⟨bb,r1,rfl,HR1.out.later HB2.out,fun f=>?_⟩⟩;unfold zk0;rw[HS.out];simp only[Out.bind,valO,aP.out];simp[<-HBBB.out]
  ·refine⟨rfl,aA.out.trans (Kpt.of_below HB2.out),zka HB1.out HB2.out,.inl ⟨y,rfl,fun f=>?_⟩⟩;unfold zk0;rw[HS.out];simp only[Out.bind,valO,aP.out];rw[if_pos hy]
theorem zmF(x:Int):I64 (wrap64 x):=by
 unfold wrap64 I64
 constructor<;>omega
theorem zsa(b:Bool):I64 (numI b):=by
 cases b
 ·exact⟨by decide,by decide⟩
 ·exact⟨by decide,by decide⟩
theorem zero_I64:I64 0:=⟨by decide,by decide⟩
theorem zrM{x y:Int}(h:I64 x):I64 (x.tmod y):=by
 obtain⟨h1,h2⟩:=h;rcases Int.le_total 0 x with h0|h0
 ·have a1:=Int.tmod_nonneg y h0;have a2:(x.tmod y).natAbs<=x.natAbs:=by rw[Int.natAbs_tmod];exact Nat.mod_le _ _
  exact⟨by omega,by omega⟩
 ·have a1:=Int.tmod_nonneg y (show 0 <= -x by omega);rw[Int.neg_tmod]at a1;have a2:(x.tmod y).natAbs<=x.natAbs:=by rw[Int.natAbs_tmod];exact Nat.mod_le _ _
  exact⟨by omega,by omega⟩
theorem zw7{k x y:Int}(hx:I64 x):I64 (divE k x y).1:=by
 unfold divE
 repeat' split
 all_goals first|exact zero_I64|exact zmF _|exact zrM hx
theorem zyl(k x:Int):I64 (unE k x).1:=by
 unfold unE
 split
 ·exact zmF _
 ·exact zsa _
theorem zyR{c:Prop}[Decidable c]{a b:Int×Int}(ha:I64 a.1)(hb:I64 b.1):I64 (if c then a else b).1:=by
 split
 ·exact ha
 ·exact hb
theorem zzv{k x y:Int}(hx:I64 x):I64 (apE k x y).1:=by
 unfold apE
 repeat' apply zyR
 all_goals first|exact zmF _|exact zw7 hx|exact zrM hx|exact zqX _|exact zsa _|exact zero_I64
theorem zwM{l:List Int}(h:∀x∈l,I64 x)(i:Nat):I64 (l.getD i 0):=by
 rw[List.getD_eq_getElem?_getD];rcases hx:l[i]? with _|x
 ·exact zero_I64
 ·exact h x (List.mem_of_getElem? hx)
theorem zuQ{look:ByteArray->Option (List Int)}(hl:∀s l,look s=some l->l.length<=100000/\∀x∈l,I64 x){k n:Int}{s:ByteArray}{rs:List (Int×Int)}(hn:I64 n)(h0:I64 (rs.getD 0 (0,0)).1):I64 (evK look k n s rs).1:=by
 unfold evK
 split
 ·exact hn
 ·split
  ·unfold varE
   split
   ·exact zero_I64
   ·rename_i l hlk;obtain⟨h1,h2⟩:=hl s l hlk
    repeat' split
    all_goals first|exact zwM h2 _|exact zero_I64|exact⟨by simp only;omega,by simp only;omega⟩
  ·repeat' split
   all_goals first|exact zyl _ _|exact zzv h0|exact zero_I64
theorem zuR{look:ByteArray->Option (List Int)}(hl:∀s l,look s=some l->l.length<=100000/\∀x∈l,I64 x){w:World}:∀(m:Nat) (t:T) (v:Value),size t<=m->NV w Any t v->I64 (evE look t).1
 | 0,t,_,h,_=>by obtain⟨k,n,s,ks⟩:=t;rw[size]at h;omega
 | m+1,.nd k n s ks,v,h,hv=>by
  obtain⟨A,c,-,hf,-,-,hrow⟩:=hv.open_;rw[evE];refine zuQ hl hf.2.1 ?_;rw[znl,List.getD_eq_getElem?_getD,List.getElem?_map];rcases hk:ks[0]? with _|u
  ·exact zero_I64
  ·obtain⟨h1,h2⟩:=List.getElem?_eq_some_iff.1 hk;obtain⟨a,u0,u1,u2,u3,-,-,-,hn⟩:=hrow 0 h1;have hs:=zmg (List.getElem_mem h1);rw[size]at h;have:=zuR hl m ks[0] _ (by omega) hn;rw[h2]at this;exact this
theorem zsf{S:ST}(h:S.WF):∀s l,S.look s=some l->l.length<=100000/\∀x∈l,I64 x:=fun s l hl=>by
 obtain⟨i,id,h1,h2,rfl⟩:=ST.look_num hl;obtain⟨kd,hc⟩:=h.cur;have:=h.cells id (hc.num id (List.mem_of_getElem? h2));exact⟨by omega,this.2⟩
theorem zwZ{S:ST}(h:S.WF){w:World}{t:T}{v:Value}(hv:NV w Any t v):I64 (zk9 S.look t).1:=by
 unfold zk9
 split
 ·exact zuR (zsf h) _ _ _ zl hv
 ·exact zero_I64
def ValP(C:RC)(W:World)(t:T)(r:RS)(e:Ending)(W':World):Prop :=
 Below W.heap.size W W'/\((∃x,e=zlK x/\∀f,valO t r f=.err x)\/∃x,e=.returned (.int .i64 x)/\I64 x/\∀f,valO t r f=f x r)
theorem zqa{C:RC}{W:World}{r:RS}(h:RI C W r)(t:T)(v:Value)(hv:NV C.w Any t v):Calls prog 200 #[.pointer (some ⟨C.rb,0,none⟩),v] W (ValP C W t r):=by
 have HV:=zh hv;obtain⟨A,c,rfl,-⟩:=hv.open_;have nZ:∀(fn:Fn) (first cap:Array Value) (w:World),(Instr.makeFunc fn first cap).run prog w=.ok (.func fn first cap) w:=fun _ _ _ _=>rfl;have hb0:=zkb (zs W) (.cells #[.int .u8 t.k,.int .i64 t.n,.string t.s,.slice A t.ks.length c] 41);have hbx:=box4 (heap_alloc_new W (.cells #[.int .u8 t.k,.int .i64 t.n,.string t.s,.slice A t.ks.length c] 41));obtain⟨y6,-⟩:=(h.later hb0).cells;have HR:=zh (h.later hb0);have HB0:=zh hb0;obtain⟨w1,hW1⟩:=zX (W.alloc (.cells #[.int .u8 t.k,.int .i64 t.n,.string t.s,.slice A t.ks.length c] 41));rw[hW1]at hbx HR HB0 y6;obtain⟨x0,x1,x2,x3⟩:=hbx;have uj:=zh (fun w' (hb:Below w1.heap.size w1 w')=>zp5 (zKm C.w C.n0 C.sb _ r.S HR.out.ks.wf) t _ w' (HV.out.later (zka HR.out.below hb)) (HR.out.ks.later hb));obtain⟨⟨x,y⟩,hx⟩:=zX (zk9 r.S.look t);rw[hx]at uj;have aP:=zh hx
 have az:=zh (show ∀w',Below w1.heap.size w1 w'->(fun w':World=>zv w' W.heap.size 0 (.int .u8 t.k)/\zv w' W.heap.size 1 (.int .i64 t.n)/\zv w' W.heap.size 2 (.string t.s)/\zv w' W.heap.size 3 (.slice A t.ks.length c)/\zv w' C.rb 6 (.pointer (some ⟨C.sb,0,none⟩))) w' from fun w' hb=>⟨zb hb x0,zb hb x1,zb hb x2,zb hb x3,zb hb y6⟩);have ik:=zh (az.out _ zr.drew);clear hv hb0 hx x0 x1 x2 x3 y6 h;go_enter func200,ntmps200;go_upto_region 1 with fail;clear hW1
 go_region_held3 (fun w':World=>zv w' W.heap.size 0 (.int .u8 t.k)/\zv w' W.heap.size 1 (.int .i64 t.n)/\zv w' W.heap.size 2 (.string t.s)/\zv w' W.heap.size 3 (.slice A t.ks.length c)/\zv w' C.rb 6 (.pointer (some ⟨C.sb,0,none⟩)))
  (first|with_reducible exact dL.out|with_reducible exact ik.out)
  (first
   | (go_at_call 167;refine(uj.out _ zr.drew).mono ?_;rintro e y1 ⟨rfl,dZ⟩;have b1:=zka (zs w1).drew dZ;have dL:=zh (az.out _ b1))
   | fail)
 have HB2:=zh (zka HB0.out b1);clear b1 dZ dL;go_wp2_with fail;refine(zlm _ y _).mono ?_;rintro e w3 ⟨rfl,hcs⟩;rcases hcs with⟨rfl,u2,rfl⟩|⟨hy,rfl⟩
 ·go_wp2_with fail;go_ret;refine⟨HB2.out,.inr ⟨x,rfl,?_,fun f=>?_⟩⟩
  ·have:=zwZ HR.out.ks.wf HV.out;rw[aP.out]at this;exact this
  ·unfold valO;rw[aP.out];simp
 ·refine⟨rfl,HB2.out,.inl ⟨y,rfl,fun f=>?_⟩⟩;unfold valO;rw[aP.out,if_pos hy]
theorem zmT{C:RC}(hC:C.Ok){W:World}{r:RS}(h:RI C W r)(t:T)(v:Value)(hv:NV C.w Any t v)(b:Bool):Calls prog 199 #[.pointer (some ⟨C.rb,0,none⟩),v,.bool b] W (RunP C W (zks C.F t b r)):=by
 have HV:=zh hv;obtain⟨A,c,rfl,-⟩:=hv.open_;have hb0:=zkb (zs W) (.cells #[.int .u8 t.k,.int .i64 t.n,.string t.s,.slice A t.ks.length c] 41);obtain⟨x0,x1,x2,x3⟩:=box4 (heap_alloc_new W (.cells #[.int .u8 t.k,.int .i64 t.n,.string t.s,.slice A t.ks.length c] 41));have aD:=zh (Kpt.of_below (n0:=C.n0) (kb:=C.kb) hb0);have iT:=zh (zou hC (h.later hb0) t _ hv);clear hv hb0 h;go_enter func199,ntmps199;go_wp2_with fail;refine iT.out.mono ?_;rintro e w1 ⟨hk1,hb1,ho⟩;have aA:=zh (aD.out.trans hk1);have HB1:=zh hb1;clear hk1 hb1 iT x0 x1 x2 x3 aD;rcases ho with⟨x,rfl,hx⟩|⟨b1,r1,rfl,hr1,hx⟩
 ·refine⟨rfl,aA.out,HB1.out,?_⟩;rw[show zks C.F t b r=.err x from hx _]
 ·have HX:=zh (show zks C.F t b r=if b1=b then .ok r1 else .err 15 from hx _);have HR:=zh hr1;clear hr1 hx;by_cases hbb:b1=b
  ·subst hbb;have bC:=zh (show zks C.F t b1 r=.ok r1 by rw[HX.out,if_pos rfl]);clear HX;go_wp2_with fail;go_end0;refine⟨aA.out,HB1.out,?_⟩;rw[bC.out];exact⟨⟨_,rfl⟩,HR.out⟩
  ·have e1:(b1 != b)=true:=by simpa using hbb
   have e2:(b1==b)=false:=by simpa using hbb
   go_wp2_with fail;refine(zp4 15 (by decide) _).mono ?_;rintro e w2 ⟨rfl,rfl⟩;refine⟨rfl,aA.out,HB1.out,?_⟩;rw[HX.out,if_neg hbb]
def zS(vs:List VD):SS:=⟨vs.map fun v=>List.replicate (fixE v).toNat 0,[],[]⟩
theorem bMkI(n:Nat)(hn:n<=4096)(w:World):(Instr.makeSlice 30 (.int .i64 (n:Int)) (.int .i64 (n:Int))).run prog w=.ok (.slice (some ⟨w.heap.size,0,none⟩) n n) (w.alloc (.cells (madeCells #[.int .i64 0] n) 3)):=by
 obtain⟨i,hi,h1,h2,h3⟩:=info_parts zlU;have:=zlu (P:=prog) 30 3 i (.int .i64 0) underlying30 hi h1 .i64 .i64 n n zl (by rw[h3];omega) (by omega) w;rw[h2,Nat.mul_one]at this;exact this
theorem zt8(w:World)(n0 n:Nat)(h:n0<=w.heap.size)(hn:n<=4096):(w.alloc (.cells (madeCells #[.int .i64 0] n) 3)).ownsRow n0 3 1 (.slice (some ⟨w.heap.size,0,none⟩) n n) (List.replicate n (0:Int)).length (zkg (List.replicate n 0)) :=
 ⟨by simp[zkg],.inr ⟨w.heap.size,n,madeCells #[.int .i64 0] n,by simp,h,heap_alloc_new w _,by simp,by unfold maxLen;omega,by rw[size_madeCells];simp,by rw[zne];simp[zkg]⟩⟩
theorem zrd{W:World}{n0 b3:Nat}{vi:Value}{fc:Nat->Value}{s:SS}(hn:n0<=b3)(h:W.heap[b3]?=some (.cells #[.slice none 0 0,vi,.slice none 0 0] 32 (0,0)))(hv:W.ownsRow n0 3 1 vi 0 [])(hne:vi.ownBlock≠some b3)(h1:s.tin=[])(h2:s.tout=[]) :
  Rws W n0 (zlZ (.slice none 0 0) vi (.slice none 0 0) fc b3 s 0):=by
 refine⟨fun i=>?_,fun i j b hij hi hj=>?_⟩
 ·rcases i with _|i
  ·exact zt7 hn h
  ·cases i with
   | all=>exact zrg _ _ _
   | inp=>simp only[zlZ,h1];exact hv
   | out=>simp only[zlZ,h2];exact zrg _ _ _
   | el i=>simp only[zlZ,Nat.not_lt_zero,if_false];exact zl3 W n0
 ·rcases i with _|i<;>rcases j with _|j
  ·exact hij rfl
  ·cases j<;>simp[zlZ,nilR,Value.ownBlock,boxV]at hi hj
   subst hi;exact hne hj
  ·cases i<;>simp[zlZ,nilR,Value.ownBlock,boxV]at hi hj
   subst hj;exact hne hi
  ·cases i<;>cases j<;>simp[zlZ,nilR,Value.ownBlock]at hi hj hij
theorem zq0{v:VD}(h:vdB v=true):0<=fixE v/\fixE v<=16:=by
 unfold vdB at h;unfold fixE
 split
 ·omega
 ·rename_i h1
  split at h
  ·have:=eq_of_beq h;omega
  ·split at h
   ·have:=of_decide_eq_true h;omega
   ·cases h
theorem zSLim(vs:List VD)(h:svB vs=true):(zS vs).Lim:=by
 simp only[svB,Bool.and_eq_true,decide_eq_true_eq,List.all_eq_true]at h;refine⟨by simp only[zS,List.length_map];unfold LI;omega,fun l hl=>?_,Nat.zero_le _,Nat.zero_le _⟩;obtain⟨v,hv,rfl⟩:=List.mem_map.1 hl;have:=zq0 (h.2 v hv);rw[List.length_replicate];unfold LI;omega
theorem st3{W:World}{b:Nat}{a0 a1 a2:Value}{ty:TypeId}(v0 v1 v2:Value)(h:W.heap[b]?=some (.cells #[a0,a1,a2] ty (0,0))) :
  ∃W',((W.setCell ⟨b,0,none⟩ v0).setCell ⟨b,1,none⟩ v1).setCell ⟨b,2,none⟩ v2=W'/\Chg (fun q=>q=b) W W'/\W'.heap[b]?=some (.cells #[v0,v1,v2] ty (0,0)):=by
 have hch:Chg (fun q=>q=b) W (((W.setCell ⟨b,0,none⟩ v0).setCell ⟨b,1,none⟩ v1).setCell ⟨b,2,none⟩ v2) :=
  (((Chg.refl (fun q=>q=b) W).setCell (p:=⟨b,0,none⟩) (.inl rfl) _).setCell (p:=⟨b,1,none⟩) (.inl rfl) _).setCell (p:=⟨b,2,none⟩) (.inl rfl) _
 have hh:=heap_setCell_same _ b 2 _ _ v2 (heap_setCell_same _ b 1 _ _ v1 (heap_setCell_same W b 0 _ _ v0 h));exact⟨_,rfl,hch,by simpa using hh⟩
def zLe(vs:List VD)(w:World)(e:Ending)(w':World):Prop:=Below w.heap.size w w'/\∃v er,e=.returned (.tuple #[v,.int .i64 er])/\(svB vs=false->er=3/\v=.agg #[.slice none 0 0,.slice none 0 0,.slice none 0 0])/\(svB vs=true->er=0/\OwnS w' w.heap.size (zS vs) v)
theorem zy1:IsFn prog 56 f56:=⟨func56,by kernel_rfl,by kernel_rfl⟩
theorem zxu(vs:List VD)(A:Option Addr)(c:Nat)(w:World)(hrow:RowV w Any A vs)(hl:vs.length<=LV):Calls prog 97 #[.slice A vs.length c,.slice none 0 0] w (zLe vs w):=by
 have hb1:=zkb (zs w) (.cells #[.slice none 0 0,.slice none 0 0,.slice none 0 0] 32);have hk1:=heap_alloc_new w (.cells #[.slice none 0 0,.slice none 0 0,.slice none 0 0] 32);have h1:=bS12;have af:=zh hrow;obtain⟨b0,hb0⟩:=zX (svB vs);have HB0:=zh hb0;have fM:=zh (fun w' (hb:Below w.heap.size w w')=>hb0▸zoY vs A c w' (hrow.later hb) hl);clear hrow hl hb0;go_enter func97,ntmps97;go_upto_region 1 with fail;obtain⟨w1,hw1⟩:=zX (w.alloc (.cells #[.slice none 0 0,.slice none 0 0,.slice none 0 0] 32));rw[hw1]at hb1 hk1 ⊢;have HB1:=zh hb1;have aA:=zh hk1;clear hw1 hb1 hk1;go_wp2_with fail;refine(fM.out _ HB1.out).mono ?_;rintro e w2 ⟨rfl,hb2⟩;have HB2:=zh (zka HB1.out hb2);have aR:=zh (zkc aA.out hb2);have q0:w2.cell? ⟨w.heap.size,0,none⟩=some (.slice none 0 0):=zc aR.out rfl;have q1:w2.cell? ⟨w.heap.size,1,none⟩=some (.slice none 0 0):=zc aR.out rfl
 have q2:w2.cell? ⟨w.heap.size,2,none⟩=some (.slice none 0 0):=zc aR.out rfl;have cf:∀j,w2.frozen? ⟨w.heap.size,j,none⟩=false:=fun j=>zf aR.out;clear hb2
 cases b0
 ·obtain⟨w9,bX,bF,fI⟩:=st3 (.slice none 0 0) (.slice none 0 0) (.slice none 0 0) aR.out;have aH:=zh (HB2.out.trans (bF.below HB2.out.size fun q e=>by have e:q=w.heap.size:=e;omega));obtain⟨t0,t1,t2⟩:=zky fI;clear bF fI;go_wp2_with fail;refine bodyPost_ret (v:=.tuple #[.agg #[.slice none 0 0,.slice none 0 0,.slice none 0 0],.int .i64 3]) (by simp[results,results97,go_sem,t0,t1,t2]) rfl ?_;exact⟨aH.out,_,_,rfl,fun _=>⟨rfl,rfl⟩,fun h=>by rw[HB0.out]at h;cases h⟩
 ·have eP:=zh (zkS [] none 0 Any w2 (fun i hi=>absurd hi (Nat.not_lt_zero i)) (Nat.zero_le _));have hsv:=HB0.out;simp only[svB,Bool.and_eq_true,decide_eq_true_eq,List.all_eq_true]at hsv;have mU:=zh hsv;have hln:vs.length<=32:=hsv.1;clear hsv;go_wp2_with fail;refine eP.out.mono ?_;rintro e w3 ⟨vi,rfl,aV,-,kK⟩;have HB3:=zh (zka HB2.out kK);have dE:=zh aV;clear aV q0 q1 q2 cf eP;obtain⟨B,d,rfl,-⟩:=zkd dE.out;have hk4:=heap_alloc_new w3 (.cells #[.slice none 0 0,.slice none 0 0,.slice none 0 0] 32);have hb4:=zkb (zs w3) (.cells #[.slice none 0 0,.slice none 0 0,.slice none 0 0] 32);obtain⟨w4,hw4⟩:=zX (w3.alloc (.cells #[.slice none 0 0,.slice none 0 0,.slice none 0 0] 32));rw[hw4]at hk4 hb4;obtain⟨b3,hb3⟩:=zX (w3.heap.size);rw[hb3]at hk4;obtain⟨w5,iA,bQ,jr⟩:=st3 (.slice none 0 0) (.slice B 0 d) (.slice none 0 0) hk4
  have aO:=zh (HB3.out.trans (hb4.trans (bQ.below hb4.size fun q e=>by have e:q=b3:=e;omega) |>.mono HB3.out.size));have qZ:=zh (zrd (n0:=w.heap.size+1) (fc:=fun _=>.slice none 0 0) (s:=zS vs) (by have:=kK.size;have:=zko aR.out;omega) jr (zlv (zmi (zkp dE.out hb4) fun q hq=>bQ.block q (Nat.lt_of_lt_of_le (dE.out.lt q hq).2 hb4.size) fun e=>by have e:q=b3:=e;have:=(dE.out.lt q hq).2;omega) (by have:=zko aR.out;omega)) (fun e=>by have:=(dE.out.lt _ e).2;omega) rfl rfl);obtain⟨d0,d1,d2⟩:=zky hk4;have cf:∀j,w4.frozen? ⟨b3,j,none⟩=false:=fun j=>zf hk4;have zg:=zh jr;have iQ:=zh ((bQ.block _ (Nat.lt_of_lt_of_le (zko aR.out) (Nat.le_trans (zka zr kK).size hb4.size)) fun e=>by have e:w.heap.size=b3:=e;have:=zko aR.out;have:=kK.size;omega).trans (zkc (zkc aR.out kK) hb4));clear hb4 hk4 bQ jr kK;go_wp2_with fail
  clear hw4 iA d0 d1 d2 cf h1;obtain⟨vi,rX⟩:=zX (Value.slice B 0 d);rw[rX]at qZ;have xB:=zh rX;clear rX dE zg
  go_loopw [22] (fun i wr=>∃j:Nat,j<=vs.length/\i=.int .i64 j/\Hid (Below w.heap.size w wr)/\∃vc fc,Hid (Rws wr (w.heap.size+1) (zlZ vc vi (.slice none 0 0) fc b3 (zS vs) j))/\Hid (wr.heap[w.heap.size]?=some (.cells #[.slice none 0 0,.slice none 0 0,.slice none 0 0] 32 (0,0)))) (fun i _=>vs.length-(intOf i).toNat)
  case atStart=>exact⟨0,Nat.zero_le _,rfl,aO,_,_,qZ,iQ⟩
  case round =>
   clear qZ aO iQ;obtain⟨j,hj,rfl,ag,vc,fc,HRW,HK⟩:=hrel;by_cases hlt:j<vs.length
   ·have hj1:(j:Int)<(vs.length:Int):=by omega
    have hj0:(0:Int)<=(j:Int):=by omega
    obtain⟨a,v,rfl,-,Hv,⟨p0,p1,p2⟩,hf⟩:=(af.out.later ag.out).nd hlt;have hfx:=zq0 (mU.out.2 _ (List.getElem_mem hlt));rw[Hv.out]at hfx;obtain⟨m,hm⟩:=zX ((fixE v).toNat);have hm2:fixE v=(m:Int):=by omega
    have wX:m<=4096:=by omega
    have jK:=zh (fun w'=>hm2▸zqD v w');have hgd:(zS vs).cells.getD j []=List.replicate m 0:=by
     rw[<-hm,<-Hv.out];simp[zS,List.getD_eq_getElem?_getD,List.getElem?_map,List.getElem?_eq_getElem hlt]
    have HGD:=zh hgd;obtain⟨oN,vk,vn⟩:=v;simp only at p0 p1 p2;have hbx:=zlW (HRW.out.row none);obtain⟨Av,cv,dn,-⟩:=zkd (HRW.out.row (some .all));change vc=.slice Av j cv at dn;subst dn;have jU:=heap_alloc_new wr (.cells #[.string oN,.int .u8 vk,.int .i64 vn] 57);have dh:=zkb (zs wr) (.cells #[.string oN,.int .u8 vk,.int .i64 vn] 57);obtain⟨w9,bX⟩:=zX (wr.alloc (.cells #[.string oN,.int .u8 vk,.int .i64 vn] 57));rw[bX]at jU dh;have aH:=zh dh;have uz:=zh (HRW.out.later aH.out);obtain⟨e0,e1,e2⟩:=zky jU;have hbx:=zlW (uz.out.row none);have x0:w9.cell? ⟨b3,0,none⟩=some (.slice Av j cv):=zc hbx rfl;clear jU dh hgd hm2 hfx hf;go_upto_region 9 with fail;clear bX p0 p1 p2;obtain⟨vb,hvb⟩:=zX (wr.heap.size);have eG:=zh hvb;rw[hvb]at e0 e1 e2 ⊢
    have hS0:(fun w':World=>zN3 w' vb (.string oN) (.int .u8 vk) (.int .i64 vn)) w9.drew/\(fun w':World=>zv w' b3 0 (.slice Av j cv)) w9.drew:=⟨⟨e0,e1,e2⟩,x0⟩
    have az:=zh (show ∀w',Below w9.heap.size w9 w'->(fun w':World=>zN3 w' vb (.string oN) (.int .u8 vk) (.int .i64 vn)) w'/\(fun w':World=>zv w' b3 0 (.slice Av j cv)) w' from fun w' h=>⟨⟨zb h e0,zb h e1,zb h e2⟩,zb h x0⟩);obtain⟨i0,hi0,hq0,hq1,hq2⟩:=info_parts znb;refine wp_region_noPanic ?_;refine zkl (fun w':World=>zN3 w' vb (.string oN) (.int .u8 vk) (.int .i64 vn)) (fun w':World=>zv w' b3 0 (.slice Av j cv)) 8 (by kernel_rfl) ?_;clear e0 e1 e2 x0 hvb;refine zT 0 hS0 ?_;refine zJ 1 hS0 ?_;refine zT 2 hS0 ?_;refine zo 3 fun K hK=>?_;have had:Calls prog 56 [.agg #[.string oN,.int .u8 vk,.int .i64 vn]].toArray w9.drew fun e w'=>∃u,e=.returned u/\(u=.int .i64 (m:Int)/\Below w9.heap.size w9 w') :=
     (jK.out _).mono fun e w' ⟨h1,h2⟩=>⟨_,h1,rfl,zka (zs w9).drew h2⟩
    refine zkf (by rfl) (.func 56) [.tmp 28] _ (by rfl) 56 _ zy1 (by rfl) _ (by rfl) _ had ?_;rintro v8 wb ⟨rfl,hbb⟩;have dC:=zh hbb;refine hK.out _ _ (az.out _ hbb) ?_;clear hK K hS0 hbb had;(try simp only[zQ]);have hmk:=bMkI m wX wb;refine zo 4 fun K hK=>?_;(try simp only[zA,zB,zC]);go_simp;have hb4:=zka dC.out (zkb (zs wb) (.cells (madeCells #[.int .i64 0] m) 3));have hsz:=ag.out.size;have hd1:=(uz.out.later dC.out).upd (some (.el j)) (r:=⟨.slice (some ⟨wb.heap.size,0,none⟩) m m,3,1,(List.replicate m (0:Int)).length,zkg (List.replicate m 0)⟩) (Chg.of_below (zkb (zs wb) (.cells (madeCells #[.int .i64 0] m) 3))) (zt8 wb (w.heap.size+1) m (by have:=aH.out.size;have:=dC.out.size;have:=zko HK.out;omega) wX) (fun b hb=>.inr (by have hb:some wb.heap.size=some b:=hb;injection hb with hb;omega));have HD1:=zh hd1;have aF:=zh hb4
    obtain⟨g,hg⟩:=zX (wb.heap.size);obtain⟨wx,hwx⟩:=zX (wb.alloc (.cells (madeCells #[.int .i64 0] m) 3));rw[hwx]at HD1 aF ⊢;rw[hg]at HD1 ⊢;refine hK.out _ _ (az.out _ aF.out) ?_;clear hK K hmk hd1 hb4 hwx hg uz;(try simp only[zQ]);have h1:=zKs;refine zo 5 fun K hK=>?_;(try simp only[zA,zB,zC]);go_simp;have j3:=zh (zka aF.out (zkb (zs wx) (.cells #[.slice (some ⟨g,0,none⟩) m m] 30)));have HD2:=zh (HD1.out.later (zkb (zs wx) (.cells #[.slice (some ⟨g,0,none⟩) m m] 30)));have aK:=zh (heap_alloc_new wx (.cells #[.slice (some ⟨g,0,none⟩) m m] 30));obtain⟨wc,hwc⟩:=zX (wx.alloc (.cells #[.slice (some ⟨g,0,none⟩) m m] 30));rw[hwc]at j3 HD2 aK ⊢;refine hK.out _ _ (az.out _ j3.out) ?_;clear hK K hwc HD1 h1;(try simp only[zQ]);have hbC:=zka ag.out (zka aH.out j3.out);have oQ:=hbC.size;have hrow:=HD2.out.row (some .all);rw[zkk (by simp)]at hrow
    change wc.ownsRow (w.heap.size+1) 30 1 (.slice Av j cv) j ((List.range j).map fc)at hrow;refine zo 6 fun K hK=>?_;refine zkT (by rfl) (.tmp 27) (.tmp 31) 29 (by rfl) (w.heap.size+1) 30 i0 _ 1 24 underlying29 hi0 hq0 hq1 hq2 rfl (by decide) (.slice Av j cv) j ((List.range j).map fc) (by rfl) hrow ⟨wx.heap.size,0,none⟩ 1 1 [.slice (some ⟨g,0,none⟩) m m] (by rfl) rfl (fun q u hq=>by
     match q,hq with
     | 0,hq=>injection hq with hq;subst hq;exact zc aK.out rfl) (fun u hu=>by simp at hu;subst hu;rfl) (by unfold maxLen;omega) (by omega) (by have:=aH.out.size;have:=j3.out.size;have:=zko HK.out;omega) (fun vd wd ho hg ak=>?_)
    have hd3:=HD2.out.upd (some .all) (r:=⟨vd,30,1,j+1,(List.range j).map fc++[.slice (some ⟨g,0,none⟩) m m]⟩) ((Chg.row hg).mono fun b _ hb=>hb) ho (fun b hb=>by
     rcases ak with h5|h5
     ·exact .inl (h5▸hb)
     ·exact .inr (by rw[h5]at hb;injection hb with hb;omega))
    have HD3:=zh hd3;have hlo:∀g,(Value.slice Av j cv).ownBlock=some g->w.heap.size+1<=g:=fun g e=>(HRW.out.lt (some .all) g e).1;have gJ:Chg (fun b=>(Value.slice Av j cv).ownBlock=some b) wc wd:=Chg.row hg;have hbD:=hbC.grown hg oQ (fun g e=>by have:=hlo g e;omega);have mG:(fun w':World=>zN3 w' vb (.string oN) (.int .u8 vk) (.int .i64 vn)) wd:=by
     obtain⟨f0,f1,f2⟩:=(az.out _ j3.out).1;have hne:∀b,(Value.slice Av j cv).ownBlock=some b->b≠vb:=fun b h e=>by have:=(HRW.out.lt (some .all) b h).2;have:=eG.out;omega
     have hk:=gJ.block vb (World.block_lt_of_cell? wc _ f0) fun h=>hne _ h rfl;exact⟨zkN f0 hk,zkN f1 hk,zkN f2 hk⟩
    have jy:=zlW (HD3.out.row none);have e0:wd.cell? ⟨b3,0,none⟩=some (.slice Av j cv):=zc jy rfl;have ez:wd.frozen? ⟨b3,0,none⟩=false:=zf jy;have hd4:=HD3.out.set none (g:=b3) (o:=0) (by rfl) (by show 0<3;decide) vd;have hd5:Rws (wd.setCell ⟨b3,0,none⟩ vd) (w.heap.size+1) (zlZ vd vi (.slice none 0 0) (fun i=>if i=j then .slice (some ⟨g,0,none⟩) m m else fc i) b3 (zS vs) (j+1)):=by
     rw[<-zxW (.slice Av j cv) vd vi (.slice none 0 0) fc b3 (zS vs) j (List.replicate m 0) (.slice (some ⟨g,0,none⟩) m m) HGD.out];exact hd4
    have HD5:=zh hd5;have hb3lt:=(HD3.out.lt none b3 rfl)
    have hkd:wd.heap[w.heap.size]?=some (.cells #[.slice none 0 0,.slice none 0 0,.slice none 0 0] 32 (0,0)):=gJ.keep (zkc (zkc HK.out aH.out) j3.out) fun h=>by have:=hlo _ h;omega
    have hcs:=((Chg.refl (fun b=>b=b3) wd).setCell (p:=⟨b3,0,none⟩) (.inl rfl) vd)
    have rM:=zh (show Below w.heap.size w (wd.setCell ⟨b3,0,none⟩ vd)from hbD.trans (hcs.below hbD.size fun b e=>by omega));have oH:=zh (hcs.keep hkd fun e=>by have e:w.heap.size=b3:=e;have:=hb3lt;omega);have hS5:(fun w':World=>zN3 w' vb (.string oN) (.int .u8 vk) (.int .i64 vn)) (wd.setCell ⟨b3,0,none⟩ vd):=by
     obtain⟨f0,f1,f2⟩:=mG;have hk:=hcs.block vb (World.block_lt_of_cell? wd _ f0) fun e=>by have e:vb=b3:=e;have:=(HRW.out.lt none b3 rfl).2;have:=eG.out;omega
     exact⟨zkN f0 hk,zkN f1 hk,zkN f2 hk⟩
    obtain⟨Ad,cd',rfl,-⟩:=zkd ho;refine hK.out _ _ ⟨mG,e0⟩ ?_;clear hK K hd3 hd4 hd5 ho hg ak hrow gJ hlo jy hkd hcs hbC hbD az;(try simp only[zQ]);refine zo 7 fun K hK=>?_;(try simp only[zA,zB,zC]);go_simp;refine hK.out _ _ ⟨mG,e0⟩ ?_;clear hK K;(try simp only[zQ]);refine zp 8 fun K hK=>?_;(try simp only[zA,zB,zC]);go_simp;refine hK.out _ _ hS5 ?_;clear hK K;(try simp only[zQ]);refine zd ?_;refine NoPanic.normal ?_;clear mG hS5 e0 ez;go_wp2_with fail
    go_roundw
    case rel=>exact⟨j+1,by omega,by go_num,rM,_,_,HD5,oH⟩
    case measure=>simp[intOf];omega
   ·obtain rfl:j=vs.length:=by omega
    have hj1:¬ (vs.length:Int)<(vs.length:Int):=by omega
    have hbx:=zlW (HRW.out.row none);obtain⟨x0,x1,x2⟩:=zky hbx;obtain⟨Av,cv,dn,-⟩:=zkd (HRW.out.row (some .all));change vc=.slice Av vs.length cv at dn;subst dn;rw[<-xB.out]at x1;obtain⟨w9,bX,bF,fI⟩:=st3 (.slice Av vs.length cv) (.slice B 0 d) (.slice none 0 0) HK.out;obtain⟨q0,q1,q2⟩:=zky HK.out;have cf:∀j,wr.frozen? ⟨w.heap.size,j,none⟩=false:=fun j=>zf HK.out;obtain⟨t0,t1,t2⟩:=zky fI;have aH:=zh (ag.out.trans (bF.below ag.out.size fun q e=>by have e:q=w.heap.size:=e;omega));clear fI hbx;go_wp2_with fail;refine bodyPost_ret (v:=.tuple #[.agg #[.slice Av vs.length cv,.slice B 0 d,.slice none 0 0],.int .i64 0]) (by simp[results,results97,go_sem,t0,t1,t2]) rfl ?_;refine⟨aH.out,_,_,rfl,fun h=>(by rw[HB0.out]at h;cases h),fun _=>⟨rfl,?_⟩⟩;have hre:=zql (b3:=b3) (s:=zS vs) (by rw[show(zS vs).cells.length=vs.length by simp[zS]];exact HRW.out)
    have hrw:=hre.chg bF (fun i b hb e=>by
     have e:b=w.heap.size:=e;have:=(hre.lt i b hb).1;omega)
    rw[<-xB.out]at hrw;exact⟨_,_,_,_,rfl,hrw.mono (by omega),⟨fun l hl x hx=>by
     obtain⟨v,_,rfl⟩:=List.mem_map.1 hl;obtain rfl:=List.eq_of_mem_replicate hx;unfold I64;omega,fun x hx=>(by cases hx),fun x hx=>(by cases hx)⟩⟩
def unrk(r:Int):Int:=if r<0 then 0 else if r.tmod 2=1 then r.tdiv 2+1 else -(r.tdiv 2)
abbrev Bn:=Nat×Nat
def wlo(bs:List Bn):Nat:=(bs.map (·.1)).sum
def whi(h:Int)(bs:List Bn):Int:=(bs.map fun b=>(b.2:Int)*h).sum
def ranE(lo hi:Int):List Int:=(List.range (hi-lo+1).toNat).map fun(m:Nat)=>lo+(m:Int)
def hdC(x:Int):List (List Int)->List (List Int)
 | []=>[]
 | l::ls=>(x::l)::ls
def numE(h:Int)(bs:List Bn)(rec:Int->List (List (List Int))):Nat->Int->List (List (List Int))
 | 0,left=>(rec left).map ([] :: ·)
 | k+1,left=>(ranE (max 0 (left-1-k*h-whi h bs)) (min (h-1) (left-1-k-wlo bs))).flatMap fun r=>(numE h bs rec k (left-1-r)).map (hdC (unrk r))
def zk5(h:Int):List Bn->Int->List (List (List Int))
 | [],_=>[[]]
 | (lo,hi)::bs,left=>(ranE (max lo ((left-whi h bs+h-1).tdiv h)) (min hi (left-wlo bs))).flatMap fun m=>numE h bs (zk5 h bs) m.toNat left
def allB(h:Int)(bs:List Bn):List (List (List Int)):=(ranE (wlo bs) (whi h bs)).flatMap (zk5 h bs)
def FitB(v:Int):List Bn->List (List Int)->Prop
 | [],[]=>True
 | (lo,hi)::bs,x::xs=>lo<=x.length/\x.length<=hi/\(∀e∈x,-v<=e/\e<=v)/\FitB v bs xs
 | _,_=>False
theorem znd{lo hi x:Int}(h:x∈ranE lo hi):lo<=x/\x<=hi:=by
 obtain⟨m,hm,rfl⟩:=List.mem_map.1 h;have:=List.mem_range.1 hm;omega
theorem ztD{v r:Int}(h0:0<=r)(h1:r<=2*v) : -v<=unrk r/\unrk r<=v:=by
 unfold unrk;rw[Int.tmod_eq_emod_of_nonneg h0,Int.tdiv_eq_ediv_of_nonneg h0];rw[if_neg (by omega)]
 split<;>omega
theorem zsb{v h:Int}(hh:h=2*v+1){bs:List Bn}{rec:Int->List (List (List Int))}(hr:∀left,∀x∈rec left,FitB v bs x) :
  ∀(k:Nat) (left:Int),∀x∈numE h bs rec k left,∃l ls,x=l::ls/\l.length=k/\(∀e∈l,-v<=e/\e<=v)/\FitB v bs ls
 | 0,left,x,hx=>by
  obtain⟨y,hy,rfl⟩:=List.mem_map.1 hx;exact⟨[],y,rfl,rfl,by simp,hr _ _ hy⟩
 | k+1,left,x,hx=>by
  rw[numE]at hx;obtain⟨r,hr1,hx⟩:=List.mem_flatMap.1 hx;obtain⟨y,hy,rfl⟩:=List.mem_map.1 hx;obtain⟨l,ls,rfl,h1,h2,h3⟩:=zsb hh hr k _ y hy;have h4:=znd hr1;refine⟨unrk r::l,ls,rfl,by simp[h1],fun e he=>?_,h3⟩;rcases List.mem_cons.1 he with rfl|he
  ·exact ztD (by omega) (by omega)
  ·exact h2 e he
theorem zqI{v h:Int}(hh:h=2*v+1):∀(bs:List Bn) (left:Int),∀x∈zk5 h bs left,FitB v bs x
 | [],left,x,hx=>by
  simp only[zk5,List.mem_singleton]at hx;subst hx;trivial
 | (lo,hi)::bs,left,x,hx=>by
  rw[zk5]at hx;obtain⟨m,hm,hx⟩:=List.mem_flatMap.1 hx;obtain⟨l,ls,rfl,h1,h2,h3⟩:=zsb hh (zqI hh bs) _ _ x hx;have h4:=znd hm;exact⟨by omega,by omega,h2,h3⟩
theorem zpZ{v h:Int}(hh:h=2*v+1){bs:List Bn}:∀x∈allB h bs,FitB v bs x:=fun x hx=>by
 obtain⟨w,_,hx⟩:=List.mem_flatMap.1 hx;exact zqI hh bs w x hx
theorem FitB.len{v:Int}:∀ {bs:List Bn} {x:List (List Int)},FitB v bs x->x.length=bs.length
 | [],[],_=>rfl
 | _::_,_::_,h=>by simp[FitB.len h.2.2.2]
 | [],_::_,h=>h.elim
 | _::_,[],h=>h.elim
theorem FitB.get{v:Int}:∀ {bs:List Bn} {x:List (List Int)},FitB v bs x->∀i (h1:i<bs.length) (h2:i<x.length),bs[i].1<=x[i].length/\x[i].length<=bs[i].2/\∀e∈x[i],-v<=e/\e<=v
 | b::bs,y::x,h,0,_,_=>⟨h.1,h.2.1,h.2.2.1⟩
 | b::bs,y::x,h,i+1,h1,h2=>FitB.get h.2.2.2 i (by simpa using h1) (by simpa using h2)
def sumZ(f:Int->Nat)(A:Int):Nat->Nat
 | 0=>0
 | n+1=>sumZ f A n+f (A+n)
theorem ztL{f g:Int->Nat}(A:Int)(h:∀x,f x<=g x):∀n,sumZ f A n<=sumZ g A n
 | 0=>zl
 | n+1=>Nat.add_le_add (ztL A h n) (h _)
theorem zrQ(f g:Int->Nat)(A:Int):∀n,sumZ (fun x=>f x+g x) A n=sumZ f A n+sumZ g A n
 | 0=>rfl
 | n+1=>by
  rw[sumZ,sumZ,sumZ,zrQ f g A n];omega
theorem zqg(A:Int):∀n,sumZ (fun _=>0) A n=0
 | 0=>rfl
 | n+1=>by rw[sumZ,zqg A n]
theorem zoZ(f:Int->Nat)(A d:Int):∀n,sumZ (fun x=>f (x-d)) A n=sumZ f (A-d) n
 | 0=>rfl
 | n+1=>by
  rw[sumZ,sumZ,zoZ f A d n,show A+(n:Int)-d=A-d+n by omega]
theorem zpy(f:Int->Nat):∀(n:Nat) (A lo hi:Int),A<=lo->hi<A+n->((ranE lo hi).map f).sum<=sumZ f A n:=by
 have key:∀(m:Nat) (lo:Int),(((List.range m).map fun(i:Nat)=>lo+(i:Int)).map f).sum=sumZ f lo m:=by
  intro m lo
  induction m with
  | zero=>rfl
  | succ m ih=>rw[List.range_succ,List.map_append,List.map_append,List.sum_append,ih,sumZ];simp
 have mono:∀(a m:Nat) (A:Int),sumZ f (A+a) m<=sumZ f A (a+m):=by
  intro a m A
  induction m with
  | zero=>exact Nat.zero_le _
  | succ m ih =>
   rw[sumZ,show a+(m+1)=(a+m)+1 by omega,sumZ,show A+(a:Int)+m=A+((a+m:Nat):Int) by omega];omega
 have grow:∀(m k:Nat) (A:Int),sumZ f A m<=sumZ f A (m+k):=by
  intro m k A
  induction k with
  | zero=>exact zl
  | succ k ih=>rw[show m+(k+1)=(m+k)+1 by omega,sumZ];omega
 intro n A lo hi h1 h2;unfold ranE;rw[key];by_cases hm:hi-lo+1<=0
 ·rw[show(hi-lo+1).toNat=0 by omega];exact Nat.zero_le _
 ·obtain⟨a,rfl⟩:∃a:Nat,lo=A+a:=⟨(lo-A).toNat,by omega⟩
  refine Nat.le_trans (mono a _ A) ?_;have:=grow (a+(hi-(A+a)+1).toNat) (n-(a+(hi-(A+a)+1).toNat)) A;rwa[show a+(hi-(A+a)+1).toNat+(n-(a+(hi-(A+a)+1).toNat))=n by omega]at this
theorem zn0{α β:Type}(f:α->List β):∀l:List α,(l.flatMap f).length=(l.map fun x=>(f x).length).sum
 | []=>rfl
 | x::l=>by rw[List.flatMap_cons,List.length_append,zn0 f l,List.map_cons,List.sum_cons]
def Tot(f:Int->Nat)(N:Nat):Prop:=∀(A:Int) (n:Nat),sumZ f A n<=N
theorem Tot.shift{f:Int->Nat}{N:Nat}(h:Tot f N)(d:Int):Tot (fun x=>f (x-d)) N:=fun A n=>by rw[zoZ];exact h _ _
theorem Tot.le{f g:Int->Nat}{N:Nat}(h:Tot f N)(hg:∀x,g x<=f x):Tot g N:=fun A n=>Nat.le_trans (ztL A hg n) (h A n)
theorem Tot.add{f g:Int->Nat}{N M:Nat}(h:Tot f N)(h':Tot g M):Tot (fun x=>f x+g x) (N+M):=fun A n=>by rw[zrQ];exact Nat.add_le_add (h A n) (h' A n)
theorem Tot.many{f:Int->Int->Nat}{F:Nat->Nat}(h:∀i:Nat,Tot (fun x=>f x i) (F i))(lo:Nat):∀m,Tot (fun x=>sumZ (f x) lo m) (((List.range m).map fun i=>F (lo+i)).sum)
 | 0=>fun A n=>by rw[show(fun x=>sumZ (f x) lo 0)=fun _=>0 from rfl,zqg];exact Nat.zero_le _
 | m+1=>by
  rw[List.range_succ,List.map_append,List.sum_append];have:=(Tot.many h lo m).add (h (lo+m));simp only[List.map_cons,List.map_nil,List.sum_cons,List.sum_nil,Nat.add_zero];refine this.le fun x=>?_;rw[sumZ];exact Nat.le_of_eq (by rw[show((lo:Int)+(m:Int))=((lo+m:Nat):Int) by omega])
def nLst(h:Nat)(b:Bn):Nat:=((List.range (b.2+1-b.1)).map fun i=>h ^ (b.1+i)).sum
def nAll(h:Nat):List Bn->Nat
 | []=>1
 | b::bs=>nLst h b*nAll h bs
def fD(h:Int)(bs:List Bn)(w:Int):Nat:=if (wlo bs:Int)<=w/\w<=whi h bs then(zk5 h bs w).length else 0
def fN(h:Int)(bs:List Bn)(k:Nat)(w:Int):Nat:=if (k+wlo bs:Int)<=w/\w<=k*h+whi h bs then(numE h bs (zk5 h bs) k w).length else 0
theorem zmH{f g:Int->Nat}:∀ {l:List Int},(∀x∈l,f x=g x)->(l.map f).sum=(l.map g).sum
 | [],_=>rfl
 | x::l,h=>by
  rw[List.map_cons,List.map_cons,List.sum_cons,List.sum_cons,h x (List.mem_cons_self ..),zmH fun y hy=>h y (List.mem_cons_of_mem _ hy)]
theorem zx0{h:Nat}{bs:List Bn}{N:Nat}(hr:Tot (fD h bs) N):∀k,Tot (fN h bs k) (h ^ k*N)
 | 0=>by
  refine Tot.le (by simpa using hr) fun x=>?_;unfold fN fD;rw[numE,List.length_map];simp
 | k+1=>by
  have h1:∀i:Nat,Tot (fun w=>(fun(w r:Int)=>fN h bs k (w-1-r)) w i) (h ^ k*N):=fun i=>by
   refine((zx0 hr k).shift (1+(i:Int))).le fun x=>?_;simp only;rw[show x-1-(i:Int)=x-(1+i) by omega];exact zl
  have h2:=Tot.many (f:=fun(w r:Int)=>fN h bs k (w-1-r)) (F:=fun _=>h ^ k*N) h1 0 h;have e:((List.range h).map fun _=>h ^ k*N).sum=h ^ (k+1)*N:=by
   rw[List.map_const',List.sum_replicate_nat,List.length_range,Nat.pow_succ,Nat.mul_comm (h ^ k) h,Nat.mul_assoc]
  rw[e]at h2;refine h2.le fun x=>?_;unfold fN
  split
  ·rw[numE,zn0];simp only[List.length_map];rw[zmH (g:=fun r=>fN h bs k (x-1-r)) fun r hr=>by
    have hr:=znd hr;unfold fN;rw[if_pos (by omega)]]
   exact zpy (fun r=>fN h bs k (x-1-r)) h 0 _ _ (by omega) (by omega)
  ·exact Nat.zero_le _
theorem zt4:Tot (fun w=>if w=0 then 1 else 0) 1:=by
 have key:∀(A:Int) (n:Nat),sumZ (fun w=>if w=0 then 1 else 0) A n=if A<=0/\0<A+n then 1 else 0:=by
  intro A n
  induction n with
  | zero=>rw[sumZ,if_neg (by omega)]
  | succ n ih =>
   rw[sumZ,ih];by_cases h1:A<=0/\0<A+(n:Int)
   ·rw[if_pos h1,if_neg (by omega),if_pos (by omega)]
   ·rw[if_neg h1];by_cases h2:A+(n:Int)=0
    ·rw[if_pos h2,if_pos (by omega)]
    ·rw[if_neg h2,if_neg (by omega)]
 intro A n;rw[key]
 split<;>omega
theorem ztJ{a h m:Int}(hh:0<h)(hm:0<=m)(h1:(a+h-1).tdiv h<=m):a<=m*h:=by
 by_cases ha:0<=a+h-1
 ·rw[Int.tdiv_eq_ediv_of_nonneg ha]at h1;have h2:=Int.emod_lt_of_pos (a+h-1) hh;have h3:=Int.mul_ediv_add_emod (a+h-1) h;have h4:h*((a+h-1) / h)<=h*m:=Int.mul_le_mul_of_nonneg_left h1 (by omega);rw[Int.mul_comm m h];omega
 ·have:0<=m*h:=Int.mul_nonneg hm (by omega);omega
theorem zx1{h:Nat}(hh:0<h):∀bs:List Bn,(∀b∈bs,b.1<=b.2)->Tot (fD h bs) (nAll h bs)
 | [],_=>by
  refine zt4.le fun x=>?_;unfold fD;simp only[wlo,whi,zk5,List.map_nil,List.sum_nil,List.length_cons,List.length_nil];by_cases hx:x=0
  ·rw[if_pos hx];split<;>omega
  ·rw[if_neg hx,if_neg (by omega)];exact zl
 | (lo,hi)::bs,hb=>by
  have ih:=zx1 hh bs fun b h=>hb b (List.mem_cons_of_mem _ h);have hlh:lo<=hi:=hb (lo,hi) (List.mem_cons_self ..);have h1:∀i:Nat,Tot (fun w=>(fun(w m:Int)=>fN h bs m.toNat w) w i) (h ^ i*nAll h bs):=fun i=>zx0 ih i;have h2:=Tot.many (f:=fun(w m:Int)=>fN h bs m.toNat w) (F:=fun i=>h ^ i*nAll h bs) h1 lo (hi+1-lo);have e:((List.range (hi+1-lo)).map fun i=>h ^ (lo+i)*nAll h bs).sum=nAll h ((lo,hi)::bs):=by
   rw[nAll,nLst]
   induction List.range (hi+1-lo)with
   | nil=>simp
   | cons x l ih=>rw[List.map_cons,List.sum_cons,ih,List.map_cons,List.sum_cons,Nat.add_mul]
  rw[e]at h2;refine h2.le fun x=>?_;have e1:wlo ((lo,hi)::bs)=lo+wlo bs:=by simp[wlo]
  have e2:whi h ((lo,hi)::bs)=hi*h+whi h bs:=by simp[whi]
  rw[fD,zk5]
  split
  ·rename_i hx;rw[zn0,zmH (g:=fun m=>fN h bs m.toNat x) fun m hm=>by
    have hm:=znd hm;have hm0:0<=m:=by omega
    have hc:(x-whi h bs+h-1).tdiv h<=m:=by omega
    have hc2:=ztJ (by omega) hm0 hc;rw[fN,if_pos];rw[show((m.toNat:Nat):Int)=m by omega];omega]
   exact zpy (fun m=>fN h bs m.toNat x) (hi+1-lo) lo _ _ (by omega) (by omega)
  ·exact Nat.zero_le _
theorem zzw{h:Nat}(hh:0<h){bs:List Bn}(hb:∀b∈bs,b.1<=b.2):(allB h bs).length<=nAll h bs:=by
 unfold allB;rw[zn0,zmH (g:=fD h bs) fun w hw=>by
  have hw:=znd hw;rw[fD,if_pos hw]]
 refine Nat.le_trans (zpy (fD h bs) (whi h bs-wlo bs+1).toNat (wlo bs) _ _ (by omega) (by omega)) (zx1 hh bs hb _ _)
end
end Go.Proofs.YtembgnhbpmfhpaaGreat
