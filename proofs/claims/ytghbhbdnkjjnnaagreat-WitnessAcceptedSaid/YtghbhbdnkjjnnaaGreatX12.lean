import Derived.Test.YtghbhbdnkjjnnaaGreatX11
import Derived.Test.YtghbhbdnkjjnnaaGreatRows
import Derived.ProofKit
import Derived.SizedLaws
import Derived.Deep.Slices
import Derived.Deep.Fields
import Derived.Lib.SmallJoins
import Derived.ChangeSlices
set_option linter.unusedSimpArgs false
set_option linter.unusedVariables false
set_option maxHeartbeats 8000000
set_option maxRecDepth 100000
namespace Go.Proofs.YtghbhbdnkjjnnaaGreat
section
open Go Go.RowKit
theorem zsb{k n:Int}{s:ByteArray}{ks:List T}{nm:ByteArray}(h:menB (.nd k n s ks) nm=false):(2<=k/\k<=5->(s.toList==nm.toList)=false)/\∀t∈ks,menB t nm=false:=by
 simp only[menB,po,List.any_cons,Bool.or_eq_false_iff]at h;refine⟨fun hk=>?_,fun t ht=>?_⟩
 ·have h1:=h.1;simp only[zmv,T.k_nd,T.s_nd,Bool.and_eq_false_iff]at h1;rcases h1 with h1|h1
  ·simp only[Bool.or_eq_false_iff,beq_eq_false_iff_ne]at h1;omega
  ·exact h1
 ·have h2:=h.2;rw[List.any_eq_false]at h2;rw[menB,List.any_eq_false];exact fun u hu=>h2 u (zmH.2 ⟨t,ht,hu⟩)
theorem zsm{look look':ByteArray->Option (List Int)}{fK:List ByteArray}(h:∀s:ByteArray,(∀nm∈fK,(s.toList==nm.toList)=false)->look' s=look s):∀t,(∀nm∈fK,menB t nm=false)->evE look' t=evE look t:=by
 intro t
 induction t using T.ind with
 | _ k n s ks ih =>
  intro hm;rw[evE,evE,znw,znw];have e:ks.map (evE look')=ks.map (evE look):=List.map_congr_left fun t ht=>ih t ht fun nm hn=>(zsb (hm nm hn)).2 t ht;rw[e];unfold evK
  split
  ·rfl
  ·split
   ·rename_i hk;unfold varE;rw[h s fun nm hn=>(zsb (hm nm hn)).1 hk]
   ·rfl
theorem zs9{look look':ByteArray->Option (List Int)}{fK:List ByteArray}(h:∀s:ByteArray,(∀nm∈fK,(s.toList==nm.toList)=false)->look' s=look s)(t:T)(hm:∀nm∈fK,menB t nm=false):zls look' t=zls look t:=by
 unfold zls;rw[zsm h t hm]
theorem zqz{look look':ByteArray->Option (List Int)}{fK:List ByteArray}(h:∀s:ByteArray,(∀nm∈fK,(s.toList==nm.toList)=false)->look' s=look s)(t:T)(hm:∀nm∈fK,idxB t nm=false):indE look' t=indE look t:=by
 unfold indE
 split
 ·rename_i hp
  split
  ·rfl
  ·rename_i h2;have h3:t.k=3:=by
    simp only[isP,Bool.and_eq_true,Bool.or_eq_true,beq_iff_eq]at hp;omega
   refine zsm h _ fun nm hn=>?_;have:=hm nm hn;simpa[idxB,h3,kidC]using this
 ·rfl
theorem zv5{x:Int}(hx:I64 x)(y:Int):bits BinOp.xor IntKind.i64 (bits BinOp.xor IntKind.i64 x y) y=x:=by
 show IntKind.i64.wrap (((BitVec.ofInt 64 (IntKind.i64.wrap ((BitVec.ofInt 64 x ^^^ BitVec.ofInt 64 y).toNat:Int)) ^^^ BitVec.ofInt 64 y).toNat:Nat):Int)=x
 have e:BitVec.ofInt 64 (IntKind.i64.wrap ((BitVec.ofInt 64 x ^^^ BitVec.ofInt 64 y).toNat:Int))=BitVec.ofInt 64 x ^^^ BitVec.ofInt 64 y:=by
  generalize BitVec.ofInt 64 x ^^^ BitVec.ofInt 64 y=c;apply BitVec.eq_of_toNat_eq;rw[BitVec.toNat_ofInt,IntKind.wrap_i64];have:=c.isLt;omega
 rw[e,BitVec.xor_assoc,BitVec.xor_self,BitVec.xor_zero,BitVec.toNat_ofInt,IntKind.wrap_i64];obtain⟨h1,h2⟩:=hx;omega
theorem ztC{k x:Int}(hk:k=40\/k=41\/k=42)(hx:I64 x)(y:Int):updE (zkO k) (updE k x y) y=x:=by
 obtain⟨h1,h2⟩:=hx;rcases hk with rfl|rfl|rfl
 ·show wrap64 (wrap64 (x+y)-y)=x
  unfold wrap64;omega
 ·show wrap64 (wrap64 (x-y)+y)=x
  unfold wrap64;omega
 ·exact zv5 ⟨h1,h2⟩ y
section
variable {S:ST}
theorem zyJ{S:ST}{f:Nat->List Int}(h:f=S.cell):({ S with cell:=f }:ST)=S:=by subst h;rfl
theorem zoo(S:ST)(id:Nat):S.setL id (S.cell id)=S:=zyJ (by funext j;split<;>simp_all)
theorem zmD(S:ST)(id:Nat)(l m:List Int):(S.setL id l).setL id m=S.setL id m:=by
 unfold ST.setL;congr 1;funext j;simp only
 split<;>rfl
theorem zop(S:ST){a b:Nat}(h:a≠b)(l m:List Int):(S.setL a l).setL b m=(S.setL b m).setL a l:=by
 unfold ST.setL;congr 1;funext j;simp only;by_cases e:j=b
 ·subst e;rw[if_pos rfl,if_neg (Ne.symm h),if_pos rfl]
 ·rw[if_neg e,if_neg e]
theorem znb(S:ST)(id:Nat)(l:List Int):(S.setL id l).cell id=l:=by simp[ST.setL]
theorem zlF(S:ST){id j:Nat}(h:j≠id)(l:List Int):(S.setL id l).cell j=S.cell j:=by simp[ST.setL,h]
theorem zmn(S:ST)(id i:Nat)(x y:Int):(S.put id i x).put id i y=S.put id i y:=by
 unfold ST.put;rw[znb,zmD,List.set_set]
theorem zwo(l:List Int)(i:Nat):l.set i (l.getD i 0)=l:=by
 rcases Nat.lt_or_ge i l.length with h|h
 ·rw[List.getD_eq_getElem?_getD,List.getElem?_eq_getElem h,Option.getD_some,List.set_getElem_self]
 ·rw[List.set_eq_of_length_le h]
theorem zmi(S:ST)(id i:Nat):S.put id i (S.el id i)=S:=by
 unfold ST.put ST.el;rw[zwo,zoo]
theorem zmo(S:ST)(id i:Nat)(x:Int)(j:Nat):((S.put id i x).cell j).length=(S.cell j).length:=by
 by_cases e:j=id
 ·subst e;unfold ST.put;rw[znb,List.length_set]
 ·unfold ST.put;rw[zlF _ e]
theorem znq(S:ST){id i:Nat}(h:i<(S.cell id).length)(x:Int):(S.put id i x).el id i=x:=by
 unfold ST.el ST.put;rw[znb,List.getD_eq_getElem?_getD,List.getElem?_set_self h,Option.getD_some]
theorem zme(S:ST){id j:Nat}(h:j≠id)(i:Nat)(x:Int):(S.put id i x).cell j=S.cell j:=zlF S h _
theorem put_comm(S:ST){id jd i j:Nat}(h:id≠jd\/i≠j)(x y:Int):(S.put id i x).put jd j y=(S.put jd j y).put id i x:=by
 by_cases e:id=jd
 ·subst e;have hij:=h.resolve_left (fun h=>h rfl);unfold ST.put;rw[znb,znb,zmD,zmD,List.set_comm _ _ hij]
 ·have e1:(S.put id i x).cell jd=S.cell jd:=zme S (Ne.symm e) i x;have e2:(S.put jd j y).cell id=S.cell id:=zme S e j y
  show(S.put id i x).setL jd (((S.put id i x).cell jd).set j y)=(S.put jd j y).setL id (((S.put jd j y).cell id).set i x)
  rw[e1,e2];exact zop S e _ _
theorem ztI(S:ST){id i jd j:Nat}(hi:i<(S.cell id).length)(hj:j<(S.cell jd).length):zna (zna S id i jd j) id i jd j=S:=by
 unfold zna;by_cases e:id=jd/\i=j
 ·obtain⟨rfl,rfl⟩:=e;rw[zmi,zmi,zmi,zmi]
 ·have hne:id≠jd\/i≠j:=by
   rcases Decidable.em (id=jd)with h|h
   ·exact .inr fun h'=>e ⟨h,h'⟩
   ·exact .inl h
  obtain⟨x,hx⟩:=zX (S.el id i);obtain⟨y,hy⟩:=zX (S.el jd j);rw[hx,hy];have e1:((S.put id i y).put jd j x).el jd j=x:=znq _ (by rw[zmo];exact hj) x;have e2:((S.put id i y).put jd j x).el id i=y:=by
   rw[put_comm S hne];exact znq _ (by rw[zmo];exact hi) y
  rw[e1,e2,put_comm S hne,zmn,<-put_comm S hne,zmn,<-hx,zmi,<-hy,zmi]
theorem znK{vs:List VD}{s:ByteArray}:∀ {j i:Nat},zlo vs s j=some i->∃v,vs[i]?=some v/\(v.s.toList==s.toList)=true
 | 0,_,h=>by simp[zlo]at h
 | j+1,i,h=>by
  rw[zlo]at h
  split at h
  ·rename_i hb;injection h with h;subst h
   cases hv:vs[j]? with
   | none=>rw[hv]at hb;simp at hb
   | some v=>rw[hv]at hb;exact⟨v,rfl,hb⟩
  ·exact znK h
theorem zyT(hnd:S.cur.cs.Nodup){s s':ByteArray}{id:Nat}(h:S.num s=some id)(h':S.num s'=some id):(s.toList==s'.toList)=true:=by
 unfold ST.num at h h';obtain⟨i,h1,h2⟩:=Option.bind_eq_some_iff.1 h;obtain⟨j,h3,h4⟩:=Option.bind_eq_some_iff.1 h';obtain⟨a1,a2⟩:=List.getElem?_eq_some_iff.1 h2;obtain⟨b1,b2⟩:=List.getElem?_eq_some_iff.1 h4;have hij:i=j:=(List.getElem_inj hnd).1 (a2.trans b2.symm);subst hij;obtain⟨v,c1,c2⟩:=znK h1;obtain⟨v',d1,d2⟩:=znK h3;rw[c1]at d1;injection d1 with d1;subst d1;rw[beq_iff_eq]at c2 d2 ⊢;rw[<-c2,<-d2]
theorem zsZ{S1:ST}(hnd:S.cur.cs.Nodup)(hf:S1.base=S.base/\S1.calls=S.calls)(fK:List ByteArray)(hc:∀id,(∀nm∈fK,S.num nm≠some id)->S1.cell id=S.cell id)(s:ByteArray)(hs:∀nm∈fK,(s.toList==nm.toList)=false):S1.look s=S.look s:=by
 have e:S1.num s=S.num s:=by unfold ST.num ST.cur;rw[hf.1,hf.2]
 unfold ST.look;rw[e]
 cases hn:S.num s with
 | none=>rfl
 | some id =>
  simp only[Option.map_some,Option.some.injEq];refine hc id fun nm hm h2=>?_;have:=zyT hnd hn h2;rw[hs nm hm]at this
  cases this
theorem zy1{k n:Int}{s:ByteArray}{ks:List T}(h:isS (.nd k n s ks)=true)(hb:basB k=true):isS (.nd (zkO k) n s ks)=true:=by
 have hr:=of_decide_eq_true hb;have:k=40\/k=41\/k=42\/k=43\/k=44\/k=45\/k=46\/k=47\/k=48\/k=49:=by omega
 rcases this with rfl|rfl|rfl|rfl|rfl|rfl|rfl|rfl|rfl|rfl<;>simpa[isS,zkO]using h
theorem zwM(k:Int):zn3 (zkO k)=zn3 k:=by
 unfold zkO
 repeat' split
 all_goals first|rfl|(subst_vars;rfl)
theorem zzf(vs:List VD)(k n:Int)(s:ByteArray)(ks:List T):fltE vs (.nd (zkO k) n s ks)=fltE vs (.nd k n s ks):=by
 rw[fltE,fltE];unfold ownE;rw[zwM]
theorem zvn{k:Int}(hb:basB k=true):basB (zkO k)=true/\zkO k≠56/\zkO (zkO k)=k:=by
 have hr:=of_decide_eq_true hb;have:k=40\/k=41\/k=42\/k=43\/k=44\/k=45\/k=46\/k=47\/k=48\/k=49:=by omega
 rcases this with rfl|rfl|rfl|rfl|rfl|rfl|rfl|rfl|rfl|rfl<;>exact⟨rfl,by decide,rfl⟩
theorem zu5{k n:Int}{s:ByteArray}{ks:List T}(hs:isS (.nd k n s ks)=true)(hk:k≠56)(hb:basB k=true)(hf:fltE S.cur.vs (.nd k n s ks)=0):doE S (.nd k n s ks)=zk0 S k s (ks.getD 0 nil0) (ks.getD 1 nil0) (indE S.look (ks.getD 0 nil0)) (zkR S k (ks.getD 1 nil0)):=by
 unfold doE;rw[if_neg (by rw[hs];decide),if_neg (by exact hk),if_neg (by show ¬ basB k=false;rw[hb];decide),if_neg (by rw[hf];decide)];rfl
theorem zny{ks:List T}{fK:List ByteArray}(h:aliB ks fK=false){t:T}(ht:t∈ks):∀nm∈fK,idxB t nm=false:=by
 intro nm hn;unfold aliB at h;rw[List.any_eq_false]at h;have:=h t ht;rw[List.any_eq_true]at this;simp only[not_exists,not_and,Bool.not_eq_true]at this;exact this nm hn
theorem zsY{k:Int}(hk:k=44\/k=45){id i af:Nat}(hne:id≠af)(hi:i<(S.cell id).length)(hl:(S.cell af).length<=1000)(h0:(zle S k id i af).1=0):zle (zle S k id i af).2 (zkO k) id i af=(0,S):=by
 rcases hk with rfl|rfl
 ·unfold zle at h0 ⊢;rw[if_pos rfl]at h0 ⊢
  split at h0
  ·cases h0
  rename_i hf;rw[if_neg hf]
  show(if (zkO 44)=44 then _ else _)=_
  rw[if_neg (by decide)];dsimp only;obtain⟨x,hx⟩:=zX (S.el id i);rw[hx];have e1:(((S.setL af (S.cell af++[x])).put id i 0).cell af)=S.cell af++[x]:=by rw[zme _ (Ne.symm hne),znb]
  have e2:((S.setL af (S.cell af++[x])).put id i 0).el id i=0:=znq _ (by rw[zlF _ hne];exact hi) 0;have e3:((S.setL af (S.cell af++[x])).put id i 0).el af ((S.cell af++[x]).length-1)=x:=by unfold ST.el;rw[e1];simp
  rw[e1,e2,e3,if_neg (by simp),if_neg (by simp),zmn];have e4:(S.cell af++[x]).take ((S.cell af++[x]).length-1)=S.cell af:=by simp
  rw[e4];have e5:(S.setL af (S.cell af++[x])).put id i x=(S.put id i x).setL af (S.cell af++[x]):=by
   unfold ST.put;rw[zlF _ hne,zop _ (Ne.symm hne)]
  have e6:(S.put id i x)=S:=by rw[<-hx];exact zmi S id i
  rw[e5,zmD,e6,zoo]
 ·unfold zle at h0 ⊢;rw[if_neg (show ¬ ((45:Int)=44) by decide)]at h0 ⊢
  split at h0
  ·cases h0
  rename_i hf;rw[if_neg hf]
  split at h0
  ·cases h0
  rename_i hz;rw[if_neg hz];have hz:=Decidable.not_not.1 hz
  show(if (zkO 45)=44 then _ else _)=_
  rw[if_pos (by decide)];dsimp only;obtain⟨x,hx⟩:=zX (S.el af ((S.cell af).length-1));rw[hx];have hsd:(S.cell af).take ((S.cell af).length-1)++[x]=S.cell af:=by
   have hl:S.cell af≠[]:=fun e=>hf (by rw[e];rfl);have:x=(S.cell af).getLast hl:=by
    rw[<-hx];unfold ST.el;rw[List.getD_eq_getElem?_getD,List.getElem?_eq_getElem (by omega),Option.getD_some,List.getLast_eq_getElem]
   rw[this,<-List.dropLast_eq_take];exact List.dropLast_concat_getLast hl
  have e1:(((S.put id i x).setL af ((S.cell af).take ((S.cell af).length-1))).cell af)=(S.cell af).take ((S.cell af).length-1):=znb _ _ _;have e2:((S.put id i x).setL af ((S.cell af).take ((S.cell af).length-1))).el id i=x:=by
   unfold ST.el;rw[zlF _ hne];exact znq S hi x
  rw[e1,e2,if_neg (by rw[List.length_take];omega),zmD,hsd];have e5:((S.put id i x).setL af (S.cell af)).put id i 0=((S.put id i x).put id i 0).setL af (S.cell af):=by
   show _=((S.put id i x).setL id (((S.put id i x).cell id).set i 0)).setL af (S.cell af)
   rw[zop _ hne];unfold ST.put;rw[zlF _ hne]
  have e6:S.put id i 0=S:=by rw[<-hz];exact zmi S id i
  rw[e5,zmn,e6,zoo]
theorem zyP(S:ST)(l:List Int)(id i:Nat)(x:Int):({ S with tin:=l }:ST).put id i x={ S.put id i x with tin:=l }:=rfl
theorem zq6(h:S.WF){k:Int}(hk:k=46\/k=47\/k=48\/k=49){id i:Nat}(hi:i<(S.cell id).length)(h0:(zkp S k id i).1=0):zkp (zkp S k id i).2 (zkO k) id i=(0,S):=by
 have ht:=h.tin.1;have ho:=h.tout.1;have key:∀(l m:List Int) (y:Int),({ S with tin:=l,tout:=m }:ST).put id i y={ S.put id i y with tin:=l,tout:=m }:=fun _ _ _=>rfl;rcases hk with rfl|rfl|rfl|rfl
 ·unfold zkp at h0;rw[if_pos rfl]at h0;obtain⟨y,r,hl⟩:∃y r,S.tin=y::r:=by
   cases hl:S.tin with
   | nil=>rw[hl]at h0;cases h0
   | cons y r=>exact⟨y,r,rfl⟩
  rw[hl]at h0 ht;dsimp only at h0
  split at h0
  ·cases h0
  rename_i hz;have hz:=Decidable.not_not.1 hz;have e:zkp S 46 id i=(0,({ S with tin:=r }:ST).put id i y):=by
   unfold zkp;rw[if_pos rfl,hl];dsimp only;rw[if_neg (by rw[hz];decide)]
  rw[e]
  show zkp (({ S with tin:=r }:ST).put id i y) 47 id i=(0,S)
  unfold zkp;rw[if_neg (by decide),if_neg (by decide),if_pos rfl];have e2:(({ S with tin:=r }:ST).put id i y).el id i=y:=znq (S:={ S with tin:=r }) hi y;rw[e2,if_neg (by show ¬ 4096<=r.length;simp at ht;omega)];congr 1;have e3:(({ S with tin:=y::r }:ST).put id i y).put id i 0=S:=by
   rw[zmn,zyP,<-hz,zmi,<-hl]
  exact e3
 ·unfold zkp at h0;rw[if_neg (by decide),if_neg (by decide),if_pos rfl]at h0
  split at h0
  ·cases h0
  rename_i hz;obtain⟨x,hx⟩:=zX (S.el id i);have e:zkp S 47 id i=(0,({ S with tin:=x::S.tin }:ST).put id i 0):=by
   unfold zkp;rw[if_neg (by decide),if_neg (by decide),if_pos rfl,if_neg hz,hx]
  rw[e]
  show zkp (({ S with tin:=x::S.tin }:ST).put id i 0) 46 id i=(0,S)
  unfold zkp;rw[if_pos rfl];have e2:(({ S with tin:=x::S.tin }:ST).put id i 0).el id i=0:=znq (S:={ S with tin:=x::S.tin }) hi 0
  show(if (({ S with tin:=x::S.tin }:ST).put id i 0).el id i≠0 then _ else _)=_
  rw[e2,if_neg (by simp)];congr 1;have e3:(S.put id i 0).put id i x=S:=by rw[zmn,<-hx,zmi]
  exact e3
 ·unfold zkp at h0;rw[if_neg (by decide),if_neg (by decide),if_neg (by decide)]at h0
  split at h0
  ·cases h0
  rename_i hz;obtain⟨x,hx⟩:=zX (S.el id i);have e:zkp S 48 id i=(0,({ S with tout:=S.tout++[x] }:ST).put id i 0):=by
   unfold zkp;rw[if_neg (by decide),if_neg (by decide),if_neg (by decide),if_neg hz,hx]
  rw[e]
  show zkp (({ S with tout:=S.tout++[x] }:ST).put id i 0) 49 id i=(0,S)
  unfold zkp;rw[if_neg (by decide),if_pos rfl];have e2:(({ S with tout:=S.tout++[x] }:ST).put id i 0).el id i=0:=znq (S:={ S with tout:=S.tout++[x] }) hi 0;have et:(({ S with tout:=S.tout++[x] }:ST).put id i 0).tout=S.tout++[x]:=rfl;rw[e2,et,if_neg (by simp),if_neg (by simp)];congr 1;have e3:(S.put id i 0).put id i x=S:=by rw[zmn,<-hx,zmi]
  have e4:(S.tout++[x]).dropLast=S.tout:=by simp
  have e5:(S.tout++[x]).getLast?.getD 0=x:=by simp
  rw[e4,e5];exact e3
 ·unfold zkp at h0;rw[if_neg (by decide),if_pos rfl]at h0
  split at h0
  ·cases h0
  rename_i hn
  split at h0
  ·cases h0
  rename_i hz;have hz:=Decidable.not_not.1 hz;obtain⟨y,hy⟩:=zX (S.tout.getLast?.getD 0);have e:zkp S 49 id i=(0,({ S with tout:=S.tout.dropLast }:ST).put id i y):=by
   unfold zkp;rw[if_neg (by decide),if_pos rfl,if_neg hn,if_neg (by rw[hz];decide),hy]
  rw[e]
  show zkp (({ S with tout:=S.tout.dropLast }:ST).put id i y) 48 id i=(0,S)
  unfold zkp;rw[if_neg (by decide),if_neg (by decide),if_neg (by decide)];have e2:(({ S with tout:=S.tout.dropLast }:ST).put id i y).el id i=y:=znq (S:={ S with tout:=S.tout.dropLast }) hi y;have et:(({ S with tout:=S.tout.dropLast }:ST).put id i y).tout=S.tout.dropLast:=rfl;have hpos:0<S.tout.length:=List.length_pos_iff.2 hn;rw[e2,et,if_neg (by simp;omega)];congr 1;have e4:S.tout.dropLast++[y]=S.tout:=by
   have:y=S.tout.getLast hn:=by rw[<-hy,List.getLast?_eq_some_getLast hn];rfl
   rw[this];exact List.dropLast_concat_getLast hn
  have e3:(S.put id i y).put id i 0=S:=by rw[zmn,<-hz,zmi]
  rw[e4];exact e3
theorem zu6(h:S.WF){k n:Int}{s:ByteArray}{ks:List T}(h0:(doE S (.nd k n s ks)).1=0) :
  ∃id kp,S.num (ks.getD 0 nil0).s=some id/\CurK S id kp/\kp≠3/\(indE S.look (ks.getD 0 nil0)).2=0/\(zkR S k (ks.getD 1 nil0)).2=0/\0<=(indE S.look (ks.getD 0 nil0)).1/\(indE S.look (ks.getD 0 nil0)).1.toNat<(S.cell id).length /\
   doE S (.nd k n s ks)=zkw S k s (ks.getD 1 nil0).s (zkR S k (ks.getD 1 nil0)).1 id (indE S.look (ks.getD 0 nil0)).1.toNat:=by
 obtain⟨hs,eB,hb,hf,-⟩:=zu7 h0;simp only[T.k_nd]at eB hb;have hp:∃id kp,S.num (ks.getD 0 nil0).s=some id/\CurK S id kp/\kp≠3:=by
  obtain⟨-,fk⟩:=znO hf;rcases zoD hs hb with⟨_,p,q,rfl,hp,_⟩|⟨_,p,q,rfl,hp,_⟩|⟨_,p,rfl,hp⟩
  ·exact zmp h hp (zlH fk p (by simp))
  ·exact zmp h hp (zlH fk p (by simp))
  ·exact zmp h hp (zlH fk p (by simp))
 obtain⟨id,kp,h1,h2,h3⟩:=hp;rw[zu5 hs eB hb hf]at h0 ⊢;unfold zk0 at h0 ⊢
 split at h0
 ·rename_i e;exact absurd h0 e
 rename_i e1;rw[if_neg e1];unfold zmu at h0 ⊢
 split at h0
 ·rename_i e;exact absurd h0 e
 rename_i e2;rw[if_neg e2];rw[h1]at h0 ⊢;dsimp only at h0 ⊢
 split at h0
 ·rename_i e3;rw[if_pos e3];exact⟨id,kp,rfl,h2,h3,Decidable.not_not.1 e1,Decidable.not_not.1 e2,e3.1,by omega,rfl⟩
 ·cases h0
theorem zxt{k n:Int}{s:ByteArray}{ks:List T}(hs:isS (.nd k n s ks)=true)(eB:k≠56)(hb:basB k=true)(hf:fltE S.cur.vs (.nd k n s ks)=0){id i:Nat}{y:Int}(h1:S.num (ks.getD 0 nil0).s=some id)(h2:indE S.look (ks.getD 0 nil0)=((i:Int),0))(h3:zkR S k (ks.getD 1 nil0)=(y,0))(h4:i<(S.cell id).length) :
  doE S (.nd k n s ks)=zkw S k s (ks.getD 1 nil0).s y id i:=by
 rw[zu5 hs eB hb hf];unfold zk0;rw[h2,h3,if_neg (by simp)];unfold zmu;rw[if_neg (by simp),h1];dsimp only;rw[if_pos (by omega)];simp
theorem zss(h:S.WF)(hnd:S.cur.cs.Nodup){t:T}(hr:rejE t=0)(h0:(doE S t).1=0):zld (doE S t).2 t=(0,S):=by
 obtain⟨k,n,s,ks⟩:=t;obtain⟨hs,eB,hb,hf,-⟩:=zu7 h0;simp only[T.k_nd]at eB hb;obtain⟨f1,f2,f3⟩:=zm0 (S:=S) (.nd k n s ks);obtain⟨id,kp,a1,a2,a3,a4,a5,a6,a7,a8⟩:=zu6 h h0;obtain⟨i,hi⟩:=zX ((indE S.look (ks.getD 0 nil0)).1.toNat);obtain⟨y,hy⟩:=zX ((zkR S k (ks.getD 1 nil0)).1);rw[hi,hy]at a8;rw[hi]at a7;have b1:indE S.look (ks.getD 0 nil0)=((i:Int),0):=Prod.ext (by simp only;omega) a4;have b2:zkR S k (ks.getD 1 nil0)=(y,0):=Prod.ext hy a5;have hid:=a2.lt h;rw[a8]at h0 f1 f2 f3 ⊢;obtain⟨c1,c2,c3⟩:=zvn hb
 -- what the second one comes to,once the places are the same
 have key:∀fK:List ByteArray,(∀j,(∀nm∈fK,S.num nm≠some j)->(zkw S k s (ks.getD 1 nil0).s y id i).2.cell j=S.cell j)->(∀nm∈fK,idxB (ks.getD 0 nil0) nm=false) ->
   ((∀s',(∀nm∈fK,(s'.toList==nm.toList)=false)->(zkw S k s (ks.getD 1 nil0).s y id i).2.look s'=S.look s')->zkR (zkw S k s (ks.getD 1 nil0).s y id i).2 (zkO k) (ks.getD 1 nil0)=(y,0)) ->
   i<((zkw S k s (ks.getD 1 nil0).s y id i).2.cell id).length ->
   zld (zkw S k s (ks.getD 1 nil0).s y id i).2 (.nd k n s ks)=zkw (zkw S k s (ks.getD 1 nil0).s y id i).2 (zkO k) s (ks.getD 1 nil0).s y id i:=by
  intro fK hc hp hr2 hl;have hlk:=zsZ hnd ⟨f1,f2⟩ fK hc;have hnum:∀s',(zkw S k s (ks.getD 1 nil0).s y id i).2.num s'=S.num s':=fun s'=>by unfold ST.num ST.cur;rw[f1,f2]
  show doE _ (.nd (zkO k) n s ks)=_
  refine zxt (zy1 hs hb) c2 c1 ?_ ((hnum _).trans a1) ((zqz hlk _ hp).trans b1) (hr2 hlk) hl;rw[zzf];have:(zkw S k s (ks.getD 1 nil0).s y id i).2.cur=S.cur:=by unfold ST.cur;rw[f1,f2]
  rw[this];exact hf
 rw[zri,if_neg eB]at hr;rcases zoD hs hb with⟨hk,p,q,rfl,hp,hq⟩|⟨rfl,p,q,rfl,hp,hq⟩|⟨hk,p,rfl,hp⟩
 ·rw[if_pos hk]at hr
  split at hr
  ·cases hr
  rename_i iL;simp only[Bool.or_eq_true,not_or,Bool.not_eq_true]at iL;have e3:∀S':ST,∀k',(k'=40\/k'=41\/k'=42)->zkw S' k' s q.s y id i=(0,S'.put id i (updE k' (S'.el id i) y)):=fun S' k' hk'=>by unfold zkw;rw[if_pos hk']
  have hk':zkO k=40\/zkO k=41\/zkO k=42:=by rcases hk with rfl|rfl|rfl<;>decide
  have e4:zkw S k s q.s y id i=(0,S.put id i (updE k (S.el id i) y)):=e3 S k hk;have hkk:=key [p.s] (fun j hj=>by
   show(zkw S k s q.s y id i).2.cell j=_
   rw[e4];exact zme S (fun e=>hj p.s (by simp) (by rw[e];exact a1)) _ _) (fun nm hn=>by obtain rfl:=List.mem_singleton.1 hn;exact iL.1) (fun hlk=>by
   show zkR (zkw S k s q.s y id i).2 (zkO k) q=(y,0)
   rw[<-b2]
   show zkR (zkw S k s q.s y id i).2 (zkO k) q=zkR S k q
   unfold zkR;rw[if_neg (by omega),if_pos hk',if_neg (by omega),if_pos hk];exact zs9 hlk _ fun nm hn=>by obtain rfl:=List.mem_singleton.1 hn;exact iL.2) (by
   show i<((zkw S k s q.s y id i).2.cell id).length
   rw[e4]
   show i<((S.put id i _).cell id).length
   rw[zmo];exact a7)
  show zld (zkw S k s q.s y id i).2 _=_
  refine hkk.trans ?_
  show zkw (zkw S k s q.s y id i).2 (zkO k) s q.s y id i=(0,S)
  rw[e4,e3 _ _ hk'];dsimp only;rw[znq S a7,ztC hk (zmw h hid i),zmn,zmi]
 ·rw[if_neg (by decide),if_pos rfl]at hr
  split at hr
  ·cases hr
  rename_i iL;simp only[Bool.not_eq_true]at iL;obtain⟨jd,kq,d1,d2,d3⟩:=zmp h hq (zlH (znO hf).2 q (by simp));have hjd:=d2.lt h;have b2':indE S.look q=(y,0):=b2;have e4:zkw S 43 s q.s y id i=if 0<=y/\y<(S.cell jd).length then(0,zna S id i jd y.toNat)else(12,S):=by
   unfold zkw;rw[if_neg (by decide),if_pos rfl,d1]
  have h0':(zkw S 43 s q.s y id i).1=0:=h0;rw[e4]at h0'
  split at h0'
  ·rename_i hy2;rw[if_pos hy2]at e4;have hlen:∀j,((zna S id i jd y.toNat).cell j).length=(S.cell j).length:=fun j=>by unfold zna;rw[zmo,zmo]
   have hkk:=key [p.s,q.s] (fun j hj=>by
    show(zkw S 43 s q.s y id i).2.cell j=_
    rw[e4]
    show(zna S id i jd y.toNat).cell j=_
    unfold zna;rw[zme _ (fun e=>hj q.s (by simp) (by rw[e];exact d1)),zme _ (fun e=>hj p.s (by simp) (by rw[e];exact a1))]) (zny iL (t:=p) (by simp)) (fun hlk=>by
    show zkR (zkw S 43 s q.s y id i).2 43 q=(y,0)
    rw[<-b2'];exact zqz hlk q (zny iL (t:=q) (by simp))) (by
    show i<((zkw S 43 s q.s y id i).2.cell id).length
    rw[e4]
    show i<((zna S id i jd y.toNat).cell id).length
    rw[hlen];exact a7)
   show zld (zkw S 43 s q.s y id i).2 _=_
   refine hkk.trans ?_
   show zkw (zkw S 43 s q.s y id i).2 43 s q.s y id i=(0,S)
   rw[e4];dsimp only;have hnq:(zna S id i jd y.toNat).num q.s=some jd:=d1;unfold zkw;rw[if_neg (by decide),if_pos rfl,hnq];dsimp only;rw[hlen,if_pos hy2,ztI S a7 (by omega)]
  ·cases h0'
 ·have hk40:¬ (k=40\/k=41\/k=42):=by omega
  have hk43:k≠43:=by omega
  rw[if_neg hk40,if_neg hk43]at hr;have zP:∀(S':ST) k',44<=k'/\k'<=49->zkR S' k' nil0=(0,0):=fun S' k' hk'=>by unfold zkR;rw[if_neg (by omega),if_neg (by omega)]
  have hinv:44<=zkO k/\zkO k<=49:=by
   have:k=44\/k=45\/k=46\/k=47\/k=48\/k=49:=by omega
   rcases this with rfl|rfl|rfl|rfl|rfl|rfl<;>decide
  have hy0:y=0:=by
   have:zkR S k nil0=(y,0):=b2;rw[zP S k hk]at this;injection this with this;exact this.symm
  by_cases hk2:k=44\/k=45
  ·rw[if_pos hk2]at hr
   split at hr
   ·cases hr
   rename_i iL;simp only[Bool.not_eq_true]at iL;obtain⟨af,d1,d2⟩:=ztM h hf hk2;have hne:id≠af:=a2.ne d2 h a3;have mP:zkO k=44\/zkO k=45:=by rcases hk2 with rfl|rfl<;>decide
   have e3:∀(S':ST) k',(k'=44\/k'=45)->S'.num s=some af->zkw S' k' s nil0.s y id i=zle S' k' id i af:=fun S' k' hk' hn=>by
    unfold zkw;rw[if_neg (by omega),if_neg (by omega),if_pos hk',hn]
   have e4:zkw S k s nil0.s y id i=zle S k id i af:=e3 S k hk2 d1;have h0':(zkw S k s nil0.s y id i).1=0:=h0;rw[e4]at h0';have kX:∀j,j≠id->j≠af->(zle S k id i af).2.cell j=S.cell j:=fun j h1 h2=>by
    unfold zle
    repeat' split
    all_goals first|rfl|(show((S.setL af _).put id i _).cell j=_;rw[zme _ h1,zlF _ h2])|(show((S.put id i _).setL af _).cell j=_;rw[zlF _ h2,zme _ h1])
   have hlen:((zle S k id i af).2.cell id).length=(S.cell id).length:=by
    unfold zle
    repeat' split
    all_goals first|rfl|(show(((S.setL af _).put id i _).cell id).length=_;rw[zmo,zlF _ hne])|(show(((S.put id i _).setL af _).cell id).length=_;rw[zlF _ hne,zmo])
   have hkk:=key [p.s,s] (fun j hj=>by
    show(zkw S k s nil0.s y id i).2.cell j=_
    rw[e4];exact kX j (fun e=>hj p.s (by simp) (by rw[e];exact a1)) (fun e=>hj s (by simp) (by rw[e];exact d1))) (zny iL (t:=p) (by simp)) (fun _=>by rw[hy0];exact zP _ _ hinv) (by
    show i<((zkw S k s nil0.s y id i).2.cell id).length
    rw[e4,hlen];exact a7)
   show zld (zkw S k s nil0.s y id i).2 _=_
   refine hkk.trans ?_
   show zkw (zkw S k s nil0.s y id i).2 (zkO k) s nil0.s y id i=(0,S)
   have hfr:=(zsa S k id i af)
   have hn2:(zle S k id i af).2.num s=some af:=by
    unfold ST.num ST.cur;rw[hfr.1,hfr.2.1];exact d1
   rw[e4,e3 _ _ mP hn2];exact zsY hk2 hne a7 (h.cells af (d2.lt h)).1 h0'
  ·have hk3:46<=k/\k<=49:=by omega
   rw[if_neg hk2,if_pos hk3]at hr
   split at hr
   ·cases hr
   rename_i iL;simp only[Bool.not_eq_true]at iL;have hk4:k=46\/k=47\/k=48\/k=49:=by omega
   have mP:46<=zkO k/\zkO k<=49:=by rcases hk4 with rfl|rfl|rfl|rfl<;>decide
   have e3:∀(S':ST) k',(46<=k'/\k'<=49)->zkw S' k' s nil0.s y id i=zkp S' k' id i:=fun S' k' hk'=>by
    unfold zkw;rw[if_neg (by omega),if_neg (by omega),if_neg (by omega)]
   have e4:zkw S k s nil0.s y id i=zkp S k id i:=e3 S k hk3;have h0':(zkw S k s nil0.s y id i).1=0:=h0;rw[e4]at h0';have kX:∀j,j≠id->(zkp S k id i).2.cell j=S.cell j:=fun j h1=>by
    unfold zkp
    repeat' split
    all_goals first|rfl|exact zme (S:={ S with tin:=_ }) h1 _ _|exact zme (S:={ S with tout:=_ }) h1 _ _
   have hlen:((zkp S k id i).2.cell id).length=(S.cell id).length:=by
    unfold zkp
    repeat' split
    all_goals first|rfl|exact zmo (S:={ S with tin:=_ }) _ _ _ _|exact zmo (S:={ S with tout:=_ }) _ _ _ _
   have hkk:=key [p.s] (fun j hj=>by
    show(zkw S k s nil0.s y id i).2.cell j=_
    rw[e4];exact kX j (fun e=>hj p.s (by simp) (by rw[e];exact a1))) (zny iL (t:=p) (by simp)) (fun _=>by rw[hy0];exact zP _ _ hinv) (by
    show i<((zkw S k s nil0.s y id i).2.cell id).length
    rw[e4,hlen];exact a7)
   show zld (zkw S k s nil0.s y id i).2 _=_
   refine hkk.trans ?_
   show zkw (zkw S k s nil0.s y id i).2 (zkO k) s nil0.s y id i=(0,S)
   rw[e4,e3 _ _ mP];exact zq6 h hk4 a7 h0'
theorem zw1(k:Int):zkO (zkO k)=k:=by
 by_cases h:k=40\/k=41\/k=44\/k=45\/k=46\/k=47\/k=48\/k=49
 ·rcases h with rfl|rfl|rfl|rfl|rfl|rfl|rfl|rfl<;>rfl
 ·have e:zkO k=k:=by
   unfold zkO;rw[if_neg (by omega),if_neg (by omega),if_neg (by omega),if_neg (by omega),if_neg (by omega),if_neg (by omega),if_neg (by omega),if_neg (by omega)]
  rw[e,e]
theorem zwi(h:S.WF)(hnd:S.cur.cs.Nodup){t:T}(hr:rejE t=0)(h0:(zld S t).1=0):doE (zld S t).2 t=(0,S):=by
 obtain⟨k,n,s,ks⟩:=t;have h0':(doE S (.nd (zkO k) n s ks)).1=0:=h0;obtain⟨hs,eB,hb,-,-⟩:=zu7 h0';have hb:basB (zkO k)=true:=hb;have hkk:=zw1 k;have hr':rejE (.nd (zkO k) n s ks)=0:=by
  have hbk:basB k=true:=by
   have:=(zvn hb).1;rw[hkk]at this;exact this
  have hrange:=of_decide_eq_true hbk;rw[zri]at hr ⊢;have:k=40\/k=41\/k=42\/k=43\/k=44\/k=45\/k=46\/k=47\/k=48\/k=49:=by omega
  rcases this with rfl|rfl|rfl|rfl|rfl|rfl|rfl|rfl|rfl|rfl<;>exact hr
 have:=zss h hnd hr' h0'
 show doE (doE S (.nd (zkO k) n s ks)).2 (.nd k n s ks)=(0,S)
 have e:zld (doE S (.nd (zkO k) n s ks)).2 (.nd (zkO k) n s ks)=doE (doE S (.nd (zkO k) n s ks)).2 (.nd k n s ks):=by
  show doE _ (.nd (zkO (zkO k)) n s ks)=_
  rw[hkk]
 rw[<-e];exact this
end
def NdS(S:ST):Prop:=S.base.cs.Nodup/\∀f∈S.calls,f.cs.Nodup
section
variable {F:Int} {f f':RS->Out} {r r1 r':RS} {t:T}
end
mutual
theorem zyi:∀t:T,(po t).length=size t
 | .nd k n s ks=>by rw[po,size,List.length_cons,zt3 ks];omega
theorem zt3:∀ks:List T,(pos ks).length=zk2 ks
 | []=>by simp[pos,zk2]
 | t::ts=>by rw[pos,zk2,List.length_append,zyi t,zt3 ts]
end
def rjP(ps:List PR):Nat:=(ps.map fun r=>rejN (po r.b)).sum
def rjT(p:PG):Nat:=rjP p.prs+rejN (po p.m)
theorem zrE{t:T}(h:zk4 t=true):dep t<=1000/\(po t).length<=2000/\∀x∈po t,zvC x:=by
 obtain⟨⟨h1,h2⟩,h3⟩:=(zru t).1 h;exact⟨by omega,by rw[zyi];exact h2,zww (.inr (.inr h3)) (by omega)⟩
theorem zwv{ps:List PR}{j:Nat}(h:j<ps.length):rjP (ps.take (j+1))=rjP (ps.take j)+rejN (po ps[j].b):=by
 unfold rjP;rw[List.take_succ_eq_append_getElem h,List.map_append,List.sum_append];simp
theorem zz1{ps:List PR}(h:∀r∈ps,zk4 r.b=true):rjP ps<=ps.length*2000:=by
 induction ps with
 | nil=>simp[rjP]
 | cons r rs ih =>
  have h1:=ih fun r hr=>h r (List.mem_cons_of_mem _ hr);have h2:=(zrE (h r List.mem_cons_self)).2.1;have h3:=zpR (po r.b);simp only[rjP,List.map_cons,List.sum_cons,List.length_cons]at *
  omega
theorem zqi{p:PG}(h:zkZ p=true):(∀r∈p.prs,zk4 r.b=true)/\zk4 p.m=true/\p.prs.length<=64:=by
 unfold zkZ at h;simp only[Bool.and_eq_true,List.all_eq_true,decide_eq_true_eq]at h;refine⟨fun r hr=>?_,h.2,h.1.1.1.2⟩;have:=h.1.2 r hr;unfold zot at this;simp only[Bool.and_eq_true]at this;exact this.2
theorem zv3(p:PG)(v:Value)(w:World)(hv:PV w Any p v)(hval:zkZ p=true)(hch:chkN p=0):Calls Tryz.prog 78 #[v] w fun e w'=>∃A c,e=.returned (.slice A (rjT p) c)/\Below w.heap.size w w':=by
 have HV:=zh hv;obtain⟨A1,c1,A2,c2,A3,c3,rfl,hr⟩:=hv;have HR:=zh hr;have HVAL:=zh (zvy hval (HV.out.later (zkb zr (.cells #[.slice A1 p.vs.length c1,.slice A2 p.prs.length c2,.int .u8 p.m.k,.int .i64 p.m.n,.string p.m.s,.slice A3 p.m.ks.length c3] 55))));have pW:=zh (show ∀w,PV w Any p (pv A1 p.vs.length c1 A2 p.prs.length c2 p.m.k p.m.n p.m.s A3 p.m.ks.length c3)->Calls Tryz.prog 77 #[pv A1 p.vs.length c1 A2 p.prs.length c2 p.m.k p.m.n p.m.s A3 p.m.ks.length c3] w fun e w'=>∃A c,e=.returned (.slice A 0 c)/\Below w.heap.size w w' from fun w h=>by
  have:=znS p Any _ w h;rwa[if_pos hval,hch]at this)
 have eU:=zh (zqi hval);obtain⟨L1,hL1⟩:=zX (p.vs.length);obtain⟨k,hk⟩:=zX (p.m.k);obtain⟨n,hn⟩:=zX (p.m.n);obtain⟨s,hs⟩:=zX (p.m.s);obtain⟨l3,hl3⟩:=zX (p.m.ks.length);rw[hL1,hk,hn,hs,hl3]at HV HVAL pW ⊢;have HM:=zh hr.main;rw[hk,hn,hs,hl3]at HM;have hlp:=zlv hr.lp;clear hr hL1 hk hn hs hl3 hval hch;go_enter Tryz.func78,Tryz.ntmps78;go_wp2_with fail;refine HVAL.out.mono ?_;rintro e w1 ⟨rfl,ae⟩;have q1:=zka (zkb (zs w) _) ae;have hP:=zkc (heap_alloc_new w (.cells #[.slice A1 L1 c1,.slice A2 p.prs.length c2,.int .u8 k,.int .i64 n,.string s,.slice A3 l3 c3] 55)) ae;obtain⟨a0,a1,a2,a3,a4,a5⟩:=box6 hP;have HP:=zh hP;clear ae hP;go_wp2_with fail;refine(pW.out _ (HV.out.later q1)).mono ?_;rintro e w2 ⟨B0,d0,rfl,aj⟩;have q2:=zka q1 aj;have hP:=zkc HP.out aj;clear a0 a1 a2 a3 a4 a5 HP aj q1;obtain⟨a0,a1,a2,a3,a4,a5⟩:=box6 hP;have HP:=zh hP;have mq:=zh q2
 clear hP q2;go_wp2_with fail;obtain⟨i0,hi0,hz0,hz1,hz2⟩:=info_parts ztZ;clear a0 a1 a2 a3 a4 a5
 go_loopw [3,18] (fun x i wr=>∃(j:Nat) (xs:List Value),j<=p.prs.length/\i=.int .i64 j/\wr.ownsRow (w.heap.size+1) 204 4 x (rjP (p.prs.take j)) xs/\(∀u∈xs,u.oneCell'=true)/\Below w.heap.size w wr/\wr.heap[w.heap.size]?=some (.cells #[.slice A1 L1 c1,.slice A2 p.prs.length c2,.int .u8 k,.int .i64 n,.string s,.slice A3 l3 c3] 55 (0,0))) (fun _ i _=>p.prs.length-(intOf i).toNat)
 case atStart=>exact⟨0,[],Nat.zero_le _,rfl,by simpa[rjP]using World.ownsRow_nil _ _ _ _,by simp,mq.out,HP.out⟩
 case round =>
  obtain⟨j,xs,hj,rfl,hown,h1c,hbw,hbx⟩:=hrel;have mI:∃B3 d3,u3=.slice B3 (rjP (p.prs.take j)) d3:=by
   rcases hown.2 with⟨rfl,h0⟩|⟨g,cap,cur,rfl,_⟩
   ·exact⟨_,_,by rw[h0]⟩
   ·exact⟨_,_,rfl⟩
  obtain⟨B3,d3,rfl⟩:=mI;have HOWN:=zh hown;have H1C:=zh h1c;have aR:=zh hbw;have aF:=zh hbx;have hwr:=zkf hbx;have iL:rjP (p.prs.take j)<=128000:=by
   have h1:=zz1 (ps:=p.prs.take j) (fun r hr=>eU.out.1 r (List.mem_of_mem_take hr));have h2:=eU.out.2.2;simp at h1;omega
  clear hown h1c hbx;by_cases hlt:j<p.prs.length
  ·obtain⟨a,r,D1,e1,D2,e2,rfl,_,Hr,⟨y0,y1,y2,y3,y4,y5⟩,hpr⟩:=(HR.out.procs.later hbw).nd hlt;have hbd:=zrE (eU.out.1 p.prs[j] (List.getElem_mem hlt));rw[Hr.out]at hbd;have uN:=zh hbd;have dN:=zh hpr.body;have hrl:rejN (po r.b)<=2000:=Nat.le_trans (zpR _) hbd.2.1;have kJ:=zh (show rjP (p.prs.take (j+1))=rjP (p.prs.take j)+rejN (po r.b) by rw[zwv hlt,Hr.out]);obtain⟨NN,mY⟩:=zX (rejN (po r.b));rw[mY]at hrl kJ;have iE:=zh mY;clear hbd hpr hbw mY;go_wp2_with fail;refine(zpG r.b _ _ _ (dN.out.later (zkb zr _)) uN.out.1 (by have:=uN.out.2.1;omega) uN.out.2.2).mono ?_;rintro e w4 ⟨yL,ys,rfl,fO,xV,lq⟩;rw[iE.out]at fO;have hb4:=zka (zkb (zs wr) _) lq;have hs4:=hb4.size;have hown5:=zkB HOWN.out hb4;have ak:=zh hb4;have HX4:=zh (zkc aF.out hb4);clear lq hb4 y0 y1 y2 y3 y4 y5
   go_wp2_with (at_builtin;refine zl9 (P:=Tryz.prog) rfl (.tmp 23) (.tmp 27) 133 rfl (w.heap.size+1) _ 204 i0 _ 4 56 Tryz.underlying133 hi0 hz0 hz1 hz2 rfl (by decide) (.slice B3 (rjP (p.prs.take j)) d3) (rjP (p.prs.take j)) xs rfl hown5 yL NN ys rfl fO xV (by unfold maxLen;omega) (by omega) (by omega) ?_;intro v' w' h2 h3 h5)
   refine⟨⟨j+1,_,by omega,rfl,by rw[kJ.out];exact h2,fun u hu=>?_,(zka aR.out ak.out).grown h3 (by have:=aR.out.size;omega) (fun g e=>by have:=(hown5.lt g e).1;omega),?_⟩,by simp[intOf];omega⟩
   ·rw[List.mem_append]at hu;rcases hu with hu|hu
    ·exact H1C.out u hu
    ·exact xV u hu
   ·exact(h3.block _ (by omega) (fun e=>by have:=(hown5.lt _ e.symm).1;omega)).trans HX4.out
  ·obtain rfl:j=p.prs.length:=by omega
   have hmb:=zrE eU.out.2.1;have AL:=zh hmb;have hrl:rejN (po p.m)<=2000:=Nat.le_trans (zpR _) hmb.2.1;have zw:rjT p=rjP p.prs+rejN (po p.m):=rfl;have e3:p.prs.take p.prs.length=p.prs:=List.take_of_length_le zl;rw[e3]at HOWN iL ⊢;clear e3;obtain⟨NN,mY⟩:=zX (rejN (po p.m));rw[mY]at hrl zw;have iE:=zh mY;have vG:=zh zw;obtain⟨a0,a1,a2,a3,a4,a5⟩:=box6 aF.out;clear hmb mY zw hbw;go_wp2_with fail;refine(zpG p.m _ _ _ ((HM.out.later aR.out).any) AL.out.1 (by have:=AL.out.2.1;omega) AL.out.2.2).mono ?_;rintro e w4 ⟨yL,ys,rfl,fO,xV,lq⟩;rw[iE.out]at fO;have hs4:=lq.size;have hown5:=zkB HOWN.out lq;have ak:=zh lq;clear lq a0 a1 a2 a3 a4 a5
   go_wp2_with (at_builtin;refine zl9 (P:=Tryz.prog) rfl (.tmp 30) (.tmp 33) 133 rfl (w.heap.size+1) _ 204 i0 _ 4 56 Tryz.underlying133 hi0 hz0 hz1 hz2 rfl (by decide) (.slice B3 (rjP p.prs) d3) (rjP p.prs) xs rfl hown5 yL NN ys rfl fO xV (by unfold maxLen;omega) (by omega) (by omega) ?_;intro v' w' h2 h3 h5)
   have hvs:∃B d,v'=.slice B (rjP p.prs+NN) d:=by
    rcases h2.2 with⟨rfl,h0⟩|⟨g,cap,cur,rfl,_⟩
    ·exact⟨_,_,by rw[h0]⟩
    ·exact⟨_,_,rfl⟩
   obtain⟨B,d,rfl⟩:=hvs;have xB:=zh (show Below w.heap.size w w' from(zka aR.out ak.out).grown h3 (by have:=aR.out.size;omega) (fun g e=>by have:=(hown5.lt g e).1;omega));clear h2 h3 h5 hown5 fO;go_wp2_with fail;go_ret;exact⟨B,d,by rw[vG.out];rfl,xB.out⟩
def okB(p:PG):Bool:=zkZ p&&decide (chkN p=0)&&decide (rjT p=0)
theorem zKF(p:PG)(v:Value)(w:World)(hv:PV w Any p v):Calls Tryz.prog 34 #[v] w fun e w'=>e=.returned (.bool (okB p))/\Below w.heap.size w w':=by
 have HV:=zh hv;obtain⟨A1,c1,A2,c2,A3,c3,rfl,hr⟩:=hv;obtain⟨b,hb⟩:=zX (okB p);obtain⟨vb,hvb⟩:=zX (zkZ p);obtain⟨N1,hN1⟩:=zX (chkN p);obtain⟨N2,mZ⟩:=zX (rjT p);have hbb:b=(vb&&decide (N1=0)&&decide (N2=0)):=by rw[<-hb,<-hvb,<-hN1,<-mZ];rfl
 rw[hb];have lF:=zh (show ∀w,PV w Any p (pv A1 p.vs.length c1 A2 p.prs.length c2 p.m.k p.m.n p.m.s A3 p.m.ks.length c3)->Calls Tryz.prog 76 #[pv A1 p.vs.length c1 A2 p.prs.length c2 p.m.k p.m.n p.m.s A3 p.m.ks.length c3] w fun e w'=>e=.returned (.bool vb)/\Below w.heap.size w w' from fun w h=>hvb▸znz p Any _ w h);have pW:=zh (show vb=true->∀w,PV w Any p (pv A1 p.vs.length c1 A2 p.prs.length c2 p.m.k p.m.n p.m.s A3 p.m.ks.length c3)->Calls Tryz.prog 77 #[pv A1 p.vs.length c1 A2 p.prs.length c2 p.m.k p.m.n p.m.s A3 p.m.ks.length c3] w fun e w'=>∃A c,e=.returned (.slice A N1 c)/\Below w.heap.size w w' from fun h0 w h=>by
  have:=znS p Any _ w h;rwa[if_pos (hvb.trans h0),hN1]at this)
 have bG:=zh (show vb=true->N1=0->∀w,PV w Any p (pv A1 p.vs.length c1 A2 p.prs.length c2 p.m.k p.m.n p.m.s A3 p.m.ks.length c3)->Calls Tryz.prog 78 #[pv A1 p.vs.length c1 A2 p.prs.length c2 p.m.k p.m.n p.m.s A3 p.m.ks.length c3] w fun e w'=>∃A c,e=.returned (.slice A N2 c)/\Below w.heap.size w w' from fun h0 h1 w h=>mZ▸zv3 p _ w h (hvb.trans h0) (hN1.trans h1));have cZ:=zh hbb;obtain⟨L1,hL1⟩:=zX (p.vs.length);obtain⟨L2,hL2⟩:=zX (p.prs.length);obtain⟨k,hk⟩:=zX (p.m.k);obtain⟨n,hn⟩:=zX (p.m.n);obtain⟨s,hs⟩:=zX (p.m.s);obtain⟨l3,hl3⟩:=zX (p.m.ks.length);rw[hL1,hL2,hk,hn,hs,hl3]at HV lF pW bG ⊢;clear hr hL1 hL2 hk hn hs hl3 hb hvb hN1 mZ hbb;go_enter Tryz.func34,Tryz.ntmps34;go_wp2_with fail;refine(lF.out _ (HV.out.later (zkb zr _))).mono ?_;rintro e w1 ⟨rfl,ae⟩;have q1:=zka (zkb (zs w) _) ae
 have hP:=zkc (heap_alloc_new w (.cells #[.slice A1 L1 c1,.slice A2 L2 c2,.int .u8 k,.int .i64 n,.string s,.slice A3 l3 c3] 55)) ae;obtain⟨a0,a1,a2,a3,a4,a5⟩:=box6 hP;have HP:=zh hP;clear ae hP
 cases vb
 ·have HX:=zh (show b=false by rw[cZ.out];rfl);go_wp2_with fail;go_ret;exact⟨by rw[HX.out];rfl,q1⟩
 ·have HSC1:=zh (pW.out rfl);have HCK1:=zh (bG.out rfl);clear pW bG;go_wp2_with fail;refine(HSC1.out _ (HV.out.later q1)).mono ?_;rintro e w2 ⟨B0,d0,rfl,aj⟩;have q2:=zka q1 aj;have hP:=zkc HP.out aj;clear a0 a1 a2 a3 a4 a5 HP aj q1;obtain⟨a0,a1,a2,a3,a4,a5⟩:=box6 hP;clear hP;by_cases hN:N1=0
  ·have HCK2:=zh (HCK1.out hN);clear HCK1 HSC1;subst hN;go_wp2_with fail;refine(HCK2.out _ (HV.out.later q2)).mono ?_;rintro e w3 ⟨B1,d1,rfl,aT⟩;have q3:=zka q2 aT;clear a0 a1 a2 a3 a4 a5 aT;by_cases hM:N2=0
   ·subst hM;have HX:=zh (show b=true by rw[cZ.out];rfl);go_wp2_with fail;go_ret;exact⟨by rw[HX.out];rfl,q3⟩
   ·have hM1:((N2:Int)==0)=false:=by simpa using hM
    have HX:=zh (show b=false by rw[cZ.out];simp[hM]);clear hM;go_wp2_with fail;go_ret;exact⟨by rw[HX.out];rfl,q3⟩
  ·have hM1:((N1:Int)==0)=false:=by simpa using hN
   have HX:=zh (show b=false by rw[cZ.out];simp[hN]);clear hN;go_wp2_with fail;go_ret;exact⟨by rw[HX.out];rfl,q2⟩
theorem ztY{l:List T}(h:rejN l=0):∀x∈l,rejE x=0:=by
 intro x hx;unfold rejN at h;have:=List.filter_eq_nil_iff.1 (List.length_eq_zero_iff.1 h) x hx;simpa using this
theorem zud{p:PG}(h:okB p=true):zkZ p=true/\chkN p=0/\rjT p=0:=by
 unfold okB at h;simp only[Bool.and_eq_true,decide_eq_true_eq]at h;exact⟨h.1.1,h.1.2,h.2⟩
section
variable {vs:List VD} {s:SS} {r':RS} {e:List Nat}
theorem ztN(hv:vs.length<=1000)(h0:fitB vs s=true)(hf:∀v∈vs,FldV v)(hI:s.I):RInv ⟨newS vs s,0,e⟩/\NdS (newS vs s):=by
 have hw:=zpT h0 hf hI.1 hI.2.1 hI.2.2 vs.length zl;rw[List.take_of_length_le zl]at hw;refine⟨⟨hw,⟨by show vs.length<=1000+0;omega,fun f hf=>by cases hf⟩,Nat.zero_le _⟩,⟨List.nodup_range,fun f hf=>by cases hf⟩⟩
end
def oneP(vs:List VD)(t:T):PG:=⟨vs,[],.nd 57 0 ⟨#[]⟩ [t]⟩
theorem zwG{vs:List VD}{t:T}(h:okB (oneP vs t)=true):rejE t=0:=by
 obtain⟨-,-,hr⟩:=zud h;unfold rjT at hr;have h0:rejN (po (.nd 57 0 ⟨#[]⟩ [t]))=0:=by
  have:(oneP vs t).m=.nd 57 0 ⟨#[]⟩ [t]:=rfl;rw[this]at hr;omega
 refine ztY h0 t ?_;simp only[po,pos,List.mem_cons,List.append_nil]
 right
 obtain⟨k,n,s,ks⟩:=t;simp[po]
theorem zpb{vs:List VD}{s:SS}{t:T}(back:Bool)(hl:vs.length<=1000)(h0:fitB vs s=true)(hf:∀v∈vs,FldV v)(hI:s.I)(hok:okB (oneP vs t)=true) :
  ((if back=true then zld (newS vs s) t else doE (newS vs s) t).1≠0->(if back=true then zld (newS vs s) t else doE (newS vs s) t).2.state=s) /\
  ((if back=true then zld (newS vs s) t else doE (newS vs s) t).1=0->(if back=true then doE (zld (newS vs s) t).2 t else zld (doE (newS vs s) t).2 t)=(0,newS vs s)):=by
 obtain⟨hi,hn⟩:=ztN (e:=[]) hl h0 hf hI;have hnd:(newS vs s).cur.cs.Nodup:=List.nodup_range;have hr:=zwG hok
 cases back
 ·refine⟨fun h=>?_,fun h=>zss hi.wf hnd hr h⟩;rw[show(if false=true then zld (newS vs s) t else doE (newS vs s) t)=doE (newS vs s) t from rfl]at h ⊢;rw[zys _ _ h,zmT h0]
 ·refine⟨fun h=>?_,fun h=>zwi hi.wf hnd hr h⟩;rw[show(if true=true then zld (newS vs s) t else doE (newS vs s) t)=zld (newS vs s) t from rfl]at h ⊢;rw[zwg _ _ h,zmT h0]
def rnk(x:Int):Int:=if 0<x then 2*x-1 else -2*x
theorem ztU(x:Int):0<=rnk x:=by unfold rnk;split<;>omega
theorem zpQ{r:Int}(h:0<=r):rnk (unrk r)=r:=by
 unfold unrk;rw[if_neg (by omega),Int.tmod_eq_emod_of_nonneg h,Int.tdiv_eq_ediv_of_nonneg h];unfold rnk
 split<;>split<;>omega
theorem zwe(x:Int):unrk (rnk x)=x:=by
 have h:=ztU x;unfold unrk;rw[if_neg (by omega),Int.tmod_eq_emod_of_nonneg h,Int.tdiv_eq_ediv_of_nonneg h];unfold rnk
 split<;>split<;>omega
def lw(l:List Int):Int:=(l.map fun x=>1+rnk x).sum
def wt(ls:List (List Int)):Int:=(ls.map lw).sum
theorem zro(x:Int)(l:List Int):lw (x::l)=1+rnk x+lw l:=by simp[lw]
theorem zq1(l:List Int)(ls:List (List Int)):wt (l::ls)=lw l+wt ls:=by simp[wt]
def FitH(h:Int):List Bn->List (List Int)->Prop
 | [],[]=>True
 | (lo,hi)::bs,x::xs=>lo<=x.length/\x.length<=hi/\(∀e∈x,rnk e<h)/\FitH h bs xs
 | _,_=>False
theorem zsc{h:Int}:∀ {l:List Int},(∀e∈l,rnk e<h)->(l.length:Int)<=lw l/\lw l<=l.length*h
 | [],_=>by simp[lw]
 | x::l,hx=>by
  have h1:=zsc (l:=l) fun e he=>hx e (List.mem_cons_of_mem _ he);have h2:=hx x (List.mem_cons_self ..);have h3:=ztU x;rw[zro,List.length_cons,Int.natCast_add,Int.add_mul];omega
theorem zrS(b:Bn)(bs:List Bn):wlo (b::bs)=b.1+wlo bs:=by simp[wlo]
theorem zrT(h:Int)(b:Bn)(bs:List Bn):whi h (b::bs)=b.2*h+whi h bs:=by simp[whi]
theorem FitH.bnd{h:Int}(hh:0<h):∀ {bs:List Bn} {x:List (List Int)},FitH h bs x->(wlo bs:Int)<=wt x/\wt x<=whi h bs
 | [],[],_=>by simp[wlo,whi,wt]
 | (lo,hi)::bs,x::xs,hf=>by
  have h1:=FitH.bnd hh hf.2.2.2;have h2:=zsc hf.2.2.1;rw[zrS,zrT,zq1];have h3:(x.length:Int)*h<=hi*h:=Int.mul_le_mul_of_nonneg_right (by have:=hf.2.1;omega) (by omega);have:=hf.1;simp only[Int.natCast_add];omega
 | [],_::_,hf=>hf.elim
 | (_,_)::_,[],hf=>hf.elim
theorem znW{lo hi x:Int}:x∈ranE lo hi↔lo<=x/\x<=hi:=by
 refine⟨zlc,fun h=>List.mem_map.2 ⟨(x-lo).toNat,List.mem_range.2 (by omega),by omega⟩⟩
theorem zn9{h:Int}{bs:List Bn}{rec:Int->List (List (List Int))}(hr:∀left:Int,(wlo bs:Int)<=left->left<=whi h bs->∀x,x∈rec left↔FitH h bs x/\wt x=left)(hh:0<h) :
  ∀(k:Nat) (left:Int),(k:Int)+wlo bs<=left->left<=k*h+whi h bs->∀x,x∈numE h bs rec k left↔∃l ls,x=l::ls/\l.length=k/\(∀e∈l,rnk e<h)/\FitH h bs ls/\lw l+wt ls=left
 | 0,left,h1,h2,x=>by
  rw[numE,List.mem_map]
  constructor
  ·rintro⟨y,hy,rfl⟩;obtain⟨a,b⟩:=(hr left (by omega) (by omega) y).1 hy;exact⟨[],y,rfl,rfl,by simp,a,by simp[lw,b]⟩
  ·rintro⟨l,ls,rfl,hl,-,hf,hw⟩;obtain rfl:=List.eq_nil_of_length_eq_zero hl;exact⟨ls,(hr left (by omega) (by omega) ls).2 ⟨hf,by simpa[lw]using hw⟩,rfl⟩
 | k+1,left,h1,h2,x=>by
  rw[numE,List.mem_flatMap];have hk:((k+1:Nat):Int)*h=k*h+h:=by rw[Int.natCast_add,Int.add_mul];omega
  rw[hk]at h2
  constructor
  ·rintro⟨r,hr1,hx⟩;obtain⟨y,hy,rfl⟩:=List.mem_map.1 hx;have hrr:=zlc hr1;obtain⟨l,ls,rfl,a,b,c,d⟩:=(zn9 hr hh k (left-1-r) (by omega) (by omega) y).1 hy;have iK:rnk (unrk r)=r:=zpQ (by omega);refine⟨unrk r::l,ls,rfl,by simp[a],fun e he=>?_,c,by rw[zro,iK];omega⟩;rcases List.mem_cons.1 he with rfl|he
   ·rw[iK];omega
   ·exact b e he
  ·rintro⟨l,ls,rfl,hl,hb,hf,hw⟩
   cases l with
   | nil=>simp at hl
   | cons e l =>
    have h3:=zsc (l:=l) fun z hz=>hb z (List.mem_cons_of_mem _ hz);have h4:=hf.bnd hh;have h5:=ztU e;have h6:=hb e (List.mem_cons_self ..);have hl':l.length=k:=by simpa using hl
    rw[zro]at hw;rw[hl']at h3;refine⟨rnk e,znW.2 (by omega),List.mem_map.2 ⟨l::ls,(zn9 hr hh k _ (by omega) (by omega) _).2 ⟨l,ls,rfl,hl',fun z hz=>hb z (List.mem_cons_of_mem _ hz),hf,by omega⟩,?_⟩⟩;rw[zwe];rfl
theorem zvg{a h m:Int}(hh:0<h)(hm:0<=m)(h1:a<=m*h):(a+h-1).tdiv h<=m:=by
 by_cases ha:0<=a+h-1
 ·rw[Int.tdiv_eq_ediv_of_nonneg ha];have h2:a+h-1<(m+1)*h:=by rw[Int.add_mul];omega
  have:=Int.ediv_lt_of_lt_mul hh h2;omega
 ·have h2:(a+h-1) = -(-(a+h-1)):=by omega
  rw[h2,Int.neg_tdiv];have:=Int.tdiv_nonneg (show 0 <= -(a+h-1) by omega) (show 0<=h by omega);omega
theorem zoO{h:Int}(hh:0<h):∀(bs:List Bn) (left:Int),(wlo bs:Int)<=left->left<=whi h bs->∀x,x∈zkW h bs left↔FitH h bs x/\wt x=left
 | [],left,h1,h2,x=>by
  simp only[wlo,whi,List.map_nil,List.sum_nil]at h1 h2;have:left=0:=by simp at h1;omega
  subst this;rw[zkW,List.mem_singleton]
  constructor
  ·rintro rfl;exact⟨trivial,by simp[wt]⟩
  ·rintro⟨a,b⟩
   cases x with
   | nil=>rfl
   | cons y ys=>exact a.elim
 | (lo,hi)::bs,left,h1,h2,x=>by
  rw[zkW,List.mem_flatMap];rw[zrS]at h1;rw[zrT]at h2;simp only[Int.natCast_add]at h1
  constructor
  ·rintro⟨m,hm,hx⟩;have hm2:=zlc hm;have hc:=zqk (a:=left-whi h bs) hh (by omega:0<=m) (by omega);obtain⟨l,ls,rfl,a,b,c,d⟩:=(zn9 (zoO hh bs) hh m.toNat left (by omega) (by rw[show((m.toNat:Nat):Int)=m by omega];omega) x).1 hx;exact⟨⟨by omega,by omega,b,c⟩,by rw[zq1];exact d⟩
  ·rintro⟨hf,hw⟩
   cases x with
   | nil=>exact hf.elim
   | cons l ls =>
    have h3:=zsc hf.2.2.1;have h4:=FitH.bnd hh hf.2.2.2;have h5:=hf.1;have h6:=hf.2.1;rw[zq1]at hw;have hc:=zvg (a:=left-whi h bs) (m:=(l.length:Int)) hh (by omega) (by omega);refine⟨(l.length:Int),znW.2 (by omega),(zn9 (zoO hh bs) hh _ left (by simp;omega) (by simp;omega) _).2 ⟨l,ls,rfl,by simp,hf.2.2.1,hf.2.2.2,hw⟩⟩
def lexR:List Int->List Int->Prop
 | x::a,y::b=>rnk x<rnk y\/(x=y/\lexR a b)
 | _,_=>False
def ltL(a b:List Int):Prop:=a.length<b.length\/(a.length=b.length/\lexR a b)
def ltLL:List (List Int)->List (List Int)->Prop
 | a::p,b::q=>ltL a b\/(a=b/\ltLL p q)
 | _,_=>False
def ltB(a b:List (List Int)):Prop:=wt a<wt b\/(wt a=wt b/\ltLL a b)
theorem zpn:∀ {a b:List Int},lexR a b->¬ lexR b a
 | x::a,y::b,h,h'=>by
  rcases h with h|⟨rfl,h⟩
  ·rcases h' with h'|⟨rfl,-⟩<;>omega
  ·rcases h' with h'|⟨-,h'⟩
   ·omega
   ·exact zpn h h'
 | [],_,h,_=>h.elim
 | _::_,[],h,_=>h.elim
theorem zoz{a b:List Int}(h:ltL a b):¬ ltL b a:=fun h'=>by
 rcases h with h|⟨e,h⟩
 ·rcases h' with h'|⟨e',-⟩<;>omega
 ·rcases h' with h'|⟨-,h'⟩
  ·omega
  ·exact zpn h h'
theorem zpk:∀ {a b:List (List Int)},ltLL a b->¬ ltLL b a
 | x::a,y::b,h,h'=>by
  rcases h with h|⟨rfl,h⟩
  ·rcases h' with h'|⟨rfl,-⟩
   ·exact zoz h h'
   ·exact zoz h h
  ·rcases h' with h'|⟨-,h'⟩
   ·exact zoz h' h'
   ·exact zpk h h'
 | [],_,h,_=>h.elim
 | _::_,[],h,_=>h.elim
theorem zuj{a b:List (List Int)}(h:ltB a b):¬ ltB b a:=fun h'=>by
 rcases h with h|⟨e,h⟩
 ·rcases h' with h'|⟨e',-⟩<;>omega
 ·rcases h' with h'|⟨-,h'⟩
  ·omega
  ·exact zpk h h'
theorem znd(lo hi:Int):(ranE lo hi).Pairwise (· < ·):=by
 unfold ranE;rw[List.pairwise_map];exact List.Pairwise.imp (fun {a b} (h:a<b)=>by omega) List.pairwise_lt_range
theorem zly{h:Int}{bs:List Bn}{rec:Int->List (List (List Int))}:∀(k:Nat) (left:Int),∀x∈numE h bs rec k left,∃l ls,x=l::ls/\l.length=k
 | 0,left,x,hx=>by
  obtain⟨y,hy,rfl⟩:=List.mem_map.1 hx;exact⟨[],y,rfl,rfl⟩
 | k+1,left,x,hx=>by
  rw[numE]at hx;obtain⟨r,hr1,hx⟩:=List.mem_flatMap.1 hx;obtain⟨y,hy,rfl⟩:=List.mem_map.1 hx;obtain⟨l,ls,rfl,h1⟩:=zly k _ y hy;exact⟨unrk r::l,ls,rfl,by simp[h1]⟩
theorem zoy{h:Int}{bs:List Bn}{rec:Int->List (List (List Int))}(hr:∀left,(rec left).Pairwise ltLL):∀(k:Nat) (left:Int),(numE h bs rec k left).Pairwise ltLL
 | 0,left=>by
  rw[numE,List.pairwise_map];exact(hr left).imp fun {a b} h=>Or.inr ⟨rfl,h⟩
 | k+1,left=>by
  rw[numE,List.pairwise_flatMap];refine⟨fun r hr1=>?_,List.Pairwise.imp_of_mem (fun {r s} hr1 hs1 hlt x hx y hy=>?_) (znd _ _)⟩
  ·rw[List.pairwise_map];refine List.Pairwise.imp_of_mem (fun {a b} ha hb hab=>?_) (zoy hr k _);obtain⟨l,ls,rfl,e1⟩:=zly k _ a ha;obtain⟨m,ms,rfl,e2⟩:=zly k _ b hb;rcases hab with hab|⟨rfl,hab⟩
   ·rcases hab with hab|⟨e,hab⟩
    ·omega
    ·exact Or.inl (Or.inr ⟨by simp[e],Or.inr ⟨rfl,hab⟩⟩)
   ·exact Or.inr ⟨rfl,hab⟩
  ·obtain⟨a,ha,rfl⟩:=List.mem_map.1 hx;obtain⟨b,hb,rfl⟩:=List.mem_map.1 hy;obtain⟨l,ls,rfl,e1⟩:=zly k _ a ha;obtain⟨m,ms,rfl,e2⟩:=zly k _ b hb;have h1:=zlc hr1;have h2:=zlc hs1;exact Or.inl (Or.inr ⟨by simp[e1,e2],Or.inl (by rw[zpQ (by omega),zpQ (by omega)];exact hlt)⟩)
theorem zn0{h:Int}:∀(bs:List Bn) (left:Int),(zkW h bs left).Pairwise ltLL
 | [],left=>by rw[zkW];exact List.pairwise_singleton _ _
 | (lo,hi)::bs,left=>by
  rw[zkW,List.pairwise_flatMap];refine⟨fun m _=>zoy (zn0 bs) _ _,List.Pairwise.imp_of_mem (fun {r s} hr1 hs1 hlt x hx y hy=>?_) (znd _ _)⟩;obtain⟨l,ls,rfl,e1⟩:=zly _ _ x hx;obtain⟨m,ms,rfl,e2⟩:=zly _ _ y hy;have h1:=zlc hr1;have h2:=zlc hs1;exact Or.inl (Or.inl (by omega))
theorem zrH{h:Int}(hh:0<h)(bs:List Bn):(allB h bs).Pairwise ltB:=by
 rw[allB,List.pairwise_flatMap];have hw:∀w∈ranE (wlo bs) (whi h bs),∀x∈zkW h bs w,wt x=w:=fun w hw x hx=>by
  have:=zlc hw;exact((zoO hh bs w this.1 this.2 x).1 hx).2
 refine⟨fun w hw1=>List.Pairwise.imp_of_mem (fun {a b} ha hb hab=>.inr ⟨by rw[hw w hw1 a ha,hw w hw1 b hb],hab⟩) (zn0 bs w),List.Pairwise.imp_of_mem (fun {r s} hr1 hs1 hlt x hx y hy=>.inl (by rw[hw r hr1 x hx,hw s hs1 y hy];exact hlt)) (znd _ _)⟩
theorem ztg{h:Int}(hh:0<h)(bs:List Bn):(allB h bs).Nodup:=by
 refine(zrH hh bs).imp fun {a b} hab=>?_;rintro rfl;exact zuj hab hab
theorem zzJ{vs:List VD}{t:T}{s s' x:SS}(hl:vs.length<=1000)(hf:∀v∈vs,FldV v)(hI:s.I)(hI':s'.I)(hb:basB t.k=true)(hok:okB (oneP vs t)=true)(h:gE vs t s=some x)(h':gE vs t s'=some x):s=s':=by
 have eB:t.k≠56:=by rintro e;rw[e]at hb;exact absurd hb (by decide)
 have key:∀ {s:SS},gE vs t s=some x->fitB vs s=true/\(doE (newS vs s) t).1=0/\(doE (newS vs s) t).2.state=x:=fun {s} h=>by
  unfold gE at h;by_cases h1:(asgE vs t s).1=0
  ·rw[if_pos h1]at h;injection h with h;unfold asgE at h1 h;by_cases h2:fitB vs s=false\/isS t=false
   ·rw[if_pos h2]at h1;simp at h1
   ·have h0:fitB vs s=true:=by
     rcases hb:fitB vs s with _|_
     ·exact absurd (.inl hb) h2
     ·rfl
    rw[if_neg h2,if_neg eB]at h h1;by_cases h3:(doE (newS vs s) t).1≠0
    ·rw[if_pos h3]at h1;exact absurd h1 h3
    ·rw[if_neg h3]at h;exact⟨h0,Decidable.not_not.1 h3,h⟩
  ·rw[if_neg h1]at h
   cases h
 obtain⟨f1,d1,e1⟩:=key h;obtain⟨f2,d2,e2⟩:=key h';have q1:Eqv (doE (newS vs s) t).2 (newS vs x):=by
  obtain⟨k1,k2,k3⟩:=zm0 (S:=newS vs s) t;have:=zuX (e:=[]) (s:=s) (r':=⟨(doE (newS vs s) t).2,0,[]⟩) ⟨k1,k2,Nat.le_of_eq k3.symm⟩;simp only at this;rwa[e1]at this
 have q2:Eqv (doE (newS vs s') t).2 (newS vs x):=by
  obtain⟨k1,k2,k3⟩:=zm0 (S:=newS vs s') t;have:=zuX (e:=[]) (s:=s') (r':=⟨(doE (newS vs s') t).2,0,[]⟩) ⟨k1,k2,Nat.le_of_eq k3.symm⟩;simp only at this;rwa[e2]at this
 have u1:=(zpb (s:=s) false hl f1 hf hI hok).2 d1;have u2:=(zpb (s:=s') false hl f2 hf hI' hok).2 d2;simp only[Bool.false_eq_true,if_false]at u1 u2;have hu:=(zzj 1).undo 0 _ _ t (by decide) (q1.trans q2.symm);rw[u1,u2]at hu;have hq:Eqv (newS vs s) (newS vs s'):=by
  unfold OpS at hu;simpa using hu
 have hst:=hq.state;rw[zmT f1,zmT f2]at hst;exact hst.symm
theorem zue{f:SS->Option SS}{l:List SS}(hn:l.Nodup)(hi:∀s∈l,∀q∈l,∀x,f s=some x->f q=some x->s=q):zoX f l:=by
 intro a s b e x hx q hq y9;subst e;have:=hi s (by simp) q (by simp[hq]) x hx y9;subst this;rw[List.nodup_append]at hn;exact hn.2.2 s hq s (by simp) rfl
theorem zwl{x y:List (List Int)}(hx:x≠[])(hy:y≠[])(h:stOf x=stOf y):x=y:=by
 unfold stOf at h;injection h with h1 h2;rw[List.getLastD_eq_getLast?,List.getLastD_eq_getLast?,List.getLast?_eq_some_getLast hx,List.getLast?_eq_some_getLast hy]at h2;have h2:x.getLast hx=y.getLast hy:=by simpa using h2
 rw[<-List.dropLast_concat_getLast hx,<-List.dropLast_concat_getLast hy,h1,h2]
theorem ztf{vs:List VD}{b:BX}(h:(b.ok&&svB vs)=true):(allS b (lenE vs b)).Nodup:=by
 have h2:=zlV h;unfold allS;have hn:=ztg (h:=2*b.v+1) (by omega) (lenE vs b);have hne:∀x∈allB (2*b.v+1) (lenE vs b),x≠[]:=fun x hx e=>by
  have:=(zqa rfl x hx).len;rw[e,h2.1]at this;simp at this
 unfold List.Nodup at hn ⊢;rw[List.pairwise_map];exact List.Pairwise.imp_of_mem (fun {a b} ha hb hab e=>hab (zwl (hne a ha) (hne b hb) e)) hn
theorem zzI{vs:List VD}{b:BX}{t:T}(hs:smL vs b=true)(hf:∀v∈vs,FldV v)(hb:basB t.k=true)(hok:okB (oneP vs t)=true):losE t vs b=none:=by
 rcases zul (t:=t) hs hf with⟨-,h⟩|⟨l,-,rfl,hk,-,h,-⟩
 ·exact h
 ·rw[h];have h2:=zlV hk;exact zmq _ [] (zue (ztf hk) fun s hs q hq x hx y9=>zzJ (by omega) hf (zsC hk s hs) (zsC hk q hq) hb hok hx y9)
theorem zye(haw:AwP){W:World}{vs:List VD}{b:BX}{t:T}{v:Value}{A1:Option Addr}{c1:Nat}(hv:NV W Any t v)(hr:RowV W Any A1 vs)(hl:vs.length<=LV)(hlc:vs.length<=c1) :
  Calls Tryz.prog 8 #[v,.slice A1 vs.length c1,.agg #[.int .i64 b.v,.int .i64 b.l,.int .i64 b.i]] W fun e w'=>e=.returned (.bool true)/\Below W.heap.size W w':=by
 have xD:=zh haw;have HBIG:=zh (fun w' (hb:Below W.heap.size W w')=>zyd t v w' (hv.later hb));have HSML:=zh (fun w' (hb:Below W.heap.size W w')=>zsM vs b A1 c1 w' (hr.later hb) hl);have HBAS:=zh (fun w' (hb:Below W.heap.size W w')=>zte (hv.later hb));have uh:=zh (fun w' (hb:Below W.heap.size W w')=>zqT (b:=b) (c1:=c1) (hv.later hb) (hr.later hb) hl);have HALO:=zh (fun w' (hb:Below W.heap.size W w')=>zvr (prs:=[]) (A2:=none) (c2:=0) (hv.later hb) (hr.later hb) hl hlc (fun i hi=>by cases hi) (by decide) (by decide));have oo:∀x∈vs,FldV x:=fun x hx=>by
  obtain⟨i,hi,rfl⟩:=List.mem_iff_getElem.1 hx;obtain⟨a,v,-,-,Hv,-,hf⟩:=hr.nd hi;rw[Hv.out];exact hf
 have dB:=zh (fun h=>zzI (vs:=vs) (b:=b) (t:=t) h oo);obtain⟨A3,c3,rfl,-⟩:=hv.open_;obtain⟨k,n,nm,ks⟩:=t;obtain⟨bv,bl,bi⟩:=b;simp only[T.k_nd,T.n_nd,T.s_nd,T.ks_nd]at HBIG uh HALO HBAS dB ⊢;obtain⟨N,hN⟩:=zX (W.heap.size);have hb1:=zkb (zkb (zs W) (.cells #[.int .u8 k,.int .i64 n,.string nm,.slice A3 ks.length c3] 24)) (.cells #[.int .i64 bv,.int .i64 bl,.int .i64 bi] 27);have k0:=zkd (zlQ W hN (.cells #[.int .u8 k,.int .i64 n,.string nm,.slice A3 ks.length c3] 24)) (.cells #[.int .i64 bv,.int .i64 bl,.int .i64 bi] 27);have k1:=zlQ (W.alloc (.cells #[.int .u8 k,.int .i64 n,.string nm,.slice A3 ks.length c3] 24)) (n:=N+1) (by simp[hN]) (.cells #[.int .i64 bv,.int .i64 bl,.int .i64 bi] 27);obtain⟨w1,hw1⟩:=zX ((W.alloc (.cells #[.int .u8 k,.int .i64 n,.string nm,.slice A3 ks.length c3] 24)).alloc (.cells #[.int .i64 bv,.int .i64 bl,.int .i64 bi] 27))
 rw[hw1]at hb1 k0 k1;have HB1:=zh hb1;have aO:=zh k0;have aB:=zh k1;have HN:=zh hN
 show Calls Tryz.prog 8 #[.agg #[.int .u8 k,.int .i64 n,.string nm,.slice A3 ks.length c3],.slice A1 vs.length c1,.agg #[.int .i64 bv,.int .i64 bl,.int .i64 bi]] W _
 clear hv hr hl hlc hb1 k0 k1 haw oo;go_enter Tryz.func8,Tryz.ntmps8;go_wp2_with fail;clear hw1;refine(xD.out _).mono ?_;rintro e2 w2 ⟨rfl,hb2⟩;have HB2:=zh (zka HB1.out hb2);have fI:=zh (zkc aO.out hb2);have fH:=zh (zkc aB.out hb2);obtain⟨x0,x1,x2,x3⟩:=box4 fI.out;clear hb2;go_wp2_with fail;refine(HBIG.out _ HB2.out).mono ?_;rintro e3 w3 ⟨bg,rfl,hb3⟩;have HB3:=zh (zka HB2.out hb3);have uz:=zh (zkc fI.out hb3);have qg:=zh (zkc fH.out hb3);obtain⟨y0,y1,y2⟩:=zkx qg.out;clear hb3 x0 x1 x2 x3
 cases bg
 rotate_left 1
 ·go_wp2_with fail;go_ret;exact⟨rfl,HB3.out⟩
 go_wp2_with fail;refine(HSML.out _ HB3.out).mono ?_;obtain⟨sm,hsm⟩:=zX (smL vs ⟨bv,bl,bi⟩);rw[hsm];have HS:=zh hsm;clear hsm;rintro e4 w4 ⟨rfl,hb4⟩;have ak:=zh (zka HB3.out hb4);have HK04:=zh (zkc uz.out hb4);have HK14:=zh (zkc qg.out hb4);obtain⟨x0,x1,x2,x3⟩:=box4 HK04.out;clear hb4 y0 y1 y2
 cases sm
 ·go_wp2_with fail;go_ret;exact⟨rfl,ak.out⟩
 go_wp2_with fail;refine(HBAS.out _ ak.out).mono ?_;obtain⟨ba,qJ⟩:=zX (basB k);rw[qJ];have gq:=zh qJ;clear qJ;rintro e5 w5 ⟨rfl,hb5⟩;have av:=zh (zka ak.out hb5);have HK05:=zh (zkc HK04.out hb5);have uy:=zh (zkc HK14.out hb5);clear hb5 x0 x1 x2 x3;obtain⟨x0,x1,x2,x3⟩:=box4 HK05.out
 cases ba
 ·go_wp2_with fail;go_ret;exact⟨rfl,av.out⟩
 go_wp2_with fail;refine(HALO.out _ av.out).mono ?_;rintro e6 w6 ⟨A8,rfl,hpv,hb6⟩;have aU:=zh (zka av.out hb6);have HK06:=zh (zkc HK05.out hb6);have HK16:=zh (zkc uy.out hb6);have iC:=zh (zKF _ _ w6 hpv);clear hpv hb6 x0 x1 x2 x3;obtain⟨ok,hok⟩:=zX (okB (zlR vs [] (.nd k n nm ks)));rw[hok]at iC;have HO:=zh hok;clear hok;go_wp2_with fail;refine iC.out.mono ?_;rintro e7 w7 ⟨rfl,bW⟩;have kr:=zh (zka aU.out bW);have HK07:=zh (zkc HK06.out bW);have HK17:=zh (zkc HK16.out bW);clear bW
 cases ok
 ·go_wp2_with fail;go_ret;exact⟨rfl,kr.out⟩
 have mE:=zh (dB.out HS.out gq.out HO.out);rw[mE.out]at uh;obtain⟨x0,x1,x2,x3⟩:=box4 HK07.out;obtain⟨z0,z1,z2⟩:=zkx HK17.out;go_wp2_with fail;refine(uh.out _ kr.out).mono ?_;rintro e8 w8 ⟨bV,a0,a1,a2,a3,a4,a5,ok,rfl,h8⟩;obtain⟨rfl,rfl,rfl,rfl,rfl,rfl,rfl⟩:ok=false/\a0=.slice none 0 0/\a1=.slice none 0 0/\a2=.slice none 0 0/\a3=.slice none 0 0/\a4=.slice none 0 0/\a5=.slice none 0 0:=by
  rcases h8 with⟨-,h,h'⟩|⟨q,s,h,-⟩
  ·simp only[Array.mk.injEq,List.cons.injEq,and_true]at h';exact⟨h,h'⟩
  ·cases h
 have kz:=heap_alloc_new w8 (.cells #[.slice none 0 0,.slice none 0 0,.slice none 0 0,.slice none 0 0,.slice none 0 0,.slice none 0 0] 36);have hbz:=zkb (zs w8) (.cells #[.slice none 0 0,.slice none 0 0,.slice none 0 0,.slice none 0 0,.slice none 0 0,.slice none 0 0] 36);obtain⟨wz,hwz⟩:=zX (w8.alloc (.cells #[.slice none 0 0,.slice none 0 0,.slice none 0 0,.slice none 0 0,.slice none 0 0,.slice none 0 0] 36));rw[hwz]at kz hbz;obtain⟨q0,q1,q2,q3,q4,q5⟩:=box6 kz;have cfz:∀o,wz.frozen? ⟨w8.heap.size,o,none⟩=false:=fun o=>zf kz;obtain⟨wy,hwy,hcy,-⟩:=st6 (.slice none 0 0) (.slice none 0 0) (.slice none 0 0) (.slice none 0 0) (.slice none 0 0) (.slice none 0 0) kz;have hb56:Below w8.heap.size w8 wy:=hbz.trans (hcy.below hbz.size fun b (e:b=w8.heap.size)=>by omega);clear kz hbz hcy;have aX:=zh (zka (zka kr.out bV) hb56);clear bV hb56 h8 x0 x1 x2 x3 z0 z1 z2;go_wp2_with fail;go_ret
 exact⟨rfl,aX.out⟩
section
variable {P:Program} {md:Region.Mode} {ops:Array Oper} {Q:Exit->Act->World->Prop} {S1 S2:World->Prop} {k:Nat}
theorem zl0{i j:Nat}{oi oj:Oper}(si sj:Option Nat)(n:Nat)(L:Bool->Bool->Array Bool)(a0:Act)(Inv:World->Prop)(Al Fact:Value->World->Prop)
  (hoi:ops[i]?=some oi)(hoj:ops[j]?=some oj)(hdi:oi.dst=si)(hdj:oj.dst=sj)(hr0:Region.ready md ops (L false false)=[i,j])(hr1:Region.ready md ops (L false true)=[i])
  (hLi:∀l4,(L false l4).setIfInBounds i true=L true l4)(hLj:(L false false).setIfInBounds j true=L false true)
  (hS:∀w,Inv w->S1 w/\S2 w)(hInv:∀w w',Inv w->Below w.heap.size w w'->Inv w')(hAl:∀u w w',Al u w->Below w.heap.size w w'->Al u w')
  (hi:∀(v4:Value) (K:Act->World->Prop) (w:World),Inv w->Shut (∀v w',Below w.heap.size w w'->Fact v w'->K ((a0.put sj v4).put si v) w')->if Region.wanted oi (yielded ops (a0.put sj v4).tmps)=true then Oper.wp P oi (a0.put sj v4) w K Q else K ((a0.put sj v4).put si undef) w)
  (hj:∀(v4:Value) (K:Act->World->Prop) (w:World),Inv w->Shut (∀v w',Below w.heap.size w w'->Al v w'->K ((a0.put sj v4).put sj v) w')->if Region.wanted oj (yielded ops (a0.put sj v4).tmps)=true then Oper.wp P oj (a0.put sj v4) w K Q else K ((a0.put sj v4).put sj undef) w)
  (wu:∀u v,(a0.put sj u).put sj v=a0.put sj v)
  (hc:∀(l4:Bool) (v4 v:Value) (w:World),Inv w->Fact v w->(l4=true->Al v4 w)->(l4=false->v4=undef)->wpG P md ops Q S1 S2 k (n+(!l4).toNat) (L true l4) ((a0.put sj v4).put si v) w) :
  ∀(l4:Bool) (v4:Value) (w:World),Inv w->(l4=true->Al v4 w)->(l4=false->v4=undef)->a0.put sj v4=a0->wpG P md ops Q S1 S2 k (n+1+(!l4).toNat) (L false l4) a0 w:=by
 subst hdi hdj;have h1:∀(v4:Value) (w:World),Inv w->Al v4 w->wpG P md ops Q S1 S2 k (n+1) (L false true) (a0.put oj.dst v4) w:=by
  intro v4 w hI hA;refine⟨(fun h0=>by rw[hr1]at h0;cases h0),fun q hq=>?_⟩;rw[hr1]at hq;simp only[List.mem_singleton]at hq;subst hq;refine wpOp_step hoi fun K' hK=>hi v4 K' w hI ?_;intro v w' hb hF;have hI':=hInv _ _ hI hb;refine hK _ _ ⟨⟨(hS _ hI').1,fun _=>(hS _ hI').2⟩,?_⟩;rw[hLi];exact hc true v4 v w' hI' hF (fun _=>hAl _ _ _ hA hb) (fun h=>by cases h)
 intro l4 v4 w hI hA hU ha
 cases l4
 ·have hv:=hU rfl;refine⟨(fun h0=>by rw[hr0]at h0;cases h0),fun q hq=>?_⟩;rw[hr0]at hq;simp only[List.mem_cons,List.not_mem_nil,or_false]at hq;rcases hq with rfl|rfl
  ·refine wpOp_step hoi fun K' hK=>?_;rw[<-ha];refine hi v4 K' w hI ?_;intro v w' hb hF;have hI':=hInv _ _ hI hb;refine hK _ _ ⟨⟨(hS _ hI').1,fun _=>(hS _ hI').2⟩,?_⟩;rw[hLi];exact hc false v4 v w' hI' hF (fun h=>by cases h) (fun _=>hv)
  ·refine wpOp_step hoj fun K' hK=>?_;rw[<-ha];refine hj v4 K' w hI ?_;intro v w' hb hF;have hI':=hInv _ _ hI hb;refine hK _ _ ⟨⟨(hS _ hI').1,fun _=>(hS _ hI').2⟩,?_⟩;rw[hLj,wu];exact h1 v w' hI' hF
 ·rw[<-ha];exact h1 v4 w hI (hA rfl)
theorem zpM{j:Nat}{oj:Oper}(sj:Option Nat)(n:Nat)(L:Bool->Array Bool)(a0:Act)(Inv:World->Prop)(Al:Value->World->Prop)
  (hoj:ops[j]?=some oj)(hdj:oj.dst=sj)(hr0:Region.ready md ops (L false)=[j])(hLj:(L false).setIfInBounds j true=L true)
  (hS:∀w,Inv w->S1 w/\S2 w)(hInv:∀w w',Inv w->Below w.heap.size w w'->Inv w')
  (hj:∀(v4:Value) (K:Act->World->Prop) (w:World),Inv w->Shut (∀v w',Below w.heap.size w w'->Al v w'->K ((a0.put sj v4).put sj v) w')->if Region.wanted oj (yielded ops (a0.put sj v4).tmps)=true then Oper.wp P oj (a0.put sj v4) w K Q else K ((a0.put sj v4).put sj undef) w)
  (wu:∀u v,(a0.put sj u).put sj v=a0.put sj v)
  (hc:∀(v4:Value) (w:World),Inv w->Al v4 w->wpG P md ops Q S1 S2 k n (L true) (a0.put sj v4) w) :
  ∀(l4:Bool) (v4:Value) (w:World),Inv w->(l4=true->Al v4 w)->a0.put sj v4=a0->wpG P md ops Q S1 S2 k (n+(!l4).toNat) (L l4) a0 w:=by
 subst hdj;intro l4 v4 w hI hA ha
 cases l4
 ·refine⟨(fun h0=>by rw[hr0]at h0;cases h0),fun q hq=>?_⟩;rw[hr0]at hq;simp only[List.mem_singleton]at hq;subst hq;refine wpOp_step hoj fun K' hK=>?_;rw[<-ha];refine hj v4 K' w hI ?_;intro v w' hb hF;have hI':=hInv _ _ hI hb;refine hK _ _ ⟨⟨(hS _ hI').1,fun _=>(hS _ hI').2⟩,?_⟩;rw[hLj,wu];exact hc v w' hI' hF
 ·rw[<-ha];exact hc v4 w hI (hA rfl)
end
abbrev AlW(w0:World)(Z:Array Value)(E:TypeId)(u:Value)(w:World):Prop:=∃b,u=.pointer (some ⟨b,0,none⟩)/\w0.heap.size<=b/\w.heap[b]?=some (.cells Z E (0,0))
theorem bVdW(w:World):(Instr.build 76 #[(0,.string ⟨#[120]⟩),(1,.int .u8 1)]).run Tryz.prog w=.ok (.agg #[.string ⟨#[120]⟩,.int .u8 1,.int .i64 0]) w:=by kernel_rfl
theorem bSVW(a0 a1 a2:Value)(w:World):(Instr.buildSlice 25 1 #[(0,.agg #[a0,a1,a2])]).run Tryz.prog w=.ok (.slice (some ⟨w.heap.size,0,none⟩) 1 1) (w.alloc (.cells #[a0,a1,a2] 76)):=by kernel_rfl
theorem bBxW(w:World):(Instr.build 27 #[(0,.int .i64 1)]).run Tryz.prog w=.ok (.agg #[.int .i64 1,.int .i64 0,.int .i64 0]) w:=by kernel_rfl
theorem bXW(w:World):(Instr.build 24 #[(0,.int .u8 2),(2,.string ⟨#[120]⟩)]).run Tryz.prog w=.ok (.agg #[.int .u8 2,.int .i64 0,.string ⟨#[120]⟩,.slice none 0 0]) w:=by kernel_rfl
theorem zKv(a0 a1 a2 a3 b0 b1 b2 b3:Value)(w:World):(Instr.buildSlice 22 2 #[(0,.agg #[a0,a1,a2,a3]),(1,.agg #[b0,b1,b2,b3])]).run Tryz.prog w=.ok (.slice (some ⟨w.heap.size,0,none⟩) 2 2) (w.alloc (.cells #[a0,a1,a2,a3,b0,b1,b2,b3] 24)):=by kernel_rfl
theorem bNkW(k:Int)(A:Option Addr)(l c:Nat)(w:World):(Instr.build 24 #[(0,.int .u8 k),(3,.slice A l c)]).run Tryz.prog w=.ok (nv k 0 ⟨#[]⟩ A l c) w:=by kernel_rfl
theorem fldW(k:Int)(hk:0<=k/\k<256):Fld k 0 ⟨#[]⟩:=⟨hk,⟨by omega,by omega⟩,by decide⟩
theorem fldX:Fld 2 0 ⟨#[120]⟩:=⟨⟨by omega,by omega⟩,⟨by omega,by omega⟩,by decide⟩
theorem fldN(n:Int)(h:I64 n):Fld 1 n ⟨#[]⟩:=⟨⟨by omega,by omega⟩,h,by decide⟩
theorem zuL:IsFn Tryz.prog 35 Tryz.f35:=⟨Tryz.func35,by kernel_rfl,by kernel_rfl⟩
theorem zKg:IsFn Tryz.prog 12 Tryz.f12:=⟨Tryz.func12,by kernel_rfl,by kernel_rfl⟩
theorem zero_pair{w:World}{p:Addr}{bb:Nat}{E:TypeId}{u:Value}(hz:w.heap[bb]?=some (.cells #[.slice none 0 0,.slice none 0 0,.slice none 0 0,.slice none 0 0,.slice none 0 0,.slice none 0 0] E (0,0)))(hp:p.block=bb)(h:w.cell? p=some u):u=.slice none 0 0:=by
 subst hp;obtain⟨b,o,m⟩:=p;simp only[World.cell?]at h hz
 cases m with
 | none =>
  simp only[hz]at h
  match o,h with
  | 0,h=>simp at h;exact h.symm
  | 1,h=>simp at h;exact h.symm
  | 2,h=>simp at h;exact h.symm
  | 3,h=>simp at h;exact h.symm
  | 4,h=>simp at h;exact h.symm
  | 5,h=>simp at h;exact h.symm
  | n+6,h=>simp at h
 | some x=>simp[hz]at h
theorem SV.nz6{w:World}{S:Nat->Prop}{bb:Nat}{E:TypeId}{x:Int}{v:Value}(hz:w.heap[bb]?=some (.cells #[.slice none 0 0,.slice none 0 0,.slice none 0 0,.slice none 0 0,.slice none 0 0,.slice none 0 0] E (0,0)))(h:SV w S ⟨[[x]],[],[]⟩ v):SV w (fun b=>S b/\b≠bb) ⟨[[x]],[],[]⟩ v:=by
 obtain⟨A,c,B,d,D,e,rfl,h1,h2,h3,h4⟩:=h;refine⟨A,c,B,d,D,e,rfl,fun i hi=>?_,(fun i hi=>by simp at hi),(fun i hi=>by simp at hi),h4⟩;obtain⟨a,A',c',hA,hS,hc,hl,hr⟩:=h1 i hi;obtain rfl:i=0:=by simpa using hi
 refine⟨a,A',c',hA,⟨hS,fun e=>?_⟩,hc,hl,fun j hj=>?_⟩
 ·have:=zero_pair hz (by rw[zkr];exact e) hc;simp at this
 ·obtain⟨a2,hA2,hS2,hc2,hi2⟩:=hr j hj;refine⟨a2,hA2,⟨hS2,fun e=>?_⟩,hc2,hi2⟩;have:=zero_pair hz (by rw[zkr];exact e) hc2
  cases this
theorem zz0{w:World}{b:Nat}(h:w.heap[b]?=some (.cells #[.string ⟨#[120]⟩,.int .u8 1,.int .i64 0] 76 (0,0))):RowV w Any (some ⟨b,0,none⟩) vsW:=zwt h (by
  intro v hv;simp only[vsW,List.mem_cons,List.not_mem_nil,or_false]at hv;subst hv;exact⟨by decide,⟨by decide,by decide⟩,by decide,by decide⟩)
theorem zero_st{w:World}{p:Addr}{bb:Nat}{E:TypeId}{u:Value}(hz:w.heap[bb]?=some (.cells #[.slice none 0 0,.slice none 0 0,.slice none 0 0] E (0,0)))(hp:p.block=bb)(h:w.cell? p=some u):u=.slice none 0 0:=by
 subst hp;obtain⟨b,o,m⟩:=p;simp only[World.cell?]at h hz
 cases m with
 | none =>
  simp only[hz]at h
  match o,h with
  | 0,h=>simp at h;exact h.symm
  | 1,h=>simp at h;exact h.symm
  | 2,h=>simp at h;exact h.symm
  | n+3,h=>simp at h
 | some x=>simp[hz]at h
theorem SV.nz3{w:World}{S:Nat->Prop}{bb:Nat}{E:TypeId}{x:Int}{v:Value}(hz:w.heap[bb]?=some (.cells #[.slice none 0 0,.slice none 0 0,.slice none 0 0] E (0,0)))(h:SV w S ⟨[[x]],[],[]⟩ v):SV w (fun b=>S b/\b≠bb) ⟨[[x]],[],[]⟩ v:=by
 obtain⟨A,c,B,d,D,e,rfl,h1,h2,h3,h4⟩:=h;refine⟨A,c,B,d,D,e,rfl,fun i hi=>?_,(fun i hi=>by simp at hi),(fun i hi=>by simp at hi),h4⟩;obtain⟨a,A',c',hA,hS,hc,hl,hr⟩:=h1 i hi;obtain rfl:i=0:=by simpa using hi
 refine⟨a,A',c',hA,⟨hS,fun e=>?_⟩,hc,hl,fun j hj=>?_⟩
 ·have:=zero_st hz (by rw[zkr];exact e) hc;simp at this
 ·obtain⟨a2,hA2,hS2,hc2,hi2⟩:=hr j hj;refine⟨a2,hA2,⟨hS2,fun e=>?_⟩,hc2,hi2⟩;have:=zero_st hz (by rw[zkr];exact e) hc2
  cases this
theorem zyO{W:World}{b:Nat}{E:TypeId}{l1:List Int}{A1:Option Addr}{c1:Nat}(h:W.heap[b]?=some (.cells #[.slice A1 l1.length c1] E (0,0)))(r1:RowI W Any A1 l1)(h1:l1.length<=c1):znT W Any (some ⟨b,0,none⟩) [l1]:=fun i hi=>by
 match i,hi with
 | 0,_=>exact⟨⟨b,0,none⟩,A1,c1,rfl,trivial,zc h rfl,h1,r1⟩
theorem SV1W{W:World}{b q:Nat}{x:Int}(hx:I64 x)(h1:W.heap[b]?=some (.cells #[.slice (some ⟨q,0,none⟩) 1 1] 32 (0,0)))(h2:W.heap[q]?=some (.cells #[.int .i64 x] 3 (0,0))):SV W Any ⟨[[x]],[],[]⟩ (.agg #[.slice (some ⟨b,0,none⟩) 1 1,.slice none 0 0,.slice none 0 0]) :=
 ⟨_,1,none,0,none,0,rfl,zyO (l1:=[x]) h1 (zwu h2 (by intro y hy;simp at hy;subst hy;exact hx)) (by simp),fun i hi=>by simp at hi,fun i hi=>by simp at hi,by simp,by simp,by simp,by simp[LI],by intro l hl;simp at hl;subst hl;simp[LI],by simp[LI],by simp[LI]⟩
theorem zzP{W:World}{b:Nat}{E:TypeId}{S:Nat->Prop}(hS:S b){t1 t2:T}{k n k1 n1 k2 n2:Int}{s s1 s2:ByteArray}{A1 A2:Option Addr}{l1 c1 l2 c2:Nat}(hf:Fld k n s)(h1:NV W S t1 (nv k1 n1 s1 A1 l1 c1))(h2:NV W S t2 (nv k2 n2 s2 A2 l2 c2))
  (hx:W.heap[b]?=some (.cells #[.int .u8 k1,.int .i64 n1,.string s1,.slice A1 l1 c1,.int .u8 k2,.int .i64 n2,.string s2,.slice A2 l2 c2] E (0,0))):NV W S (.nd k n s [t1,t2]) (nv k n s (some ⟨b,0,none⟩) 2 2):=by
 refine NV.shut (ks:=[t1,t2]) hf (by simp[LK]) (by simp) fun i hi=>?_
 match i,hi with
 | 0,_=>exact⟨⟨b,0,none⟩,_,_,_,_,rfl,hS,⟨zc hx rfl,zc hx rfl,zc hx rfl,zc hx rfl⟩,h1⟩
 | 1,_=>exact⟨⟨b,0,none⟩,_,_,_,_,rfl,hS,⟨zc hx rfl,zc hx rfl,zc hx rfl,zc hx rfl⟩,h2⟩
theorem zx2{W:World}{b:Nat}{E:TypeId}{S:Nat->Prop}(hS:S b){t1 t2 t3 t4:T}{k n k1 n1 k2 n2 k3 n3 k4 n4:Int}{s s1 s2 s3 s4:ByteArray}{A1 A2 A3 A4:Option Addr}{l1 c1 l2 c2 l3 c3 l4 c4:Nat}(hf:Fld k n s)(h1:NV W S t1 (nv k1 n1 s1 A1 l1 c1))(h2:NV W S t2 (nv k2 n2 s2 A2 l2 c2))(h3:NV W S t3 (nv k3 n3 s3 A3 l3 c3))(h4:NV W S t4 (nv k4 n4 s4 A4 l4 c4))
  (hx:W.heap[b]?=some (.cells #[.int .u8 k1,.int .i64 n1,.string s1,.slice A1 l1 c1,.int .u8 k2,.int .i64 n2,.string s2,.slice A2 l2 c2,.int .u8 k3,.int .i64 n3,.string s3,.slice A3 l3 c3,.int .u8 k4,.int .i64 n4,.string s4,.slice A4 l4 c4] E (0,0))):NV W S (.nd k n s [t1,t2,t3,t4]) (nv k n s (some ⟨b,0,none⟩) 4 4):=by
 refine NV.shut (ks:=[t1,t2,t3,t4]) hf (by simp[LK]) (by simp) fun i hi=>?_
 match i,hi with
 | 0,_=>exact⟨⟨b,0,none⟩,_,_,_,_,rfl,hS,⟨zc hx rfl,zc hx rfl,zc hx rfl,zc hx rfl⟩,h1⟩
 | 1,_=>exact⟨⟨b,0,none⟩,_,_,_,_,rfl,hS,⟨zc hx rfl,zc hx rfl,zc hx rfl,zc hx rfl⟩,h2⟩
 | 2,_=>exact⟨⟨b,0,none⟩,_,_,_,_,rfl,hS,⟨zc hx rfl,zc hx rfl,zc hx rfl,zc hx rfl⟩,h3⟩
 | 3,_=>exact⟨⟨b,0,none⟩,_,_,_,_,rfl,hS,⟨zc hx rfl,zc hx rfl,zc hx rfl,zc hx rfl⟩,h4⟩
theorem st4W{W:World}{b:Nat}{a0 a1 a2 a3:Value}{ty:TypeId}(v0 v1 v2 v3:Value)(h:W.heap[b]?=some (.cells #[a0,a1,a2,a3] ty (0,0))) :
  ∃W',(((W.setCell ⟨b,0,none⟩ v0).setCell ⟨b,1,none⟩ v1).setCell ⟨b,2,none⟩ v2).setCell ⟨b,3,none⟩ v3=W'/\Chg (fun q=>q=b) W W'/\W'.heap[b]?=some (.cells #[v0,v1,v2,v3] ty (0,0)):=by
 obtain⟨W0,h0,c0,k0⟩:=setU (o:=0) v0 h;obtain⟨W1,h1,c1,k1⟩:=setU (o:=1) v1 k0;obtain⟨W2,h2,c2,k2⟩:=setU (o:=2) v2 k1;obtain⟨W3,h3,c3,k3⟩:=setU (o:=3) v3 k2;exact⟨W3,by rw[h0,h1,h2,h3],((c0.trans c1).trans c2).trans c3,by simpa using k3⟩
theorem zK6(a0 a1 a2 a3 b0 b1 b2 b3 c0 c1 c2 c3 d0 d1 d2 d3:Value)(w:World):(Instr.buildSlice 22 4 #[(0,.agg #[a0,a1,a2,a3]),(1,.agg #[b0,b1,b2,b3]),(2,.agg #[c0,c1,c2,c3]),(3,.agg #[d0,d1,d2,d3])]).run Tryz.prog w=.ok (.slice (some ⟨w.heap.size,0,none⟩) 4 4) (w.alloc (.cells #[a0,a1,a2,a3,b0,b1,b2,b3,c0,c1,c2,c3,d0,d1,d2,d3] 24)):=by kernel_rfl
theorem bBlW(w:World):(Instr.build 24 #[(0,.int .u8 57)]).run Tryz.prog w=.ok (.agg #[.int .u8 57,.int .i64 0,.string ⟨#[]⟩,.slice none 0 0]) w:=by kernel_rfl
theorem bIW(x:Int)(w:World):(Instr.buildSlice 32 1 #[(0,.int .i64 x)]).run Tryz.prog w=.ok (.slice (some ⟨w.heap.size,0,none⟩) 1 1) (w.alloc (.cells #[.int .i64 x] 3)):=by kernel_rfl
theorem zLb(A:Option Addr)(l c:Nat)(w:World):(Instr.buildSlice 31 1 #[(0,.slice A l c)]).run Tryz.prog w=.ok (.slice (some ⟨w.heap.size,0,none⟩) 1 1) (w.alloc (.cells #[.slice A l c] 32)):=by kernel_rfl
theorem bStW(A:Option Addr)(l c:Nat)(w:World):(Instr.build 34 #[(0,.slice A l c)]).run Tryz.prog w=.ok (.agg #[.slice A l c,.slice none 0 0,.slice none 0 0]) w:=by kernel_rfl
theorem zKi:IsFn Tryz.prog 18 Tryz.f18:=⟨Tryz.func18,by kernel_rfl,by kernel_rfl⟩
abbrev zAW(w:World):=AlW w #[.slice none 0 0,.slice none 0 0,.slice none 0 0,.slice none 0 0,.slice none 0 0,.slice none 0 0] 36
theorem zvo:AwP:=by
 intro W;have h1:=bVdW;have h2:=bSVW;have h3:=bBxW;have h4:=bXW;go_enter Tryz.func9,Tryz.ntmps9;go_upto_region 4 with fail;clear h1 h2 h3 h4;have hb1:=zkb (zkb (zkb (zs W) (.cells #[.int .u8 2,.int .i64 0,.string ⟨#[120]⟩,.slice none 0 0] 24)) (.cells #[.string ⟨#[120]⟩,.int .u8 1,.int .i64 0] 76)) (.cells #[.int .i64 1,.int .i64 0,.int .i64 0] 27);obtain⟨-,hz,k0,k1,k2⟩:=al3 W (.cells #[.int .u8 2,.int .i64 0,.string ⟨#[120]⟩,.slice none 0 0] 24) (.cells #[.string ⟨#[120]⟩,.int .u8 1,.int .i64 0] 76) (.cells #[.int .i64 1,.int .i64 0,.int .i64 0] 27);obtain⟨w1,hw1⟩:=zX (((W.alloc (.cells #[.int .u8 2,.int .i64 0,.string ⟨#[120]⟩,.slice none 0 0] 24)).alloc (.cells #[.string ⟨#[120]⟩,.int .u8 1,.int .i64 0] 76)).alloc (.cells #[.int .i64 1,.int .i64 0,.int .i64 0] 27));rw[hw1]at hb1 hz k0 k1 k2 ⊢;obtain⟨N,hN⟩:=zX (W.heap.size);rw[hN]at hz k0 k1 k2;have HN:=zh hN;have HB1:=zh hb1
 have HZ1:=zh hz;have HKX:=zh k0;have HKV:=zh k1;have gZ:=zh k2;clear hb1 hz k0 k1 k2 hN;simp only[HN.out];clear hw1;have ay:=zh (show ∀w',Below w1.heap.size w1 w'->(fun w':World=>(zN4 w' N (.int .u8 2) (.int .i64 0) (.string ⟨#[120]⟩) (.slice none 0 0))/\zN3 w' (N+2) (.int .i64 1) (.int .i64 0) (.int .i64 0)) w' from fun w' hb=>⟨box4 (zkc HKX.out hb),zkx (zkc gZ.out hb)⟩);have hSS:zW (fun w':World=>(zN4 w' N (.int .u8 2) (.int .i64 0) (.string ⟨#[120]⟩) (.slice none 0 0))/\zN3 w' (N+2) (.int .i64 1) (.int .i64 0) (.int .i64 0)) zU w1.drew:=⟨ay.out _ zr.drew,trivial⟩
 refine wp_region_noPanic ?_;refine zG hSS 11 ?_;refine zT 0 hSS ?_;refine zT 4 hSS ?_;refine zT 5 hSS ?_;have hI:(fun w=>Below w1.heap.size w1 w) w1.drew:=zr.drew;clear hSS;refine zl0 (i:=1) (j:=10) (some 17) (some 4) 8 (fun li l4 => #[true,li,false,false,true,true,false,false,false,false,l4,false,false]) _ (fun w=>Below w1.heap.size w1 w) (zAW w1) (fun v w=>v=nv 1 0 ⟨#[]⟩ none 0 0) rfl rfl rfl rfl (by kernel_rfl) (by kernel_rfl) (fun l4=>by cases l4<;>rfl) rfl (fun w h=>⟨ay.out _ h,trivial⟩) (fun w w' h hb=>?_) (fun u w w' h hb=>?_) (fun v4 K w h au=>?_) (fun v4 K w h au=>?_) (fun u v=>?_) (fun l4 v4 v wc h hF hA hU=>?_) false undef w1.drew hI (fun h=>by cases h) (fun _=>rfl) ?_
 ·exact zka h hb
 ·obtain⟨b,e1,e2,e3⟩:=h;exact⟨b,e1,e2,zkc e3 hb⟩
 ·have hb0:=h;have hK:=zh au;clear au;have had:Calls Tryz.prog 35 [.int .i64 0].toArray w fun e w'=>∃v,e=.returned v/\(v=nv 1 0 ⟨#[]⟩ none 0 0/\Below w.heap.size w w'):=(zrl 0 w).mono fun e w' ⟨h1,h2⟩=>⟨_,h1,rfl,h2⟩
  refine zke (by rfl) (.func 35) [.const (.int .i64 0)] _ (by rfl) 35 _ zuL (by rfl) _ (by rfl) _ had ?_;rintro v w' ⟨rfl,hb⟩;exact hK.out _ _ hb rfl
 ·have hK:=zh au;clear au;(try simp only[zQ]);go_simp;exact hK.out _ _ (zkb zr _) ⟨_,rfl,h.size,heap_alloc_new w _⟩
 ·simp only[zQ]
 rotate_left 1
 ·simp only[zQ]
 (try simp only[zQ]);obtain rfl:=hF;clear hI;have hI:(fun w=>Below w1.heap.size w1 w) wc:=h;have iW:=hA;have gP:=hU;clear hA hU;refine zl0 (i:=2) (j:=10) (some 18) (some 4) 7 (fun li l4 => #[true,true,li,false,true,true,false,false,false,false,l4,false,false]) _ (fun w=>Below w1.heap.size w1 w) (zAW w1) (fun v w=>∃b,v=.slice (some ⟨b,0,none⟩) 2 2/\NV w Any stTW (nv 56 0 ⟨#[]⟩ (some ⟨b,0,none⟩) 2 2)) rfl rfl rfl rfl (by kernel_rfl) (by kernel_rfl) (fun l4=>by cases l4<;>rfl) rfl (fun w h=>⟨ay.out _ h,trivial⟩) (fun w w' h hb=>?_) (fun u w w' h hb=>?_) (fun v4 K w h au=>?_) (fun v4 K w h au=>?_) (fun u v=>?_) (fun l4 v4 v wc h hF hA hU=>?_) l4 v4 wc hI iW gP ?_
 ·exact zka h hb
 ·obtain⟨b,e1,e2,e3⟩:=h;exact⟨b,e1,e2,zkc e3 hb⟩
 ·have hK:=zh au;clear au;have hbs:=zKv;(try simp only[zQ]);go_simp;exact hK.out _ _ (zkb zr _) ⟨_,rfl,zKG w 24 (S:=Any) trivial (fldW 56 (by omega)) (znk w _ fldX) (znk w _ (fldN 0 ⟨by decide,by decide⟩))⟩
 ·have hK:=zh au;clear au;(try simp only[zQ]);go_simp;exact hK.out _ _ (zkb zr _) ⟨_,rfl,h.size,heap_alloc_new w _⟩
 ·simp only[zQ]
 rotate_left 1
 ·simp only[zQ]
 (try simp only[zQ]);obtain⟨sb,rfl,m18⟩:=hF;clear hI;have hI:(fun w=>Below w1.heap.size w1 w/\NV w Any stTW (nv 56 0 ⟨#[]⟩ (some ⟨sb,0,none⟩) 2 2)) wc:=⟨h,m18⟩
 have iW:=hA;have gP:=hU;clear hA hU m18;refine zl0 (i:=3) (j:=10) (some 19) (some 4) 6 (fun li l4 => #[true,true,true,li,true,true,false,false,false,false,l4,false,false]) _ (fun w=>Below w1.heap.size w1 w/\NV w Any stTW (nv 56 0 ⟨#[]⟩ (some ⟨sb,0,none⟩) 2 2)) (zAW w1) (fun v w=>v=.agg #[.int .u8 56,.int .i64 0,.string ⟨#[]⟩,.slice (some ⟨sb,0,none⟩) 2 2]) rfl rfl rfl rfl (by kernel_rfl) (by kernel_rfl) (fun l4=>by cases l4<;>rfl) rfl (fun w h=>⟨ay.out _ h.1,trivial⟩) (fun w w' h hb=>?_) (fun u w w' h hb=>?_) (fun v4 K w h au=>?_) (fun v4 K w h au=>?_) (fun u v=>?_) (fun l4 v4 v wc h hF hA hU=>?_) l4 v4 wc hI iW gP ?_
 ·exact⟨zka h.1 hb,h.2.later hb⟩
 ·obtain⟨b,e1,e2,e3⟩:=h;exact⟨b,e1,e2,zkc e3 hb⟩
 ·have hK:=zh au;clear au;have hbs:=bNkW;(try simp only[zQ]);go_simp;exact hK.out _ _ zr rfl
 ·have hK:=zh au;clear au;(try simp only[zQ]);go_simp;exact hK.out _ _ (zkb zr _) ⟨_,rfl,h.1.size,heap_alloc_new w _⟩
 ·simp only[zQ]
 rotate_left 1
 ·simp only[zQ]
 (try simp only[zQ]);obtain rfl:=hF;clear hI;have hI:(fun w=>Below w1.heap.size w1 w/\NV w Any stTW (nv 56 0 ⟨#[]⟩ (some ⟨sb,0,none⟩) 2 2)) wc:=h;have iW:=hA;have gP:=hU;clear hA hU
 refine zl0 (i:=6) (j:=10) (some 22) (some 4) 5 (fun li l4 => #[true,true,true,true,true,true,li,false,false,false,l4,false,false]) _ (fun w=>Below w1.heap.size w1 w/\NV w Any stTW (nv 56 0 ⟨#[]⟩ (some ⟨sb,0,none⟩) 2 2)) (zAW w1) (fun v w=>∃A0 c0 B0 d0 D0 e0 A1 c1 B1 d1 D1 e1,v=.tuple #[.agg #[.slice A0 1 c0,.slice B0 0 d0,.slice D0 0 e0,.slice A1 1 c1,.slice B1 0 d1,.slice D1 0 e1],.bool true]/\SV w (fun b=>w1.heap.size<=b) ⟨[[0]],[],[]⟩ (.agg #[.slice A0 1 c0,.slice B0 0 d0,.slice D0 0 e0])/\SV w (fun b=>w1.heap.size<=b) ⟨[[1]],[],[]⟩ (.agg #[.slice A1 1 c1,.slice B1 0 d1,.slice D1 0 e1])) rfl rfl rfl rfl (by kernel_rfl) (by kernel_rfl) (fun l4=>by cases l4<;>rfl) rfl (fun w h=>⟨ay.out _ h.1,trivial⟩) (fun w w' h hb=>?_) (fun u w w' h hb=>?_) (fun v4 K w h au=>?_) (fun v4 K w h au=>?_) (fun u v=>?_) (fun l4 v4 v wc h hF hA hU=>?_) l4 v4 wc hI iW gP ?_
 ·exact⟨zka h.1 hb,h.2.later hb⟩
 ·obtain⟨b,e1,e2,e3⟩:=h;exact⟨b,e1,e2,zkc e3 hb⟩
 ·have hb0:=h.1;have hn0:=h.2;have hK:=zh au;clear au;have had:Calls Tryz.prog 12 [.agg #[.int .u8 56,.int .i64 0,.string ⟨#[]⟩,.slice (some ⟨sb,0,none⟩) 2 2],.slice (some ⟨N+1,0,none⟩) 1 1,.agg #[.int .i64 1,.int .i64 0,.int .i64 0]].toArray w fun e w'=>∃v,e=.returned v/\((∃A0 c0 B0 d0 D0 e0 A1 c1 B1 d1 D1 e1,v=.tuple #[.agg #[.slice A0 1 c0,.slice B0 0 d0,.slice D0 0 e0,.slice A1 1 c1,.slice B1 0 d1,.slice D1 0 e1],.bool true]/\SV w' (fun b=>w1.heap.size<=b) ⟨[[0]],[],[]⟩ (.agg #[.slice A0 1 c0,.slice B0 0 d0,.slice D0 0 e0])/\SV w' (fun b=>w1.heap.size<=b) ⟨[[1]],[],[]⟩ (.agg #[.slice A1 1 c1,.slice B1 0 d1,.slice D1 0 e1]))/\Below w.heap.size w w') :=
   (zqT (t:=stTW) (vs:=vsW) (b:=bxW) (c1:=1) hn0 (zz0 (zkc HKV.out hb0)) (by decide)).mono fun e w' ⟨hb,x0,x1,x2,x3,x4,x5,bb,he,hr⟩=>by
    rw[zz7]at hr;rcases hr with⟨h,-⟩|⟨q,s,h,rfl,hq,hs⟩
    ·cases h
    ·injection h with h;injection h with h1 h2;subst h1 h2;have hq2:=hq;have hs2:=hs;obtain⟨A0,c0,B0,d0,D0,e0,hv0,-⟩:=hq2;obtain⟨A1,c1,B1,d1,D1,e1,hv1,-⟩:=hs2;injection hv0 with hv0;injection hv1 with hv1;simp only[Array.mk.injEq,List.cons.injEq,and_true,List.length_cons,List.length_nil,Nat.zero_add]at hv0 hv1;obtain⟨rfl,rfl,rfl⟩:=hv0;obtain⟨rfl,rfl,rfl⟩:=hv1;exact⟨_,he,⟨_,_,_,_,_,_,_,_,_,_,_,_,rfl,hq.keep (fun b h _=>Nat.le_trans hb0.size h) (fun _ _ _=>rfl),hs.keep (fun b h _=>Nat.le_trans hb0.size h) (fun _ _ _=>rfl)⟩,hb⟩
  refine zke (by rfl) (.func 12) [.tmp 19,.tmp 20,.tmp 21] _ (by rfl) 12 _ zKg (by rfl) _ (by rfl) _ had ?_;rintro v w' ⟨hF,hb⟩;exact hK.out _ _ hb hF
 ·have hK:=zh au;clear au;(try simp only[zQ]);go_simp;exact hK.out _ _ (zkb zr _) ⟨_,rfl,h.1.size,heap_alloc_new w _⟩
 ·simp only[zQ]
 rotate_left 1
 ·simp only[zQ]
 (try simp only[zQ]);obtain⟨A0,c0,B0,d0,D0,e0,A1,c1,B1,d1,D1,e1,rfl,hq,hs⟩:=hF;clear hI;have hSS:zW (fun w':World=>(zN4 w' N (.int .u8 2) (.int .i64 0) (.string ⟨#[120]⟩) (.slice none 0 0))/\zN3 w' (N+2) (.int .i64 1) (.int .i64 0) (.int .i64 0)) zU wc:=⟨ay.out _ h.1,trivial⟩
 have hI:(fun w=>Below w1.heap.size w1 w/\SV w (fun b=>w1.heap.size<=b) ⟨[[0]],[],[]⟩ (.agg #[.slice A0 1 c0,.slice B0 0 d0,.slice D0 0 e0])/\SV w (fun b=>w1.heap.size<=b) ⟨[[1]],[],[]⟩ (.agg #[.slice A1 1 c1,.slice B1 0 d1,.slice D1 0 e1])) wc:=⟨h.1,hq,hs⟩
 clear h iW gP hq hs;rw[Nat.add_comm 5];refine zkt (i:=7) (v:=?_) rfl (by kernel_rfl) (by cases l4<;>kernel_rfl) (by cases l4<;>kernel_rfl) (by decide) (fun _ _ _ h=>h) (Or.inl ⟨by rfl,?_⟩) hSS ?_;rotate_left 1
 ·(intro w hSw;(try dsimp only at hSw);(try simp only[zA,zB,zC]);go_simp;(try with_reducible rfl))
 (try simp only[zQ]);refine zkt (i:=8) (v:=?_) rfl (by kernel_rfl) (by cases l4<;>kernel_rfl) (by cases l4<;>kernel_rfl) (by decide) (fun _ _ _ h=>h) (Or.inl ⟨by rfl,?_⟩) hSS ?_;rotate_left 1
 ·(intro w hSw;(try dsimp only at hSw);(try simp only[zA,zB,zC]);go_simp;(try with_reducible rfl))
 (try simp only[zQ]);refine zkt (i:=9) (v:=?_) rfl (by kernel_rfl) (by cases l4<;>kernel_rfl) (by cases l4<;>kernel_rfl) (by decide) (fun _ _ _ h=>h) (Or.inl ⟨by rfl,?_⟩) hSS ?_;rotate_left 1
 ·(intro w hSw;(try dsimp only at hSw);(try simp only[zA,zB,zC]);go_simp;(try with_reducible rfl))
 (try simp only[zQ]);rw[Nat.add_comm (Bool.toNat _) 2];clear hSS;refine zpM (j:=10) (some 4) 2 (fun l4 => #[true,true,true,true,true,true,true,true,true,true,l4,false,false]) _ (fun w=>Below w1.heap.size w1 w/\SV w (fun b=>w1.heap.size<=b) ⟨[[0]],[],[]⟩ (.agg #[.slice A0 1 c0,.slice B0 0 d0,.slice D0 0 e0])/\SV w (fun b=>w1.heap.size<=b) ⟨[[1]],[],[]⟩ (.agg #[.slice A1 1 c1,.slice B1 0 d1,.slice D1 0 e1])) (zAW w1) rfl rfl (by kernel_rfl) rfl (fun w h=>⟨ay.out _ h.1,trivial⟩) (fun w w' h hb=>⟨zka h.1 hb,h.2.1.later hb,h.2.2.later hb⟩) (fun v4 K w h au=>?_) (fun u v=>?_) (fun v5 w3 h5 wQ=>?_) l4 v4 wc hI hA ?_
 ·have hb0:=h.1;have hK:=zh au;clear au;(try simp only[zQ]);go_simp;exact hK.out _ _ (zkb zr _) ⟨_,rfl,hb0.size,heap_alloc_new w _⟩
 ·simp only[zQ]
 rotate_left 1
 ·simp only[zQ]
 (try simp only[zQ]);clear hI hA hU;obtain⟨pb,rfl,hbl,hbz⟩:=wQ;obtain⟨hb3,hq3,hs3⟩:=h5;obtain⟨q0,q1,q2,q3,q4,q5⟩:=box6 hbz;have cf:∀o,w3.frozen? ⟨pb,o,none⟩=false:=fun _=>zf hbz;obtain⟨w4,hw4,hc4,hh4⟩:=st6 (.slice A0 1 c0) (.slice B0 0 d0) (.slice D0 0 e0) (.slice A1 1 c1) (.slice B1 0 d1) (.slice D1 0 e1) hbz;have hb4:Below w1.heap.size w1 w4:=hb3.trans (hc4.below hb3.size fun b (e:b=pb)=>by omega);have vT:=zh hbz;have ak:=zh hb4;have Bj:=zh hc4;have qX:=zh hh4;have HQ3:=zh hq3;have Ak:=zh hs3;clear hb3 hq3 hs3 hbz hc4 hh4 hb4;have ym:=zh ((HQ3.out.nz6 vT.out).keep (w':=w4) (S':=fun b=>w1.heap.size<=b) (fun _ h _=>h.1) fun b h hlt=>Bj.out.block b hlt h.2);have jl:=zh ((Ak.out.nz6 vT.out).keep (w':=w4) (S':=fun b=>w1.heap.size<=b) (fun _ h _=>h.1) fun b h hlt=>Bj.out.block b hlt h.2);clear HQ3 Ak;refine zp 11 fun K hK=>?_;(try simp only[zA,zB,zC]);go_simp
 refine hK.out _ _ (ay.out _ ak.out) ?_;clear hK K q0 q1 q2 q3 q4 q5 cf hw4 vT Bj;(try simp only[zQ]);refine zo 12 fun K hK=>?_;(try simp only[zA,zB,zC]);go_simp;refine hK.out _ _ ⟨ay.out _ ak.out,trivial⟩ ?_;clear hK K;(try simp only[zQ]);refine zd ?_;refine NoPanic.normal ?_;clear ay;go_upto_region 5 with fail;have HKX4:=zh (zkc HKX.out ak.out);have HKB4:=zh (zkc gZ.out ak.out);have ay:=zh (show ∀w',Below w4.heap.size w4 w'->(fun w':World=>zN4 w' N (.int .u8 2) (.int .i64 0) (.string ⟨#[120]⟩) (.slice none 0 0)) w' from fun w' hb=>box4 (zkc HKX4.out hb));have hSS:zW (fun w':World=>zN4 w' N (.int .u8 2) (.int .i64 0) (.string ⟨#[120]⟩) (.slice none 0 0)) zU w4.drew:=⟨ay.out _ zr.drew,trivial⟩
 refine wp_region_noPanic ?_;refine zG hSS 5 ?_;refine zT 0 hSS ?_;have hI:(fun w=>Below w4.heap.size w4 w) w4.drew:=zr.drew;clear hSS;refine zl0 (i:=1) (j:=4) (some 26) (some 6) 3 (fun li l4 => #[true,li,false,false,l4,false]) _ (fun w=>Below w4.heap.size w4 w) (AlW w4 #[.int .u8 0,.int .i64 0,.string ⟨#[]⟩,.slice none 0 0] 24) (fun v w=>v=nv 1 1 ⟨#[]⟩ none 0 0) rfl rfl rfl rfl (by kernel_rfl) (by kernel_rfl) (fun l4=>by cases l4<;>rfl) rfl (fun w h=>⟨ay.out _ h,trivial⟩) (fun w w' h hb=>?_) (fun u w w' h hb=>?_) (fun v4 K w h au=>?_) (fun v4 K w h au=>?_) (fun u v=>?_) (fun l4 v4 v wc h hF hA hU=>?_) false undef w4.drew hI (fun h=>by cases h) (fun _=>rfl) ?_
 ·exact zka h hb
 ·obtain⟨b,e1,e2,e3⟩:=h;exact⟨b,e1,e2,zkc e3 hb⟩
 ·have hK:=zh au;clear au;have had:Calls Tryz.prog 35 [.int .i64 1].toArray w fun e w'=>∃v,e=.returned v/\(v=nv 1 1 ⟨#[]⟩ none 0 0/\Below w.heap.size w w'):=(zrl 1 w).mono fun e w' ⟨h1,h2⟩=>⟨_,h1,rfl,h2⟩
  refine zke (by rfl) (.func 35) [.const (.int .i64 1)] _ (by rfl) 35 _ zuL (by rfl) _ (by rfl) _ had ?_;rintro v w' ⟨rfl,hb⟩;exact hK.out _ _ hb rfl
 ·have hK:=zh au;clear au;(try simp only[zQ]);go_simp;exact hK.out _ _ (zkb zr _) ⟨_,rfl,h.size,heap_alloc_new w _⟩
 ·simp only[zQ]
 rotate_left 1
 ·simp only[zQ]
 (try simp only[zQ]);obtain rfl:=hF;clear hI;have hI:(fun w=>Below w4.heap.size w4 w) wc:=h;have iW:=hA;have gP:=hU;clear hA hU;refine zl0 (i:=2) (j:=4) (some 27) (some 6) 2 (fun li l4 => #[true,true,li,false,l4,false]) _ (fun w=>Below w4.heap.size w4 w) (AlW w4 #[.int .u8 0,.int .i64 0,.string ⟨#[]⟩,.slice none 0 0] 24) (fun v w=>∃b,v=.slice (some ⟨b,0,none⟩) 2 2/\w.heap[b]?=some (.cells #[.int .u8 2,.int .i64 0,.string ⟨#[120]⟩,.slice none 0 0,.int .u8 1,.int .i64 1,.string ⟨#[]⟩,.slice none 0 0] 24 (0,0))) rfl rfl rfl rfl (by kernel_rfl) (by kernel_rfl) (fun l4=>by cases l4<;>rfl) rfl (fun w h=>⟨ay.out _ h,trivial⟩) (fun w w' h hb=>?_) (fun u w w' h hb=>?_) (fun v4 K w h au=>?_) (fun v4 K w h au=>?_) (fun u v=>?_) (fun l4 v4 v wc h hF hA hU=>?_) l4 v4 wc hI iW gP ?_
 ·exact zka h hb
 ·obtain⟨b,e1,e2,e3⟩:=h;exact⟨b,e1,e2,zkc e3 hb⟩
 ·have hK:=zh au;clear au;have hbs:=zKv;(try simp only[zQ]);go_simp;exact hK.out _ _ (zkb zr _) ⟨_,rfl,heap_alloc_new w _⟩
 ·have hK:=zh au;clear au;(try simp only[zQ]);go_simp;exact hK.out _ _ (zkb zr _) ⟨_,rfl,h.size,heap_alloc_new w _⟩
 ·simp only[zQ]
 rotate_left 1
 ·simp only[zQ]
 (try simp only[zQ]);obtain⟨eb,rfl,m27⟩:=hF;clear hI;have hI:(fun w=>Below w4.heap.size w4 w/\w.heap[eb]?=some (.cells #[.int .u8 2,.int .i64 0,.string ⟨#[120]⟩,.slice none 0 0,.int .u8 1,.int .i64 1,.string ⟨#[]⟩,.slice none 0 0] 24 (0,0))) wc:=⟨h,m27⟩
 have iW:=hA;have gP:=hU;clear hA hU m27;refine zl0 (i:=3) (j:=4) (some 28) (some 6) 1 (fun li l4 => #[true,true,true,li,l4,false]) _ (fun w=>Below w4.heap.size w4 w/\w.heap[eb]?=some (.cells #[.int .u8 2,.int .i64 0,.string ⟨#[120]⟩,.slice none 0 0,.int .u8 1,.int .i64 1,.string ⟨#[]⟩,.slice none 0 0] 24 (0,0))) (AlW w4 #[.int .u8 0,.int .i64 0,.string ⟨#[]⟩,.slice none 0 0] 24) (fun v w=>v=.agg #[.int .u8 16,.int .i64 0,.string ⟨#[]⟩,.slice (some ⟨eb,0,none⟩) 2 2]) rfl rfl rfl rfl (by kernel_rfl) (by kernel_rfl) (fun l4=>by cases l4<;>rfl) rfl (fun w h=>⟨ay.out _ h.1,trivial⟩) (fun w w' h hb=>?_) (fun u w w' h hb=>?_) (fun v4 K w h au=>?_) (fun v4 K w h au=>?_) (fun u v=>?_) (fun l4 v4 v wc h hF hA hU=>?_) l4 v4 wc hI iW gP ?_
 ·exact⟨zka h.1 hb,zkc h.2 hb⟩
 ·obtain⟨b,e1,e2,e3⟩:=h;exact⟨b,e1,e2,zkc e3 hb⟩
 ·have hK:=zh au;clear au;have hbs:=bNkW;(try simp only[zQ]);go_simp;exact hK.out _ _ zr rfl
 ·have hK:=zh au;clear au;(try simp only[zQ]);go_simp;exact hK.out _ _ (zkb zr _) ⟨_,rfl,h.1.size,heap_alloc_new w _⟩
 ·simp only[zQ]
 rotate_left 1
 ·simp only[zQ]
 (try simp only[zQ]);obtain rfl:=hF;clear hI;have hI:(fun w=>Below w4.heap.size w4 w/\w.heap[eb]?=some (.cells #[.int .u8 2,.int .i64 0,.string ⟨#[120]⟩,.slice none 0 0,.int .u8 1,.int .i64 1,.string ⟨#[]⟩,.slice none 0 0] 24 (0,0))) wc:=h;refine zpM (j:=4) (some 6) 1 (fun l4 => #[true,true,true,true,l4,false]) _ (fun w=>Below w4.heap.size w4 w/\w.heap[eb]?=some (.cells #[.int .u8 2,.int .i64 0,.string ⟨#[120]⟩,.slice none 0 0,.int .u8 1,.int .i64 1,.string ⟨#[]⟩,.slice none 0 0] 24 (0,0))) (AlW w4 #[.int .u8 0,.int .i64 0,.string ⟨#[]⟩,.slice none 0 0] 24) rfl rfl (by kernel_rfl) rfl (fun w h=>⟨ay.out _ h.1,trivial⟩) (fun w w' h hb=>⟨zka h.1 hb,zkc h.2 hb⟩) (fun v4 K w h au=>?_) (fun u v=>?_) (fun v5 w5 h5 wQ=>?_) l4 v4 wc hI hA ?_
 ·have hb0:=h.1;have hK:=zh au;clear au;(try simp only[zQ]);go_simp;exact hK.out _ _ (zkb zr _) ⟨_,rfl,hb0.size,heap_alloc_new w _⟩
 ·simp only[zQ]
 rotate_left 1
 ·simp only[zQ]
 (try simp only[zQ]);clear hI hA hU;obtain⟨qb,rfl,hbl,hbz⟩:=wQ;obtain⟨hb5,xP⟩:=h5;obtain⟨q0,q1,q2,q3⟩:=box4 hbz;have cf:∀o,w5.frozen? ⟨qb,o,none⟩=false:=fun _=>zf hbz;have hne:eb≠qb:=by
  rintro rfl;rw[hbz]at xP;simp at xP
 obtain⟨w6,uT,hc6,oh⟩:=st4W (.int .u8 16) (.int .i64 0) (.string ⟨#[]⟩) (.slice (some ⟨eb,0,none⟩) 2 2) hbz;have hb6:Below w4.heap.size w4 w6:=hb5.trans (hc6.below hb5.size fun b (e:b=qb)=>by omega);have HE6:=zh (hc6.keep xP hne);have aU:=zh hb6;have qW:=zh oh;clear hb5 hbz hc6 oh hb6 xP hne;refine zp 5 fun K hK=>?_;(try simp only[zA,zB,zC]);go_simp;refine hK.out _ _ (ay.out _ aU.out) ?_;clear hK K q0 q1 q2 q3 cf uT;(try simp only[zQ]);refine zd ?_;refine NoPanic.normal ?_;clear ay hbl;have jV:=zh (ym.out.later aU.out);have kK:=zh (jl.out.later aU.out);have HB16:=zh (zka ak.out aU.out);have HP6:=zh (zkc qX.out aU.out);clear ym jl qX HKX4;go_upto_region 6 with fail;have hbl6:=bBlW
 have ay:=zh (show ∀w',Below w6.heap.size w6 w'->(fun w':World=>(zN4 w' qb (.int .u8 16) (.int .i64 0) (.string ⟨#[]⟩) (.slice (some ⟨eb,0,none⟩) 2 2))/\zN3 w' (N+2) (.int .i64 1) (.int .i64 0) (.int .i64 0)) w' from fun w' hb=>⟨box4 (zkc qW.out hb),zkx (zkc HKB4.out (zka aU.out hb))⟩);have hSS:zW (fun w':World=>(zN4 w' qb (.int .u8 16) (.int .i64 0) (.string ⟨#[]⟩) (.slice (some ⟨eb,0,none⟩) 2 2))/\zN3 w' (N+2) (.int .i64 1) (.int .i64 0) (.int .i64 0)) zU w6.drew:=⟨ay.out _ zr.drew,trivial⟩
 refine wp_region_noPanic ?_;refine zG hSS 13 ?_;refine zT 0 hSS ?_;refine zT 1 hSS ?_;refine zT 2 hSS ?_;refine zT 6 hSS ?_;refine zT 7 hSS ?_;have hI:(fun w=>Below w6.heap.size w6 w) w6.drew:=zr.drew;clear hSS hbl6;refine zl0 (i:=3) (j:=12) (some 33) (some 7) 8 (fun li l4 => #[true,true,true,li,false,false,true,true,false,false,false,false,l4,false,false]) _ (fun w=>Below w6.heap.size w6 w) (AlW w6 #[.slice none 0 0,.slice none 0 0,.slice none 0 0] 34) (fun v w=>v=nv 1 1 ⟨#[]⟩ none 0 0) rfl rfl rfl rfl (by kernel_rfl) (by kernel_rfl) (fun l4=>by cases l4<;>rfl) rfl (fun w h=>⟨ay.out _ h,trivial⟩) (fun w w' h hb=>?_) (fun u w w' h hb=>?_) (fun v4 K w h au=>?_) (fun v4 K w h au=>?_) (fun u v=>?_) (fun l4 v4 v wc h hF hA hU=>?_) false undef w6.drew hI (fun h=>by cases h) (fun _=>rfl) ?_
 ·exact zka h hb
 ·obtain⟨b,e1,e2,e3⟩:=h;exact⟨b,e1,e2,zkc e3 hb⟩
 ·have hK:=zh au;clear au;have had:Calls Tryz.prog 35 [.int .i64 1].toArray w fun e w'=>∃v,e=.returned v/\(v=nv 1 1 ⟨#[]⟩ none 0 0/\Below w.heap.size w w'):=(zrl 1 w).mono fun e w' ⟨h1,h2⟩=>⟨_,h1,rfl,h2⟩
  refine zke (by rfl) (.func 35) [.const (.int .i64 1)] _ (by rfl) 35 _ zuL (by rfl) _ (by rfl) _ had ?_;rintro v w' ⟨rfl,hb⟩;exact hK.out _ _ hb rfl
 ·have hK:=zh au;clear au;(try simp only[zQ]);go_simp;exact hK.out _ _ (zkb zr _) ⟨_,rfl,h.size,heap_alloc_new w _⟩
 ·simp only[zQ]
 rotate_left 1
 ·simp only[zQ]
 (try simp only[zQ]);obtain rfl:=hF;clear hI;have hI:(fun w=>Below w6.heap.size w6 w) wc:=h;have iW:=hA;have gP:=hU;clear hA hU
 refine zl0 (i:=4) (j:=12) (some 34) (some 7) 7 (fun li l4 => #[true,true,true,true,li,false,true,true,false,false,false,false,l4,false,false]) _ (fun w=>Below w6.heap.size w6 w) (AlW w6 #[.slice none 0 0,.slice none 0 0,.slice none 0 0] 34) (fun v w=>∃b,v=.slice (some ⟨b,0,none⟩) 4 4/\w.heap[b]?=some (.cells #[.int .u8 16,.int .i64 0,.string ⟨#[]⟩,.slice (some ⟨eb,0,none⟩) 2 2,.int .u8 57,.int .i64 0,.string ⟨#[]⟩,.slice none 0 0,.int .u8 57,.int .i64 0,.string ⟨#[]⟩,.slice none 0 0,.int .u8 1,.int .i64 1,.string ⟨#[]⟩,.slice none 0 0] 24 (0,0))) rfl rfl rfl rfl (by kernel_rfl) (by kernel_rfl) (fun l4=>by cases l4<;>rfl) rfl (fun w h=>⟨ay.out _ h,trivial⟩) (fun w w' h hb=>?_) (fun u w w' h hb=>?_) (fun v4 K w h au=>?_) (fun v4 K w h au=>?_) (fun u v=>?_) (fun l4 v4 v wc h hF hA hU=>?_) l4 v4 wc hI iW gP ?_
 ·exact zka h hb
 ·obtain⟨b,e1,e2,e3⟩:=h;exact⟨b,e1,e2,zkc e3 hb⟩
 ·have hK:=zh au;clear au;have hbs:=zK6;(try simp only[zQ]);go_simp;exact hK.out _ _ (zkb zr _) ⟨_,rfl,heap_alloc_new w _⟩
 ·have hK:=zh au;clear au;(try simp only[zQ]);go_simp;exact hK.out _ _ (zkb zr _) ⟨_,rfl,h.size,heap_alloc_new w _⟩
 ·simp only[zQ]
 rotate_left 1
 ·simp only[zQ]
 (try simp only[zQ]);obtain⟨fb,rfl,m34⟩:=hF;clear hI;have hI:(fun w=>Below w6.heap.size w6 w/\w.heap[fb]?=some (.cells #[.int .u8 16,.int .i64 0,.string ⟨#[]⟩,.slice (some ⟨eb,0,none⟩) 2 2,.int .u8 57,.int .i64 0,.string ⟨#[]⟩,.slice none 0 0,.int .u8 57,.int .i64 0,.string ⟨#[]⟩,.slice none 0 0,.int .u8 1,.int .i64 1,.string ⟨#[]⟩,.slice none 0 0] 24 (0,0))) wc:=⟨h,m34⟩
 have iW:=hA;have gP:=hU;clear hA hU m34
 refine zl0 (i:=5) (j:=12) (some 35) (some 7) 6 (fun li l4 => #[true,true,true,true,true,li,true,true,false,false,false,false,l4,false,false]) _ (fun w=>Below w6.heap.size w6 w/\w.heap[fb]?=some (.cells #[.int .u8 16,.int .i64 0,.string ⟨#[]⟩,.slice (some ⟨eb,0,none⟩) 2 2,.int .u8 57,.int .i64 0,.string ⟨#[]⟩,.slice none 0 0,.int .u8 57,.int .i64 0,.string ⟨#[]⟩,.slice none 0 0,.int .u8 1,.int .i64 1,.string ⟨#[]⟩,.slice none 0 0] 24 (0,0))) (AlW w6 #[.slice none 0 0,.slice none 0 0,.slice none 0 0] 34) (fun v w=>v=.agg #[.int .u8 52,.int .i64 0,.string ⟨#[]⟩,.slice (some ⟨fb,0,none⟩) 4 4]) rfl rfl rfl rfl (by kernel_rfl) (by kernel_rfl) (fun l4=>by cases l4<;>rfl) rfl (fun w h=>⟨ay.out _ h.1,trivial⟩) (fun w w' h hb=>?_) (fun u w w' h hb=>?_) (fun v4 K w h au=>?_) (fun v4 K w h au=>?_) (fun u v=>?_) (fun l4 v4 v wc h hF hA hU=>?_) l4 v4 wc hI iW gP ?_
 ·exact⟨zka h.1 hb,zkc h.2 hb⟩
 ·obtain⟨b,e1,e2,e3⟩:=h;exact⟨b,e1,e2,zkc e3 hb⟩
 ·have hK:=zh au;clear au;have hbs:=bNkW;(try simp only[zQ]);go_simp;exact hK.out _ _ zr rfl
 ·have hK:=zh au;clear au;(try simp only[zQ]);go_simp;exact hK.out _ _ (zkb zr _) ⟨_,rfl,h.1.size,heap_alloc_new w _⟩
 ·simp only[zQ]
 rotate_left 1
 ·simp only[zQ]
 (try simp only[zQ]);obtain rfl:=hF;clear hI;have hI:(fun w=>Below w6.heap.size w6 w/\w.heap[fb]?=some (.cells #[.int .u8 16,.int .i64 0,.string ⟨#[]⟩,.slice (some ⟨eb,0,none⟩) 2 2,.int .u8 57,.int .i64 0,.string ⟨#[]⟩,.slice none 0 0,.int .u8 57,.int .i64 0,.string ⟨#[]⟩,.slice none 0 0,.int .u8 1,.int .i64 1,.string ⟨#[]⟩,.slice none 0 0] 24 (0,0))) wc:=h;have iW:=hA;have gP:=hU;clear hA hU
 refine zl0 (i:=8) (j:=12) (some 38) (some 7) 5 (fun li l4 => #[true,true,true,true,true,true,true,true,li,false,false,false,l4,false,false]) _ (fun w=>Below w6.heap.size w6 w/\w.heap[fb]?=some (.cells #[.int .u8 16,.int .i64 0,.string ⟨#[]⟩,.slice (some ⟨eb,0,none⟩) 2 2,.int .u8 57,.int .i64 0,.string ⟨#[]⟩,.slice none 0 0,.int .u8 57,.int .i64 0,.string ⟨#[]⟩,.slice none 0 0,.int .u8 1,.int .i64 1,.string ⟨#[]⟩,.slice none 0 0] 24 (0,0))) (AlW w6 #[.slice none 0 0,.slice none 0 0,.slice none 0 0] 34) (fun v w=>∃A2 c2 B2 d2 D2 e2,v=.tuple #[.agg #[.slice A2 1 c2,.slice B2 0 d2,.slice D2 0 e2],.bool true]/\SV w (fun b=>w6.heap.size<=b) ⟨[[0]],[],[]⟩ (.agg #[.slice A2 1 c2,.slice B2 0 d2,.slice D2 0 e2])) rfl rfl rfl rfl (by kernel_rfl) (by kernel_rfl) (fun l4=>by cases l4<;>rfl) rfl (fun w h=>⟨ay.out _ h.1,trivial⟩) (fun w w' h hb=>?_) (fun u w w' h hb=>?_) (fun v4 K w h au=>?_) (fun v4 K w h au=>?_) (fun u v=>?_) (fun l4 v4 v wc h hF hA hU=>?_) l4 v4 wc hI iW gP ?_
 ·exact⟨zka h.1 hb,zkc h.2 hb⟩
 ·obtain⟨b,e1,e2,e3⟩:=h;exact⟨b,e1,e2,zkc e3 hb⟩
 ·have hb0:=h.1;have hf0:=h.2;have hK:=zh au;clear au;have hne0:NV w Any ifTW (nv 52 0 ⟨#[]⟩ (some ⟨fb,0,none⟩) 4 4):=zx2 trivial (fldW 52 (by omega)) (zzP trivial (fldW 16 (by omega)) (znk w _ fldX) (znk w _ (fldN 1 ⟨by decide,by decide⟩)) (zkc HE6.out hb0)) (znk w _ (fldW 57 (by omega))) (znk w _ (fldW 57 (by omega))) (znk w _ (fldN 1 ⟨by decide,by decide⟩)) hf0;have had:Calls Tryz.prog 18 [.agg #[.int .u8 52,.int .i64 0,.string ⟨#[]⟩,.slice (some ⟨fb,0,none⟩) 4 4],.slice (some ⟨N+1,0,none⟩) 1 1,.agg #[.int .i64 1,.int .i64 0,.int .i64 0],.int .i64 100].toArray w fun e w'=>∃v,e=.returned v/\((∃A2 c2 B2 d2 D2 e2,v=.tuple #[.agg #[.slice A2 1 c2,.slice B2 0 d2,.slice D2 0 e2],.bool true]/\SV w' (fun b=>w6.heap.size<=b) ⟨[[0]],[],[]⟩ (.agg #[.slice A2 1 c2,.slice B2 0 d2,.slice D2 0 e2]))/\Below w.heap.size w w') :=
   (zqV (t:=ifTW) (vs:=vsW) (b:=bxW) (c1:=1) (F:=100) hne0 (zz0 (zkc HKV.out (zka HB16.out hb0))) (by decide) (by decide) ⟨by decide,by decide⟩ (by decide)).mono fun e w' ⟨hb,v,bb,he,hr⟩=>by
    rw[zKp]at hr;rcases hr with⟨h,-⟩|⟨q,h,rfl,hq⟩
    ·cases h
    ·injection h with h;subst h;have hq2:=hq;obtain⟨A2,c2,B2,d2,D2,e2,rfl,-⟩:=hq2;exact⟨_,he,⟨_,_,_,_,_,_,rfl,hq.keep (fun b h _=>Nat.le_trans hb0.size h) (fun _ _ _=>rfl)⟩,hb⟩
  refine zke (by rfl) (.func 18) [.tmp 35,.tmp 36,.tmp 37,.const (.int .i64 100)] _ (by rfl) 18 _ zKi (by rfl) _ (by rfl) _ had ?_;rintro v w' ⟨hF,hb⟩;exact hK.out _ _ hb hF
 ·have hK:=zh au;clear au;(try simp only[zQ]);go_simp;exact hK.out _ _ (zkb zr _) ⟨_,rfl,h.1.size,heap_alloc_new w _⟩
 ·simp only[zQ]
 rotate_left 1
 ·simp only[zQ]
 (try simp only[zQ]);obtain⟨A2,c2,B2,d2,D2,e2,rfl,hq⟩:=hF;clear hI;have hSS:zW (fun w':World=>(zN4 w' qb (.int .u8 16) (.int .i64 0) (.string ⟨#[]⟩) (.slice (some ⟨eb,0,none⟩) 2 2))/\zN3 w' (N+2) (.int .i64 1) (.int .i64 0) (.int .i64 0)) zU wc:=⟨ay.out _ h.1,trivial⟩
 have hI:(fun w=>Below w6.heap.size w6 w/\SV w (fun b=>w6.heap.size<=b) ⟨[[0]],[],[]⟩ (.agg #[.slice A2 1 c2,.slice B2 0 d2,.slice D2 0 e2])) wc:=⟨h.1,hq⟩
 clear h iW gP hq;rw[Nat.add_comm 5];refine zkt (i:=9) (v:=?_) rfl (by kernel_rfl) (by cases l4<;>kernel_rfl) (by cases l4<;>kernel_rfl) (by decide) (fun _ _ _ h=>h) (Or.inl ⟨by rfl,?_⟩) hSS ?_;rotate_left 1
 ·(intro w hSw;(try dsimp only at hSw);(try simp only[zA,zB,zC]);go_simp;(try with_reducible rfl))
 (try simp only[zQ]);refine zkt (i:=10) (v:=?_) rfl (by kernel_rfl) (by cases l4<;>kernel_rfl) (by cases l4<;>kernel_rfl) (by decide) (fun _ _ _ h=>h) (Or.inl ⟨by rfl,?_⟩) hSS ?_;rotate_left 1
 ·(intro w hSw;(try dsimp only at hSw);(try simp only[zA,zB,zC]);go_simp;(try with_reducible rfl))
 (try simp only[zQ]);refine zkt (i:=11) (v:=?_) rfl (by kernel_rfl) (by cases l4<;>kernel_rfl) (by cases l4<;>kernel_rfl) (by decide) (fun _ _ _ h=>h) (Or.inl ⟨by rfl,?_⟩) hSS ?_;rotate_left 1
 ·(intro w hSw;(try dsimp only at hSw);(try simp only[zA,zB,zC]);go_simp;(try with_reducible rfl))
 (try simp only[zQ]);rw[Nat.add_comm (Bool.toNat _) 2];clear hSS;refine zpM (j:=12) (some 7) 2 (fun l4 => #[true,true,true,true,true,true,true,true,true,true,true,true,l4,false,false]) _ (fun w=>Below w6.heap.size w6 w/\SV w (fun b=>w6.heap.size<=b) ⟨[[0]],[],[]⟩ (.agg #[.slice A2 1 c2,.slice B2 0 d2,.slice D2 0 e2])) (AlW w6 #[.slice none 0 0,.slice none 0 0,.slice none 0 0] 34) rfl rfl (by kernel_rfl) rfl (fun w h=>⟨ay.out _ h.1,trivial⟩) (fun w w' h hb=>⟨zka h.1 hb,h.2.later hb⟩) (fun v4 K w h au=>?_) (fun u v=>?_) (fun v5 w7 h5 wQ=>?_) l4 v4 wc hI hA ?_
 ·have hb0:=h.1;have hK:=zh au;clear au;(try simp only[zQ]);go_simp;exact hK.out _ _ (zkb zr _) ⟨_,rfl,hb0.size,heap_alloc_new w _⟩
 ·simp only[zQ]
 rotate_left 1
 ·simp only[zQ]
 (try simp only[zQ]);clear hI hA hU;obtain⟨sb3,rfl,hbl,hbz⟩:=wQ;obtain⟨bW,hq7⟩:=h5;obtain⟨q0,q1,q2⟩:=zkx hbz;have cf:∀o,w7.frozen? ⟨sb3,o,none⟩=false:=fun _=>zf hbz;obtain⟨w8,hw8,hc8,iR⟩:=st3 (.slice A2 1 c2) (.slice B2 0 d2) (.slice D2 0 e2) hbz;have bV:Below w6.heap.size w6 w8:=bW.trans (hc8.below bW.size fun b (e:b=sb3)=>by omega);have HX8:=zh ((hq7.nz3 hbz).keep (w':=w8) (S':=Any) (fun _ _ _=>trivial) fun b h hlt=>hc8.block b hlt h.2);have bQ:=zh bV;have Ba:=zh iR;clear bW hbz hc8 iR bV hq7;refine zp 13 fun K hK=>?_;(try simp only[zA,zB,zC]);go_simp;refine hK.out _ _ (ay.out _ bQ.out) ?_;clear hK K q0 q1 q2 cf hw8;(try simp only[zQ]);refine zo 14 fun K hK=>?_;(try simp only[zA,zB,zC]);go_simp;refine hK.out _ _ ⟨ay.out _ bQ.out,trivial⟩ ?_;clear hK K;(try simp only[zQ]);refine zd ?_;refine NoPanic.normal ?_;clear ay hbl;have vK:=zh (jV.out.later bQ.out)
 have HS8:=zh (kK.out.later bQ.out);have HB18:=zh (zka HB16.out bQ.out);have Az:=zh (zkc HP6.out bQ.out);clear jV kK HP6 qW HE6;have h1:=bIW;have h2:=zLb;have h3:=bStW;go_upto_region 8 with fail;clear h1 h2 h3;obtain⟨M,hM⟩:=zX (w8.heap.size);obtain⟨aG,lV,k0,k1,k2⟩:=al3 w8 (.cells #[.int .i64 0] 3) (.cells #[.slice (some ⟨w8.heap.size,0,none⟩) 1 1] 32) (.cells #[.int .i64 1] 3);rw[hM]at lV k0 k1 k2 ⊢;obtain⟨w9,aS⟩:=zX (((w8.alloc (.cells #[.int .i64 0] 3)).alloc (.cells #[.slice (some ⟨M,0,none⟩) 1 1] 32)).alloc (.cells #[.int .i64 1] 3));rw[aS]at lV k0 k1 k2 ⊢;have aG:Below w8.heap.size w8 w9:=by rw[<-aS,<-hM];exact aG
 obtain⟨eZ,jE,k3,k4,k5⟩:=al3 w9 (.cells #[.slice (some ⟨M+1+1,0,none⟩) 1 1] 32) (.cells #[.slice (some ⟨M+1,0,none⟩) 1 1,.slice none 0 0,.slice none 0 0] 34) (.cells #[.slice (some ⟨M+1+1+1,0,none⟩) 1 1,.slice none 0 0,.slice none 0 0] 34);rw[lV]at jE k3 k4 k5;obtain⟨wa,qD⟩:=zX (((w9.alloc (.cells #[.slice (some ⟨M+1+1,0,none⟩) 1 1] 32)).alloc (.cells #[.slice (some ⟨M+1,0,none⟩) 1 1,.slice none 0 0,.slice none 0 0] 34)).alloc (.cells #[.slice (some ⟨M+1+1+1,0,none⟩) 1 1,.slice none 0 0,.slice none 0 0] 34));rw[qD]at eZ jE k3 k4 k5 ⊢;have gq:=zh (zka aG eZ);have HB1A:=zh (zka HB18.out (zka aG eZ));have HZ:=zh (SV1W (x:=0) ⟨by decide,by decide⟩ (zkc k1 eZ) (zkc k0 eZ));have HO:=zh (SV1W (x:=1) ⟨by decide,by decide⟩ k3 (zkc k2 eZ));have dU:=zh k4;have dO:=zh k5;clear aS qD aG eZ k0 k1 k2 k3 k4 k5 lV jE hM
 have hs0:SS.Sm ⟨[[0]],[],[]⟩:=⟨by decide,(by intro l hl;simp only[List.mem_cons,List.not_mem_nil,or_false]at hl;subst hl;decide),by decide,by decide⟩
 have hs1:SS.Sm ⟨[[1]],[],[]⟩:=⟨by decide,(by intro l hl;simp only[List.mem_cons,List.not_mem_nil,or_false]at hl;subst hl;decide),by decide,by decide⟩
 have HEQ1:=zh (fun w' (hb:Below wa.heap.size wa w')=>znj ⟨[[0]],[],[]⟩ ⟨[[0]],[],[]⟩ _ _ w' (vK.out.any.later (zka gq.out hb)) (HZ.out.later hb) hs0 hs0);have HEQ2:=zh (fun w' (hb:Below wa.heap.size wa w')=>znj ⟨[[1]],[],[]⟩ ⟨[[1]],[],[]⟩ _ _ w' (HS8.out.any.later (zka gq.out hb)) (HO.out.later hb) hs1 hs1);have HEQ3:=zh (fun w' (hb:Below wa.heap.size wa w')=>znj ⟨[[0]],[],[]⟩ ⟨[[0]],[],[]⟩ _ _ w' (HX8.out.later (zka gq.out hb)) (HZ.out.later hb) hs0 hs0);rw[show eqS ⟨[[0]],[],[]⟩ ⟨[[0]],[],[]⟩=true from by decide]at HEQ1 HEQ3;rw[show eqS ⟨[[1]],[],[]⟩ ⟨[[1]],[],[]⟩=true from by decide]at HEQ2;clear hs0 hs1;have aF:=Below.refl wa.heap.size wa;obtain⟨q0,q1,q2,q3,q4,q5⟩:=box6 (zkc Az.out (zka gq.out aF));obtain⟨y0,y1,y2⟩:=zkx (zkc dU.out aF);obtain⟨z0,z1,z2⟩:=zkx (zkc dO.out aF)
 obtain⟨t0,t1,t2⟩:=zkx (zkc Ba.out (zka gq.out aF));go_wp2_with fail;refine(HEQ1.out _ zr).mono ?_;rintro e wb ⟨rfl,hbb⟩;have cZ:=zh hbb;clear aF q0 q1 q2 q3 q4 q5 y0 y1 y2 z0 z1 z2 t0 t1 t2 hbb;have aF:=cZ.out;obtain⟨q0,q1,q2,q3,q4,q5⟩:=box6 (zkc Az.out (zka gq.out aF));obtain⟨y0,y1,y2⟩:=zkx (zkc dU.out aF);obtain⟨z0,z1,z2⟩:=zkx (zkc dO.out aF);obtain⟨t0,t1,t2⟩:=zkx (zkc Ba.out (zka gq.out aF));go_wp2_with fail;refine(HEQ2.out _ cZ.out).mono ?_;rintro e wc ⟨rfl,hbb⟩;have iH:=zh (zka cZ.out hbb);clear aF q0 q1 q2 q3 q4 q5 y0 y1 y2 z0 z1 z2 t0 t1 t2 hbb;have aF:=iH.out;obtain⟨q0,q1,q2,q3,q4,q5⟩:=box6 (zkc Az.out (zka gq.out aF));obtain⟨y0,y1,y2⟩:=zkx (zkc dU.out aF);obtain⟨z0,z1,z2⟩:=zkx (zkc dO.out aF);obtain⟨t0,t1,t2⟩:=zkx (zkc Ba.out (zka gq.out aF));go_wp2_with fail;refine(HEQ3.out _ iH.out).mono ?_
 rintro e wd ⟨rfl,hbb⟩;have eU:=zh (zka iH.out hbb);clear aF q0 q1 q2 q3 q4 q5 y0 y1 y2 z0 z1 z2 t0 t1 t2 hbb;go_wp2_with fail;go_ret;exact⟨rfl,zka HB1.out (zka HB1A.out eU.out)⟩
end
section
open Go.RowKit Go.ChangeShapes Go.WideShapes Go.ChangeAt Go.Deep
theorem zqM:Tryz.prog.cellsOf 24=4:=by kernel_rfl
theorem zvh:Tryz.prog.bytesOf 24=56:=by kernel_rfl
theorem zzp:Tryz.prog.cellsOf 5=1:=by kernel_rfl
theorem zxy:Tryz.prog.cellsOf 3=1:=by kernel_rfl
theorem zxx:Tryz.prog.cellsOf 9=1:=by kernel_rfl
theorem zvf:Tryz.prog.cellsOf 22=1:=by kernel_rfl
theorem zmd{H:Type}{P:Program}{e:TypeId}:∀ {l:List (DataW H)} {d:DataW H},d∈l->∀n∈d.weights P e,n∈DataW.weightsAll P e l
 | d0::l,d,hd,n,hn=>by
  simp only[DataW.weightsAll,List.mem_append];rcases List.mem_cons.1 hd with rfl|hd
  ·exact .inl hn
  ·exact .inr (zmd hd n hn)
theorem znp{H:Type}:∀(ks:List T) (ds:List (DataW H)),ks.length=ds.length->(∀i (h:i<ks.length) (h':i<ds.length),size ks[i]<=Rows.uptoBulk ds[i])->zk2 ks<=Rows.uptoBulkAll ds
 | [],[],_,_=>by simp[zk2]
 | t::ts,d::ds,hl,h=>by
  have h0:=h 0 (Nat.zero_lt_succ _) (Nat.zero_lt_succ _);have h1:=znp ts ds (by simpa using hl) (fun i hi hi'=>h (i+1) (Nat.succ_lt_succ hi) (Nat.succ_lt_succ hi'));simp only[List.getElem_cons_zero]at h0;simp only[zk2,Rows.uptoBulkAll];omega
 | [],_::_,hl,_=>by simp at hl
 | _::_,[],hl,_=>by simp at hl
section
variable {H:Type} {enc:TypeId×Value->H} {w:World} {held:Bool}
def zeroT':T:=.nd 0 0 ⟨#[]⟩ []
theorem zua:∀(fuel:Nat) (cs:List Value) (x:DataW H×List MemPlace),DataW.trod enc Tryz.prog w 0 (fun _=>true) held fuel 24 cs=some x ->
  (∀n∈x.1.weights Tryz.prog 24,n<=reachBytes) ->
  ∃t u0 u1 u2 u3,cs=[u0,u1,u2,u3]/\NV w Any t (.agg #[u0,u1,u2,u3])/\t.ks.length*56<=reachBytes/\size t<=Rows.uptoBulk x.1:=by
 intro fuel
 induction fuel using Nat.strongRecOn with
 | _ fuel ih =>
 intro cs x h hw;have hts:=DataW.trod_struct Tryz.underlying24 h;obtain⟨xs,n,hfu,hx,hcl,hxl,hg⟩:=hts;subst hx;rw[zqM]at hcl
 match cs,hcl with
 | [c0,c1,c2,c3],_ =>
 match xs,hxl with
 | [y0,y1,y2,y3],_ =>
 have g0:=hg 0 _ rfl;have g1:=hg 1 _ rfl;have g2:=hg 2 _ rfl;have g3:=hg 3 _ rfl;simp only[zzp,zxy,zxx,zvf,List.drop_zero,List.take_succ_cons,List.take_zero,List.drop_succ_cons,List.getElem?_cons_zero,List.getElem?_cons_succ]at g0 g1 g2 g3;obtain⟨k,e0,e0',wk⟩:=DataW.trod_int Tryz.underlying5 g0;obtain⟨m,e1,e1',wm⟩:=DataW.trod_int Tryz.underlying3 g1;obtain⟨s,e2,e2',ws⟩:=DataW.trod_string Tryz.underlying9 g2;injection e0 with e0;injection e1 with e1;injection e2 with e2;subst e0 e1 e2 e0' e1' e2';have hf:Fld k m s:=by
  refine⟨?_,?_,ws⟩
  ·have:=wk;simp[Lit.wf,IntKind.min,IntKind.max,IntKind.signed,IntKind.bits]at this;omega
  ·have:=wm;simp[Lit.wf,IntKind.min,IntKind.max,IntKind.signed,IntKind.bits]at this;omega
 have hsl:=DataW.trod_slice Tryz.underlying22 g3;rcases hsl with⟨e3,e3'⟩|⟨a,len,cap,elems,rest,n',hn',e3,e3',_,hl,hm,hel,hat,hsp,_⟩
 ·injection e3 with e3;subst e3 e3';refine⟨.nd k m s [],_,_,_,_,rfl,NV.shut (ks:=[]) hf (Nat.zero_le _) (Nat.zero_le _) zkU.nil,by simp,?_⟩;simp only[size,zk2,List.map_cons,List.map_nil,Rows.uptoBulk];omega
 ·injection e3 with e3;subst e3 e3';obtain⟨hrl,_⟩:=hsp rfl;rw[zqM]at hat
  -- what the reach says of this slice,and of its elements
  have hws:∀q∈DataW.weights Tryz.prog 22 (.slice (elems.map (·.1)) (rest.map (·.1)):DataW H),q<=reachBytes:=by
   intro q hq;refine hw q ?_;simp only[List.map_cons,List.map_nil,DataW.weights,Tryz.underlying24];simp only[DataW.weightsEach,List.map_cons,List.map_nil,List.mem_append];exact .inr (.inr (.inr (.inl hq)))
  simp only[DataW.weights,Tryz.underlying22,zvh]at hws;have hcap:cap*56<=reachBytes:=by
   have:=hws _ (List.mem_cons_self ..);simp only[List.length_map]at this;rw[hel,hrl]at this;rw[show cap=len+(cap-len) by omega];exact this
  have xI:∀y∈elems,∀q∈y.1.weights Tryz.prog 24,q<=reachBytes:=fun y hy q hq =>
   hws q (List.mem_cons_of_mem _ (List.mem_append_left _ (zmd (List.mem_map_of_mem hy) q hq)))
  have key:∀i (hi:i<elems.length),∃t u0 u1 u2 u3,w.cells? 0 (a.add (i*4)) 4=some [u0,u1,u2,u3]/\NV w Any t (.agg #[u0,u1,u2,u3])/\size t<=Rows.uptoBulk elems[i].1:=by
   intro i hi;have h1:=hat i (by omega);rw[List.getElem?_eq_getElem hi]at h1;obtain⟨cs',hcs,ht⟩:=Option.bind_eq_some_iff.1 h1;obtain⟨t,u0,u1,u2,u3,rfl,hn,_,hb⟩:=ih n' (by omega) cs' elems[i] ht (xI _ (List.getElem_mem hi));exact⟨t,u0,u1,u2,u3,hcs,hn,hb⟩
  have hex:∃ks:List T,ks.length=elems.length/\∀i (h:i<ks.length) (h':i<elems.length),(∃u0 u1 u2 u3,w.cells? 0 (a.add (i*4)) 4=some [u0,u1,u2,u3]/\NV w Any ks[i] (.agg #[u0,u1,u2,u3]))/\size ks[i]<=Rows.uptoBulk elems[i].1:=by
   classical
   refine⟨(List.range elems.length).map fun i=>if h:i<elems.length then(key i h).choose else zeroT',by simp,fun i h h'=>?_⟩;simp only[List.getElem_map,List.getElem_range,h',dif_pos];obtain⟨u0,u1,u2,u3,h1,h2,h3⟩:=(key i h').choose_spec;exact⟨⟨u0,u1,u2,u3,h1,h2⟩,h3⟩
  obtain⟨ks,hkl,hks⟩:=hex;have hlen:ks.length=len:=by omega
  have hLK:ks.length<=LK:=by unfold LK;unfold reachBytes at hcap;omega
  refine⟨.nd k m s ks,_,_,_,_,rfl,?_,?_,?_⟩
  ·rw[<-hlen];refine NV.shut hf hLK (by omega) fun i hi=>?_;obtain⟨⟨u0,u1,u2,u3,hc,hn⟩,_⟩:=hks i hi (by omega);obtain⟨_,_,hcell⟩:=World.cells?_some hc;refine⟨a,u0,u1,u2,u3,rfl,trivial,⟨?_,?_,?_,?_⟩,hn⟩
   ·have:=hcell 0 (by omega);simpa[Addr.add]using this
   ·have:=hcell 1 (by omega);simpa[Addr.add]using this
   ·have:=hcell 2 (by omega);simpa[Addr.add]using this
   ·have:=hcell 3 (by omega);simpa[Addr.add]using this
  ·simp only[T.ks_nd];omega
  ·have hb:=znp ks (elems.map (·.1)) (by simp[hkl]) (fun i h h'=>by
    have:=(hks i h (by simpa using h')).2;simpa using this)
   simp only[size,List.map_cons,List.map_nil,Rows.uptoBulk,Rows.uptoBulkAll];omega
end
theorem Tryz.own:ownKnob Tryz.prog.godebug=none:=by kernel_rfl
theorem Tryz.laidOut:laidOutB Tryz.prog=true:=by kernel_rfl
theorem zyU{H:Type}{enc:TypeId×Value->H}{W:World}{base:Nat}{v:Value}{d:DataW H}{p:List MemPlace}(hok:Value.okWide Tryz.prog W .any base 24 v)
  (h:DataW.Trod enc Tryz.prog W 0 (fun _=>true) true 24 v d p)(hw:∀n∈d.weights Tryz.prog 24,n<=reachBytes) :
  ∃t,NV W Any t v/\t.ks.length*56<=reachBytes/\size t<=Rows.uptoBulk d:=by
 obtain⟨cs,rfl,hcs⟩:=okWide_struct Tryz.underlying24 hok;obtain⟨fuel,hf⟩:=h;obtain⟨t,u0,u1,u2,u3,e,hn,h1,h2⟩:=zua fuel _ _ hf hw;refine⟨t,?_,h1,h2⟩;have:cs = #[u0,u1,u2,u3]:=by
  apply Array.ext';simpa[Value.cells]using e
 rw[this];exact hn
theorem zve:Tryz.prog.cellsOf 76=3:=by kernel_rfl
theorem zzq:Tryz.prog.bytesOf 76=32:=by kernel_rfl
section
variable {H:Type} {enc:TypeId×Value->H} {w:World} {held:Bool}
theorem zwE{ty E:TypeId}{n b:Nat}(ht:Tryz.prog.underlying ty=some (.slice E))(hc:Tryz.prog.cellsOf E=n)(hb:Tryz.prog.bytesOf E=b){fuel:Nat}{cs:List Value}{x:DataW H×List MemPlace}
  (h:DataW.trod enc Tryz.prog w 0 (fun _=>true) held fuel ty cs=some x)(hw:∀q∈x.1.weights Tryz.prog ty,q<=reachBytes) :
  cs=[.slice none 0 0]\/∃a len cap,cs=[.slice (some a) len cap]/\len<=cap/\cap*b<=reachBytes/\∀i,i<len->∃cs' y n',w.cells? 0 (a.add (i*n)) n=some cs'/\DataW.trod enc Tryz.prog w 0 (fun _=>true) held n' E cs'=some y/\∀q∈y.1.weights Tryz.prog E,q<=reachBytes:=by
 have hsl:=DataW.trod_slice ht h;rcases hsl with⟨e3,e3'⟩|⟨a,len,cap,elems,rest,n',hn',e3,e3',_,hl,hm,hel,hat,hsp,_⟩
 ·exact .inl e3
 ·refine .inr ⟨a,len,cap,e3,hl,?_,?_⟩
  ·obtain⟨hrl,_⟩:=hsp rfl;subst e3';simp only[DataW.weights,ht,hb]at hw;have:=hw _ (List.mem_cons_self ..);simp only[List.length_map]at this;rw[hel,hrl]at this;rw[show cap=len+(cap-len) by omega];exact this
  ·intro i hi;subst e3';simp only[DataW.weights,ht,hb]at hw;have hi':i<elems.length:=by omega
   have h1:=hat i (by omega);rw[List.getElem?_eq_getElem hi',hc]at h1;obtain⟨cs',hcs,ht'⟩:=Option.bind_eq_some_iff.1 h1;exact⟨cs',elems[i],n',hcs,ht',fun q hq=>hw q (List.mem_cons_of_mem _ (List.mem_append_left _ (zmd (List.mem_map_of_mem (List.getElem_mem hi')) q hq)))⟩
theorem zyR{fuel:Nat}{cs:List Value}{x:DataW H×List MemPlace}(h:DataW.trod enc Tryz.prog w 0 (fun _=>true) held fuel 76 cs=some x) :
  ∃v:VD,cs=[.string v.s,.int .u8 v.k,.int .i64 v.n]/\FldV v:=by
 have hts:=DataW.trod_struct Tryz.underlying76 h;obtain⟨xs,n,hfu,hx,hcl,hxl,hg⟩:=hts;rw[zve]at hcl
 match cs,hcl with
 | [c0,c1,c2],_ =>
 match xs,hxl with
 | [y0,y1,y2],_ =>
 have g0:=hg 0 _ rfl;have g1:=hg 1 _ rfl;have g2:=hg 2 _ rfl;obtain⟨s,e2,e2',ws⟩:=DataW.trod_string Tryz.underlying9 g0;obtain⟨k,e0,e0',wk⟩:=DataW.trod_int Tryz.underlying5 g1;obtain⟨m,e1,e1',wm⟩:=DataW.trod_int Tryz.underlying3 g2;injection e0 with e0;injection e1 with e1;injection e2 with e2;subst e0 e1 e2;refine⟨⟨s,k,m⟩,rfl,ws,?_,?_⟩
 ·have:=wk;simp[Lit.wf,IntKind.min,IntKind.max,IntKind.signed,IntKind.bits]at this;constructor<;>simp only<;>omega
 ·have:=wm;simp[Lit.wf,IntKind.min,IntKind.max,IntKind.signed,IntKind.bits]at this;constructor<;>simp only<;>omega
theorem zrD{α:Type}[Inhabited α]{n:Nat}{P:Nat->α->Prop}(h:∀i,i<n->∃x,P i x):∃l:List α,l.length=n/\∀i (hi:i<l.length),P i l[i]:=by
 obtain⟨f,hf⟩:=choose_lt h;exact⟨(List.range n).map f,by simp,fun i hi=>by simp only[List.getElem_map,List.getElem_range];exact hf i (by simpa using hi)⟩
instance:Inhabited VD:=⟨⟨⟨#[]⟩,0,0⟩⟩
theorem zsW{fuel:Nat}{cs:List Value}{x:DataW H×List MemPlace}(h:DataW.trod enc Tryz.prog w 0 (fun _=>true) held fuel 25 cs=some x)(hw:∀q∈x.1.weights Tryz.prog 25,q<=reachBytes) :
  ∃(A:Option Addr) (vs:List VD) (c:Nat),cs=[.slice A vs.length c]/\RowV w Any A vs/\vs.length<=4398046510976/\vs.length<=c:=by
 rcases zwE Tryz.underlying25 zve zzq h hw with rfl|⟨a,len,cap,rfl,hl,hcap,hat⟩
 ·exact⟨none,[],0,rfl,fun i hi=>absurd hi (by simp),Nat.zero_le _,Nat.zero_le _⟩
 ·obtain⟨vs,hvl,hvs⟩:=zrD (n:=len) (P:=fun i (v:VD)=>w.cells? 0 (a.add (i*3)) 3=some [.string v.s,.int .u8 v.k,.int .i64 v.n]/\FldV v) fun i hi=>by
   obtain⟨cs',y,n',hcs,ht,_⟩:=hat i hi;obtain⟨v,rfl,hf⟩:=zyR ht;exact⟨v,hcs,hf⟩
  refine⟨some a,vs,cap,by rw[hvl],fun i hi=>?_,by unfold reachBytes at hcap;omega,by omega⟩;obtain⟨hc,hf⟩:=hvs i hi;obtain⟨_,_,hcell⟩:=World.cells?_some hc;refine⟨a,rfl,trivial,⟨?_,?_,?_⟩,hf⟩
  ·have:=hcell 0 (by omega);simpa[Addr.add]using this
  ·have:=hcell 1 (by omega);simpa[Addr.add]using this
  ·have:=hcell 2 (by omega);simpa[Addr.add]using this
theorem zt9{fuel:Nat}{cs:List Value}{x:DataW H×List MemPlace}(h:DataW.trod enc Tryz.prog w 0 (fun _=>true) held fuel 25 cs=some x)(hw:∀q∈x.1.weights Tryz.prog 25,q<=reachBytes) :
  ∃(A:Option Addr) (vs:List VD) (c:Nat),cs=[.slice A vs.length c]/\RowV w Any A vs/\vs.length<=LV/\vs.length<=c:=by
 obtain⟨A,vs,c,h1,h2,h3,h4⟩:=zsW h hw;exact⟨A,vs,c,h1,h2,by unfold LV;omega,h4⟩
instance:Inhabited T:=⟨zeroT'⟩
end
section
variable {H:Type} {enc:TypeId×Value->H} {w:World} {held:Bool}
instance:Inhabited (List Int):=⟨[]⟩
end
theorem zwc{H:Type}{enc:TypeId×Value->H}{W:World}{base:Nat}{v:Value}{d:DataW H}{p:List MemPlace}(hok:Value.okWide Tryz.prog W .any base 25 v)
  (h:DataW.Trod enc Tryz.prog W 0 (fun _=>true) true 25 v d p)(hw:∀n∈d.weights Tryz.prog 25,n<=reachBytes):∃(A:Option Addr) (vs:List VD) (c:Nat),v=.slice A vs.length c/\RowV W Any A vs/\vs.length<=LV/\vs.length<=c:=by
 obtain⟨a,len,cap,rfl⟩:=okWide_slice Tryz.underlying25 hok;obtain⟨fuel,hf⟩:=h;obtain⟨A,vs,c,e,hr,h1,h2⟩:=zt9 hf hw;refine⟨A,vs,c,?_,hr,h1,h2⟩;simpa[Value.cells]using e
theorem zxz:Tryz.prog.cellsOf 27=3:=by kernel_rfl
theorem zKt{H:Type}{enc:TypeId×Value->H}{W:World}{base:Nat}{v:Value}{d:DataW H}{p:List MemPlace}(hok:Value.okWide Tryz.prog W .any base 27 v)
  (h:DataW.Trod enc Tryz.prog W 0 (fun _=>true) true 27 v d p):∃x:BX,v=.agg #[.int .i64 x.v,.int .i64 x.l,.int .i64 x.i]/\(-9223372036854775808<=x.v/\x.v<=9223372036854775807)/\(-9223372036854775808<=x.l/\x.l<=9223372036854775807)/\(-9223372036854775808<=x.i/\x.i<=9223372036854775807):=by
 obtain⟨cs,rfl,hcs⟩:=okWide_struct Tryz.underlying27 hok;obtain⟨fuel,hf⟩:=h;have hts:=DataW.trod_struct Tryz.underlying27 hf;obtain⟨xs,n,hfu,hx,hcl,hxl,hg⟩:=hts;rw[zxz]at hcl;obtain⟨cs⟩:=cs;simp only[Value.cells]at hcl hg
 match cs,hcl with
 | [c0,c1,c2],_ =>
 match xs,hxl with
 | [y0,y1,y2],_ =>
 have g0:=hg 0 _ rfl;have g1:=hg 1 _ rfl;have g2:=hg 2 _ rfl;obtain⟨m0,e0,_,w0⟩:=DataW.trod_int Tryz.underlying3 g0;obtain⟨m1,e1,_,w1⟩:=DataW.trod_int Tryz.underlying3 g1;obtain⟨m2,e2,_,w2⟩:=DataW.trod_int Tryz.underlying3 g2;injection e0 with e0;injection e1 with e1;injection e2 with e2;subst e0 e1 e2;simp[Lit.wf,IntKind.min,IntKind.max,IntKind.signed,IntKind.bits]at w0 w1 w2;exact⟨⟨m0,m1,m2⟩,rfl,⟨by simp only;omega,by simp only;omega⟩,⟨by simp only;omega,by simp only;omega⟩,⟨by simp only;omega,by simp only;omega⟩⟩
end
end Go.Proofs.YtghbhbdnkjjnnaaGreat
