
/-
  Texts of the proof, put together without their remarks: Nap, Lgr, Ipt, Sap, Und, Rev2, Rpl, Sno, Sal, Gnp, Lgn, Lift, LiftV, LiftP, LiftX.
-/
import Derived.Test.YthjinpodhacleaaGreatM8
import Derived.Test.YthjinpodhacleaaGreatRows
import Derived.ProofKit
import Derived.SizedLaws
import Derived.Deep.Slices
import Derived.Deep.Fields
import Derived.Lib.SmallJoins
set_option linter.unusedSimpArgs false
set_option linter.unusedVariables false
set_option maxHeartbeats 8000000
set_option maxRecDepth 100000
namespace Go.Proofs.YthjinpodhacleaaGreat
open Go.Proofs.Tryz
section
open Go Go.RowKit
theorem OwnN.chgC{w w':World}{base:Nat}{E:TypeId}{S C:Nat->Prop}{v:Value}{ts:List T}(h:OwnN w base E S v ts)(hc:Chg C w w')(hC:∀b,C b->¬ S b)(ho:∀b,v.ownBlock=some b->¬ C b):OwnN w' base E S v ts:=by
 obtain⟨xs,h1,h2,h3⟩:=h;refine⟨xs,znV h1 fun b hb=>hc.block b (h1.lt b hb).2 (ho b hb),h2,fun i hi=>?_⟩;obtain⟨u0,u1,u2,u3,g0,g1,g2,g3,hv⟩:=h3 i hi;exact⟨u0,u1,u2,u3,g0,g1,g2,g3,hv.keep (fun _ h _=>h) fun b hb hlt=>hc.block b hlt fun hcb=>hC b hcb hb.1⟩
theorem OwnN.laid0{w:World}{N0:Nat}{E:TypeId}{S:Nat->Prop}(hN:N0<=w.heap.size):OwnN (w.alloc (.cells #[] E)) N0 E S (.slice (some ⟨w.heap.size,0,none⟩) 0 0) [] :=
 ⟨[],⟨rfl,.inr ⟨w.heap.size,0,#[],rfl,hN,heap_alloc_new w _,zl,Nat.zero_le _,rfl,rfl⟩⟩,Nat.zero_le _,fun i hi=>absurd hi (Nat.not_lt_zero i)⟩
theorem alC{w:World}{C:Nat->Prop}{o:Obj}:Chg C w (w.alloc o):=Chg.of_below (zkb zr _)
theorem alB{w:World}{P:Nat->Prop}{o:Obj}{n c:Nat}:∀b,(Value.slice (some ⟨w.heap.size,0,none⟩) n c).ownBlock=some b->(w.heap.size<=b\/P b)/\b<(w.alloc o).heap.size:=fun b hb=>by
 injection hb with hb;have hb:w.heap.size=b:=hb;rw[World.size_alloc];exact⟨.inl zO,zO⟩
theorem zsZ:(prog.info? 28).map (fun i=>(i.zero,i.size,i.bytes))=some (some (.agg #[zj 0,zi 0,.string ⟨#[]⟩,zn]),4,56):=zK
theorem zrQ{ops:Array Oper}{o:Oper}{i:Nat}{a:Act}{W:World}{K:Act->World->Prop}{Q:Exit->Act->World->Prop}{F:Prop}{N0:Nat}{S:Nat->Prop}(hoi:ops[i]?=some o)(s x:Operand)(hgd:(ops[i]?).map (fun o=>o.guard)=some none)
  (ho:(ops[i]?).map (fun o=>o.op)=some (.call { callee:=.builtin .append,args := #[s,x],argTypes := #[26,26] }))(hN:N0<=W.heap.size)(hS:∀q,S q->q<N0){v:Value}{ts us:List T}{A:Option Addr}{m c:Nat}(hs:a.eval s=v)(hr:OwnN W N0 28 S v ts)(hm:us.length=m)(hx:a.eval x=.slice A m c)(hu:Src W S A us)(hl:ts.length+us.length<=LK)
  (h:∀v' w',Chg (fun b=>v.ownBlock=some b) W w'->(∀b,v'.ownBlock=some b->(W.heap.size<=b\/v.ownBlock=some b)/\b<w'.heap.size)->OwnN w' N0 28 S v' (ts++us)->K (a.put o.dst v') w') :
  if Region.wanted o (yielded ops a.tmps)=true then Oper.wp prog o a W K Q else F:=by
 obtain⟨j,hj,hz0,hz1,hz2⟩:=info_parts zsZ;have hu2:Src W (fun b=>S b/\some b≠v.ownBlock) A us:=fun i hi =>
  let ⟨a,u0,u1,u2,u3,h1,h2,h3⟩:=hu i hi
  ⟨a,u0,u1,u2,u3,h1,h2,h3.keep (fun q h _=>⟨h,fun e=>by have:=(hr.block q e.symm).1;have:=hS q h;omega⟩) fun _ _ _=>rfl⟩
 refine zmk (opF hoi (fun o=>o.guard) hgd) s x 26 (opF hoi (fun o=>o.op) ho) 28 j _ underlying26 hj hz0 hz1 hz2 rfl N0 S v ts hs hr us A m c hm hx hu2 hl hN fun v' w' g1 g2 g3=>h v' w' (Chg.row g2) (fun b hb=>⟨?_,(g1.block b hb).2⟩) g1;rcases g3 with e|e
 ·exact .inr (e▸hb)
 ·rw[e]at hb;injection hb with hb;exact .inl zO
attribute [local go_sem] Oper.semAt_some
def addM(q:PG)(ts:List T):PG:=⟨q.vs,q.prs,.nd q.m.k q.m.n q.m.s (q.m.ks++ts)⟩
theorem zKC{w:World}{q:PG}{ts:List T}{A1 A2 A3 B:Option Addr}{c1 c2 c3 d base:Nat}{E:TypeId}{S:Nat->Prop}(h:PgR w Any q A1 c1 A2 c2 A3 c3)(hr:OwnN w base E S (.slice B (q.m.ks++ts).length d) (q.m.ks++ts)):PV w Any (addM q ts) (pv A1 q.vs.length c1 A2 q.prs.length c2 q.m.k q.m.n q.m.s B (q.m.ks++ts).length d):=by
 obtain⟨A,c,e,hlc,hrow,-⟩:=hr.row;injection e with e1 e2 e3;subst e1 e3;obtain⟨-,-,-,hf,-⟩:=h.main.open_;obtain⟨xs,-,hlk,-⟩:=hr;exact⟨A1,c1,A2,c2,B,d,rfl,⟨h.vars,h.lv,h.lvc,h.procs,h.lp,h.lpc,NV.shut hf hlk hlc (hrow.keep (fun _ _ _=>trivial) fun _ _ _=>rfl)⟩⟩
end
section
open Go Go.RowKit
def PG.part(p:PG)(l:List T):PG:={ p with m:=.nd p.m.k p.m.n p.m.s l }
section
variable {p:PG} {a b:List T}
theorem zob{f:T->RS->Out}:∀(a b:List T) (r:RS),zkP f (a++b) r=(zkP f a r).bind (zkP f b)
 | [],b,r=>rfl
 | t::ts,b,r=>by
  rw[List.cons_append,zkP,zkP]
  cases f t r with
  | ok r1=>exact zob ts b r1
  | err e=>rfl
  | gas=>rfl
end
def oneT(nm:ByteArray)(c:Int):T:=.nd 40 0 ⟨#[]⟩ [.nd 2 0 nm [],.nd 1 c ⟨#[]⟩ []]
theorem zs2{k n:Int}{s:ByteArray}{ks:List T}{nm:ByteArray}(h:menB (.nd k n s ks) nm=false):(2<=k/\k<=5->(s.toList==nm.toList)=false)/\∀t∈ks,menB t nm=false:=by
 simp only[menB,po,List.any_cons,Bool.or_eq_false_iff]at h;refine⟨fun hk=>?_,fun t ht=>?_⟩
 ·have h1:=h.1;simp only[zmn,T.k_nd,T.s_nd,Bool.and_eq_false_iff]at h1;rcases h1 with h1|h1
  ·simp only[Bool.or_eq_false_iff,beq_eq_false_iff_ne]at h1;omega
  ·exact h1
 ·have h2:=h.2;rw[List.any_eq_false]at h2;rw[menB,List.any_eq_false];exact fun u hu=>h2 u (zlP.2 ⟨t,ht,hu⟩)
theorem ztg{look look':ByteArray->Option (List Int)}{fH:List ByteArray}(h:∀s:ByteArray,(∀nm∈fH,(s.toList==nm.toList)=false)->look' s=look s):∀t,(∀nm∈fH,menB t nm=false)->evE look' t=evE look t:=by
 intro t
 induction t using T.ind with
 | _ k n s ks ih =>
  intro hm;rw[evE,evE,zm6,zm6];have e:ks.map (evE look')=ks.map (evE look):=List.map_congr_left fun t ht=>ih t ht fun nm hn=>(zs2 (hm nm hn)).2 t ht;rw[e];unfold evK
  split
  ·rfl
  ·split
   ·rename_i hk;unfold varE;rw[h s fun nm hn=>(zs2 (hm nm hn)).1 hk]
   ·rfl
theorem zt6{look look':ByteArray->Option (List Int)}{fH:List ByteArray}(h:∀s:ByteArray,(∀nm∈fH,(s.toList==nm.toList)=false)->look' s=look s)(t:T)(hm:∀nm∈fH,menB t nm=false):zli look' t=zli look t:=by
 unfold zli;rw[ztg h t hm]
theorem zra{look look':ByteArray->Option (List Int)}{fH:List ByteArray}(h:∀s:ByteArray,(∀nm∈fH,(s.toList==nm.toList)=false)->look' s=look s)(t:T)(hm:∀nm∈fH,idxB t nm=false):indE look' t=indE look t:=by
 unfold indE
 split
 ·rename_i hp
  split
  ·rfl
  ·rename_i h2;have h3:t.k=3:=by
    simp only[isP,Bool.and_eq_true,Bool.or_eq_true,beq_iff_eq]at hp;omega
   refine ztg h _ fun nm hn=>?_;have:=hm nm hn;simpa[idxB,h3,kidC]using this
 ·rfl
theorem zwX{x:Int}(hx:I64 x)(y:Int):bits BinOp.xor IntKind.i64 (bits BinOp.xor IntKind.i64 x y) y=x:=by
 show IntKind.i64.wrap (((BitVec.ofInt 64 (IntKind.i64.wrap ((BitVec.ofInt 64 x ^^^ BitVec.ofInt 64 y).toNat:Int)) ^^^ BitVec.ofInt 64 y).toNat:Nat):Int)=x
 have e:BitVec.ofInt 64 (IntKind.i64.wrap ((BitVec.ofInt 64 x ^^^ BitVec.ofInt 64 y).toNat:Int))=BitVec.ofInt 64 x ^^^ BitVec.ofInt 64 y:=by
  generalize BitVec.ofInt 64 x ^^^ BitVec.ofInt 64 y=c;apply BitVec.eq_of_toNat_eq;rw[BitVec.toNat_ofInt,IntKind.wrap_i64];have:=c.isLt;omega
 rw[e,BitVec.xor_assoc,BitVec.xor_self,BitVec.xor_zero,BitVec.toNat_ofInt,IntKind.wrap_i64];obtain⟨h1,h2⟩:=hx;omega
theorem zuy{k x:Int}(hk:k=40\/k=41\/k=42)(hx:I64 x)(y:Int):updE (zk5 k) (updE k x y) y=x:=by
 obtain⟨h1,h2⟩:=hx;rcases hk with rfl|rfl|rfl
 ·show wrap64 (wrap64 (x+y)-y)=x
  unfold wrap64;omega
 ·show wrap64 (wrap64 (x-y)+y)=x
  unfold wrap64;omega
 ·exact zwX ⟨h1,h2⟩ y
section
variable {S:ST}
theorem zzs{S:ST}{f:Nat->List Int}(h:f=S.cell):({ S with cell:=f }:ST)=S:=by subst h;rfl
theorem zoD(S:ST)(id:Nat):S.setL id (S.cell id)=S:=zzs (by funext j;split<;>simp_all)
theorem zmI(S:ST)(id:Nat)(l m:List Int):(S.setL id l).setL id m=S.setL id m:=by
 unfold ST.setL;congr 1;funext j;simp only
 split<;>rfl
theorem zoE(S:ST){a b:Nat}(h:a≠b)(l m:List Int):(S.setL a l).setL b m=(S.setL b m).setL a l:=by
 unfold ST.setL;congr 1;funext j;simp only;by_cases e:j=b
 ·subst e;rw[if_pos rfl,if_neg (Ne.symm h),if_pos rfl]
 ·rw[if_neg e,if_neg e]
theorem zne(S:ST)(id:Nat)(l:List Int):(S.setL id l).cell id=l:=by simp[ST.setL]
theorem zlE(S:ST){id j:Nat}(h:j≠id)(l:List Int):(S.setL id l).cell j=S.cell j:=by simp[ST.setL,h]
theorem zmu(S:ST)(id i:Nat)(x y:Int):(S.put id i x).put id i y=S.put id i y:=by
 unfold ST.put;rw[zne,zmI,List.set_set]
theorem zxf(l:List Int)(i:Nat):l.set i (l.getD i 0)=l:=by
 rcases Nat.lt_or_ge i l.length with h|h
 ·rw[List.getD_eq_getElem?_getD,List.getElem?_eq_getElem h,Option.getD_some,List.set_getElem_self]
 ·rw[List.set_eq_of_length_le h]
theorem zmm(S:ST)(id i:Nat):S.put id i (S.el id i)=S:=by
 unfold ST.put ST.el;rw[zxf,zoD]
theorem zmv(S:ST)(id i:Nat)(x:Int)(j:Nat):((S.put id i x).cell j).length=(S.cell j).length:=by
 by_cases e:j=id
 ·subst e;unfold ST.put;rw[zne,List.length_set]
 ·unfold ST.put;rw[zlE _ e]
theorem zns(S:ST){id i:Nat}(h:i<(S.cell id).length)(x:Int):(S.put id i x).el id i=x:=by
 unfold ST.el ST.put;rw[zne,List.getD_eq_getElem?_getD,List.getElem?_set_self h,Option.getD_some]
theorem zme(S:ST){id j:Nat}(h:j≠id)(i:Nat)(x:Int):(S.put id i x).cell j=S.cell j:=zlE S h _
theorem put_comm(S:ST){id jd i j:Nat}(h:id≠jd\/i≠j)(x y:Int):(S.put id i x).put jd j y=(S.put jd j y).put id i x:=by
 by_cases e:id=jd
 ·subst e;have hij:=h.resolve_left (fun h=>h rfl);unfold ST.put;rw[zne,zne,zmI,zmI,List.set_comm _ _ hij]
 ·have e1:(S.put id i x).cell jd=S.cell jd:=zme S (Ne.symm e) i x;have e2:(S.put jd j y).cell id=S.cell id:=zme S e j y
  show(S.put id i x).setL jd (((S.put id i x).cell jd).set j y)=(S.put jd j y).setL id (((S.put jd j y).cell id).set i x)
  rw[e1,e2];exact zoE S e _ _
theorem zuD(S:ST){id i jd j:Nat}(hi:i<(S.cell id).length)(hj:j<(S.cell jd).length):znp (znp S id i jd j) id i jd j=S:=by
 unfold znp;by_cases e:id=jd/\i=j
 ·obtain⟨rfl,rfl⟩:=e;rw[zmm,zmm,zmm,zmm]
 ·have hne:id≠jd\/i≠j:=by
   rcases Decidable.em (id=jd)with h|h
   ·exact .inr fun h'=>e ⟨h,h'⟩
   ·exact .inl h
  obtain⟨x,hx⟩:=zX (S.el id i);obtain⟨y,hy⟩:=zX (S.el jd j);rw[hx,hy];have e1:((S.put id i y).put jd j x).el jd j=x:=zns _ (by rw[zmv];exact hj) x;have e2:((S.put id i y).put jd j x).el id i=y:=by
   rw[put_comm S hne];exact zns _ (by rw[zmv];exact hi) y
  rw[e1,e2,put_comm S hne,zmu,<-put_comm S hne,zmu,<-hx,zmm,<-hy,zmm]
theorem znY{vs:List VD}{s:ByteArray}:∀ {j i:Nat},zmg vs s j=some i->∃v,vs[i]?=some v/\(v.s.toList==s.toList)=true
 | 0,_,h=>by simp[zmg]at h
 | j+1,i,h=>by
  rw[zmg]at h
  split at h
  ·rename_i hb;injection h with h;subst h
   cases hv:vs[j]? with
   | none=>rw[hv]at hb;simp at hb
   | some v=>rw[hv]at hb;exact⟨v,rfl,hb⟩
  ·exact znY h
theorem zzI(hnd:S.cur.cs.Nodup){s s':ByteArray}{id:Nat}(h:S.num s=some id)(h':S.num s'=some id):(s.toList==s'.toList)=true:=by
 unfold ST.num at h h';obtain⟨i,h1,h2⟩:=Option.bind_eq_some_iff.1 h;obtain⟨j,h3,h4⟩:=Option.bind_eq_some_iff.1 h';obtain⟨a1,a2⟩:=List.getElem?_eq_some_iff.1 h2;obtain⟨b1,b2⟩:=List.getElem?_eq_some_iff.1 h4;have hij:i=j:=(List.getElem_inj hnd).1 (a2.trans b2.symm);subst hij;obtain⟨v,c1,c2⟩:=znY h1;obtain⟨v',d1,d2⟩:=znY h3;rw[c1]at d1;injection d1 with d1;subst d1;rw[beq_iff_eq]at c2 d2 ⊢;rw[<-c2,<-d2]
theorem ztP{S1:ST}(hnd:S.cur.cs.Nodup)(hf:S1.base=S.base/\S1.calls=S.calls)(fH:List ByteArray)(hc:∀id,(∀nm∈fH,S.num nm≠some id)->S1.cell id=S.cell id)(s:ByteArray)(hs:∀nm∈fH,(s.toList==nm.toList)=false):S1.look s=S.look s:=by
 have e:S1.num s=S.num s:=by unfold ST.num ST.cur;rw[hf.1,hf.2]
 unfold ST.look;rw[e]
 cases hn:S.num s with
 | none=>rfl
 | some id =>
  simp only[Option.map_some,Option.some.injEq];refine hc id fun nm hm h2=>?_;have:=zzI hnd hn h2;rw[hs nm hm]at this
  cases this
theorem zzS{k n:Int}{s:ByteArray}{ks:List T}(h:isS (.nd k n s ks)=true)(hb:basB k=true):isS (.nd (zk5 k) n s ks)=true:=by
 have hr:=of_decide_eq_true hb;have:k=40\/k=41\/k=42\/k=43\/k=44\/k=45\/k=46\/k=47\/k=48\/k=49:=zO
 rcases this with rfl|rfl|rfl|rfl|rfl|rfl|rfl|rfl|rfl|rfl<;>simpa[isS,zk5]using h
theorem zxB(k:Int):znX (zk5 k)=znX k:=by
 unfold zk5
 repeat' split
 all_goals first|rfl|(subst_vars;rfl)
theorem zz6(vs:List VD)(k n:Int)(s:ByteArray)(ks:List T):fltE vs (.nd (zk5 k) n s ks)=fltE vs (.nd k n s ks):=by
 rw[fltE,fltE];unfold ownE;rw[zxB]
theorem zKw{k:Int}(hb:basB k=true):basB (zk5 k)=true/\zk5 k≠56/\zk5 (zk5 k)=k:=by
 have hr:=of_decide_eq_true hb;have:k=40\/k=41\/k=42\/k=43\/k=44\/k=45\/k=46\/k=47\/k=48\/k=49:=zO
 rcases this with rfl|rfl|rfl|rfl|rfl|rfl|rfl|rfl|rfl|rfl<;>exact⟨rfl,zY,rfl⟩
theorem zv6{k n:Int}{s:ByteArray}{ks:List T}(hs:isS (.nd k n s ks)=true)(hk:k≠56)(hb:basB k=true)(hf:fltE S.cur.vs (.nd k n s ks)=0):doE S (.nd k n s ks)=zlj S k s (ks.getD 0 nil0) (ks.getD 1 nil0) (indE S.look (ks.getD 0 nil0)) (zk6 S k (ks.getD 1 nil0)):=by
 unfold doE;rw[if_neg (by rw[hs];decide),if_neg (by exact hk),if_neg (by show ¬ basB k=false;rw[hb];decide),if_neg (by rw[hf];decide)];rfl
theorem znF{ks:List T}{fH:List ByteArray}(h:aliB ks fH=false){t:T}(ht:t∈ks):∀nm∈fH,idxB t nm=false:=by
 intro nm hn;unfold aliB at h;rw[List.any_eq_false]at h;have:=h t ht;rw[List.any_eq_true]at this;simp only[not_exists,not_and,Bool.not_eq_true]at this;exact this nm hn
theorem ztO{k:Int}(hk:k=44\/k=45){id i af:Nat}(hne:id≠af)(hi:i<(S.cell id).length)(hl:(S.cell af).length<=1000)(h0:(zlK S k id i af).1=0):zlK (zlK S k id i af).2 (zk5 k) id i af=(0,S):=by
 rcases hk with rfl|rfl
 ·unfold zlK at h0 ⊢;rw[if_pos rfl]at h0 ⊢
  split at h0
  ·cases h0
  rename_i hf;rw[if_neg hf]
  show(if (zk5 44)=44 then _ else _)=_
  rw[if_neg zY];dsimp only;obtain⟨x,hx⟩:=zX (S.el id i);rw[hx];have e1:(((S.setL af (S.cell af++[x])).put id i 0).cell af)=S.cell af++[x]:=by rw[zme _ (Ne.symm hne),zne]
  have e2:((S.setL af (S.cell af++[x])).put id i 0).el id i=0:=zns _ (by rw[zlE _ hne];exact hi) 0;have e3:((S.setL af (S.cell af++[x])).put id i 0).el af ((S.cell af++[x]).length-1)=x:=by unfold ST.el;rw[e1];simp
  rw[e1,e2,e3,if_neg zS,if_neg zS,zmu];have e4:(S.cell af++[x]).take ((S.cell af++[x]).length-1)=S.cell af:=zS
  rw[e4];have e5:(S.setL af (S.cell af++[x])).put id i x=(S.put id i x).setL af (S.cell af++[x]):=by
   unfold ST.put;rw[zlE _ hne,zoE _ (Ne.symm hne)]
  have e6:(S.put id i x)=S:=by rw[<-hx];exact zmm S id i
  rw[e5,zmI,e6,zoD]
 ·unfold zlK at h0 ⊢;rw[if_neg (show ¬ ((45:Int)=44) by decide)]at h0 ⊢
  split at h0
  ·cases h0
  rename_i hf;rw[if_neg hf]
  split at h0
  ·cases h0
  rename_i hz;rw[if_neg hz];have hz:=Decidable.not_not.1 hz
  show(if (zk5 45)=44 then _ else _)=_
  rw[if_pos zY];dsimp only;obtain⟨x,hx⟩:=zX (S.el af ((S.cell af).length-1));rw[hx];have hsd:(S.cell af).take ((S.cell af).length-1)++[x]=S.cell af:=by
   have hl:S.cell af≠[]:=fun e=>hf (by rw[e];rfl);have:x=(S.cell af).getLast hl:=by
    rw[<-hx];unfold ST.el;rw[List.getD_eq_getElem?_getD,List.getElem?_eq_getElem zO,Option.getD_some,List.getLast_eq_getElem]
   rw[this,<-List.dropLast_eq_take];exact List.dropLast_concat_getLast hl
  have e1:(((S.put id i x).setL af ((S.cell af).take ((S.cell af).length-1))).cell af)=(S.cell af).take ((S.cell af).length-1):=zne _ _ _;have e2:((S.put id i x).setL af ((S.cell af).take ((S.cell af).length-1))).el id i=x:=by
   unfold ST.el;rw[zlE _ hne];exact zns S hi x
  rw[e1,e2,if_neg (by rw[List.length_take];omega),zmI,hsd];have e5:((S.put id i x).setL af (S.cell af)).put id i 0=((S.put id i x).put id i 0).setL af (S.cell af):=by
   show _=((S.put id i x).setL id (((S.put id i x).cell id).set i 0)).setL af (S.cell af)
   rw[zoE _ hne];unfold ST.put;rw[zlE _ hne]
  have e6:S.put id i 0=S:=by rw[<-hz];exact zmm S id i
  rw[e5,zmu,e6,zoD]
theorem zzy(S:ST)(l:List Int)(id i:Nat)(x:Int):({ S with tin:=l }:ST).put id i x={ S.put id i x with tin:=l }:=rfl
theorem zrM(h:S.WF){k:Int}(hk:k=46\/k=47\/k=48\/k=49){id i:Nat}(hi:i<(S.cell id).length)(h0:(zks S k id i).1=0):zks (zks S k id i).2 (zk5 k) id i=(0,S):=by
 have ht:=h.tin.1;have ho:=h.tout.1;have key:∀(l m:List Int) (y:Int),({ S with tin:=l,tout:=m }:ST).put id i y={ S.put id i y with tin:=l,tout:=m }:=fun _ _ _=>rfl;rcases hk with rfl|rfl|rfl|rfl
 ·unfold zks at h0;rw[if_pos rfl]at h0;obtain⟨y,r,hl⟩:∃y r,S.tin=y::r:=by
   cases hl:S.tin with
   | nil=>rw[hl]at h0;cases h0
   | cons y r=>exact⟨y,r,rfl⟩
  rw[hl]at h0 ht;dsimp only at h0
  split at h0
  ·cases h0
  rename_i hz;have hz:=Decidable.not_not.1 hz;have e:zks S 46 id i=(0,({ S with tin:=r }:ST).put id i y):=by
   unfold zks;rw[if_pos rfl,hl];dsimp only;rw[if_neg (by rw[hz];decide)]
  rw[e]
  show zks (({ S with tin:=r }:ST).put id i y) 47 id i=(0,S)
  unfold zks;rw[if_neg zY,if_neg zY,if_pos rfl];have e2:(({ S with tin:=r }:ST).put id i y).el id i=y:=zns (S:={ S with tin:=r }) hi y;rw[e2,if_neg (by show ¬ 4096<=r.length;simp at ht;omega)];congr 1;have e3:(({ S with tin:=y::r }:ST).put id i y).put id i 0=S:=by
   rw[zmu,zzy,<-hz,zmm,<-hl]
  exact e3
 ·unfold zks at h0;rw[if_neg zY,if_neg zY,if_pos rfl]at h0
  split at h0
  ·cases h0
  rename_i hz;obtain⟨x,hx⟩:=zX (S.el id i);have e:zks S 47 id i=(0,({ S with tin:=x::S.tin }:ST).put id i 0):=by
   unfold zks;rw[if_neg zY,if_neg zY,if_pos rfl,if_neg hz,hx]
  rw[e]
  show zks (({ S with tin:=x::S.tin }:ST).put id i 0) 46 id i=(0,S)
  unfold zks;rw[if_pos rfl];have e2:(({ S with tin:=x::S.tin }:ST).put id i 0).el id i=0:=zns (S:={ S with tin:=x::S.tin }) hi 0
  show(if (({ S with tin:=x::S.tin }:ST).put id i 0).el id i≠0 then _ else _)=_
  rw[e2,if_neg zS];congr 1;have e3:(S.put id i 0).put id i x=S:=by rw[zmu,<-hx,zmm]
  exact e3
 ·unfold zks at h0;rw[if_neg zY,if_neg zY,if_neg zY]at h0
  split at h0
  ·cases h0
  rename_i hz;obtain⟨x,hx⟩:=zX (S.el id i);have e:zks S 48 id i=(0,({ S with tout:=S.tout++[x] }:ST).put id i 0):=by
   unfold zks;rw[if_neg zY,if_neg zY,if_neg zY,if_neg hz,hx]
  rw[e]
  show zks (({ S with tout:=S.tout++[x] }:ST).put id i 0) 49 id i=(0,S)
  unfold zks;rw[if_neg zY,if_pos rfl];have e2:(({ S with tout:=S.tout++[x] }:ST).put id i 0).el id i=0:=zns (S:={ S with tout:=S.tout++[x] }) hi 0;have et:(({ S with tout:=S.tout++[x] }:ST).put id i 0).tout=S.tout++[x]:=rfl;rw[e2,et,if_neg zS,if_neg zS];congr 1;have e3:(S.put id i 0).put id i x=S:=by rw[zmu,<-hx,zmm]
  have e4:(S.tout++[x]).dropLast=S.tout:=zS
  have e5:(S.tout++[x]).getLast?.getD 0=x:=zS
  rw[e4,e5];exact e3
 ·unfold zks at h0;rw[if_neg zY,if_pos rfl]at h0
  split at h0
  ·cases h0
  rename_i hn
  split at h0
  ·cases h0
  rename_i hz;have hz:=Decidable.not_not.1 hz;obtain⟨y,hy⟩:=zX (S.tout.getLast?.getD 0);have e:zks S 49 id i=(0,({ S with tout:=S.tout.dropLast }:ST).put id i y):=by
   unfold zks;rw[if_neg zY,if_pos rfl,if_neg hn,if_neg (by rw[hz];decide),hy]
  rw[e]
  show zks (({ S with tout:=S.tout.dropLast }:ST).put id i y) 48 id i=(0,S)
  unfold zks;rw[if_neg zY,if_neg zY,if_neg zY];have e2:(({ S with tout:=S.tout.dropLast }:ST).put id i y).el id i=y:=zns (S:={ S with tout:=S.tout.dropLast }) hi y;have et:(({ S with tout:=S.tout.dropLast }:ST).put id i y).tout=S.tout.dropLast:=rfl;have hpos:0<S.tout.length:=List.length_pos_iff.2 hn;rw[e2,et,if_neg (by simp;omega)];congr 1;have e4:S.tout.dropLast++[y]=S.tout:=by
   have:y=S.tout.getLast hn:=by rw[<-hy,List.getLast?_eq_some_getLast hn];rfl
   rw[this];exact List.dropLast_concat_getLast hn
  have e3:(S.put id i y).put id i 0=S:=by rw[zmu,<-hz,zmm]
  rw[e4];exact e3
theorem zv7(h:S.WF){k n:Int}{s:ByteArray}{ks:List T}(h0:(doE S (.nd k n s ks)).1=0) :
  ∃id kp,S.num (ks.getD 0 nil0).s=some id/\CurK S id kp/\kp≠3/\(indE S.look (ks.getD 0 nil0)).2=0/\(zk6 S k (ks.getD 1 nil0)).2=0/\0<=(indE S.look (ks.getD 0 nil0)).1/\(indE S.look (ks.getD 0 nil0)).1.toNat<(S.cell id).length /\
   doE S (.nd k n s ks)=zkC S k s (ks.getD 1 nil0).s (zk6 S k (ks.getD 1 nil0)).1 id (indE S.look (ks.getD 0 nil0)).1.toNat:=by
 obtain⟨hs,iX,hb,hf,-⟩:=zy2 h0;simp only[T.k_nd]at iX hb;have hp:∃id kp,S.num (ks.getD 0 nil0).s=some id/\CurK S id kp/\kp≠3:=by
  obtain⟨-,fk⟩:=znk hf;rcases zoR hs hb with⟨_,p,q,rfl,hp,_⟩|⟨_,p,q,rfl,hp,_⟩|⟨_,p,rfl,hp⟩
  ·exact zmM h hp (zlG fk p zS)
  ·exact zmM h hp (zlG fk p zS)
  ·exact zmM h hp (zlG fk p zS)
 obtain⟨id,kp,h1,h2,h3⟩:=hp;rw[zv6 hs iX hb hf]at h0 ⊢;unfold zlj at h0 ⊢
 split at h0
 ·rename_i e;exact absurd h0 e
 rename_i e1;rw[if_neg e1];unfold znB at h0 ⊢
 split at h0
 ·rename_i e;exact absurd h0 e
 rename_i e2;rw[if_neg e2];rw[h1]at h0 ⊢;dsimp only at h0 ⊢
 split at h0
 ·rename_i e3;rw[if_pos e3];exact⟨id,kp,rfl,h2,h3,Decidable.not_not.1 e1,Decidable.not_not.1 e2,e3.1,zO,rfl⟩
 ·cases h0
theorem ztk{k n:Int}{s:ByteArray}{ks:List T}(hs:isS (.nd k n s ks)=true)(iX:k≠56)(hb:basB k=true)(hf:fltE S.cur.vs (.nd k n s ks)=0){id i:Nat}{y:Int}(h1:S.num (ks.getD 0 nil0).s=some id)(h2:indE S.look (ks.getD 0 nil0)=((i:Int),0))(h3:zk6 S k (ks.getD 1 nil0)=(y,0))(h4:i<(S.cell id).length) :
  doE S (.nd k n s ks)=zkC S k s (ks.getD 1 nil0).s y id i:=by
 rw[zv6 hs iX hb hf];unfold zlj;rw[h2,h3,if_neg zS];unfold znB;rw[if_neg zS,h1];dsimp only;rw[if_pos zO];simp
theorem zyc(h:S.WF)(hnd:S.cur.cs.Nodup){t:T}(hr:rejE t=0)(h0:(doE S t).1=0):zmi (doE S t).2 t=(0,S):=by
 obtain⟨k,n,s,ks⟩:=t;obtain⟨hs,iX,hb,hf,-⟩:=zy2 h0;simp only[T.k_nd]at iX hb;obtain⟨f1,f2,f3⟩:=zn1 (S:=S) (.nd k n s ks);obtain⟨id,kp,a1,a2,a3,a4,a5,a6,a7,a8⟩:=zv7 h h0;obtain⟨i,hi⟩:=zX ((indE S.look (ks.getD 0 nil0)).1.toNat);obtain⟨y,hy⟩:=zX ((zk6 S k (ks.getD 1 nil0)).1);rw[hi,hy]at a8;rw[hi]at a7;have b1:indE S.look (ks.getD 0 nil0)=((i:Int),0):=Prod.ext (by simp only;omega) a4;have b2:zk6 S k (ks.getD 1 nil0)=(y,0):=Prod.ext hy a5;have hid:=a2.lt h;rw[a8]at h0 f1 f2 f3 ⊢;obtain⟨c1,c2,c3⟩:=zKw hb
 -- what the second one comes to,once the places are the same
 have key:∀fH:List ByteArray,(∀j,(∀nm∈fH,S.num nm≠some j)->(zkC S k s (ks.getD 1 nil0).s y id i).2.cell j=S.cell j)->(∀nm∈fH,idxB (ks.getD 0 nil0) nm=false) ->
   ((∀s',(∀nm∈fH,(s'.toList==nm.toList)=false)->(zkC S k s (ks.getD 1 nil0).s y id i).2.look s'=S.look s')->zk6 (zkC S k s (ks.getD 1 nil0).s y id i).2 (zk5 k) (ks.getD 1 nil0)=(y,0)) ->
   i<((zkC S k s (ks.getD 1 nil0).s y id i).2.cell id).length ->
   zmi (zkC S k s (ks.getD 1 nil0).s y id i).2 (.nd k n s ks)=zkC (zkC S k s (ks.getD 1 nil0).s y id i).2 (zk5 k) s (ks.getD 1 nil0).s y id i:=by
  intro fH hc hp hr2 hl;have hlk:=ztP hnd ⟨f1,f2⟩ fH hc;have hnum:∀s',(zkC S k s (ks.getD 1 nil0).s y id i).2.num s'=S.num s':=fun s'=>by unfold ST.num ST.cur;rw[f1,f2]
  show doE _ (.nd (zk5 k) n s ks)=_
  refine ztk (zzS hs hb) c2 c1 ?_ ((hnum _).trans a1) ((zra hlk _ hp).trans b1) (hr2 hlk) hl;rw[zz6];have:(zkC S k s (ks.getD 1 nil0).s y id i).2.cur=S.cur:=by unfold ST.cur;rw[f1,f2]
  rw[this];exact hf
 rw[zuX,if_neg iX]at hr;rcases zoR hs hb with⟨hk,p,q,rfl,hp,hq⟩|⟨rfl,p,q,rfl,hp,hq⟩|⟨hk,p,rfl,hp⟩
 ·rw[if_pos hk]at hr
  split at hr
  ·cases hr
  rename_i iA;simp only[Bool.or_eq_true,not_or,Bool.not_eq_true]at iA;have e3:∀S':ST,∀k',(k'=40\/k'=41\/k'=42)->zkC S' k' s q.s y id i=(0,S'.put id i (updE k' (S'.el id i) y)):=fun S' k' hk'=>by unfold zkC;rw[if_pos hk']
  have hk':zk5 k=40\/zk5 k=41\/zk5 k=42:=by rcases hk with rfl|rfl|rfl<;>decide
  have e4:zkC S k s q.s y id i=(0,S.put id i (updE k (S.el id i) y)):=e3 S k hk;have hkk:=key [p.s] (fun j hj=>by
   show(zkC S k s q.s y id i).2.cell j=_
   rw[e4];exact zme S (fun e=>hj p.s zS (by rw[e];exact a1)) _ _) (fun nm hn=>by obtain rfl:=List.mem_singleton.1 hn;exact iA.1) (fun hlk=>by
   show zk6 (zkC S k s q.s y id i).2 (zk5 k) q=(y,0)
   rw[<-b2]
   show zk6 (zkC S k s q.s y id i).2 (zk5 k) q=zk6 S k q
   unfold zk6;rw[if_neg zO,if_pos hk',if_neg zO,if_pos hk];exact zt6 hlk _ fun nm hn=>by obtain rfl:=List.mem_singleton.1 hn;exact iA.2) (by
   show i<((zkC S k s q.s y id i).2.cell id).length
   rw[e4]
   show i<((S.put id i _).cell id).length
   rw[zmv];exact a7)
  show zmi (zkC S k s q.s y id i).2 _=_
  refine hkk.trans ?_
  show zkC (zkC S k s q.s y id i).2 (zk5 k) s q.s y id i=(0,S)
  rw[e4,e3 _ _ hk'];dsimp only;rw[zns S a7,zuy hk (zmE h hid i),zmu,zmm]
 ·rw[if_neg zY,if_pos rfl]at hr
  split at hr
  ·cases hr
  rename_i iA;simp only[Bool.not_eq_true]at iA;obtain⟨jd,kq,d1,d2,d3⟩:=zmM h hq (zlG (znk hf).2 q zS);have hjd:=d2.lt h;have b2':indE S.look q=(y,0):=b2;have e4:zkC S 43 s q.s y id i=if 0<=y/\y<(S.cell jd).length then(0,znp S id i jd y.toNat)else(12,S):=by
   unfold zkC;rw[if_neg zY,if_pos rfl,d1]
  have h0':(zkC S 43 s q.s y id i).1=0:=h0;rw[e4]at h0'
  split at h0'
  ·rename_i hy2;rw[if_pos hy2]at e4;have hlen:∀j,((znp S id i jd y.toNat).cell j).length=(S.cell j).length:=fun j=>by unfold znp;rw[zmv,zmv]
   have hkk:=key [p.s,q.s] (fun j hj=>by
    show(zkC S 43 s q.s y id i).2.cell j=_
    rw[e4]
    show(znp S id i jd y.toNat).cell j=_
    unfold znp;rw[zme _ (fun e=>hj q.s zS (by rw[e];exact d1)),zme _ (fun e=>hj p.s zS (by rw[e];exact a1))]) (znF iA (t:=p) zS) (fun hlk=>by
    show zk6 (zkC S 43 s q.s y id i).2 43 q=(y,0)
    rw[<-b2'];exact zra hlk q (znF iA (t:=q) zS)) (by
    show i<((zkC S 43 s q.s y id i).2.cell id).length
    rw[e4]
    show i<((znp S id i jd y.toNat).cell id).length
    rw[hlen];exact a7)
   show zmi (zkC S 43 s q.s y id i).2 _=_
   refine hkk.trans ?_
   show zkC (zkC S 43 s q.s y id i).2 43 s q.s y id i=(0,S)
   rw[e4];dsimp only;have hnq:(znp S id i jd y.toNat).num q.s=some jd:=d1;unfold zkC;rw[if_neg zY,if_pos rfl,hnq];dsimp only;rw[hlen,if_pos hy2,zuD S a7 zO]
  ·cases h0'
 ·have hk40:¬ (k=40\/k=41\/k=42):=zO
  have hk43:k≠43:=zO
  rw[if_neg hk40,if_neg hk43]at hr;have BR:∀(S':ST) k',44<=k'/\k'<=49->zk6 S' k' nil0=(0,0):=fun S' k' hk'=>by unfold zk6;rw[if_neg zO,if_neg zO]
  have hinv:44<=zk5 k/\zk5 k<=49:=by
   have:k=44\/k=45\/k=46\/k=47\/k=48\/k=49:=zO
   rcases this with rfl|rfl|rfl|rfl|rfl|rfl<;>decide
  have hy0:y=0:=by
   have:zk6 S k nil0=(y,0):=b2;rw[BR S k hk]at this;injection this with this;exact this.symm
  by_cases hk2:k=44\/k=45
  ·rw[if_pos hk2]at hr
   split at hr
   ·cases hr
   rename_i iA;simp only[Bool.not_eq_true]at iA;obtain⟨af,d1,d2⟩:=zuG h hf hk2;have hne:id≠af:=a2.ne d2 h a3;have mF:zk5 k=44\/zk5 k=45:=by rcases hk2 with rfl|rfl<;>decide
   have e3:∀(S':ST) k',(k'=44\/k'=45)->S'.num s=some af->zkC S' k' s nil0.s y id i=zlK S' k' id i af:=fun S' k' hk' hn=>by
    unfold zkC;rw[if_neg zO,if_neg zO,if_pos hk',hn]
   have e4:zkC S k s nil0.s y id i=zlK S k id i af:=e3 S k hk2 d1;have h0':(zkC S k s nil0.s y id i).1=0:=h0;rw[e4]at h0';have eX:∀j,j≠id->j≠af->(zlK S k id i af).2.cell j=S.cell j:=fun j h1 h2=>by
    unfold zlK
    repeat' split
    all_goals first|rfl|(show((S.setL af _).put id i _).cell j=_;rw[zme _ h1,zlE _ h2])|(show((S.put id i _).setL af _).cell j=_;rw[zlE _ h2,zme _ h1])
   have hlen:((zlK S k id i af).2.cell id).length=(S.cell id).length:=by
    unfold zlK
    repeat' split
    all_goals first|rfl|(show(((S.setL af _).put id i _).cell id).length=_;rw[zmv,zlE _ hne])|(show(((S.put id i _).setL af _).cell id).length=_;rw[zlE _ hne,zmv])
   have hkk:=key [p.s,s] (fun j hj=>by
    show(zkC S k s nil0.s y id i).2.cell j=_
    rw[e4];exact eX j (fun e=>hj p.s zS (by rw[e];exact a1)) (fun e=>hj s zS (by rw[e];exact d1))) (znF iA (t:=p) zS) (fun _=>by rw[hy0];exact BR _ _ hinv) (by
    show i<((zkC S k s nil0.s y id i).2.cell id).length
    rw[e4,hlen];exact a7)
   show zmi (zkC S k s nil0.s y id i).2 _=_
   refine hkk.trans ?_
   show zkC (zkC S k s nil0.s y id i).2 (zk5 k) s nil0.s y id i=(0,S)
   have hfr:=(zs1 S k id i af)
   have hn2:(zlK S k id i af).2.num s=some af:=by
    unfold ST.num ST.cur;rw[hfr.1,hfr.2.1];exact d1
   rw[e4,e3 _ _ mF hn2];exact ztO hk2 hne a7 (h.cells af (d2.lt h)).1 h0'
  ·have hk3:46<=k/\k<=49:=zO
   rw[if_neg hk2,if_pos hk3]at hr
   split at hr
   ·cases hr
   rename_i iA;simp only[Bool.not_eq_true]at iA;have hk4:k=46\/k=47\/k=48\/k=49:=zO
   have mF:46<=zk5 k/\zk5 k<=49:=by rcases hk4 with rfl|rfl|rfl|rfl<;>decide
   have e3:∀(S':ST) k',(46<=k'/\k'<=49)->zkC S' k' s nil0.s y id i=zks S' k' id i:=fun S' k' hk'=>by
    unfold zkC;rw[if_neg zO,if_neg zO,if_neg zO]
   have e4:zkC S k s nil0.s y id i=zks S k id i:=e3 S k hk3;have h0':(zkC S k s nil0.s y id i).1=0:=h0;rw[e4]at h0';have eX:∀j,j≠id->(zks S k id i).2.cell j=S.cell j:=fun j h1=>by
    unfold zks
    repeat' split
    all_goals first|rfl|exact zme (S:={ S with tin:=_ }) h1 _ _|exact zme (S:={ S with tout:=_ }) h1 _ _
   have hlen:((zks S k id i).2.cell id).length=(S.cell id).length:=by
    unfold zks
    repeat' split
    all_goals first|rfl|exact zmv (S:={ S with tin:=_ }) _ _ _ _|exact zmv (S:={ S with tout:=_ }) _ _ _ _
   have hkk:=key [p.s] (fun j hj=>by
    show(zkC S k s nil0.s y id i).2.cell j=_
    rw[e4];exact eX j (fun e=>hj p.s zS (by rw[e];exact a1))) (znF iA (t:=p) zS) (fun _=>by rw[hy0];exact BR _ _ hinv) (by
    show i<((zkC S k s nil0.s y id i).2.cell id).length
    rw[e4,hlen];exact a7)
   show zmi (zkC S k s nil0.s y id i).2 _=_
   refine hkk.trans ?_
   show zkC (zkC S k s nil0.s y id i).2 (zk5 k) s nil0.s y id i=(0,S)
   rw[e4,e3 _ _ mF];exact zrM h hk4 a7 h0'
end
def NdS(S:ST):Prop:=S.base.cs.Nodup/\∀f∈S.calls,f.cs.Nodup
section
variable {F:Int} {f f':RS->Out} {r r1 r':RS} {t:T}
end
section
variable {vs:List VD} {s:SS} {r':RS} {e:List Nat}
theorem zqM(hv:vs.length<=1000)(h0:fitB vs s=true)(hf:∀v∈vs,FldV v)(hI:s.I):RInv ⟨newS vs s,0,e⟩/\NdS (newS vs s):=by
 have hw:=zr5 h0 hf hI.1 hI.2.1 hI.2.2 vs.length zl;rw[List.take_of_length_le zl]at hw;refine⟨⟨hw,⟨by show vs.length<=1000+0;omega,fun f hf=>by cases hf⟩,Nat.zero_le _⟩,⟨List.nodup_range,fun f hf=>by cases hf⟩⟩
end
theorem zK9{n:Int}{s:ByteArray}{p q:T}(h:isS (.nd 40 n s [p,q])=true):isP p=true/\isE q=true:=by
 rw[isS,if_pos zY,Bool.and_eq_true]at h;obtain⟨p',q',e,a,b⟩:=zvs h.2;injection e with e1 e2;injection e2 with e2 e3;rw[e1,e2];exact⟨a,b⟩
def oneM(nm:ByteArray)(c:Int):T:=.nd 41 0 ⟨#[]⟩ [.nd 2 0 nm [],.nd 1 c ⟨#[]⟩ []]
theorem zzB{S:ST}(hw:S.WF){nm:ByteArray}{c:Int}(hs:isS (oneT nm c)=true)(hf:fltE S.cur.vs (oneT nm c)=0):(doE S (oneT nm c)).1=0:=by
 unfold oneT at hs hf ⊢;obtain⟨hp,hq⟩:=zK9 hs;have hfp:=zlG (znk hf).2 (.nd 2 0 nm []) zS;obtain⟨v,h2,h3⟩:=znt (znk hfp).1 zY;obtain⟨id,h4,h5⟩:=zq3 hw h2;obtain⟨kd,h6,h7⟩:=hw.cur2;obtain⟨h8,h9⟩:=h5.kd h6;have hl:=(h7 id h9).1 (by rw[h8,h3];decide);rw[ztk (id:=id) (i:=0) (y:=c) hs zY zY hf h4 (by unfold indE;rw[List.getD_cons_zero,if_pos hp];rfl)
  (by unfold zk6 zli;rw[if_neg zY,if_pos zY,List.getD_cons_succ,List.getD_cons_zero,if_pos hq,evE];rfl) zO]
 unfold zkC;rw[if_pos (.inl rfl)]
theorem zzw(nm:ByteArray)(c:Int):rejE (oneT nm c)=0:=by
 simp[rejE,oneT,kidC,idxB,menB,po,pos,zmn]
theorem ztf{prs:List PR}{F:Int}{g:Nat}{t:T}{r:RS}(h:t.k=40\/t.k=41):zkq prs F (g+1) false t r=(zkA F r).bind fun r=>zkk r (doE r.S t):=by
 rw[zkq,if_neg zO,if_neg zO,if_neg zO,if_neg zO,if_neg zO];rfl
theorem zzl{prs:List PR}{F:Int}{g:Nat}{nm:ByteArray}{c:Int}{r:RS}(hw:r.S.WF)(hnd:r.S.cur.cs.Nodup)(hs:isS (oneT nm c)=true)(hf:fltE r.S.cur.vs (oneT nm c)=0) :
  (∃r2,zkP (zkq prs F (g+1) false) [oneT nm c,oneM nm c] r=.ok r2/\r2.S=r.S)\/zkP (zkq prs F (g+1) false) [oneT nm c,oneM nm c] r=.err 18:=by
 have h1:=zzB hw hs hf;have h2:doE (doE r.S (oneT nm c)).2 (oneM nm c)=(0,r.S):=zyc hw hnd (zzw nm c) h1;rw[zkP,ztf (.inl rfl)];unfold zkA;by_cases h3:F<=r.n
 ·rw[if_pos h3];exact .inr rfl
 ·rw[if_neg h3];simp only[Out.bind,zkk];rw[if_neg (by simpa using h1)];simp only;rw[zkP,ztf (.inr rfl)];unfold zkA;by_cases h4:F<=((r.n+1:Nat):Int)
  ·rw[if_pos h4];exact .inr rfl
  ·rw[if_neg h4];simp only[Out.bind,zkk];rw[h2];exact .inl ⟨_,rfl,rfl⟩
theorem zva{p:PG}{s:SS}{F:Int}{g:Nat}{nm:ByteArray}{c:Int}(hF:F<=1000000)(iV:0<=F)(hg:F.toNat*2000+2000<=g)(h57:p.m.k=57)(hl:LitB p.m)(hp:PrB p.prs)(hf:∀u∈p.vs,FldV u)(hI:s.I)
  (hv:zkx p=true)(hc:chkN p=0)(hvq:zkx (p.part (p.m.ks++[oneT nm c,oneM nm c]))=true)(hcq:chkN (p.part (p.m.ks++[oneT nm c,oneM nm c]))=0)(hfi:fitB p.vs s=true) :
  ((resO (p.part (p.m.ks++[oneT nm c,oneM nm c])) s F g false).2.2.1=(resO p s F g false).2.2.1/\(resO (p.part (p.m.ks++[oneT nm c,oneM nm c])) s F g false).1=(resO p s F g false).1) \/
  (resO (p.part (p.m.ks++[oneT nm c,oneM nm c])) s F g false).2.2.1=18:=by
 obtain⟨q,hq⟩:=zX (p.part (p.m.ks++[oneT nm c,oneM nm c]));have rY:q.vs=p.vs:=by rw[<-hq];rfl
 have hqp:q.prs=p.prs:=by rw[<-hq];rfl
 have hqm:q.m.ks=p.m.ks++[oneT nm c,oneM nm c]:=by rw[<-hq];rfl
 have hqk:q.m.k=57:=by rw[<-hq];exact h57
 rw[hq]at hvq hcq ⊢;have hP:=zok (F:=F) (g:=g) (back:=false) hv hc hfi;have hQ:resO q s F g false=outR s (runO p.prs F g false q.m ⟨newS p.vs s,0,List.replicate p.prs.length 0⟩):=by
  have:=zok (p:=q) (F:=F) (g:=g) (back:=false) hvq hcq (by rw[rY];exact hfi);rw[hqp,rY]at this;exact this
 have hQr:runO p.prs F g false q.m ⟨newS p.vs s,0,List.replicate p.prs.length 0⟩=(runO p.prs F g false p.m ⟨newS p.vs s,0,List.replicate p.prs.length 0⟩).bind (zkP (zkq p.prs F g false) [oneT nm c,oneM nm c]):=by
  have e1:∀r,runO p.prs F g false q.m r=zkP (zkq p.prs F g false) (p.m.ks++[oneT nm c,oneM nm c]) r:=fun r=>by unfold runO blkL;rw[hqm];rfl
  rw[e1,zob];rfl
 obtain⟨hi,-⟩:=zqM (e:=List.replicate p.prs.length 0) (by have:=(zla hv).1;omega) hfi hf hI;rw[hP,hQ,hQr]
 cases hoa:runO p.prs F g false p.m ⟨newS p.vs s,0,List.replicate p.prs.length 0⟩with
 | gas=>exact .inl ⟨rfl,rfl⟩
 | err e=>exact .inl ⟨rfl,rfl⟩
 | ok r =>
  simp only[Out.bind];obtain⟨aT,hk⟩:=zqN hF hp g false p.m _ r hl hi hoa;obtain⟨g',rfl⟩:∃g',g=g'+1:=⟨g-1,zO⟩
  obtain⟨k1,k2,k3⟩:=zLI hvq hcq;have hsp:=zyo k2 k3 k1 (oneT nm c) (by rw[hqm];simp);have hS:isS (oneT nm c)=true:=hsp.s;have dV:r.S.cur=(newS p.vs s).cur:=hk.cur;have hfl:fltE r.S.cur.vs (oneT nm c)=0:=by
   rw[dV];have:=hsp.bas (by show ¬ ((50:Int)<=40/\(40:Int)<=55);omega);rw[rY]at this;exact this
  have hnd:r.S.cur.cs.Nodup:=by rw[dV];exact List.nodup_range
  rcases zzl (prs:=p.prs) (F:=F) (g:=g') aT.wf hnd hS hfl with⟨r2,h1,h2⟩|h1
  ·rw[h1];simp only[outR];exact .inl ⟨trivial,by rw[h2]⟩
  ·rw[h1];exact .inr rfl
theorem zwp{vs:List VD}{b:BX}(h:(b.ok&&svB vs)=true):∀x∈allS b (lenE vs b),fitB vs x=true/\x.I:=by
 intro x hx;obtain⟨y,hy,rfl⟩:=List.mem_map.1 hx;have h1:=ztr rfl y hy;have h2:=zmZ h;have h3:=h1.len;have hl:y.length=vs.length+1:=by rw[h3,h2.1]
 have hv:∀i (hi:i<y.length),∀e∈y[i],I64 e:=fun i hi e he=>by
  have h5:=(h1.get i zO hi).2.2 e he;have h6:=h2.2.2.2;exact⟨zO,zO⟩
 have hv':∀l∈y,∀e∈l,I64 e:=fun l hl=>by obtain⟨i,hi,rfl⟩:=List.mem_iff_getElem.1 hl;exact hv i hi
 have hlast:(stOf y).tin=y[vs.length]'zO:=by
  show y.getLastD []=_
  rw[zn9 (n:=y.length) rfl zO];simp only[hl,Nat.add_sub_cancel]
 have hcl:(stOf y).cells.length=vs.length:=by simp[stOf,hl]
 have hcg:∀i (hi:i<vs.length),(stOf y).cells[i]'zO=y[i]'zO:=fun i hi=>by simp[stOf]
 have hbn:∀i (hi:i<vs.length),(len1 b vs[i]).1<=(y[i]'zO).length/\(y[i]'zO).length<=(len1 b vs[i]).2:=fun i hi=>by
  have h5:=h1.get i (by rw[h2.1];omega) zO;simp only[lenE]at h5;rw[List.getElem_append_left (by simpa using hi),List.getElem_map]at h5;exact⟨h5.1,h5.2.1⟩
 have hsv:svB vs=true:=by simp only[Bool.and_eq_true]at h;exact h.2
 have hok:b.ok=true:=by simp only[Bool.and_eq_true]at h;exact h.1
 refine⟨?_,fun l hl=>hv' l ((List.dropLast_sublist y).subset hl),by rw[hlast];exact hv _ _,fun e he=>by cases he⟩;unfold fitB;simp only[Bool.and_eq_true,decide_eq_true_eq];refine⟨⟨⟨⟨hsv,hcl⟩,?_⟩,Nat.zero_le _⟩,zqm _ _ fun i hi hi'=>?_⟩
 ·rw[hlast];have h5:=(h1.get vs.length (by rw[h2.1];omega) zO).2.1;have h6:=(h2.2.2.1 _ (List.getElem_mem (show vs.length<(lenE vs b).length by rw[h2.1];omega))).2.2;omega
 ·rw[hcg i hi];have hb:=hbn i hi;have hd:vdB vs[i]=true:=by
   unfold svB at hsv;simp only[Bool.and_eq_true,List.all_eq_true]at hsv;exact hsv.2 _ (List.getElem_mem _)
  have h6:=h2.2.2.1 (len1 b vs[i]) (by unfold lenE;exact List.mem_append_left _ (List.mem_map.2 ⟨vs[i],List.getElem_mem _,rfl⟩));unfold len1 at hb h6;unfold fit1;unfold vdB at hd;by_cases hk:vs[i].k=3
  ·rw[if_pos hk]at hb h6 ⊢;simp only at hb h6;exact decide_eq_true zO
  ·rw[if_neg hk]at hb h6 ⊢;simp only at hb h6;refine decide_eq_true ?_;have hp:0<=fixE vs[i]:=by
    unfold fixE
    split
    ·omega
    ·rename_i h7;rw[if_neg (by rintro(e|e);exact h7 e;exact hk e)]at hd
     split at hd
     ·have:=of_decide_eq_true hd;omega
     ·cases hd
   omega
theorem zzW{p:PG}{s:SS}{F:Int}(hF:F<=1000000)(hl:LitB p.m)(hp:PrB p.prs)(hf:∀u∈p.vs,FldV u)(hI:s.I)(hr:relG p F s=true):fitB p.vs (gstE p F s)=true/\(gstE p F s).I:=by
 have h0:gerE p F s=0:=by simpa[relG]using hr
 obtain⟨hv,hc,hfi,r',hr',he⟩:=zuR (back:=false) zl h0;obtain⟨hi,hn⟩:=zqM (e:=List.replicate p.prs.length 0) (by have:=(zla hv).1;omega) hfi hf hI;obtain⟨aT,hk⟩:=zqN hF hp _ false p.m _ r' hl hi hr';have hg:gstE p F s=r'.S.state:=by unfold gstE;rw[he]
 rw[hg];exact⟨zKb hfi aT.wf hk,(zrS aT.wf).1⟩
theorem zK4{e:EX}{q:PG}{nm:ByteArray}{c:Int}(hbx:(e.bx.ok&&svB e.gv.vs)=true)(h1:admE e q=0)(h2:admE e (q.part (q.m.ks++[oneT nm c,oneM nm c]))=0)(hg:LitB e.gv.m/\PrB e.gv.prs/\∀u∈e.gv.vs,FldV u)(hq:LitB q.m/\PrB q.prs/\∀u∈q.vs,FldV u) :
  ((grdE e (q.part (q.m.ks++[oneT nm c,oneM nm c]))).2.2.2=18->(grdE e (q.part (q.m.ks++[oneT nm c,oneM nm c]))).2.1<=(grdE e q).2.1)/\((grdE e (q.part (q.m.ks++[oneT nm c,oneM nm c]))).2.2.2≠18->grdE e q=grdE e (q.part (q.m.ks++[oneT nm c,oneM nm c]))):=by
 obtain⟨hX,a1,a2,-,a4⟩:=znG h1;obtain⟨-,b1,b2,-,-⟩:=znG h2;obtain⟨f1,f2,-,-⟩:=zqG hX;have h57:q.m.k=57:=by
  have:=(znn a1).1
  cases hm:q.m with
  | nd k n s ks=>rw[hm]at this;exact((zsc _ _ _ _).1 this).1
 unfold grdE;refine zq4 _ _ fun s hs hr=>?_;obtain⟨g1,g2⟩:=zzW f2 hg.1 hg.2.1 hg.2.2 (zwp hbx s hs).2 hr;rw[<-a4]at g1;have hn:=zva (g:=e.fu.toNat*2000+2000) (s:=gstE e.gv e.fu s) f2 f1 zl h57 hq.1 hq.2.1 hq.2.2 g2 a1 a2 b1 b2 g1;obtain⟨t,ht⟩:=zX (gstE e.gv e.fu s);unfold rigG erG;rw[ht]at hn ⊢;rcases hn with⟨n1,n2⟩|n1
 ·left
  have e1:gerE (q.part (q.m.ks++[oneT nm c,oneM nm c])) e.fu t=gerE q e.fu t:=n1;have e2:gstE (q.part (q.m.ks++[oneT nm c,oneM nm c])) e.fu t=gstE q e.fu t:=n2;exact⟨by rw[e1,e2],e1⟩
 ·right
  have e1:gerE (q.part (q.m.ks++[oneT nm c,oneM nm c])) e.fu t=18:=n1;exact⟨by rw[e1];rfl,e1⟩
attribute [local go_sem] Oper.semAt_some
theorem zrR{ops:Array Oper}{o:Oper}{a:Act}{W:World}{K:Act->World->Prop}{Q:Exit->Act->World->Prop}{F:Prop}{N0:Nat}{S:Nat->Prop}(hgd:o.guard=none)(s x:Operand)
  (ho:o.op=.call { callee:=.builtin .append,args := #[s,x],argTypes := #[26,26] })(hN:N0<=W.heap.size){v:Value}{ts us:List T}{A:Option Addr}{m c:Nat}(hs:a.eval s=v)(hr:OwnN W N0 28 S v ts)(hm:us.length=m)(hx:a.eval x=.slice A m c)(hu:Src W (fun b=>S b/\some b≠v.ownBlock) A us)(hl:ts.length+us.length<=LK)
  (h:∀v' w',Chg (fun b=>v.ownBlock=some b) W w'->(∀b,v'.ownBlock=some b->(W.heap.size<=b\/v.ownBlock=some b)/\b<w'.heap.size)->OwnN w' N0 28 S v' (ts++us)->K (a.put o.dst v') w') :
  if Region.wanted o (yielded ops a.tmps)=true then Oper.wp prog o a W K Q else F:=by
 obtain⟨j,hj,hz0,hz1,hz2⟩:=info_parts zsZ;refine zmk hgd s x 26 ho 28 j _ underlying26 hj hz0 hz1 hz2 rfl N0 S v ts hs hr us A m c hm hx hu hl hN fun v' w' g1 g2 g3=>h v' w' (Chg.row g2) (fun b hb=>⟨?_,(g1.block b hb).2⟩) g1;rcases g3 with e|e
 ·exact .inr (e▸hb)
 ·rw[e]at hb;injection hb with hb;exact .inl zO
theorem zvL:IsFn prog 12 f12:=⟨func12,zK,zK⟩
theorem zL5(w:World):(Instr.buildSlice 26 0 #[]).run prog w=.ok (.slice (some ⟨w.heap.size,0,none⟩) 0 0) (w.alloc (.cells #[] 28)):=zK
def noF(N0:Nat)(S:Nat->Prop)(ks:List T)(nm:ByteArray)(c:Int):Nat->Value->List Value->World->Prop
 | 4,v,_,w=>OwnN w N0 28 S v ks
 | 8,v,_,_=>v=nv 1 c xO none 0 0
 | 14,v,_,_=>v=nv 1 c xO none 0 0
 | 9,v,_,w=>∃b,v=.slice (some ⟨b,0,none⟩) 2 2/\w.heap[b]?=some (.cells #[zj 2,zi 0,.string nm,zn,zj 1,zi c,.string xO,zn] 28 (0,0))
 | 15,v,_,w=>∃b,v=.slice (some ⟨b,0,none⟩) 2 2/\w.heap[b]?=some (.cells #[zj 2,zi 0,.string nm,zn,zj 1,zi c,.string xO,zn] 28 (0,0))
 | 10,v,ds,_=>∃b,ds=[.slice (some ⟨b,0,none⟩) 2 2]/\v=nv 40 0 xO (some ⟨b,0,none⟩) 2 2
 | 16,v,ds,_=>∃b,ds=[.slice (some ⟨b,0,none⟩) 2 2]/\v=nv 41 0 xO (some ⟨b,0,none⟩) 2 2
 | 17,v,ds,w=>∃b b1 b2,v=.slice (some ⟨b,0,none⟩) 2 2/\ds=[nv 40 0 xO (some ⟨b1,0,none⟩) 2 2,nv 41 0 xO (some ⟨b2,0,none⟩) 2 2]/\w.heap[b]?=some (.cells #[zj 40,zi 0,.string xO,.slice (some ⟨b1,0,none⟩) 2 2,zj 41,zi 0,.string xO,.slice (some ⟨b2,0,none⟩) 2 2] 28 (0,0))
 | _,v,_,w=>OwnN w N0 28 S v []
def noD:Nat->List Nat
 | 4=>[0]|8=>[4]|9=>[8]|10=>[9]|14=>[8]|15=>[14]|16=>[15]|17=>[10,16]|_=>[]
def noC:Nat->List Nat
 | 4=>[0]|_=>[]
theorem zzJ{N0:Nat}{S:Nat->Prop}{ks:List T}{nm:ByteArray}{c:Int}(hS:∀q,S q->q<N0)(i:Nat)(v:Value)(ds:List Value)(w w':World)(C:Nat->Prop)(h:noF N0 S ks nm c i v ds w)(hc:Chg C w w')(hC:∀b,C b->N0<=b/\∃i,noC i≠[])(ho:∀b,v.ownBlock=some b->¬ C b):noF N0 S ks nm c i v ds w':=by
 have hCS:∀b,C b->¬ S b:=fun b hb hs=>by have:=(hC b hb).1;have:=hS b hs;omega
 unfold noF at h ⊢
 split at h
 ·exact OwnN.chgC h hc hCS ho
 ·exact h
 ·exact h
 ·obtain⟨b,rfl,h2⟩:=h;exact⟨b,rfl,hc.keep h2 (ho b rfl)⟩
 ·obtain⟨b,rfl,h2⟩:=h;exact⟨b,rfl,hc.keep h2 (ho b rfl)⟩
 ·exact h
 ·exact h
 ·obtain⟨b,b1,b2,rfl,h2,h3⟩:=h;exact⟨b,b1,b2,rfl,h2,hc.keep h3 (ho b rfl)⟩
 ·exact OwnN.chgC h hc hCS ho
theorem zzk{w:World}{b b1 b2:Nat}{nm:ByteArray}{c:Int}{own:Option Nat}{S:Nat->Prop}(hnm:nm.size<=maxLen)(hc:I64 c)(h1:S b1/\some b1≠own)(h2:S b2/\some b2≠own)
  (k:w.heap[b]?=some (.cells #[zj 40,zi 0,.string xO,.slice (some ⟨b1,0,none⟩) 2 2,zj 41,zi 0,.string xO,.slice (some ⟨b2,0,none⟩) 2 2] 28 (0,0)))
  (k1:w.heap[b1]?=some (.cells #[zj 2,zi 0,.string nm,zn,zj 1,zi c,.string xO,zn] 28 (0,0)))
  (k2:w.heap[b2]?=some (.cells #[zj 2,zi 0,.string nm,zn,zj 1,zi c,.string xO,zn] 28 (0,0))):Src w (fun q=>S q/\some q≠own) (some ⟨b,0,none⟩) [oneT nm c,oneM nm c]:=by
 intro i hi;have hl:NV w (fun q=>S q/\some q≠own) (.nd 2 0 nm []) (nv 2 0 nm none 0 0):=zov _ _ ⟨zY,⟨zY,zY⟩,hnm⟩;have hn:NV w (fun q=>S q/\some q≠own) (.nd 1 c xO []) (nv 1 c xO none 0 0):=zov _ _ (fldG 1 c zY hc)
 match i,hi with
 | 0,_=>exact⟨⟨b,0,none⟩,_,_,_,_,rfl,⟨zc k rfl,zc k rfl,zc k rfl,zc k rfl⟩,zKJ (fldG 40 0 zY ⟨zY,zY⟩) h1 k1 hl hn⟩
 | 1,_=>exact⟨⟨b,0,none⟩,_,_,_,_,rfl,⟨zc k rfl,zc k rfl,zc k rfl,zc k rfl⟩,zKJ (fldG 41 0 zY ⟨zY,zY⟩) h2 k2 hl hn⟩
theorem zry{W:World}{e:EX}{q:PG}{z:Int}{ev qv:Value}(he:EV W Any e ev)(hq:PV W Any q qv)(hz:0<=z/\z<256) :
  Calls prog 3 #[ev,qv,.int .u8 z] W fun en w'=>en=.returned (.bool true)/\Below W.heap.size W w':=by
 have lq:=zh (fun w' (hb:Below W.heap.size W w')=>he.later hb);have HQ:=zh (fun w' (hb:Below W.heap.size W w')=>hq.later hb);obtain⟨A1,c1,A2,c2,A3,c3,rfl,hg,hI⟩:=he;obtain⟨D1,e1,D2,e2,D3,e3,rfl,jr⟩:=hq;have HG:=zh (fun w' (hb:Below W.heap.size W w')=>hg.later hb);have wO:=zh (fun w' (hb:Below W.heap.size W w')=>jr.later hb);have HZ:=zh hz;have hb2:=zkb (zkb (zs W) (.cells (exA e A1 c1 A2 c2 A3 c3) 32)) (.cells (pgA q D1 e1 D2 e2 D3 e3) 30);have k0:=zkd (heap_alloc_new W (.cells (exA e A1 c1 A2 c2 A3 c3) 32)) (.cells (pgA q D1 e1 D2 e2 D3 e3) 30);have k1:=heap_alloc_new (W.alloc (.cells (exA e A1 c1 A2 c2 A3 c3) 32)) (.cells (pgA q D1 e1 D2 e2 D3 e3) 30);have hz2:((W.alloc (.cells (exA e A1 c1 A2 c2 A3 c3) 32)).alloc (.cells (pgA q D1 e1 D2 e2 D3 e3) 30)).heap.size=W.heap.size+2:=by simp
 simp only[World.size_alloc,Nat.add_assoc,Nat.reduceAdd]at k1;obtain⟨w2,hw2⟩:=zX ((W.alloc (.cells (exA e A1 c1 A2 c2 A3 c3) 32)).alloc (.cells (pgA q D1 e1 D2 e2 D3 e3) 30));obtain⟨N,hN⟩:=zX (W.heap.size);have HN:=zh hN;rw[hw2]at hb2 k0 k1 hz2;rw[hN]at k0 k1 hz2;have HB:=zh hb2;have HZ2:=zh hz2;have dD:=zh (fun w' (h:Below w2.heap.size w2 w')=>zo3 (zkc k0 h));have dx:=zh (fun w' (h:Below w2.heap.size w2 w')=>box6 (zkc k1 h));have bT:=zh (zs w2);clear hg hI jr hb2 k0 k1 hz2 hz;obtain⟨x0,x1,x2,x3,x4,x5,x6,x7,x8,x9,aK,aJ⟩:=dD.out _ bT.out;obtain⟨q0,q1,q2,q3,q4,q5⟩:=dx.out _ bT.out;go_enter func3,ntmps3;go_upto_region 1 with fail
 try simp only[Nat.add_assoc,Nat.reduceAdd]
 try rw[hw2]
 try rw[hN]
 try simp only[Nat.add_assoc,Nat.reduceAdd]
 clear hw2 hN;go_wp2_with fail;refine(zlD _).mono ?_;rintro en w3 ⟨rfl,hb3⟩;have aZ:=zh (zka bT.out hb3);clear hb3;clear x0 x1 x2 x3 x4 x5 x6 x7 x8 x9 aK aJ q0 q1 q2 q3 q4 q5;obtain⟨x0,x1,x2,x3,x4,x5,x6,x7,x8,x9,aK,aJ⟩:=dD.out _ aZ.out;obtain⟨q0,q1,q2,q3,q4,q5⟩:=dx.out _ aZ.out;go_wp2_with fail;refine(zse (lq.out _ (zka HB.out aZ.out)) (HQ.out _ (zka HB.out aZ.out))).mono ?_;rintro en w4 ⟨g1,rfl,hg1,hb4⟩;have vH:=zh hg1;have bL:=zh (zka aZ.out hb4);clear hb4 hg1;clear x0 x1 x2 x3 x4 x5 x6 x7 x8 x9 aK aJ q0 q1 q2 q3 q4 q5;obtain⟨x0,x1,x2,x3,x4,x5,x6,x7,x8,x9,aK,aJ⟩:=dD.out _ bL.out;obtain⟨q0,q1,q2,q3,q4,q5⟩:=dx.out _ bL.out
 cases g1
 rotate_left 1
 ·skip
  go_wp2_with fail;refine(zlD _).mono ?_;rintro en wz ⟨rfl,hbz⟩;go_wp2_with fail;go_ret;exact⟨rfl,zka (zka HB.out bL.out) hbz⟩
 have bA:=zh (vH.out (by first|exact trivial|rfl));clear vH;go_wp2_with fail;refine(zoG (lq.out _ (zka HB.out bL.out)) (HQ.out _ (zka HB.out bL.out))).mono ?_;rintro en w5 ⟨rfl,hb5⟩;have bK:=zh (zka bL.out hb5);clear hb5;clear x0 x1 x2 x3 x4 x5 x6 x7 x8 x9 aK aJ q0 q1 q2 q3 q4 q5;obtain⟨x0,x1,x2,x3,x4,x5,x6,x7,x8,x9,aK,aJ⟩:=dD.out _ bK.out;obtain⟨q0,q1,q2,q3,q4,q5⟩:=dx.out _ bK.out;obtain⟨AD,iW⟩:=zX (admE e q);have HAD:=zh iW;rw[iW];clear iW;by_cases ha:AD=0;rotate_left 1
 ·have ha1:(AD != 0)=true:=by simpa using ha
  clear ha;go_wp2_with fail;refine(zlD _).mono ?_;rintro en wz ⟨rfl,hbz⟩;go_wp2_with fail;go_ret;exact⟨rfl,zka (zka HB.out bK.out) hbz⟩
 have ha1:(AD != 0)=false:=by simpa using ha
 have HA1:=zh (HAD.out.trans ha);clear ha;by_cases hn0:q.vs.length=0
 ·have e0:((q.vs.length:Int)==0)=true:=by simp[hn0]
  clear hn0;go_wp2_with fail;refine(zlD _).mono ?_;rintro en wz ⟨rfl,hbz⟩;go_wp2_with fail;go_ret;exact⟨rfl,zka (zka HB.out bK.out) hbz⟩
 have e0:((q.vs.length:Int)==0)=false:=by simp[hn0]
 obtain⟨a,v0,hda,-,Hv0,⟨y0,y1,y2⟩,hfv⟩:=((wO.out _ (zka HB.out bK.out)).vars).nd (i:=0) (by omega);subst hda;have CE:=zh hfv;have ea:a.add (0*3)=a:=by unfold Addr.add;simp
 rw[ea]at y0 y1 y2;have hlt0:(0:Int)<(q.vs.length:Int):=by omega
 clear ea hfv Hv0 hn0;by_cases hk1:v0.k=1;rotate_left 1
 ·have e1:(v0.k != 1)=true:=by simp[hk1]
  clear hk1;go_wp2_with fail;refine(zlD _).mono ?_;rintro en wz ⟨rfl,hbz⟩;go_wp2_with fail;go_ret;exact⟨rfl,zka (zka HB.out bK.out) hbz⟩
 have e1:(v0.k != 1)=false:=by simp[hk1]
 clear hk1;by_cases hfu:e.fu<2
 ·have e2:decide (e.fu<2)=true:=by simpa using hfu
  clear hfu;go_wp2_with fail;refine(zlD _).mono ?_;rintro en wz ⟨rfl,hbz⟩;go_wp2_with fail;go_ret;exact⟨rfl,zka (zka HB.out bK.out) hbz⟩
 have e2:decide (e.fu<2)=false:=by simpa using hfu
 clear hfu;go_wp2_with fail;refine(zux _ _).mono ?_;rintro en w6 ⟨rfl,hb6⟩;have fG:=zh (zka bK.out hb6);clear hb6 y0 y1 y2 e0 e1 e2 hlt0;clear x0 x1 x2 x3 x4 x5 x6 x7 x8 x9 aK aJ q0 q1 q2 q3 q4 q5;obtain⟨x0,x1,x2,x3,x4,x5,x6,x7,x8,x9,aK,aJ⟩:=dD.out _ fG.out;obtain⟨q0,q1,q2,q3,q4,q5⟩:=dx.out _ fG.out;go_upto_region 4 with fail;have eF:=zkb (zs w6) (.cells #[.int .u8 2,.int .i64 0,.string v0.s,.slice none 0 0] 28);have k7:=heap_alloc_new w6 (.cells #[.int .u8 2,.int .i64 0,.string v0.s,.slice none 0 0] 28);obtain⟨w7,hw7⟩:=zX (w6.alloc (.cells #[.int .u8 2,.int .i64 0,.string v0.s,.slice none 0 0] 28));have iU:w7.heap.size=w6.heap.size+1:=by rw[<-hw7];simp
 have dL:=fG.out.size;obtain⟨XB,hXB⟩:=zX (w6.heap.size);rw[hw7]at eF k7 ⊢;rw[hXB]at k7 iU dL ⊢;have il:=zh (zka fG.out eF);have uZ:=zh k7;have BS:=zh (show N+2<=XB/\w7.heap.size=XB+1 from⟨by have:=HZ2.out;omega,iU⟩);clear eF k7 hw7 iU dL hXB;clear x0 x1 x2 x3 x4 x5 x6 x7 x8 x9 aK aJ q0 q1 q2 q3 q4 q5;obtain⟨x0,x1,x2,x3,x4,x5,x6,x7,x8,x9,aK,aJ⟩:=dD.out _ il.out;obtain⟨q0,q1,q2,q3,q4,q5⟩:=dx.out _ il.out;go_upto_region 5 with fail;have dM:=zkb (zs w7) (.cells (pgA q (some a) e1 D2 e2 D3 e3) 30);have k8:=heap_alloc_new w7 (.cells (pgA q (some a) e1 D2 e2 D3 e3) 30);obtain⟨w8,hw8⟩:=zX (w7.alloc (.cells (pgA q (some a) e1 D2 e2 D3 e3) 30));have rG:w8.heap.size=w7.heap.size+1:=by rw[<-hw8];simp
 obtain⟨MB,BF⟩:=zX (w7.heap.size);rw[hw8]at dM k8 ⊢;rw[BF]at k8 rG ⊢;have vR:=zh (zka il.out dM);have wV:=zh dM;have qw:=zh k8;have BU:=zh (zkc uZ.out dM);have uu:=zh (show N+2<=XB/\MB=XB+1/\w8.heap.size=MB+1/\w7.heap.size=MB from⟨BS.out.1,by have:=BS.out.2;omega,rG,BF⟩);clear dM k8 hw8 rG BF BS;clear x0 x1 x2 x3 x4 x5 x6 x7 x8 x9 aK aJ q0 q1 q2 q3 q4 q5;obtain⟨n7,qH⟩:=zX ((q.m.ks++[oneT v0.s z,oneM v0.s z]).length);have uS:=zh qH;obtain⟨nf,hnf⟩:=zX (w8.heap.size);have Cn:=zh hnf;have uW:=zh (show MB<nf by have:=uu.out;omega)
 have qY:=zh (show ∀w',w'.heap[N+1]?=w8.heap[N+1]?->w'.heap[XB]?=w8.heap[XB]?->(fun w':World=>zv w' (N+1) 5 (.slice D3 q.m.ks.length e3)/\zN4 w' XB (.int .u8 2) (.int .i64 0) (.string v0.s) (.slice none 0 0)) w' from fun w' h1 h2=>⟨(World.cell?_of_block (a:=⟨N+1,5,none⟩) h1).trans (dx.out _ vR.out).2.2.2.2.2,box4 (h2.trans BU.out)⟩);have az:=zh (fun w' (hb:Below nf w8 w')=>qY.out w' (hb.block _ (by have:=uu.out;have:=uW.out;omega)) (hb.block _ (by have:=uu.out;have:=uW.out;omega)));have hb8r:Below nf w8 w8.drew:=by rw[<-hnf];exact zr.drew
 have hSS:zW (fun w':World=>zv w' (N+1) 5 (.slice D3 q.m.ks.length e3)/\zN4 w' XB (.int .u8 2) (.int .i64 0) (.string v0.s) (.slice none 0 0)) zU w8.drew:=⟨az.out _ hb8r,trivial⟩
 have hzz:=HZ.out;refine wp_region_noPanic ?_;refine zG hSS 30 ?_;refine zT 1 hSS ?_;refine zT 2 hSS ?_;refine zT 3 hSS ?_;refine zT 5 hSS ?_;refine zT 6 hSS ?_;refine zT 7 hSS ?_;refine zT 11 hSS ?_;refine zT 12 hSS ?_;refine zT 13 hSS ?_;have hwz:IntKind.i64.wrap z=z:=(IntWalk.i64_left z).trans (IntWalk.wrap64_in z (by omega));rw[hwz];have hI:(fun w=>Below nf w8 w) w8.drew:=hb8r;have h1:=zL5;have h2:=zLt;have h3:=bNkG;have hsz:∀w,Below nf w8 w->nf<=w.heap.size:=fun w h=>by have:=h.size;rw[Cn.out]at this;exact this
 have hlw:∀w,Below nf w8 w->Below w8.heap.size w8 w:=fun w h=>by rw[Cn.out];exact h
 have hS:∀q,(fun q=>q<nf/\q≠MB) q->q<nf:=fun q h=>h.1;have HRA:=zh (show zkS w8 (fun q=>q<nf/\q≠MB) D3 q.m.ks from by
  obtain⟨A,c,e,-,-,-,hr⟩:=(wO.out _ (zka HB.out il.out)).main.open_;injection e with e;simp only[Array.mk.injEq,List.cons.injEq,Value.slice.injEq,and_true,true_and]at e;obtain⟨rfl,-⟩:=e;have hz:=uu.out;have hn:=Cn.out;exact hr.keep (S':=fun q=>q<nf/\q≠MB) (w':=w8) (fun b _ hlt=>⟨by omega,by omega⟩) fun b _ hlt=>wV.out.block b hlt)
 have hl0:([]:List T).length+q.m.ks.length<=LK:=by have:=bA.out.2.2.2.2.1;simp[LK];omega
 have hl1:q.m.ks.length+[oneT v0.s z,oneM v0.s z].length<=LK:=by have:=bA.out.2.2.2.2.1;simp[LK];omega
 clear hSS qH hnf hwz;refine zuo (T:=[(0,53),(4,57),(8,61),(9,62),(10,63),(14,67),(15,68),(16,69),(17,70)]) (z:=18) (n:=22) nf (fun _ v=>v.ownBlock) noD noC 4 (fun w=>Below nf w8 w) (noF nf (fun q=>q<nf/\q≠MB) q.m.ks v0.s z) (by kernel_rfl) (by kernel_rfl) (by simp only[putP,Act.put,zD,zE,zF]) (by decide) (by kernel_rfl) (by kernel_rfl) (by decide) hsz (fun w h=>⟨az.out _ h,trivial⟩) (fun w w' C h hc hC=>h.trans (hc.below (hsz w h) fun b hb=>(hC b hb).1)) (zzJ hS) (fun p hp=>?_) (fun vs w9 aP hF hO=>?_) w8.drew hI
 ·simp only[List.mem_cons,List.not_mem_nil,or_false]at hp;rcases hp with rfl|rfl|rfl|rfl|rfl|rfl|rfl|rfl|rfl
  ·skip
   intro oi hoi vs K w2 hb2 hd ak;obtain rfl:=Option.some.inj hoi;simp only[putP,Act.put,zA,zB,zC,zD,zE,zF]at ak ⊢;have hK:=zh ak;clear ak hoi;go_simp;exact hK.out _ _ alC alB (OwnN.laid0 (hsz _ hb2))
  ·intro oi hoi vs K w2 hb2 hd ak;generalize qM:putP vs [(0,53),(4,57),(8,61),(9,62),(10,63),(14,67),(15,68),(16,69),(17,70)] _=AC at ak ⊢;have hK:=zh ak;clear ak;have hd1:OwnN w2 nf 28 (fun q=>q<nf/\q≠MB) (vs 0) []:=hd 0 (by decide);refine zrQ (K:=K) (c:=e3) hoi (.tmp 53) (.tmp 56) (by kernel_rfl) (by kernel_rfl) (hsz _ hb2) hS (by rw[<-qM];kernel_rfl) hd1 rfl (by rw[<-qM];kernel_rfl) (HRA.out.later (hlw _ hb2)).src hl0 ?_;intro v' w3 g1 g2 g3;exact hK.out _ _ (g1.mono fun b _ hb=>⟨0,by decide,hb⟩) (fun b hb=>⟨(g2 b hb).1.imp id fun h=>⟨0,by decide,h⟩,(g2 b hb).2⟩) g3
  ·intro oi hoi vs K w2 hb2 hd ak;generalize qM:putP vs [(0,53),(4,57),(8,61),(9,62),(10,63),(14,67),(15,68),(16,69),(17,70)] _=AC at ak ⊢;have hK:=zh ak;clear ak;have had:Calls prog 12 ([.int .i64 z].toArray ++ #[]) w2 fun e w'=>∃v,e=.returned v/\(v=nv 1 z xO none 0 0/\Below w2.heap.size w2 w'):=(zoN z w2).mono fun e w' h=>⟨_,h.1,rfl,h.2⟩
   refine zpv hoi (.func 12) [.tmp 60] #[3] (by kernel_rfl) (by kernel_rfl) 12 _ zvL _ (by rw[<-qM];kernel_rfl) [.int .i64 z] (by rw[<-qM];kernel_rfl) (fun v w'=>v=nv 1 z xO none 0 0/\Below w2.heap.size w2 w') had ?_;rintro v w' ⟨rfl,hb⟩;exact hK.out _ _ (Chg.of_below hb) (fun b hb=>by cases hb) rfl
  ·skip
   intro oi hoi vs K w2 hb2 hd ak;obtain rfl:=Option.some.inj hoi;simp only[putP,Act.put,zA,zB,zC,zD,zE,zF]at ak ⊢;have e8:vs 8=nv 1 z xO none 0 0:=hd 8 (by decide);rw[e8]at ak ⊢;have hK:=zh ak;clear ak hoi;go_simp;exact hK.out _ _ alC alB ⟨_,rfl,heap_alloc_new w2 _⟩
  ·skip
   intro oi hoi vs K w2 hb2 hd ak;obtain rfl:=Option.some.inj hoi;simp only[putP,Act.put,zA,zB,zC,zD,zE,zF]at ak ⊢;obtain⟨b,e8,-⟩:∃b,vs 9=.slice (some ⟨b,0,none⟩) 2 2/\_:=hd 9 (by decide);rw[e8]at ak ⊢;have hK:=zh ak;clear ak hoi;go_simp;exact hK.out _ _ (Chg.refl _ _) (fun b hb=>by cases hb) ⟨b,by simp[noD,e8],rfl⟩
  ·intro oi hoi vs K w2 hb2 hd ak;generalize qM:putP vs [(0,53),(4,57),(8,61),(9,62),(10,63),(14,67),(15,68),(16,69),(17,70)] _=AC at ak ⊢;have hK:=zh ak;clear ak;have had:Calls prog 12 ([.int .i64 z].toArray ++ #[]) w2 fun e w'=>∃v,e=.returned v/\(v=nv 1 z xO none 0 0/\Below w2.heap.size w2 w'):=(zoN z w2).mono fun e w' h=>⟨_,h.1,rfl,h.2⟩
   refine zpv hoi (.func 12) [.tmp 66] #[3] (by kernel_rfl) (by kernel_rfl) 12 _ zvL _ (by rw[<-qM];kernel_rfl) [.int .i64 z] (by rw[<-qM];kernel_rfl) (fun v w'=>v=nv 1 z xO none 0 0/\Below w2.heap.size w2 w') had ?_;rintro v w' ⟨rfl,hb⟩;exact hK.out _ _ (Chg.of_below hb) (fun b hb=>by cases hb) rfl
  ·skip
   intro oi hoi vs K w2 hb2 hd ak;obtain rfl:=Option.some.inj hoi;simp only[putP,Act.put,zA,zB,zC,zD,zE,zF]at ak ⊢;have e8:vs 14=nv 1 z xO none 0 0:=hd 14 (by decide);rw[e8]at ak ⊢;have hK:=zh ak;clear ak hoi;go_simp;exact hK.out _ _ alC alB ⟨_,rfl,heap_alloc_new w2 _⟩
  ·skip
   intro oi hoi vs K w2 hb2 hd ak;obtain rfl:=Option.some.inj hoi;simp only[putP,Act.put,zA,zB,zC,zD,zE,zF]at ak ⊢;obtain⟨b,e8,-⟩:∃b,vs 15=.slice (some ⟨b,0,none⟩) 2 2/\_:=hd 15 (by decide);rw[e8]at ak ⊢;have hK:=zh ak;clear ak hoi;go_simp;exact hK.out _ _ (Chg.refl _ _) (fun b hb=>by cases hb) ⟨b,by simp[noD,e8],rfl⟩
  ·skip
   intro oi hoi vs K w2 hb2 hd ak;obtain rfl:=Option.some.inj hoi;simp only[putP,Act.put,zA,zB,zC,zD,zE,zF]at ak ⊢;obtain⟨b1,-,e1⟩:∃b,_/\vs 10=nv 40 0 xO (some ⟨b,0,none⟩) 2 2:=hd 10 (by decide);obtain⟨b2,-,e2⟩:∃b,_/\vs 16=nv 41 0 xO (some ⟨b,0,none⟩) 2 2:=hd 16 (by decide);rw[e1,e2]at ak ⊢;have hK:=zh ak;clear ak hoi;go_simp;exact hK.out _ _ alC alB ⟨_,b1,b2,rfl,by simp[noD,e1,e2],heap_alloc_new w2 _⟩
 ·have f4:OwnN w9 nf 28 (fun q=>q<nf/\q≠MB) (vs 4) q.m.ks:=hF (4,57) (by decide) (by decide);have f8:vs 8=nv 1 z xO none 0 0:=hF (8,61) (by decide) (by decide);have f14:vs 14=nv 1 z xO none 0 0:=hF (14,67) (by decide) (by decide);obtain⟨b1,f9,g9⟩:∃b,vs 9=.slice (some ⟨b,0,none⟩) 2 2/\w9.heap[b]?=some (.cells #[.int .u8 2,.int .i64 0,.string v0.s,.slice none 0 0,.int .u8 1,.int .i64 z,.string xO,.slice none 0 0] 28 (0,0)):=hF (9,62) (by decide) (by decide);obtain⟨b2,f15,g15⟩:∃b,vs 15=.slice (some ⟨b,0,none⟩) 2 2/\w9.heap[b]?=some (.cells #[.int .u8 2,.int .i64 0,.string v0.s,.slice none 0 0,.int .u8 1,.int .i64 z,.string xO,.slice none 0 0] 28 (0,0)):=hF (15,68) (by decide) (by decide);obtain⟨c1',e10,f10⟩:∃b,[vs 9]=[Value.slice (some ⟨b,0,none⟩) 2 2]/\vs 10=nv 40 0 xO (some ⟨b,0,none⟩) 2 2:=hF (10,63) (by decide) (by decide)
  obtain⟨c2',e16,f16⟩:∃b,[vs 15]=[Value.slice (some ⟨b,0,none⟩) 2 2]/\vs 16=nv 41 0 xO (some ⟨b,0,none⟩) 2 2:=hF (16,69) (by decide) (by decide);obtain⟨b3,d1',d2',f17,e17,g17⟩:∃b b1 b2,vs 17=.slice (some ⟨b,0,none⟩) 2 2/\[vs 10,vs 16]=[nv 40 0 xO (some ⟨b1,0,none⟩) 2 2,nv 41 0 xO (some ⟨b2,0,none⟩) 2 2]/\w9.heap[b]?=some (.cells #[.int .u8 40,.int .i64 0,.string xO,.slice (some ⟨b1,0,none⟩) 2 2,.int .u8 41,.int .i64 0,.string xO,.slice (some ⟨b2,0,none⟩) 2 2] 28 (0,0)):=hF (17,70) (by decide) (by decide);rw[f9]at e10;rw[f15]at e16;rw[f10,f16]at e17;simp only[List.cons.injEq,Value.slice.injEq,Option.some.injEq,Addr.mk.injEq,and_true]at e10 e16;simp only[nv,List.cons.injEq,Value.agg.injEq,Array.mk.injEq,Value.slice.injEq,Option.some.injEq,Addr.mk.injEq,and_true,true_and]at e17;obtain⟨e17,e18⟩:=e17;subst e10 e16 e17 e18
  have n1:∀b,(vs 4).ownBlock=some b->b≠b1:=fun b h e=>hO 4 9 (by decide) (by decide) (by decide) (by decide) b h (by rw[f9,e];rfl);have n2:∀b,(vs 4).ownBlock=some b->b≠b2:=fun b h e=>hO 4 15 (by decide) (by decide) (by decide) (by decide) b h (by rw[f15,e];rfl);have Bj:=(aP.block MB uW.out).trans qw.out;have m1:b1≠MB:=fun e=>by
   rw[e]at g9;have:=g9.symm.trans Bj;injection this with h;injection h with h1 h2;exact absurd h2 (by decide)
  have m2:b2≠MB:=fun e=>by
   rw[e]at g15;have:=g15.symm.trans Bj;injection this with h;injection h with h1 h2;exact absurd h2 (by decide)
  have hown:=f4.block;obtain⟨B6,d6,e4,-,-⟩:=f4.row;have BP:OwnN w9 nf 28 (fun b=>b≠MB) (vs 4) q.m.ks:=f4.mono fun b h=>h.2;simp only[putP,Act.put,zD,zE,zF];rw[e4]at BP n1 n2 hown ⊢;rw[f17];clear f4 e4 f8 f14 f9 f10 f15 f16 f17 hF hO;generalize vs 0=u0;generalize vs 8=u8;generalize vs 9=u9;generalize vs 10=u10;generalize vs 14=u14;generalize vs 15=u15;generalize vs 16=u16;refine zo 18 fun K hK=>?_;refine zrR rfl (.tmp 57) (.tmp 70) rfl (N0:=nf) (S:=fun b=>b≠MB) (hsz _ aP) (v:=.slice B6 q.m.ks.length d6) rfl BP rfl rfl (zzk CE.out.1 ⟨by omega,by omega⟩ ⟨m1,fun e=>n1 _ e.symm rfl⟩ ⟨m2,fun e=>n2 _ e.symm rfl⟩ g17 g9 g15) hl1 ?_;intro v' aW hc1 hb1 ho1;obtain⟨B7,d7,e7,-⟩:=ho1.row;rw[uS.out]at e7;subst e7;have hfl:Below nf w8 aW:=aP.trans (hc1.below (hsz _ aP) fun b hb=>(hown b hb).1)
  have gJ:zW (fun w':World=>zv w' (N+1) 5 (.slice D3 q.m.ks.length e3)/\zN4 w' XB (.int .u8 2) (.int .i64 0) (.string v0.s) (.slice none 0 0)) zU aW:=⟨az.out _ hfl,trivial⟩
  refine hK.out _ _ gJ ?_;clear hK K BP n1 n2 hown g9 g15 g17 m1 m2 Bj hc1 hb1 aP;(try simp only[zQ]);refine zT 19 gJ ?_;refine zT 20 gJ ?_;have hk10:=(hfl.block MB uW.out).trans qw.out;have q5:aW.cell? ⟨MB,5,none⟩=some (.slice D3 q.m.ks.length e3):=zc hk10 rfl;have cf:∀o,aW.frozen? ⟨MB,o,none⟩=false:=fun o=>zf hk10;obtain⟨aN,dS,hch,mI⟩:=setU (o:=5) (.slice B7 n7 d7) hk10;have hfm:Below MB w8 aN:=(hfl.mono (Nat.le_of_lt uW.out)).trans (hch.below (Nat.le_trans (Nat.le_of_lt uW.out) (hsz _ hfl)) fun b (h:b=MB)=>by omega);have ed:=zh (OwnN.chgC ho1 hch (fun b (hb:b=MB) hs=>hs hb) (fun b hb (h:b=MB)=>by have:=(ho1.block b hb).1;have:=uW.out;omega));have hS11:=zV gJ (qY.out _ (hfm.block _ (by have:=uu.out;omega)) (hfm.block _ (by have:=uu.out;omega))) trivial
  have dz:=zh (show Below w2.heap.size w2 aN from il.out.trans (wV.out.trans (by rw[uu.out.2.2.2];exact hfm) |>.mono (by have:=il.out.size;omega)));have HH11:=zh mI;refine zp 21 fun K hK=>?_;(try simp only[zA,zB,zC]);go_simp;refine hK.out _ _ hS11.1 ?_;clear hK K q5 cf gJ hS11 hch hfl hfm hk10 ho1 mI hI hsz hlw hS h1 h2 h3 hl0 hl1
  try rw[dS]
  clear dS;(try simp only[zQ]);refine zd ?_;refine NoPanic.normal ?_;have yu:=zh (zs aN);obtain⟨qm,hqm⟩:=zX (q.part (q.m.ks++[oneT v0.s z,oneM v0.s z]));have HPM:=zh (show ∀w',Below aN.heap.size aN w'->PV w' Any qm (pv (some a) q.vs.length e1 D2 q.prs.length e2 q.m.k q.m.n q.m.s B7 n7 d7)from fun w' h=>by
   have:=zKC (wO.out _ (zka HB.out (zka dz.out h))) (show OwnN w' nf 28 (fun b=>b≠MB) (.slice B7 (q.m.ks++[oneT v0.s z,oneM v0.s z]).length d7) (q.m.ks++[oneT v0.s z,oneM v0.s z])from by rw[uS.out];exact ed.out.later h);rw[uS.out]at this;rw[<-hqm];exact this)
  have Cu:=zh (fun w' (h:Below aN.heap.size aN w')=>box6 (zkc (show aN.heap[MB]?=some (.cells #[.slice (some a) q.vs.length e1,.slice D2 q.prs.length e2,.int .u8 q.m.k,.int .i64 q.m.n,.string q.m.s,.slice B7 n7 d7] 30 (0,0))from HH11.out) h));have HQM:=zh hqm;clear hqm;obtain⟨x0,x1,x2,x3,x4,x5,x6,x7,x8,x9,aK,aJ⟩:=dD.out _ (zka dz.out yu.out);obtain⟨q0,q1,q2,q3,q4,q5⟩:=dx.out _ (zka dz.out yu.out);obtain⟨l0,l1,l2,l3,l4,l5⟩:=Cu.out _ yu.out;obtain⟨AM,BI⟩:=zX (admE e qm);have qR:=zh (zoG (lq.out aN (zka HB.out dz.out)) (HPM.out _ yu.out));rw[BI]at qR;go_wp2_with fail;refine qR.out.mono ?_;rintro en ek ⟨rfl,jD⟩;have jR:=zh (zka yu.out jD);clear jD qR;clear x0 x1 x2 x3 x4 x5 x6 x7 x8 x9 aK aJ q0 q1 q2 q3 q4 q5 l0 l1 l2 l3 l4 l5;by_cases hm:AM=0;rotate_left 1
  ·have hm1:(AM != 0)=true:=by simpa using hm
   clear hm;go_wp2_with fail;go_ret;exact⟨rfl,zka HB.out (zka dz.out jR.out)⟩
  have hm1:(AM != 0)=false:=by simpa using hm
  have HAM:=zh (BI.trans hm);clear hm BI;have qz:=zh (show ∀(q':PG) (zY:Value) w',PV w' Any q' zY->admE e q'=0->Below w2.heap.size w2 w'->Calls prog 13 #[.agg (exA e A1 c1 A2 c2 A3 c3),zY] w' (GraP (grdE e q') 0 w')from fun q' zY w' hp ha h=>by
   have:=zrz (lq.out w' (zka HB.out h)) hp (fun _=>⟨bA.out.2.2.1,Nat.le_trans (zLx bA.out.2.2.1 bA.out.2.2.2.1) (by decide),by have:=bA.out.2.1;omega⟩);rwa[ha,if_pos rfl]at this)
  have nL:=zh (show((grdE e qm).2.2.2=18->(grdE e qm).2.1<=(grdE e q).2.1)/\((grdE e qm).2.2.2≠18->grdE e q=grdE e qm)from by
   have h1:=HA1.out;have hx:=(zqG (znG h1).1).2.2.1;have hl:=(HG.out W zr).pv.lit (zq2 hx).1;have hq:=(HQ.out W zr).lit (znG h1).2.1;have h2:=HAM.out;rw[<-HQM.out]at h2 ⊢;exact zK4 bA.out.2.2.1 h1 h2 hl hq)
  obtain⟨x0,x1,x2,x3,x4,x5,x6,x7,x8,x9,aK,aJ⟩:=dD.out _ (zka dz.out jR.out);obtain⟨q0,q1,q2,q3,q4,q5⟩:=dx.out _ (zka dz.out jR.out);obtain⟨l0,l1,l2,l3,l4,l5⟩:=Cu.out _ jR.out;have vE:=zh (qz.out _ _ ek (HQ.out _ (zka HB.out (zka dz.out jR.out))) HA1.out (zka dz.out jR.out));obtain⟨RA,Bz⟩:=zX (grdE e q);obtain⟨RB,gK⟩:=zX (grdE e qm);rw[Bz]at vE;rw[Bz,gK]at nL;have cB:=zh gK;clear Bz gK;go_wp2_with fail;refine vE.out.mono ?_;rintro en nY ⟨F1,f1,F2,f2,F3,f3,rfl,hs13,hb13⟩;have HD13:=zh (zka jR.out hb13);clear x0 x1 x2 x3 x4 x5 x6 x7 x8 x9 aK aJ q0 q1 q2 q3 q4 q5 l0 l1 l2 l3 l4 l5;go_upto_region 9 with fail;have pU:=zkb (zs nY) (.cells (vdA RA.1 (RA.2.1:Int) F1 RA.2.2.1.cells.length f1 F2 RA.2.2.1.tin.length f2 F3 RA.2.2.1.tout.length f3 RA.2.2.2) 46)
  have k14:=heap_alloc_new nY (.cells (vdA RA.1 (RA.2.1:Int) F1 RA.2.2.1.cells.length f1 F2 RA.2.2.1.tin.length f2 F3 RA.2.2.1.tout.length f3 RA.2.2.2) 46);obtain⟨w14,hw14⟩:=zX (nY.alloc (.cells (vdA RA.1 (RA.2.1:Int) F1 RA.2.2.1.cells.length f1 F2 RA.2.2.1.tin.length f2 F3 RA.2.2.1.tout.length f3 RA.2.2.2) 46));obtain⟨ab,hab⟩:=zX (nY.heap.size);have rW:=hs13.later pU;rw[hw14]at pU k14 rW ⊢;rw[hab]at k14 ⊢;have lu:=zh (zka HD13.out pU);have HKA:=zh k14;have HSA:=zh rW;clear hb13 hs13 pU k14 rW hw14 hab vE;obtain⟨x0,x1,x2,x3,x4,x5,x6,x7,x8,x9,aK,aJ⟩:=dD.out _ (zka dz.out lu.out);obtain⟨q0,q1,q2,q3,q4,q5⟩:=dx.out _ (zka dz.out lu.out);obtain⟨l0,l1,l2,l3,l4,l5⟩:=Cu.out _ lu.out;have vE:=zh (qz.out _ _ w14 (HPM.out _ lu.out) HAM.out (zka dz.out lu.out));rw[cB.out]at vE;go_wp2_with fail;refine vE.out.mono ?_
  rintro en yC ⟨G1,g1,G2,g2,G3,g3,rfl,hs15,pR⟩;have HD15:=zh (zka lu.out pR);clear x0 x1 x2 x3 x4 x5 x6 x7 x8 x9 aK aJ q0 q1 q2 q3 q4 q5 l0 l1 l2 l3 l4 l5;go_upto_region 10 with fail;have kQ:=zkb (zs yC) (.cells (vdA RB.1 (RB.2.1:Int) G1 RB.2.2.1.cells.length g1 G2 RB.2.2.1.tin.length g2 G3 RB.2.2.1.tout.length g3 RB.2.2.2) 46);have k16:=heap_alloc_new yC (.cells (vdA RB.1 (RB.2.1:Int) G1 RB.2.2.1.cells.length g1 G2 RB.2.2.1.tin.length g2 G3 RB.2.2.1.tout.length g3 RB.2.2.2) 46);obtain⟨w16,hw16⟩:=zX (yC.alloc (.cells (vdA RB.1 (RB.2.1:Int) G1 RB.2.2.1.cells.length g1 G2 RB.2.2.1.tin.length g2 G3 RB.2.2.1.tout.length g3 RB.2.2.2) 46));obtain⟨bb,hbb⟩:=zX (yC.heap.size);have rV:=hs15.later kQ;rw[hw16]at kQ k16 rV ⊢;rw[hbb]at k16 ⊢;have hka:=zkc (zkc HKA.out pR) kQ;have jg:=zh (zka HB.out (zka dz.out (zka HD15.out kQ)))
  have bH:=zh ((HSA.out.later pR).later kQ);have HS2:=zh rV;obtain⟨a0,a1,a2,a3,a4,a5⟩:=box6 hka;obtain⟨b0,b1,b2,b3,b4,b5⟩:=box6 k16;clear pR hs15 kQ k16 rV hw16 hbb hka vE cB;by_cases h18:RB.2.2.2=18
  ·have hle:=nL.out.1 h18;have e18:(RB.2.2.2==18)=true:=by simpa using h18
   obtain⟨ma,hma⟩:=zX ((RA.2.1:Int));obtain⟨mb,hmb⟩:=zX ((RB.2.1:Int));rw[hma]at a1;rw[hmb]at b1;have hd:decide (mb<=ma)=true:=by rw[decide_eq_true_eq];omega
   clear hle h18 hma hmb nL;go_wp2_with fail;go_ret;exact⟨rfl,jg.out⟩
  ·have heq:=nL.out.2 h18;have e18:(RB.2.2.2==18)=false:=by simpa using h18
   subst heq;have ik:=zh (zrw RA.2.2.1 RA.2.2.1 _ _ _ bH.out HS2.out);rw[show eqS RA.2.2.1 RA.2.2.1=true by simp[eqS]]at ik;obtain⟨la,na,sa,ea⟩:=RA;simp only at *
   clear h18 nL
   cases la
   all_goals
    go_wp2_with fail;refine ik.out.mono ?_;rintro en w17 ⟨rfl,hb17⟩;go_wp2_with fail;go_ret;exact⟨rfl,zka jg.out hb17⟩
end
section
open Go.RowKit Go.ChangeShapes Go.WideShapes Go.ChangeAt Go.Deep
theorem znE:prog.cellsOf 28=4:=zK
theorem zwi:prog.bytesOf 28=56:=zK
theorem zKe:prog.cellsOf 5=1:=zK
theorem zyg:prog.cellsOf 3=1:=zK
theorem zyf:prog.cellsOf 9=1:=zK
theorem zwh:prog.cellsOf 26=1:=zK
theorem zmd{H:Type}{P:Program}{e:TypeId}:∀ {l:List (DataW H)} {d:DataW H},d∈l->∀n∈d.weights P e,n∈DataW.weightsAll P e l
 | d0::l,d,hd,n,hn=>by
  simp only[DataW.weightsAll,List.mem_append];rcases List.mem_cons.1 hd with rfl|hd
  ·exact .inl hn
  ·exact .inr (zmd hd n hn)
theorem znr{H:Type}:∀(ks:List T) (ds:List (DataW H)),ks.length=ds.length->(∀i (h:i<ks.length) (h':i<ds.length),size ks[i]<=Rows.uptoBulk ds[i])->zk0 ks<=Rows.uptoBulkAll ds
 | [],[],_,_=>by simp[zk0]
 | t::ts,d::ds,hl,h=>by
  have h0:=h 0 (Nat.zero_lt_succ _) (Nat.zero_lt_succ _);have h1:=znr ts ds (by simpa using hl) (fun i hi hi'=>h (i+1) (Nat.succ_lt_succ hi) (Nat.succ_lt_succ hi'));simp only[List.getElem_cons_zero]at h0;simp only[zk0,Rows.uptoBulkAll];omega
 | [],_::_,hl,_=>by simp at hl
 | _::_,[],hl,_=>by simp at hl
section
variable {H:Type} {enc:TypeId×Value->H} {w:World} {held:Bool}
def zeroT':T:=.nd 0 0 ⟨#[]⟩ []
theorem zq0:∀(fuel:Nat) (cs:List Value) (x:DataW H×List MemPlace),DataW.trod enc prog w 0 (fun _=>true) held fuel 28 cs=some x ->
  (∀n∈x.1.weights prog 28,n<=reachBytes) ->
  ∃t u0 u1 u2 u3,cs=[u0,u1,u2,u3]/\NV w Any t (.agg #[u0,u1,u2,u3])/\t.ks.length*56<=reachBytes/\size t<=Rows.uptoBulk x.1:=by
 intro fuel
 induction fuel using Nat.strongRecOn with
 | _ fuel ih =>
 intro cs x h hw;have hts:=DataW.trod_struct underlying28 h;obtain⟨xs,n,hfu,hx,hcl,hxl,hg⟩:=hts;subst hx;rw[znE]at hcl
 match cs,hcl with
 | [c0,c1,c2,c3],_ =>
 match xs,hxl with
 | [y0,y1,y2,y3],_ =>
 have g0:=hg 0 _ rfl;have g1:=hg 1 _ rfl;have g2:=hg 2 _ rfl;have g3:=hg 3 _ rfl;simp only[zKe,zyg,zyf,zwh,List.drop_zero,List.take_succ_cons,List.take_zero,List.drop_succ_cons,List.getElem?_cons_zero,List.getElem?_cons_succ]at g0 g1 g2 g3;obtain⟨k,e0,e0',wk⟩:=DataW.trod_int underlying5 g0;obtain⟨m,e1,e1',wm⟩:=DataW.trod_int underlying3 g1;obtain⟨s,e2,e2',ws⟩:=DataW.trod_string underlying9 g2;injection e0 with e0;injection e1 with e1;injection e2 with e2;subst e0 e1 e2 e0' e1' e2';have hf:Fld k m s:=by
  refine⟨?_,?_,ws⟩
  ·have:=wk;simp[Lit.wf,IntKind.min,IntKind.max,IntKind.signed,IntKind.bits]at this;omega
  ·have:=wm;simp[Lit.wf,IntKind.min,IntKind.max,IntKind.signed,IntKind.bits]at this;omega
 have hsl:=DataW.trod_slice underlying26 g3;rcases hsl with⟨e3,e3'⟩|⟨a,len,cap,elems,rest,n',hn',e3,e3',_,hl,hm,hel,hat,hsp,_⟩
 ·injection e3 with e3;subst e3 e3';refine⟨.nd k m s [],_,_,_,_,rfl,NV.shut (ks:=[]) hf (Nat.zero_le _) (Nat.zero_le _) zkS.nil,zS,?_⟩;simp only[size,zk0,List.map_cons,List.map_nil,Rows.uptoBulk];omega
 ·injection e3 with e3;subst e3 e3';obtain⟨hrl,_⟩:=hsp rfl;rw[znE]at hat
  -- what the reach says of this slice,and of its elements
  have hws:∀q∈DataW.weights prog 26 (.slice (elems.map (·.1)) (rest.map (·.1)):DataW H),q<=reachBytes:=by
   intro q hq;refine hw q ?_;simp only[List.map_cons,List.map_nil,DataW.weights,underlying28];simp only[DataW.weightsEach,List.map_cons,List.map_nil,List.mem_append];exact .inr (.inr (.inr (.inl hq)))
  simp only[DataW.weights,underlying26,zwi]at hws;have hcap:cap*56<=reachBytes:=by
   have:=hws _ (List.mem_cons_self ..);simp only[List.length_map]at this;rw[hel,hrl]at this;rw[show cap=len+(cap-len) by omega];exact this
  have yG:∀y∈elems,∀q∈y.1.weights prog 28,q<=reachBytes:=fun y hy q hq =>
   hws q (List.mem_cons_of_mem _ (List.mem_append_left _ (zmd (List.mem_map_of_mem hy) q hq)))
  have key:∀i (hi:i<elems.length),∃t u0 u1 u2 u3,w.cells? 0 (a.add (i*4)) 4=some [u0,u1,u2,u3]/\NV w Any t (.agg #[u0,u1,u2,u3])/\size t<=Rows.uptoBulk elems[i].1:=by
   intro i hi;have h1:=hat i zO;rw[List.getElem?_eq_getElem hi]at h1;obtain⟨cs',hcs,ht⟩:=Option.bind_eq_some_iff.1 h1;obtain⟨t,u0,u1,u2,u3,rfl,hn,_,hb⟩:=ih n' zO cs' elems[i] ht (yG _ (List.getElem_mem hi));exact⟨t,u0,u1,u2,u3,hcs,hn,hb⟩
  have hex:∃ks:List T,ks.length=elems.length/\∀i (h:i<ks.length) (h':i<elems.length),(∃u0 u1 u2 u3,w.cells? 0 (a.add (i*4)) 4=some [u0,u1,u2,u3]/\NV w Any ks[i] (.agg #[u0,u1,u2,u3]))/\size ks[i]<=Rows.uptoBulk elems[i].1:=by
   classical
   refine⟨(List.range elems.length).map fun i=>if h:i<elems.length then(key i h).choose else zeroT',zS,fun i h h'=>?_⟩;simp only[List.getElem_map,List.getElem_range,h',dif_pos];obtain⟨u0,u1,u2,u3,h1,h2,h3⟩:=(key i h').choose_spec;exact⟨⟨u0,u1,u2,u3,h1,h2⟩,h3⟩
  obtain⟨ks,hkl,hks⟩:=hex;have hlen:ks.length=len:=zO
  have hLK:ks.length<=LK:=by unfold LK;unfold reachBytes at hcap;omega
  refine⟨.nd k m s ks,_,_,_,_,rfl,?_,?_,?_⟩
  ·rw[<-hlen];refine NV.shut hf hLK zO fun i hi=>?_;obtain⟨⟨u0,u1,u2,u3,hc,hn⟩,_⟩:=hks i hi zO;obtain⟨_,_,hcell⟩:=World.cells?_some hc;refine⟨a,u0,u1,u2,u3,rfl,trivial,⟨?_,?_,?_,?_⟩,hn⟩
   ·have:=hcell 0 zO;simpa[Addr.add]using this
   ·have:=hcell 1 zO;simpa[Addr.add]using this
   ·have:=hcell 2 zO;simpa[Addr.add]using this
   ·have:=hcell 3 zO;simpa[Addr.add]using this
  ·simp only[T.ks_nd];omega
  ·have hb:=znr ks (elems.map (·.1)) (by simp[hkl]) (fun i h h'=>by
    have:=(hks i h (by simpa using h')).2;simpa using this)
   simp only[size,List.map_cons,List.map_nil,Rows.uptoBulk,Rows.uptoBulkAll];omega
end
theorem Tryz.own:ownKnob prog.godebug=none:=zK
theorem Tryz.laidOut:laidOutB prog=true:=zK
theorem zwe:prog.cellsOf 38=3:=zK
theorem zKg:prog.bytesOf 38=32:=zK
section
variable {H:Type} {enc:TypeId×Value->H} {w:World} {held:Bool}
theorem zsT{ty E:TypeId}{n b:Nat}(ht:prog.underlying ty=some (.slice E))(hc:prog.cellsOf E=n)(hb:prog.bytesOf E=b){fuel:Nat}{cs:List Value}{x:DataW H×List MemPlace}
  (h:DataW.trod enc prog w 0 (fun _=>true) held fuel ty cs=some x)(hw:∀q∈x.1.weights prog ty,q<=reachBytes) :
  cs=[zn]\/∃a len cap,cs=[.slice (some a) len cap]/\len<=cap/\cap*b<=reachBytes/\∀i,i<len->∃cs' y n',w.cells? 0 (a.add (i*n)) n=some cs'/\DataW.trod enc prog w 0 (fun _=>true) held n' E cs'=some y/\∀q∈y.1.weights prog E,q<=reachBytes:=by
 have hsl:=DataW.trod_slice ht h;rcases hsl with⟨e3,e3'⟩|⟨a,len,cap,elems,rest,n',hn',e3,e3',_,hl,hm,hel,hat,hsp,_⟩
 ·exact .inl e3
 ·refine .inr ⟨a,len,cap,e3,hl,?_,?_⟩
  ·obtain⟨hrl,_⟩:=hsp rfl;subst e3';simp only[DataW.weights,ht,hb]at hw;have:=hw _ (List.mem_cons_self ..);simp only[List.length_map]at this;rw[hel,hrl]at this;rw[show cap=len+(cap-len) by omega];exact this
  ·intro i hi;subst e3';simp only[DataW.weights,ht,hb]at hw;have hi':i<elems.length:=zO
   have h1:=hat i zO;rw[List.getElem?_eq_getElem hi',hc]at h1;obtain⟨cs',hcs,ht'⟩:=Option.bind_eq_some_iff.1 h1;exact⟨cs',elems[i],n',hcs,ht',fun q hq=>hw q (List.mem_cons_of_mem _ (List.mem_append_left _ (zmd (List.mem_map_of_mem (List.getElem_mem hi')) q hq)))⟩
theorem zzD{fuel:Nat}{cs:List Value}{x:DataW H×List MemPlace}(h:DataW.trod enc prog w 0 (fun _=>true) held fuel 38 cs=some x) :
  ∃v:VD,cs=[.string v.s,zj v.k,zi v.n]/\FldV v:=by
 have hts:=DataW.trod_struct underlying38 h;obtain⟨xs,n,hfu,hx,hcl,hxl,hg⟩:=hts;rw[zwe]at hcl
 match cs,hcl with
 | [c0,c1,c2],_ =>
 match xs,hxl with
 | [y0,y1,y2],_ =>
 have g0:=hg 0 _ rfl;have g1:=hg 1 _ rfl;have g2:=hg 2 _ rfl;obtain⟨s,e2,e2',ws⟩:=DataW.trod_string underlying9 g0;obtain⟨k,e0,e0',wk⟩:=DataW.trod_int underlying5 g1;obtain⟨m,e1,e1',wm⟩:=DataW.trod_int underlying3 g2;injection e0 with e0;injection e1 with e1;injection e2 with e2;subst e0 e1 e2;refine⟨⟨s,k,m⟩,rfl,ws,?_,?_⟩
 ·have:=wk;simp[Lit.wf,IntKind.min,IntKind.max,IntKind.signed,IntKind.bits]at this;constructor<;>simp only<;>omega
 ·have:=wm;simp[Lit.wf,IntKind.min,IntKind.max,IntKind.signed,IntKind.bits]at this;constructor<;>simp only<;>omega
theorem zo9{α:Type}[Inhabited α]{n:Nat}{P:Nat->α->Prop}(h:∀i,i<n->∃x,P i x):∃l:List α,l.length=n/\∀i (hi:i<l.length),P i l[i]:=by
 obtain⟨f,hf⟩:=choose_lt h;exact⟨(List.range n).map f,zS,fun i hi=>by simp only[List.getElem_map,List.getElem_range];exact hf i (by simpa using hi)⟩
instance:Inhabited VD:=⟨⟨⟨#[]⟩,0,0⟩⟩
theorem ztL{fuel:Nat}{cs:List Value}{x:DataW H×List MemPlace}(h:DataW.trod enc prog w 0 (fun _=>true) held fuel 24 cs=some x)(hw:∀q∈x.1.weights prog 24,q<=reachBytes) :
  ∃(A:Option Addr) (vs:List VD) (c:Nat),cs=[.slice A vs.length c]/\RowV w Any A vs/\vs.length<=4398046510976/\vs.length<=c:=by
 rcases zsT underlying24 zwe zKg h hw with rfl|⟨a,len,cap,rfl,hl,hcap,hat⟩
 ·exact⟨none,[],0,rfl,fun i hi=>absurd hi zS,Nat.zero_le _,Nat.zero_le _⟩
 ·obtain⟨vs,hvl,hvs⟩:=zo9 (n:=len) (P:=fun i (v:VD)=>w.cells? 0 (a.add (i*3)) 3=some [.string v.s,zj v.k,zi v.n]/\FldV v) fun i hi=>by
   obtain⟨cs',y,n',hcs,ht,_⟩:=hat i hi;obtain⟨v,rfl,hf⟩:=zzD ht;exact⟨v,hcs,hf⟩
  refine⟨some a,vs,cap,by rw[hvl],fun i hi=>?_,by unfold reachBytes at hcap;omega,zO⟩;obtain⟨hc,hf⟩:=hvs i hi;obtain⟨_,_,hcell⟩:=World.cells?_some hc;refine⟨a,rfl,trivial,⟨?_,?_,?_⟩,hf⟩
  ·have:=hcell 0 zO;simpa[Addr.add]using this
  ·have:=hcell 1 zO;simpa[Addr.add]using this
  ·have:=hcell 2 zO;simpa[Addr.add]using this
theorem zqY{fuel:Nat}{cs:List Value}{x:DataW H×List MemPlace}(h:DataW.trod enc prog w 0 (fun _=>true) held fuel 24 cs=some x)(hw:∀q∈x.1.weights prog 24,q<=reachBytes) :
  ∃(A:Option Addr) (vs:List VD) (c:Nat),cs=[.slice A vs.length c]/\RowV w Any A vs/\vs.length<=LV/\vs.length<=c:=by
 obtain⟨A,vs,c,h1,h2,h3,h4⟩:=ztL h hw;exact⟨A,vs,c,h1,h2,by unfold LV;omega,h4⟩
instance:Inhabited T:=⟨zeroT'⟩
theorem zsV{t:T}{u0 u1 u2 u3:Value}(h:NV w Any t (.agg #[u0,u1,u2,u3])):∃A c,u0=zj t.k/\u1=zi t.n/\u2=.string t.s/\u3=.slice A t.ks.length c/\NV w Any t (nv t.k t.n t.s A t.ks.length c):=by
 obtain⟨A,c,e,_⟩:=h.open_;have e':=e;simp only[nv,Value.agg.injEq,Array.mk.injEq,List.cons.injEq,and_true]at e;exact⟨A,c,e.1,e.2.1,e.2.2.1,e.2.2.2,e'▸h⟩
end
theorem zwf:prog.cellsOf 100=6:=zK
theorem zKh:prog.bytesOf 100=96:=zK
theorem zwg:prog.cellsOf 30=6:=zK
section
variable {H:Type} {enc:TypeId×Value->H} {w:World} {held:Bool}
instance:Inhabited PR:=⟨⟨⟨#[]⟩,[],zeroT'⟩⟩
theorem zu7{fuel:Nat}{cs:List Value}{x:DataW H×List MemPlace}(h:DataW.trod enc prog w 0 (fun _=>true) held fuel 100 cs=some x)(hw:∀q∈x.1.weights prog 100,q<=reachBytes) :
  ∃(r:PR) (A1:Option Addr) (c1:Nat) (A2:Option Addr) (c2:Nat),cs=[.string r.s,.slice A1 r.ps.length c1,zj r.b.k,zi r.b.n,.string r.b.s,.slice A2 r.b.ks.length c2]/\PrR w Any r A1 c1 A2 c2:=by
 have hts:=DataW.trod_struct underlying100 h;obtain⟨xs,n,hfu,hx,hcl,hxl,hg⟩:=hts;subst hx;rw[zwf]at hcl
 match cs,hcl with
 | [c0,c1,c2,c3,c4,c5],_ =>
 match xs,hxl with
 | [y0,y1,y2],_ =>
 have g0:=hg 0 _ rfl;have g1:=hg 1 _ rfl;have g2:=hg 2 _ rfl;have hw1:∀q∈y1.1.weights prog 24,q<=reachBytes:=fun q hq=>by
  refine hw q ?_;simp only[List.map_cons,List.map_nil,DataW.weights,underlying100];simp only[DataW.weightsEach,List.map_cons,List.map_nil,List.mem_append];exact .inr (.inl hq)
 have hw2:∀q∈y2.1.weights prog 28,q<=reachBytes:=fun q hq=>by
  refine hw q ?_;simp only[List.map_cons,List.map_nil,DataW.weights,underlying100];simp only[DataW.weightsEach,List.map_cons,List.map_nil,List.mem_append];exact .inr (.inr (.inl hq))
 obtain⟨s,e0,_,ws⟩:=DataW.trod_string underlying9 g0;obtain⟨A1,ps,k1,e1,hrow,hlp,hlc⟩:=zqY g1 hw1;obtain⟨t,u0,u1,u2,u3,e2,hn,_,_⟩:=zq0 _ _ _ g2 hw2;obtain⟨A2,k2,rfl,rfl,rfl,rfl,hn'⟩:=zsV hn;injection e0 with e0;injection e1 with e1;change List.take (prog.cellsOf 28) [c2,c3,c4,c5]=_ at e2;rw[znE]at e2;simp only[List.take_succ_cons,List.take_zero,List.cons.injEq,and_true]at e2;obtain⟨rfl,rfl,rfl,rfl⟩:=e2;subst e0 e1;exact⟨⟨s,ps,t⟩,A1,k1,A2,k2,rfl,ws,hrow,hlp,hlc,hn'⟩
theorem ztM{fuel:Nat}{cs:List Value}{x:DataW H×List MemPlace}(h:DataW.trod enc prog w 0 (fun _=>true) held fuel 25 cs=some x)(hw:∀q∈x.1.weights prog 25,q<=reachBytes) :
  ∃(A:Option Addr) (ps:List PR) (c:Nat),cs=[.slice A ps.length c]/\RowP w Any A ps/\ps.length<=LV/\ps.length<=c:=by
 rcases zsT underlying25 zwf zKh h hw with rfl|⟨a,len,cap,rfl,hl,hcap,hat⟩
 ·exact⟨none,[],0,rfl,fun i hi=>absurd hi zS,Nat.zero_le _,Nat.zero_le _⟩
 ·obtain⟨ps,hvl,hvs⟩:=zo9 (n:=len) (P:=fun i (r:PR)=>∃A1 c1 A2 c2,w.cells? 0 (a.add (i*6)) 6=some [.string r.s,.slice A1 r.ps.length c1,zj r.b.k,zi r.b.n,.string r.b.s,.slice A2 r.b.ks.length c2]/\PrR w Any r A1 c1 A2 c2) fun i hi=>by
   obtain⟨cs',y,n',hcs,ht,wY⟩:=hat i hi;obtain⟨r,A1,c1,A2,c2,rfl,hr⟩:=zu7 ht wY;exact⟨r,A1,c1,A2,c2,hcs,hr⟩
  refine⟨some a,ps,cap,by rw[hvl],fun i hi=>?_,by unfold LV;unfold reachBytes at hcap;omega,zO⟩;obtain⟨A1,c1,A2,c2,hc,hr⟩:=hvs i hi;obtain⟨_,_,hcell⟩:=World.cells?_some hc;refine⟨a,A1,c1,A2,c2,rfl,trivial,⟨?_,?_,?_,?_,?_,?_⟩,hr⟩
  ·have:=hcell 0 zO;simpa[Addr.add]using this
  ·have:=hcell 1 zO;simpa[Addr.add]using this
  ·have:=hcell 2 zO;simpa[Addr.add]using this
  ·have:=hcell 3 zO;simpa[Addr.add]using this
  ·have:=hcell 4 zO;simpa[Addr.add]using this
  ·have:=hcell 5 zO;simpa[Addr.add]using this
theorem zqZ{fuel:Nat}{cs:List Value}{x:DataW H×List MemPlace}(h:DataW.trod enc prog w 0 (fun _=>true) held fuel 30 cs=some x)(hw:∀q∈x.1.weights prog 30,q<=reachBytes) :
  ∃(p:PG) (A1:Option Addr) (c1:Nat) (A2:Option Addr) (c2:Nat) (A3:Option Addr) (c3:Nat),cs=[.slice A1 p.vs.length c1,.slice A2 p.prs.length c2,zj p.m.k,zi p.m.n,.string p.m.s,.slice A3 p.m.ks.length c3]/\PgR w Any p A1 c1 A2 c2 A3 c3:=by
 have hts:=DataW.trod_struct underlying30 h;obtain⟨xs,n,hfu,hx,hcl,hxl,hg⟩:=hts;subst hx;rw[zwg]at hcl
 match cs,hcl with
 | [c0,c1,c2,c3,c4,c5],_ =>
 match xs,hxl with
 | [y0,y1,y2],_ =>
 have g0:=hg 0 _ rfl;have g1:=hg 1 _ rfl;have g2:=hg 2 _ rfl;have hw0:∀q∈y0.1.weights prog 24,q<=reachBytes:=fun q hq=>by
  refine hw q ?_;simp only[List.map_cons,List.map_nil,DataW.weights,underlying30];simp only[DataW.weightsEach,List.map_cons,List.map_nil,List.mem_append];exact .inl hq
 have hw1:∀q∈y1.1.weights prog 25,q<=reachBytes:=fun q hq=>by
  refine hw q ?_;simp only[List.map_cons,List.map_nil,DataW.weights,underlying30];simp only[DataW.weightsEach,List.map_cons,List.map_nil,List.mem_append];exact .inr (.inl hq)
 have hw2:∀q∈y2.1.weights prog 28,q<=reachBytes:=fun q hq=>by
  refine hw q ?_;simp only[List.map_cons,List.map_nil,DataW.weights,underlying30];simp only[DataW.weightsEach,List.map_cons,List.map_nil,List.mem_append];exact .inr (.inr (.inl hq))
 obtain⟨A1,vs,k1,e0,hrow,hlv,hlvc⟩:=zqY g0 hw0;obtain⟨A2,ps,k2,e1,xh,hlp,hlpc⟩:=ztM g1 hw1;obtain⟨t,u0,u1,u2,u3,e2,hn,_,_⟩:=zq0 _ _ _ g2 hw2;obtain⟨A3,k3,rfl,rfl,rfl,rfl,hn'⟩:=zsV hn;injection e0 with e0;injection e1 with e1;change List.take (prog.cellsOf 28) [c2,c3,c4,c5]=_ at e2;rw[znE]at e2;simp only[List.take_succ_cons,List.take_zero,List.cons.injEq,and_true]at e2;obtain⟨rfl,rfl,rfl,rfl⟩:=e2;subst e0 e1;exact⟨⟨vs,ps,t⟩,A1,k1,A2,k2,A3,k3,rfl,hrow,hlv,hlvc,xh,hlp,hlpc,hn'⟩
end
theorem zzz{H:Type}{enc:TypeId×Value->H}{W:World}{base:Nat}{v:Value}{d:DataW H}{p:List MemPlace}(hok:Value.okWide prog W .any base 30 v)
  (h:DataW.Trod enc prog W 0 (fun _=>true) true 30 v d p)(hw:∀n∈d.weights prog 30,n<=reachBytes):∃g,PV W Any g v:=by
 obtain⟨cs,rfl,hcs⟩:=okWide_struct underlying30 hok;obtain⟨fuel,hf⟩:=h;obtain⟨g,A1,c1,A2,c2,A3,c3,e,hr⟩:=zqZ hf hw;refine⟨g,A1,c1,A2,c2,A3,c3,?_,hr⟩;have:cs = #[.slice A1 g.vs.length c1,.slice A2 g.prs.length c2,zj g.m.k,zi g.m.n,.string g.m.s,.slice A3 g.m.ks.length c3]:=by
  apply Array.ext';simpa[Value.cells]using e
 rw[this]
theorem ztm:prog.cellsOf 23=3:=zK
theorem zKf:prog.cellsOf 32=12:=zK
section
variable {H:Type} {enc:TypeId×Value->H} {w:World} {held:Bool}
theorem zu8{fuel:Nat}{cs:List Value}{x:DataW H×List MemPlace}(h:DataW.trod enc prog w 0 (fun _=>true) held fuel 23 cs=some x) :
  ∃b:BX,cs=[zi b.v,zi b.l,zi b.i]:=by
 have hts:=DataW.trod_struct underlying23 h;obtain⟨xs,n,hfu,hx,hcl,hxl,hg⟩:=hts;rw[ztm]at hcl
 match cs,hcl with
 | [c0,c1,c2],_ =>
 match xs,hxl with
 | [y0,y1,y2],_ =>
 obtain⟨m0,e0,_,w0⟩:=DataW.trod_int underlying3 (hg 0 _ rfl);obtain⟨m1,e1,_,w1⟩:=DataW.trod_int underlying3 (hg 1 _ rfl);obtain⟨m2,e2,_,w2⟩:=DataW.trod_int underlying3 (hg 2 _ rfl);injection e0 with e0;injection e1 with e1;injection e2 with e2;subst e0 e1 e2;exact⟨⟨m0,m1,m2⟩,rfl⟩
theorem zzE{fuel:Nat}{cs:List Value}{x:DataW H×List MemPlace}(h:DataW.trod enc prog w 0 (fun _=>true) held fuel 32 cs=some x)(hw:∀q∈x.1.weights prog 32,q<=reachBytes) :
  ∃(e:EX) (A1:Option Addr) (c1:Nat) (A2:Option Addr) (c2:Nat) (A3:Option Addr) (c3:Nat),cs=(exA e A1 c1 A2 c2 A3 c3).toList/\PgR w Any e.gv A1 c1 A2 c2 A3 c3/\I64 e.fu:=by
 have hts:=DataW.trod_struct underlying32 h;obtain⟨xs,n,hfu,hx,hcl,hxl,hg⟩:=hts;subst hx;rw[zKf]at hcl
 match cs,hcl with
 | [c0,c1,c2,c3,c4,c5,c6,c7,c8,c9,c10,c11],_ =>
 match xs,hxl with
 | [y0,y1,y2,y3,y4],_ =>
 have g0:=hg 0 _ rfl;have g1:=hg 1 _ rfl;have g2:=hg 2 _ rfl;have g3:=hg 3 _ rfl;have g4:=hg 4 _ rfl;have hw4:∀q∈y4.1.weights prog 30,q<=reachBytes:=fun q hq=>by
  refine hw q ?_;simp only[List.map_cons,List.map_nil,DataW.weights,underlying32];simp only[DataW.weightsEach,List.map_cons,List.map_nil,List.mem_append];exact .inr (.inr (.inr (.inr (.inl hq))))
 obtain⟨s,e0,_,ws⟩:=DataW.trod_string underlying9 g0;obtain⟨m1,e1,_,w1⟩:=DataW.trod_int underlying3 g1;obtain⟨m2,e2,_,w2⟩:=DataW.trod_int underlying3 g2;obtain⟨b,e3⟩:=zu8 g3;obtain⟨p,A1,k1,A2,k2,A3,k3,e4,hr⟩:=zqZ g4 hw4;injection e0 with e0;injection e1 with e1;injection e2 with e2;change List.take (prog.cellsOf 23) [c3,c4,c5,c6,c7,c8,c9,c10,c11]=_ at e3;rw[ztm]at e3;change List.take (prog.cellsOf 30) [c6,c7,c8,c9,c10,c11]=_ at e4;rw[zwg]at e4;simp only[List.take_succ_cons,List.take_zero,List.cons.injEq,and_true]at e3 e4;obtain⟨rfl,rfl,rfl⟩:=e3;obtain⟨rfl,rfl,rfl,rfl,rfl,rfl⟩:=e4;subst e0 e1 e2;simp[Lit.wf,IntKind.min,IntKind.max,IntKind.signed,IntKind.bits]at w1 w2;exact⟨⟨s,m1,m2,b,p⟩,A1,k1,A2,k2,A3,k3,rfl,hr,⟨by simp only;omega,by simp only;omega⟩⟩
end
theorem zL3{H:Type}{enc:TypeId×Value->H}{W:World}{base:Nat}{v:Value}{d:DataW H}{p:List MemPlace}(hok:Value.okWide prog W .any base 32 v)
  (h:DataW.Trod enc prog W 0 (fun _=>true) true 32 v d p)(hw:∀n∈d.weights prog 32,n<=reachBytes):∃e,EV W Any e v:=by
 obtain⟨cs,rfl,hcs⟩:=okWide_struct underlying32 hok;obtain⟨fuel,hf⟩:=h;obtain⟨g,A1,c1,A2,c2,A3,c3,e,hr,hI⟩:=zzE hf hw;refine⟨g,A1,c1,A2,c2,A3,c3,?_,hr,hI⟩;have:cs=exA g A1 c1 A2 c2 A3 c3:=by
  apply Array.ext';simpa[Value.cells]using e
 rw[this]
end
end Go.Proofs.YthjinpodhacleaaGreat
