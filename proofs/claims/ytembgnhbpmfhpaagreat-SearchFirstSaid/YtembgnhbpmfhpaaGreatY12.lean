/-
  Texts of the proof, put together without their remarks: Sak, Sar, Lsf, Lift, LiftV, LiftS, LiftB.
-/
import Derived.Test.YtembgnhbpmfhpaaGreatY11
import Derived.Test.YtembgnhbpmfhpaaGreatRows
import Derived.ProofKit
import Derived.SizedLaws
import Derived.Deep.Slices
import Derived.Deep.Fields
import Derived.Lib.SmallJoins
import Derived.ChangeSlices
set_option linter.unusedSimpArgs false
set_option linter.unusedVariables false
set_option maxHeartbeats 8000000
set_option maxRecDepth 100000
namespace Go.Proofs.YtembgnhbpmfhpaaGreat
open Go.Proofs.Tryz
section
open Go Go.RowKit
attribute [local go_sem] Oper.semAt_some
theorem zno(w:World)(S:Nat->Prop){k n:Int}{s:ByteArray}(hf:Fld k n s):NV w S (.nd k n s []) (nv k n s none 0 0):=NV.shut (ks:=[]) hf (by simp[LK]) (by simp) fun i hi=>by simp at hi
theorem zKd{w:World}{S:Nat->Prop}{b:Nat}{E:TypeId}{t1:T}{k n k1 n1:Int}{s s1:ByteArray}{A1:Option Addr}{l1 c1:Nat}(hf:Fld k n s)(hS:S b)(hk:w.heap[b]?=some (.cells #[.int .u8 k1,.int .i64 n1,.string s1,.slice A1 l1 c1] E (0,0)))(h1:NV w S t1 (nv k1 n1 s1 A1 l1 c1)) :
  NV w S (.nd k n s [t1]) (nv k n s (some ⟨b,0,none⟩) 1 1):=by
 refine NV.shut (ks:=[t1]) hf (by simp[LK]) (by simp) fun i hi=>?_
 match i,hi with
 | 0,_=>exact⟨⟨b,0,none⟩,_,_,_,_,rfl,hS,⟨zc hk rfl,zc hk rfl,zc hk rfl,zc hk rfl⟩,h1⟩
theorem zKc{w:World}{S:Nat->Prop}{b:Nat}{E:TypeId}{t1 t2:T}{k n k1 n1 k2 n2:Int}{s s1 s2:ByteArray}{A1 A2:Option Addr}{l1 c1 l2 c2:Nat}(hf:Fld k n s)(hS:S b)(hk:w.heap[b]?=some (.cells #[.int .u8 k1,.int .i64 n1,.string s1,.slice A1 l1 c1,.int .u8 k2,.int .i64 n2,.string s2,.slice A2 l2 c2] E (0,0)))(h1:NV w S t1 (nv k1 n1 s1 A1 l1 c1))(h2:NV w S t2 (nv k2 n2 s2 A2 l2 c2)) :
  NV w S (.nd k n s [t1,t2]) (nv k n s (some ⟨b,0,none⟩) 2 2):=by
 refine NV.shut (ks:=[t1,t2]) hf (by simp[LK]) (by simp) fun i hi=>?_
 match i,hi with
 | 0,_=>exact⟨⟨b,0,none⟩,_,_,_,_,rfl,hS,⟨zc hk rfl,zc hk rfl,zc hk rfl,zc hk rfl⟩,h1⟩
 | 1,_=>exact⟨⟨b,0,none⟩,_,_,_,_,rfl,hS,⟨zc hk rfl,zc hk rfl,zc hk rfl,zc hk rfl⟩,h2⟩
theorem zKT{w:World}{S:Nat->Prop}{b:Nat}{E:TypeId}{t1 t2 t3 t4:T}{k n k1 n1 k2 n2 k3 n3 k4 n4:Int}{s s1 s2 s3 s4:ByteArray}{A1 A2 A3 A4:Option Addr}{l1 c1 l2 c2 l3 c3 l4 c4:Nat}(hf:Fld k n s)(hS:S b)
  (hk:w.heap[b]?=some (.cells #[.int .u8 k1,.int .i64 n1,.string s1,.slice A1 l1 c1,.int .u8 k2,.int .i64 n2,.string s2,.slice A2 l2 c2,.int .u8 k3,.int .i64 n3,.string s3,.slice A3 l3 c3,.int .u8 k4,.int .i64 n4,.string s4,.slice A4 l4 c4] E (0,0)))
  (h1:NV w S t1 (nv k1 n1 s1 A1 l1 c1))(h2:NV w S t2 (nv k2 n2 s2 A2 l2 c2))(h3:NV w S t3 (nv k3 n3 s3 A3 l3 c3))(h4:NV w S t4 (nv k4 n4 s4 A4 l4 c4)):NV w S (.nd k n s [t1,t2,t3,t4]) (nv k n s (some ⟨b,0,none⟩) 4 4):=by
 refine NV.shut (ks:=[t1,t2,t3,t4]) hf (by simp[LK]) (by simp) fun i hi=>?_
 match i,hi with
 | 0,_=>exact⟨⟨b,0,none⟩,_,_,_,_,rfl,hS,⟨zc hk rfl,zc hk rfl,zc hk rfl,zc hk rfl⟩,h1⟩
 | 1,_=>exact⟨⟨b,0,none⟩,_,_,_,_,rfl,hS,⟨zc hk rfl,zc hk rfl,zc hk rfl,zc hk rfl⟩,h2⟩
 | 2,_=>exact⟨⟨b,0,none⟩,_,_,_,_,rfl,hS,⟨zc hk rfl,zc hk rfl,zc hk rfl,zc hk rfl⟩,h3⟩
 | 3,_=>exact⟨⟨b,0,none⟩,_,_,_,_,rfl,hS,⟨zc hk rfl,zc hk rfl,zc hk rfl,zc hk rfl⟩,h4⟩
theorem fldG(k n:Int)(hk:0<=k/\k<256)(hn:I64 n):Fld k n ⟨#[]⟩:=⟨hk,hn,by decide⟩
theorem fldX:Fld 2 0 exX:=⟨by decide,by decide,by decide⟩
theorem zKJ(a0 a1 a2 a3:Value)(w:World):(Instr.buildSlice 39 1 #[(0,.agg #[a0,a1,a2,a3])]).run prog w=.ok (.slice (some ⟨w.heap.size,0,none⟩) 1 1) (w.alloc (.cells #[a0,a1,a2,a3] 41)):=by kernel_rfl
theorem zzZ(a0 a1 a2 a3 b0 b1 b2 b3:Value)(w:World):(Instr.buildSlice 39 2 #[(0,.agg #[a0,a1,a2,a3]),(1,.agg #[b0,b1,b2,b3])]).run prog w=.ok (.slice (some ⟨w.heap.size,0,none⟩) 2 2) (w.alloc (.cells #[a0,a1,a2,a3,b0,b1,b2,b3] 41)):=by kernel_rfl
theorem zKI(a0 a1 a2 a3 b0 b1 b2 b3 c0 c1 c2 c3 d0 d1 d2 d3:Value)(w:World):(Instr.buildSlice 39 4 #[(0,.agg #[a0,a1,a2,a3]),(1,.agg #[b0,b1,b2,b3]),(2,.agg #[c0,c1,c2,c3]),(3,.agg #[d0,d1,d2,d3])]).run prog w=.ok (.slice (some ⟨w.heap.size,0,none⟩) 4 4) (w.alloc (.cells #[a0,a1,a2,a3,b0,b1,b2,b3,c0,c1,c2,c3,d0,d1,d2,d3] 41)):=by kernel_rfl
theorem bNkG(k:Int)(A:Option Addr)(l c:Nat)(w:World):(Instr.build 41 #[(0,.int .u8 k),(3,.slice A l c)]).run prog w=.ok (nv k 0 ⟨#[]⟩ A l c) w:=by kernel_rfl
theorem bNnG(k n:Int)(w:World):(Instr.build 41 #[(0,.int .u8 k),(1,.int .i64 n)]).run prog w=.ok (nv k n ⟨#[]⟩ none 0 0) w:=by kernel_rfl
theorem bNxG(k:Int)(s:ByteArray)(w:World):(Instr.build 41 #[(0,.int .u8 k),(2,.string s)]).run prog w=.ok (nv k 0 s none 0 0) w:=by kernel_rfl
theorem ztK(n:Int)(hn:I64 n)(xb:Nat)(w:World)(hx:w.heap[xb]?=some (.cells #[.int .u8 2,.int .i64 0,.string exX,.slice none 0 0] 41 (0,0))) :
  Calls prog 40 #[.int .i64 n,.pointer (some ⟨xb,0,none⟩)] w fun e w'=>∃b,e=.returned (nv 16 0 ⟨#[]⟩ (some ⟨b,0,none⟩) 2 2)/\NV w' Any (exE n) (nv 16 0 ⟨#[]⟩ (some ⟨b,0,none⟩) 2 2)/\Below w.heap.size w w':=by
 have h2:=zzZ;have h3:=bNkG;have h4:=bNnG;obtain⟨N,hN⟩:=zX (w.heap.size);have HN:=zh hN;have hb1:=zka (zs w) (.cells #[.int .u8 0,.int .i64 0,.string ⟨#[]⟩,.slice none 0 0] 41);have k1:=heap_alloc_new w (.cells #[.int .u8 0,.int .i64 0,.string ⟨#[]⟩,.slice none 0 0] 41);have kx:=zkc hx hb1;have hz1:(w.alloc (.cells #[.int .u8 0,.int .i64 0,.string ⟨#[]⟩,.slice none 0 0] 41)).heap.size=N+1:=by simp[hN]
 obtain⟨w1,hw1⟩:=zX (w.alloc (.cells #[.int .u8 0,.int .i64 0,.string ⟨#[]⟩,.slice none 0 0] 41));rw[hw1]at hb1 k1 kx hz1;rw[hN]at k1;have kr:=heap_alloc_new w1 (.cells #[.int .u8 2,.int .i64 0,.string exX,.slice none 0 0,.int .u8 1,.int .i64 n,.string ⟨#[]⟩,.slice none 0 0] 41);have k1':=zkf k1 (.cells #[.int .u8 2,.int .i64 0,.string exX,.slice none 0 0,.int .u8 1,.int .i64 n,.string ⟨#[]⟩,.slice none 0 0] 41);have hb2:=zka hb1 (.cells #[.int .u8 2,.int .i64 0,.string exX,.slice none 0 0,.int .u8 1,.int .i64 n,.string ⟨#[]⟩,.slice none 0 0] 41);rw[hz1]at kr;obtain⟨w2,hw2⟩:=zX (w1.alloc (.cells #[.int .u8 2,.int .i64 0,.string exX,.slice none 0 0,.int .u8 1,.int .i64 n,.string ⟨#[]⟩,.slice none 0 0] 41));rw[hw2]at kr k1' hb2;have q0:w2.cell? ⟨N,0,none⟩=some (.int .u8 0):=zc k1' rfl;have q1:w2.cell? ⟨N,1,none⟩=some (.int .i64 0):=zc k1' rfl
 have q2:w2.cell? ⟨N,2,none⟩=some (.string ⟨#[]⟩):=zc k1' rfl;have q3:w2.cell? ⟨N,3,none⟩=some (.slice none 0 0):=zc k1' rfl;have cf:∀o,w2.frozen? ⟨N,o,none⟩=false:=fun o=>zf k1';obtain⟨x0,x1,x2,x3⟩:=box4 kx;obtain⟨hh,hch⟩:=set4 (u0:=.int .u8 16) (u1:=.int .i64 0) (u2:=.string ⟨#[]⟩) (u3:=.slice (some ⟨N+1,0,none⟩) 2 2) k1';obtain⟨w3,hw3⟩:=zX ((((w2.setCell ⟨N,0,none⟩ (.int .u8 16)).setCell ⟨N,1,none⟩ (.int .i64 0)).setCell ⟨N,2,none⟩ (.string ⟨#[]⟩)).setCell ⟨N,3,none⟩ (.slice (some ⟨N+1,0,none⟩) 2 2));rw[hw3]at hh hch;have HH:=zh hh;have lN:=zh (zKc (w:=w3) (S:=Any) (t1:=exV) (t2:=exN n) (k:=16) (n:=0) (s:=⟨#[]⟩) (fldG 16 0 (by decide) ⟨by decide,by decide⟩) trivial (hch.keep kr (fun e:N+1=N=>by omega)) (zno w3 Any fldX) (zno w3 Any (fldG 1 n (by decide) hn)));have HB:=zh (hb2.trans (hch.below hb2.size fun q e=>by have e:q=N:=e;omega));clear hb1 k1 kx hx kr k1' hb2 hh hch
 go_enter func40,ntmps40;go_wp2_with fail;obtain⟨t0,t1,t2,t3⟩:=box4 HH.out;exact bodyPost_ret (v:=nv 16 0 ⟨#[]⟩ (some ⟨N+1,0,none⟩) 2 2) (by simp[results,results40,go_sem,t0,t1,t2,t3]) rfl ⟨N+1,rfl,lN.out,HB.out⟩
theorem zpz(A:Option Addr)(l c:Nat)(w:World):Calls prog 41 #[.slice A l c] w fun e w'=>e=.returned (nv 57 0 ⟨#[]⟩ A l c)/\Below w.heap.size w w':=by
 have hb:∀w,(Instr.build 41 #[(0,.int .u8 57),(3,.slice A l c)]).run prog w=.ok (nv 57 0 ⟨#[]⟩ A l c) w:=fun w=>by kernel_rfl
 go_enter func41,ntmps41;go_wp2_with fail;exact bodyPost_ret (v:=nv 57 0 ⟨#[]⟩ A l c) (by simp[results,results41,go_sem]) rfl ⟨rfl,zka zr _⟩
end
section
open Go Go.RowKit
attribute [local go_sem] Oper.semAt_some
abbrev xS:ByteArray:=⟨#[]⟩
abbrev ak8:T:=.nd 57 0 xS [.nd 40 0 xS [exV,exN 1]]
abbrev ak13:T:=.nd 52 0 xS [exE 1,ak8,.nd 57 0 xS [],exE 2]
abbrev ak16:T:=.nd 57 0 xS [ak13]
def akZ(W:World)(b:Nat):Prop:=W.heap[b]?=some (.cells #[.slice none 0 0,.slice none 0 0,.int .u8 0,.int .i64 0,.string xS,.slice none 0 0] 43 (0,0))
def akV(W:World)(b:Nat):Prop:=W.heap[b]?=some (.cells #[.string exX,.int .u8 1,.int .i64 0] 57 (0,0))
def akF(B:Nat):Nat->Value->List Value->World->Prop
 | 1,v,_,w=>∃b,v=.slice (some ⟨b,0,none⟩) 1 1/\akV w b
 | 4,v,_,w=>∃b,v=nv 16 0 xS (some ⟨b,0,none⟩) 2 2/\NV w Any (exE 1) (nv 16 0 xS (some ⟨b,0,none⟩) 2 2)
 | 7,v,_,w=>∃b,v=.slice (some ⟨b,0,none⟩) 1 1/\NV w Any ak8 (nv 57 0 xS (some ⟨b,0,none⟩) 1 1)
 | 8,v,_,w=>∃b,v=nv 57 0 xS (some ⟨b,0,none⟩) 1 1/\NV w Any ak8 (nv 57 0 xS (some ⟨b,0,none⟩) 1 1)
 | 10,v,_,_=>v=nv 57 0 xS none 0 0
 | 12,v,_,w=>∃b,v=nv 16 0 xS (some ⟨b,0,none⟩) 2 2/\NV w Any (exE 2) (nv 16 0 xS (some ⟨b,0,none⟩) 2 2)
 | 13,v,_,w=>∃b,v=.slice (some ⟨b,0,none⟩) 4 4/\NV w Any ak13 (nv 52 0 xS (some ⟨b,0,none⟩) 4 4)
 | 14,v,_,w=>∃b,v=nv 52 0 xS (some ⟨b,0,none⟩) 4 4/\NV w Any ak13 (nv 52 0 xS (some ⟨b,0,none⟩) 4 4)
 | 15,v,_,w=>∃b,v=.slice (some ⟨b,0,none⟩) 1 1/\NV w Any ak16 (nv 57 0 xS (some ⟨b,0,none⟩) 1 1)
 | 16,v,_,w=>∃b,v=nv 57 0 xS (some ⟨b,0,none⟩) 1 1/\NV w Any ak16 (nv 57 0 xS (some ⟨b,0,none⟩) 1 1)
 | 17,v,_,w=>∃b c,v=pv (some ⟨b,0,none⟩) 1 1 none 0 0 57 0 xS (some ⟨c,0,none⟩) 1 1/\akV w b/\NV w Any ak16 (nv 57 0 xS (some ⟨c,0,none⟩) 1 1)
 | 18,v,_,w=>∃b,v=.pointer (some ⟨b,0,none⟩)/\B<=b/\akZ w b
 | _,_,_,_=>True
def akD:Nat->List Nat
 | 8=>[7]
 | 13=>[4,8,10,12]
 | 14=>[13]
 | 15=>[14]
 | 16=>[15]
 | 17=>[1,16]
 | _=>[]
theorem zva{B:Nat}{v:Value}{ds:List Value}{w w':World}(i:Nat)(h:akF B i v ds w)(hb:Below w.heap.size w w'):akF B i v ds w':=by
 unfold akF at h ⊢
 split at h<;>try exact h
 all_goals first
  | (obtain⟨b,e,h⟩:=h;exact⟨b,e,zkc h hb⟩)
  | (obtain⟨b,e,h⟩:=h;exact⟨b,e,h.later hb⟩)
  | (obtain⟨b,c,e,h1,h2⟩:=h;exact⟨b,c,e,zkc h1 hb,h2.later hb⟩)
  | (obtain⟨b,e,h1,h2⟩:=h;exact⟨b,e,h1,zkc h2 hb⟩)
theorem zKl{W:World}{b:Nat}{x0 x1 x2 x3 x4 x5 u0 u1 u2 u3 u4 u5:Value}{E:TypeId}(h:W.heap[b]?=some (.cells #[x0,x1,x2,x3,x4,x5] E (0,0))) :
  ((((((W.setCell ⟨b,0,none⟩ u0).setCell ⟨b,1,none⟩ u1).setCell ⟨b,2,none⟩ u2).setCell ⟨b,3,none⟩ u3).setCell ⟨b,4,none⟩ u4).setCell ⟨b,5,none⟩ u5).heap[b]?=some (.cells #[u0,u1,u2,u3,u4,u5] E (0,0)) /\
   Chg (fun q=>q=b) W ((((((W.setCell ⟨b,0,none⟩ u0).setCell ⟨b,1,none⟩ u1).setCell ⟨b,2,none⟩ u2).setCell ⟨b,3,none⟩ u3).setCell ⟨b,4,none⟩ u4).setCell ⟨b,5,none⟩ u5):=by
 refine⟨?_,((((((Chg.refl (fun q=>q=b) W).setCell (p:=⟨b,0,none⟩) (.inl rfl) _).setCell (p:=⟨b,1,none⟩) (.inl rfl) _).setCell (p:=⟨b,2,none⟩) (.inl rfl) _).setCell (p:=⟨b,3,none⟩) (.inl rfl) _).setCell (p:=⟨b,4,none⟩) (.inl rfl) _).setCell (p:=⟨b,5,none⟩) (.inl rfl) _⟩;rw[heap_setCell_same _ b 5 _ _ u5 (heap_setCell_same _ b 4 _ _ u4 (heap_setCell_same _ b 3 _ _ u3 (heap_setCell_same _ b 2 _ _ u2 (heap_setCell_same _ b 1 _ _ u1 (heap_setCell_same W b 0 _ _ u0 h)))))];simp
theorem zwu{w:World}{p:Addr}{bb:Nat}{E:TypeId}{xs:Array Value}{k:Int}(hz:w.heap[bb]?=some (.cells xs E (0,0)))(hx:∀(i:Nat) (k:Int),xs[i]?=some (Value.int .u8 k)->k=0)(hp:p.block=bb)(h:w.cell? p=some (.int .u8 k)):k=0:=by
 subst hp;obtain⟨b,o,m⟩:=p;simp only[World.cell?]at h hz
 cases m with
 | none =>
  simp only[hz]at h;exact hx o k h
 | some x=>simp[hz]at h
theorem zKQ(i:Nat)(k:Int)(h:(#[Value.slice none 0 0,.slice none 0 0,.int .u8 0,.int .i64 0,.string xS,.slice none 0 0]:Array Value)[i]?=some (Value.int .u8 k)):k=0:=by
 match i,h with
 | 0,h=>simp at h
 | 1,h=>simp at h
 | 2,h=>simp at h;exact h.symm
 | 3,h=>simp at h
 | 4,h=>simp at h
 | 5,h=>simp at h
 | n+6,h=>simp at h
theorem NV.nz6{w:World}{bb:Nat}{E:TypeId}{xs:Array Value}(hz:w.heap[bb]?=some (.cells xs E (0,0)))(hx:∀(i:Nat) (k:Int),xs[i]?=some (Value.int .u8 k)->k=0):∀(t:T) (v:Value),NV w Any t v->(∀u∈po t,u.k≠0)->NV w (fun b=>b≠bb) t v:=by
 intro t
 induction t using T.ind with
 | _ k n s ks ih =>
  intro v hv hk;obtain⟨A,c,rfl,hf,hlk,hlc,hrow⟩:=hv.open_;refine NV.shut hf hlk hlc fun i hi=>?_;obtain⟨a,u0,u1,u2,u3,hA,-,hc,hn⟩:=hrow i hi;have hm:(T.nd k n s ks).ks[i]∈ks:=List.getElem_mem hi;have hsub:∀u∈po (T.nd k n s ks).ks[i],u.k≠0:=fun u hu=>hk u (by simp only[po,List.mem_cons];exact .inr (zmZ.2 ⟨_,hm,hu⟩));refine⟨a,u0,u1,u2,u3,hA,fun e=>?_,hc,ih _ hm _ hn hsub⟩;obtain⟨A',c',e',-⟩:=hn.open_;injection e' with e';simp only[Array.mk.injEq,List.cons.injEq,and_true]at e';have h0:=hc.c0;rw[e'.1]at h0;have hself:(T.nd k n s ks).ks[i]∈po (T.nd k n s ks).ks[i]:=by
   rcases hq:(T.nd k n s ks).ks[i]with⟨k',n',s',ks'⟩;simp[po]
  exact hsub _ hself (zwu hz hx (by rw[zkz];exact e) h0)
theorem zKO(n:Int)(w:World):(Instr.build 24 #[(0,.int .i64 n)]).run prog w=.ok (.agg #[.int .i64 n,.int .i64 0,.int .i64 0]) w:=by kernel_rfl
theorem zy6:(exB.ok&&svB exP.vs)=true:=by kernel_rfl
theorem zu9:(allS exB (lenE exP.vs exB)).length<=1000000:=by rw[zpm];decide
theorem zy8:fndE (fun s=>decide (errE exP 9 s=15)) (allS exB (lenE exP.vs exB))=(⟨[[2]],[],[]⟩,4,true):=by rw[zpm];kernel_rfl
theorem zz3:dffE exP exP exB 9=(nilS,5,false):=by
 unfold dffE;rw[if_pos (znf.2 rfl),zpm]
 kernel_rfl
theorem zy7:(znT ((allS exB (lenE exP.vs exB)).map (errE exP 9))).length=2:=by rw[zpm];kernel_rfl
theorem zKP:cntS (errE exP 9) (allS exB (lenE exP.vs exB)) 0=4:=by rw[zpm];kernel_rfl
theorem zz4:cntS (errE exP 9) (allS exB (lenE exP.vs exB)) 15=1:=by rw[zpm];kernel_rfl
theorem zqg{w:World}{S:Nat->Prop}{x:Int}{v:Value}(h:SV w S ⟨[[x]],[],[]⟩ v):∃(a:Addr) (c:Nat) (D D2:Option Addr) (d1 d2:Nat) (a':Addr) (c':Nat),v=.agg #[.slice (some a) 1 c,.slice D 0 d1,.slice D2 0 d2]/\w.cell? (a.add 0)=some (.slice (some a') 1 c')/\w.cell? (a'.add 0)=some (.int .i64 x):=by
 obtain⟨A,c,D,d1,D2,d2,rfl,h1,-⟩:=h;obtain⟨a,A',c',rfl,-,h2,-,h3⟩:=h1 0 (by simp);obtain⟨a',rfl,-,h4,-⟩:=h3 0 (by simp);exact⟨a,c,D,D2,d1,d2,a',c',rfl,h2,h4⟩
theorem zzJ:IsFn prog 40 f40:=⟨func40,by kernel_rfl,by kernel_rfl⟩
theorem zyF:IsFn prog 41 f41:=⟨func41,by kernel_rfl,by kernel_rfl⟩
theorem bSVG(a0 a1 a2:Value)(w:World):(Instr.buildSlice 22 1 #[(0,.agg #[a0,a1,a2])]).run prog w=.ok (.slice (some ⟨w.heap.size,0,none⟩) 1 1) (w.alloc (.cells #[a0,a1,a2] 57)):=by kernel_rfl
theorem bVdG(s:ByteArray)(k:Int)(w:World):(Instr.build 57 #[(0,.string s),(1,.int .u8 k)]).run prog w=.ok (.agg #[.string s,.int .u8 k,.int .i64 0]) w:=by kernel_rfl
theorem bPgG(A B:Option Addr)(l c m d:Nat)(k n:Int)(s:ByteArray)(w:World):(Instr.build 43 #[(0,.slice A l c),(2,nv k n s B m d)]).run prog w=.ok (pv A l c none 0 0 k n s B m d) w:=by kernel_rfl
theorem zsM(w:World):Calls prog 9 #[] w fun e w'=>e=.returned (.bool true)/\Below w.heap.size w w':=by
 have ma:∀(fn:Fn) (first cap:Array Value) (w:World),(Instr.makeFunc fn first cap).run prog w=.ok (.func fn first cap) w:=fun _ _ _ _=>rfl;have h1:=zKJ;have h2:=zzZ;have h3:=bNkG;have h4:=bNnG;have h5:=bNxG;obtain⟨N,hN⟩:=zX (w.heap.size);have HN:=zh hN;have al:=(fun(o0 o1 o2:Obj)=>(⟨zka (zka (zka zr _) _) _,by simp,zkf (zkf (zl2 _ rfl _) _) _,zkf (zl2 _ (by simp) _) _,zl2 _ (by simp) _⟩:Below w.heap.size w (((w.alloc o0).alloc o1).alloc o2)/\(((w.alloc o0).alloc o1).alloc o2).heap.size=w.heap.size+3/\(((w.alloc o0).alloc o1).alloc o2).heap[w.heap.size]?=some o0/\(((w.alloc o0).alloc o1).alloc o2).heap[w.heap.size+1]?=some o1/\(((w.alloc o0).alloc o1).alloc o2).heap[w.heap.size+2]?=some o2))
 obtain⟨hb1,hz1,k0,k1,k2⟩:=al (.cells #[.int .u8 2,.int .i64 0,.string ⟨#[120]⟩,.slice none 0 0] 41) (.cells #[.int .u8 2,.int .i64 0,.string ⟨#[120]⟩,.slice none 0 0,.int .u8 1,.int .i64 1,.string ⟨#[]⟩,.slice none 0 0] 41) (.cells #[.int .u8 40,.int .i64 0,.string ⟨#[]⟩,.slice (some ⟨N+1,0,none⟩) 2 2] 41);obtain⟨w1,hw1⟩:=zX (((w.alloc (.cells #[.int .u8 2,.int .i64 0,.string ⟨#[120]⟩,.slice none 0 0] 41)).alloc (.cells #[.int .u8 2,.int .i64 0,.string ⟨#[120]⟩,.slice none 0 0,.int .u8 1,.int .i64 1,.string ⟨#[]⟩,.slice none 0 0] 41)).alloc (.cells #[.int .u8 40,.int .i64 0,.string ⟨#[]⟩,.slice (some ⟨N+1,0,none⟩) 2 2] 41));rw[hw1]at hb1 hz1 k0 k1 k2;rw[hN]at hz1 k0 k1 k2;have HB1:=zh hb1;have HZ1:=zh hz1;have aJ:=zh k0;have aB:=zh k1;have aR:=zh k2;clear hb1 hz1 k0 k1 k2 al;go_enter func9,ntmps9;go_upto_region 5 with fail
 try rw[hw1]
 simp only[Nat.add_assoc,Nat.reduceAdd];clear hw1;have az:=zh (show ∀w',Below w1.heap.size w1 w'->(fun w':World=>zN4 w' (N+2) (.int .u8 40) (.int .i64 0) (.string xS) (.slice (some ⟨N+1,0,none⟩) 2 2)) w' from fun w' hb=>box4 (zkc aR.out hb));have hSS:zW (fun w':World=>zN4 w' (N+2) (.int .u8 40) (.int .i64 0) (.string xS) (.slice (some ⟨N+1,0,none⟩) 2 2)) zU w1.drew:=⟨az.out _ zr.drew,trivial⟩
 have h6:=bSVG;have h7:=bVdG;have h8:=bPgG;refine wp_region_noPanic ?_;refine zG hSS 19 ?_;refine zT 0 hSS ?_;refine zT 2 hSS ?_;refine zT 3 hSS ?_;refine zT 5 hSS ?_;refine zT 6 hSS ?_;refine zT 9 hSS ?_;refine zT 11 hSS ?_;have hI:(fun w=>Below w1.heap.size w1 w) w1.drew:=zr.drew;clear hSS;refine zoR (T:=[(1,18),(4,21),(7,24),(8,25),(10,27),(12,29),(13,30),(14,31),(15,32),(16,33),(17,34),(18,5)]) (z:=19) (n:=20) akD 1 (fun w=>Below w1.heap.size w1 w) (akF w1.heap.size) (by kernel_rfl) (by kernel_rfl) (by simp only[putP,Act.put,zD,zE,zF]) (by decide) (by kernel_rfl) (by kernel_rfl) (fun w h=>⟨az.out _ h,trivial⟩) (fun w w' h hb=>zkb h hb) (fun i v ds w w' h hb=>zva i h hb) (fun q hq=>?_) (fun vs w2 hb2 hF=>?_) w1.drew hI
 ·simp only[List.mem_cons,List.not_mem_nil,or_false]at hq;rcases hq with rfl|rfl|rfl|rfl|rfl|rfl|rfl|rfl|rfl|rfl|rfl|rfl
  ·intro oi hoi vs K w2 hb2 hd aa;obtain rfl:=Option.some.inj hoi;simp only[putP,Act.put,zA,zB,zC,zD,zE,zF]at aa ⊢;have hK:=zh aa;clear aa hoi;go_simp;exact hK.out _ _ (zka zr _) ⟨w2.heap.size,rfl,heap_alloc_new w2 _⟩
  ·intro oi hoi vs K w2 hb2 hd aa;generalize bz:putP vs [(1,18),(4,21),(7,24),(8,25),(10,27),(12,29),(13,30),(14,31),(15,32),(16,33),(17,34),(18,5)] _=AC at aa ⊢;have hK:=zh aa;clear aa;have had:Calls prog 40 ([.int .i64 1].toArray ++ #[.pointer (some ⟨N,0,none⟩)]) w2 fun e w'=>∃v,e=.returned v/\((∃b,v=nv 16 0 xS (some ⟨b,0,none⟩) 2 2/\NV w' Any (exE 1) (nv 16 0 xS (some ⟨b,0,none⟩) 2 2))/\Below w2.heap.size w2 w') :=
    (ztK 1 ⟨by decide,by decide⟩ N w2 (zkc aJ.out hb2)).mono fun e w' ⟨b,h1,h2,h3⟩=>⟨_,h1,⟨b,rfl,h2⟩,h3⟩
   refine zk6 hoi (.tmp 20) [.const (.int .i64 1)] #[3] (by kernel_rfl) (by kernel_rfl) 40 _ zzJ #[.pointer (some ⟨N,0,none⟩)] (by rw[<-bz];kernel_rfl) _ (by rw[<-bz];kernel_rfl) _ had ?_;rintro v w3 ⟨hv,hb3⟩;exact hK.out _ _ hb3 hv
  ·intro oi hoi vs K w2 hb2 hd aa;obtain rfl:=Option.some.inj hoi;simp only[putP,Act.put,zA,zB,zC,zD,zE,zF]at aa ⊢;have hK:=zh aa;clear aa hoi;go_simp;have aW:=zka (zs w2) (.cells #[.int .u8 40,.int .i64 0,.string xS,.slice (some ⟨N+1,0,none⟩) 2 2] 41);exact hK.out _ _ aW ⟨w2.heap.size,rfl,zKd (fldG 57 0 (by decide) ⟨by decide,by decide⟩) trivial (heap_alloc_new w2 _) (zKc (fldG 40 0 (by decide) ⟨by decide,by decide⟩) trivial (zkc (zkc aB.out hb2) aW) (zno _ Any fldX) (zno _ Any (fldG 1 1 (by decide) ⟨by decide,by decide⟩)))⟩
  ·intro oi hoi vs K w2 hb2 hd aa;generalize bz:putP vs [(1,18),(4,21),(7,24),(8,25),(10,27),(12,29),(13,30),(14,31),(15,32),(16,33),(17,34),(18,5)] _=AC at aa ⊢;have hK:=zh aa;clear aa;obtain⟨b,hv7,nX⟩:=hd 7 (by decide);have had:Calls prog 41 ([vs 7].toArray ++ #[]) w2 fun e w'=>∃v,e=.returned v/\((∃b,v=nv 57 0 xS (some ⟨b,0,none⟩) 1 1/\NV w' Any ak8 (nv 57 0 xS (some ⟨b,0,none⟩) 1 1))/\Below w2.heap.size w2 w'):=by
    rw[hv7];exact(zpz _ _ _ w2).mono fun e w' ⟨h1,h3⟩=>⟨_,h1,⟨b,rfl,nX.later h3⟩,h3⟩
   refine zk6 hoi (.tmp 22) [.tmp 24] #[39] (by kernel_rfl) (by kernel_rfl) 41 _ zyF #[] (by rw[<-bz];kernel_rfl) _ (by rw[<-bz];kernel_rfl) _ had ?_;rintro v w3 ⟨hv,hb3⟩;exact hK.out _ _ hb3 hv
  ·intro oi hoi vs K w2 hb2 hd aa;generalize bz:putP vs [(1,18),(4,21),(7,24),(8,25),(10,27),(12,29),(13,30),(14,31),(15,32),(16,33),(17,34),(18,5)] _=AC at aa ⊢;have hK:=zh aa;clear aa;have had:Calls prog 41 ([.slice none 0 0].toArray ++ #[]) w2 fun e w'=>∃v,e=.returned v/\(v=nv 57 0 xS none 0 0/\Below w2.heap.size w2 w') :=
    (zpz _ _ _ w2).mono fun e w' ⟨h1,h3⟩=>⟨_,h1,rfl,h3⟩
   refine zk6 hoi (.tmp 26) [.const (.slice none 0 0)] #[39] (by kernel_rfl) (by kernel_rfl) 41 _ zyF #[] (by rw[<-bz];kernel_rfl) _ (by rw[<-bz];kernel_rfl) _ had ?_;rintro v w3 ⟨hv,hb3⟩;exact hK.out _ _ hb3 hv
  ·intro oi hoi vs K w2 hb2 hd aa;generalize bz:putP vs [(1,18),(4,21),(7,24),(8,25),(10,27),(12,29),(13,30),(14,31),(15,32),(16,33),(17,34),(18,5)] _=AC at aa ⊢;have hK:=zh aa;clear aa;have had:Calls prog 40 ([.int .i64 2].toArray ++ #[.pointer (some ⟨N,0,none⟩)]) w2 fun e w'=>∃v,e=.returned v/\((∃b,v=nv 16 0 xS (some ⟨b,0,none⟩) 2 2/\NV w' Any (exE 2) (nv 16 0 xS (some ⟨b,0,none⟩) 2 2))/\Below w2.heap.size w2 w') :=
    (ztK 2 ⟨by decide,by decide⟩ N w2 (zkc aJ.out hb2)).mono fun e w' ⟨b,h1,h2,h3⟩=>⟨_,h1,⟨b,rfl,h2⟩,h3⟩
   refine zk6 hoi (.tmp 28) [.const (.int .i64 2)] #[3] (by kernel_rfl) (by kernel_rfl) 40 _ zzJ #[.pointer (some ⟨N,0,none⟩)] (by rw[<-bz];kernel_rfl) _ (by rw[<-bz];kernel_rfl) _ had ?_;rintro v w3 ⟨hv,hb3⟩;exact hK.out _ _ hb3 hv
  ·intro oi hoi vs K w2 hb2 hd aa;obtain rfl:=Option.some.inj hoi;simp only[putP,Act.put,zA,zB,zC,zD,zE,zF]at aa ⊢;have hK:=zh aa;clear aa hoi;obtain⟨b4,hv4,qO⟩:=hd 4 (by decide);obtain⟨b8,hv8,hn8⟩:=hd 8 (by decide);have hv10:vs 10=nv 57 0 xS none 0 0:=hd 10 (by decide);obtain⟨b12,lV,hn12⟩:=hd 12 (by decide);rw[hv4,hv8,hv10,lV]at hK ⊢;have hq:=zKI;go_simp;have aW:=fun o=>zka (zs w2) o;exact hK.out _ _ (aW _) ⟨w2.heap.size,rfl,zKT (fldG 52 0 (by decide) ⟨by decide,by decide⟩) trivial (heap_alloc_new w2 _) (qO.later (aW _)) (hn8.later (aW _)) (zno _ Any (fldG 57 0 (by decide) ⟨by decide,by decide⟩)) (hn12.later (aW _))⟩
  ·intro oi hoi vs K w2 hb2 hd aa;obtain rfl:=Option.some.inj hoi;simp only[putP,Act.put,zA,zB,zC,zD,zE,zF]at aa ⊢;have hK:=zh aa;clear aa hoi;obtain⟨b13,hv13,hn13⟩:=hd 13 (by decide);rw[hv13]at hK ⊢;go_simp;exact hK.out _ _ zr ⟨b13,rfl,hn13⟩
  ·intro oi hoi vs K w2 hb2 hd aa;obtain rfl:=Option.some.inj hoi;simp only[putP,Act.put,zA,zB,zC,zD,zE,zF]at aa ⊢;have hK:=zh aa;clear aa hoi;obtain⟨b14,hv14,hn14⟩:=hd 14 (by decide);rw[hv14]at hK ⊢;go_simp;have aW:=fun o=>zka (zs w2) o;exact hK.out _ _ (aW _) ⟨w2.heap.size,rfl,zKd (fldG 57 0 (by decide) ⟨by decide,by decide⟩) trivial (heap_alloc_new w2 _) (hn14.later (aW _))⟩
  ·intro oi hoi vs K w2 hb2 hd aa;generalize bz:putP vs [(1,18),(4,21),(7,24),(8,25),(10,27),(12,29),(13,30),(14,31),(15,32),(16,33),(17,34),(18,5)] _=AC at aa ⊢;have hK:=zh aa;clear aa;obtain⟨b,hv7,nX⟩:=hd 15 (by decide);have had:Calls prog 41 ([vs 15].toArray ++ #[]) w2 fun e w'=>∃v,e=.returned v/\((∃b,v=nv 57 0 xS (some ⟨b,0,none⟩) 1 1/\NV w' Any ak16 (nv 57 0 xS (some ⟨b,0,none⟩) 1 1))/\Below w2.heap.size w2 w'):=by
    rw[hv7];exact(zpz _ _ _ w2).mono fun e w' ⟨h1,h3⟩=>⟨_,h1,⟨b,rfl,nX.later h3⟩,h3⟩
   refine zk6 hoi (.tmp 19) [.tmp 32] #[39] (by kernel_rfl) (by kernel_rfl) 41 _ zyF #[] (by rw[<-bz];kernel_rfl) _ (by rw[<-bz];kernel_rfl) _ had ?_;rintro v w3 ⟨hv,hb3⟩;exact hK.out _ _ hb3 hv
  ·intro oi hoi vs K w2 hb2 hd aa;obtain rfl:=Option.some.inj hoi;simp only[putP,Act.put,zA,zB,zC,zD,zE,zF]at aa ⊢;have hK:=zh aa;clear aa hoi;obtain⟨b1,hv1,hn1⟩:=hd 1 (by decide);obtain⟨b16,hv16,hn16⟩:=hd 16 (by decide);rw[hv1,hv16]at hK ⊢;go_simp;exact hK.out _ _ zr ⟨b1,b16,rfl,hn1,hn16⟩
  ·intro oi hoi vs K w2 hb2 hd aa;obtain rfl:=Option.some.inj hoi;simp only[putP,Act.put,zA,zB,zC,zD,zE,zF]at aa ⊢;have hK:=zh aa;clear aa hoi;go_simp;exact hK.out _ _ (zka zr _) ⟨w2.heap.size,rfl,hb2.size,heap_alloc_new w2 _⟩
 ·obtain⟨vb,nb,su,pz,hnm⟩:=hF (17,34) (by decide);obtain⟨pb,sj,hpb,hkz⟩:=hF (18,5) (by decide);clear hF;simp only[putP,Act.put,zD,zE,zF];simp only at su sj;rw[su,sj];generalize vs 1=v1;generalize vs 4=v4;generalize vs 7=v7;generalize vs 8=v8;generalize vs 10=v10;generalize vs 12=v12;generalize vs 13=v13;generalize vs 14=v14;generalize vs 15=v15;generalize vs 16=v16;clear su sj;obtain⟨q0,q1,q2,q3,q4,q5⟩:=box6 hkz;have cf:∀o,w2.frozen? ⟨pb,o,none⟩=false:=fun o=>zf hkz;obtain⟨hh,hch⟩:=zKl (u0:=.slice (some ⟨vb,0,none⟩) 1 1) (u1:=.slice none 0 0) (u2:=.int .u8 57) (u3:=.int .i64 0) (u4:=.string xS) (u5:=.slice (some ⟨nb,0,none⟩) 1 1) hkz
  obtain⟨w3,hw3⟩:=zX ((((((w2.setCell ⟨pb,0,none⟩ (.slice (some ⟨vb,0,none⟩) 1 1)).setCell ⟨pb,1,none⟩ (.slice none 0 0)).setCell ⟨pb,2,none⟩ (.int .u8 57)).setCell ⟨pb,3,none⟩ (.int .i64 0)).setCell ⟨pb,4,none⟩ (.string xS)).setCell ⟨pb,5,none⟩ (.slice (some ⟨nb,0,none⟩) 1 1));rw[hw3]at hh hch;have sI:=(NV.nz6 hkz zKQ _ _ hnm (by decide)).keep (w':=w3) (S':=Any) (fun _ _ _=>trivial) fun q h hlt=>hch.block q hlt h;have hkv3:akV w3 vb:=hch.keep pz fun e=>by
   have e:vb=pb:=e;subst e;have:=pz.symm.trans hkz;injection this with this;injection this with this;simp at this
  have hb3:=hb2.trans (hch.below hb2.size fun q e=>by have e:q=pb:=e;omega);have mX:=zh hh;have HNM:=zh sI;have yI:=zh hkv3;have HB3:=zh hb3;clear pz hkz hnm hh hch sI hkv3 hpb;refine zp 19 fun K hK=>?_;(try simp only[zA,zB,zC]);go_simp;refine hK.out _ _ (az.out _ HB3.out) ?_;clear hK K q0 q1 q2 q3 q4 q5 cf hb3 hb2 hw3;(try simp only[zQ]);refine zd ?_;refine NoPanic.normal ?_;have lL:=zh (show PV w3 Any exP (pv (some ⟨vb,0,none⟩) 1 1 none 0 0 57 0 xS (some ⟨nb,0,none⟩) 1 1)from⟨some ⟨vb,0,none⟩,1,none,0,some ⟨nb,0,none⟩,1,rfl,⟨fun i hi=>by
   obtain rfl:i=0:=by simp[exP]at hi;omega
   exact⟨⟨vb,0,none⟩,rfl,trivial,⟨zc yI.out rfl,zc yI.out rfl,zc yI.out rfl⟩,show FldV ⟨exX,1,0⟩from⟨by decide,by decide,by decide⟩⟩,by decide,by decide,fun i hi=>by simp[exP]at hi,by decide,by decide,HNM.out⟩⟩)
  obtain⟨p0,p1,p2,p3,p4,p5⟩:=box6 mX.out;have Ca:=zh (zrC (b:=exB) (e:=15) (F:=9) lL.out zy6 zu9 ⟨by decide,by decide⟩ (by decide));rw[zy8]at Ca;have hbx:=zKO;clear az h1 h2 h3 h4 h5 h6 h7 h8 ma yI HNM aJ aB aR;go_wp2_with fail;refine Ca.out.mono ?_;rintro e' w4 ⟨hb4,v4',rfl,hs4⟩;obtain⟨ca,cc,D,D2,d1,d2,ia,ic,rfl,hc0,hc1⟩:=zqg hs4;have hb5:=zka hb4 (.cells #[.slice (some ca) 1 cc,.slice D 0 d1,.slice D2 0 d2] 32);have k6:=heap_alloc_new w4 (.cells #[.slice (some ca) 1 cc,.slice D 0 d1,.slice D2 0 d2] 32);have aW:=zka (zs w4) (.cells #[.slice (some ca) 1 cc,.slice D 0 d1,.slice D2 0 d2] 32);obtain⟨w5,ig⟩:=zX (w4.alloc (.cells #[.slice (some ca) 1 cc,.slice D 0 d1,.slice D2 0 d2] 32));obtain⟨sb,hsb⟩:=zX (w4.heap.size);rw[ig]at hb5 k6 aW;rw[hsb]at k6;have aQ:=zh (HB3.out.trans (hb5.mono HB3.out.size));have uA:=zh (zkc mX.out hb5)
  have dO:=zh k6;have bC:=zh (And.intro (zb aW hc0) (zb aW hc1));have uC:=zh (lL.out.later hb5);clear p0 p1 p2 p3 p4 p5 hb4 hs4 hc0 hc1 hb5 k6 aW Ca mX lL;obtain⟨p0,p1,p2,p3,p4,p5⟩:=box6 uA.out;have HOU:=zh (zqU (b:=exB) (F:=9) uC.out zy6 zu9 ⟨by decide,by decide⟩ (by decide));go_wp2_with fail
  try simp only[ig,hsb]
  clear ig;refine HOU.out.mono ?_;rintro e' w6 ⟨hb6,mb,rfl,hmb,jO⟩;have aV:=zh (zkb aQ.out hb6);have HPX6:=zh (zkc uA.out hb6);have HK66:=zh (zkc dO.out hb6);have nN:=zh (And.intro (zb hb6 bC.out.1) (zb hb6 bC.out.2));have uB:=zh (uC.out.later hb6);have qi:=zh jO;clear p0 p1 p2 p3 p4 p5 hb6 hmb jO HOU uA uC dO bC;obtain⟨p0,p1,p2,p3,p4,p5⟩:=box6 HPX6.out;have vR:=zh (ztj (b:=exB) (F:=9) uB.out uB.out zy6 zu9 ⟨by decide,by decide⟩ (by decide));rw[zz3]at vR;go_wp2_with fail;refine vR.out.mono ?_;rintro e' w7 ⟨qU,v7',rfl,hs7⟩;obtain⟨B1,f1,B2,f2,B3,f3,rfl,-⟩:=hs7;have dz:=zka qU (.cells #[.slice B1 nilS.cells.length f1,.slice B2 nilS.tin.length f2,.slice B3 nilS.tout.length f3] 32);have eH:=zh (aV.out.trans (dz.mono aV.out.size));have bT:=zkc HK66.out dz;obtain⟨x0,x1,x2⟩:=zky bT;have hc0:=zb dz nN.out.1
  have hc1:=zb dz nN.out.2;have hd0:(w7.alloc (.cells #[.slice B1 nilS.cells.length f1,.slice B2 nilS.tin.length f2,.slice B3 nilS.tout.length f3] 32)).cell? ca=some (.slice (some ia) 1 ic):=by rw[<-Addr.add_zero' ca];exact hc0
  have hd1:(w7.alloc (.cells #[.slice B1 nilS.cells.length f1,.slice B2 nilS.tin.length f2,.slice B3 nilS.tout.length f3] 32)).cell? ia=some (.int .i64 2):=by rw[<-Addr.add_zero' ia];exact hc1
  have oW:=qi.out.keep (dz.block mb qi.out.lt);have hl0:=oW.look (k:=0) ⟨by decide,by decide⟩;have hl15:=oW.look (k:=15) ⟨by decide,by decide⟩;have hlen:=fun ty=>oW.len ty;rw[zKP]at hl0;rw[zz4]at hl15;rw[zy7]at hlen;clear p0 p1 p2 p3 p4 p5 bT oW vR qi HPX6 uB;clear qU dz;go_wp2_with fail;go_ret;exact⟨by trivial,zkb HB1.out eH.out⟩
end
section
open Go Go.RowKit
attribute [local go_sem] Oper.semAt_some
theorem ztL{W:World}{s:SS}{v1 v2:Value}(h1:SV W Any s v1)(h2:SV W Any s v2)(hl:s.cells.length<=100000) :
  Calls prog 14 #[v1,v2] W fun e w'=>e=.returned (.bool true)/\Below W.heap.size W w':=by
 obtain⟨A,c,B,d,D,e,rfl⟩:∃A c B d D e,v1=.agg #[.slice A s.cells.length c,.slice B s.tin.length d,.slice D s.tout.length e]:=by
  obtain⟨A,c,B,d,D,e,h,-⟩:=h1;exact⟨_,_,_,_,_,_,h⟩
 obtain⟨A',c',B',d',D',e',rfl⟩:∃A c B d D e,v2=.agg #[.slice A s.cells.length c,.slice B s.tin.length d,.slice D s.tout.length e]:=by
  obtain⟨A,c,B,d,D,e,h,-⟩:=h2;exact⟨_,_,_,_,_,_,h⟩
 have hb2:=zka (zka (zs W) (.cells #[.slice A s.cells.length c,.slice B s.tin.length d,.slice D s.tout.length e] 32)) (.cells #[.slice A' s.cells.length c',.slice B' s.tin.length d',.slice D' s.tout.length e'] 32);have HC:=zh (zv4 (h1.later hb2) (h2.later hb2) hl);have HB:=zh hb2;clear hb2 h1 h2;go_enter func14,ntmps14;go_wp2_with fail;refine HC.out.mono ?_;rintro en w' ⟨rfl,hb⟩;go_wp2_with fail;go_ret;exact⟨rfl,zkb HB.out hb⟩
theorem zzP:IsFn prog 13 f13:=⟨func13,by kernel_rfl,by kernel_rfl⟩
theorem zwF:IsFn prog 14 f14:=⟨func14,by kernel_rfl,by kernel_rfl⟩
structure CntI(B bn:Nat)(w1:World)(n:Nat)(w:World):Prop where
 size:B<=w.heap.size
 cnt:w.heap[bn]?=some (.cells #[.int .i64 (n:Int)] 3 (0,0))
 same:∀b,b<B->b≠bn->w.heap[b]?=w1.heap[b]?
theorem zwY{B bn bk:Nat}{w1:World}{k:Int}{vs:List VD}{b:BX}(hbn:bn<B)(hbk:bk<B)(hne:bk≠bn)(hk:w1.heap[bk]?=some (.cells #[.int .u8 k] 5 (0,0)))(hk2:0<=k/\k<=255)(hok:(b.ok&&svB vs)=true)(h60:(allS b (lenE vs b)).length<=60) :
  zrx 13 #[.pointer (some ⟨bn,0,none⟩),.pointer (some ⟨bk,0,none⟩)] (fun n _=>n==(k.tmod 70).toNat) (allS b (lenE vs b)) B (CntI B bn w1):=by
 refine⟨fun n W W' h h1 h2=>⟨Nat.le_trans h.size h1,(h2 bn hbn).trans h.cnt,fun q hq hne=>(h2 q hq).trans (h.same q hq hne)⟩,fun n W h=>h.size,fun n s v W g hI hg hgs ho hx=>?_⟩;have hx2:=znl hok s (List.mem_of_getElem? hx);have hnl:=(List.getElem?_eq_some_iff.1 hx).1;refine(zut (k:=k) ho hgs (by omega) (by omega) hI.cnt ((hI.same bk hbk hne).trans hk) hk2 (by omega) (by omega)).mono ?_;rintro e W' ⟨rfl,hc,hch⟩;have h0:0<=k.tmod 70:=Int.tmod_nonneg 70 hk2.1;refine⟨congrArg (fun b=>Ending.returned (.bool b)) ?_,⟨Nat.le_trans hI.size hch.size,hc,fun q hq hne=>(hch.block q (Nat.lt_of_lt_of_le hq hI.size) fun h=>by rcases h with h|h<;>omega).trans (hI.same q hq hne)⟩,hch.mono fun q _ h=>by rcases h with h|h<;>omega⟩;rw[show(n==(k.tmod 70).toNat)=decide (n=(k.tmod 70).toNat)from by by_cases h:n=(k.tmod 70).toNat<;>simp[h]];exact decide_eq_decide.2 (by omega)
theorem zti{W:World}{vs:List VD}{b:BX}{k:Int}{A1:Option Addr}{c1:Nat}(hr:RowV W Any A1 vs)(hl:vs.length<=LV)(hk:0<=k/\k<=255) :
  Calls prog 3 #[.slice A1 vs.length c1,.agg #[.int .i64 b.v,.int .i64 b.l,.int .i64 b.i],.int .u8 k] W fun en w'=>en=.returned (.bool true)/\Below W.heap.size W w':=by
 have Bw:=zh (fun w' (h:Below W.heap.size W w')=>hr.later h);have hb2:=zka (zka (zs W) (.cells #[.int .i64 b.v,.int .i64 b.l,.int .i64 b.i] 24)) (.cells #[.int .u8 k] 5);have k0:=zkf (heap_alloc_new W (.cells #[.int .i64 b.v,.int .i64 b.l,.int .i64 b.i] 24)) (.cells #[.int .u8 k] 5);have k1:=heap_alloc_new (W.alloc (.cells #[.int .i64 b.v,.int .i64 b.l,.int .i64 b.i] 24)) (.cells #[.int .u8 k] 5);rw[World.size_alloc]at k1;obtain⟨w2,hw2⟩:=zX ((W.alloc (.cells #[.int .i64 b.v,.int .i64 b.l,.int .i64 b.i] 24)).alloc (.cells #[.int .u8 k] 5));obtain⟨N,hN⟩:=zX (W.heap.size);rw[hw2]at hb2 k0 k1;have HZ2:=zh (show w2.heap.size=N+2 by rw[<-hw2,<-hN];simp);have qw:=zh hN;rw[hN]at k0 k1;have xG:=zh (fun w' (h:Below w2.heap.size w2 w')=>zkc k0 h);have jJ:=zh (fun w' (h:Below w2.heap.size w2 w')=>zkc k1 h);have iL:=zh (fun w' (h:Below w2.heap.size w2 w')=>zkb hb2 h)
 have jV:=zh (And.intro hl hk);have fE:=zh (zs w2);have yT:=zh zsM;obtain⟨BL,hBL⟩:=zX (boxL vs b);have ah:=zh hBL;have aX:=zh (fun w' (h:Below w2.heap.size w2 w')=>zu2 vs b A1 c1 w' (Bw.out _ (iL.out _ h)) hl);simp only[hBL]at aX;clear hb2 k0 k1 hr hl hk hBL;obtain⟨x0,x1,x2⟩:=zky (xG.out _ fE.out);go_enter func3,ntmps3;go_upto_region 1 with fail
 try rw[hw2]
 try rw[hN]
 clear hw2 hN x0 x1 x2;go_wp2_with fail;refine(yT.out _).mono ?_;rintro en w3 ⟨rfl,hb3⟩;have iX:=zh (zkb fE.out hb3);clear hb3;obtain⟨x0,x1,x2⟩:=zky (xG.out _ iX.out);go_wp2_with fail;refine(aX.out _ iX.out).mono ?_;rintro en w4 ⟨rfl,hb4⟩;have vS:=zh (zkb iX.out hb4);clear hb4 x0 x1 x2
 cases BL
 ·go_wp2_with fail;refine(yT.out _).mono ?_;rintro en w7 ⟨rfl,qU⟩;have HC7:=zh (zkb vS.out qU);clear qU;go_wp2_with fail;go_ret;exact⟨rfl,iL.out _ HC7.out⟩
 have hbx:=ah.out;simp only[boxL,Bool.and_eq_true,decide_eq_true_eq]at hbx;have gy:(b.ok&&svB vs)=true:=by simp[hbx.1.2]
 have nQ:=zh (And.intro gy (And.intro hbx.2 (zxW gy hbx.2)));have qg:=zh (zxl vs b A1 c1 w4 (Bw.out _ (iL.out _ vS.out)) gy hbx.2);rw[zu8 gy hbx.2]at qg;obtain⟨L,hL⟩:=zX (allS b (lenE vs b));have dN:=zh hL;rw[hL]at qg nQ;obtain⟨nl,hnl⟩:=zX (L.length);have oz:=zh hnl;rw[hnl]at qg nQ;clear hbx gy hL hnl;obtain⟨x0,x1,x2⟩:=zky (xG.out _ vS.out);go_wp2_with fail;refine qg.out.mono ?_;rintro en w5 ⟨vl,rfl,⟨A7,c7,rfl,qQ,nU⟩,hb5⟩;have gY:=zh (zkb vS.out hb5);have ou:=zh nU;clear hb5 nU qg x0 x1 x2;go_upto_region 5 with fail;have aW:=zka (zs w5) (.cells #[.int .i64 0] 3);have kn:=heap_alloc_new w5 (.cells #[.int .i64 0] 3);obtain⟨w6,oO⟩:=zX (w5.alloc (.cells #[.int .i64 0] 3));obtain⟨Bn,kG⟩:=zX (w5.heap.size);rw[oO]at aW kn
 try rw[oO]
 have dK:w6.heap.size=Bn+1:=by rw[<-oO,<-kG];simp
 rw[kG]at kn
 try rw[kG]
 have hN5:N+2<=Bn:=by have:=gY.out.size;have:=HZ2.out;omega
 have hlo:∀q,q<Bn->w6.heap[q]?=w5.heap[q]?:=fun q hq=>aW.block q (by omega);have HT:=zh (zwY (B:=Bn+1) (bn:=Bn) (bk:=N+1) (w1:=w6) (vs:=vs) (b:=b) (by omega) (by omega) (by omega) ((hlo _ (by omega)).trans (jJ.out _ gY.out)) jV.out.2 nQ.out.1 (by rw[dN.out,oz.out];exact nQ.out.2.2));obtain⟨m,hm⟩:=zX ((k.tmod 70).toNat);rw[hm]at HT;have iG:=zh (show k.tmod 70=(m:Int)/\m<70 by
  have h1:=Int.tmod_nonneg 70 jV.out.2.1;have h2:=Int.tmod_lt_of_pos k (show(0:Int)<70 by decide);omega)
 have aZ:=zh (show Calls _ _ _ _ (FstP (firE (fun n _=>n==m) 0 (allS b (lenE vs b))) (CntI (Bn+1) Bn w6) w6)from znr (W:=w6) (A1:=A1) (c1:=c1) (vs:=vs) (b:=b) (Bw.out _ (zkb (iL.out _ gY.out) aW)) jV.out.1 nQ.out.1 (by rw[dN.out,oz.out];exact Nat.le_trans nQ.out.2.2 (by decide)) zzP (by rw[dK];exact HT.out) ⟨by omega,kn,fun _ _ _=>rfl⟩);rw[dN.out]at aZ;obtain⟨⟨s1,n1,ok1⟩,hR⟩:=zX (firE (fun n _=>n==m) 0 L);have dD:=zh hR;rw[hR]at aZ;have HLO:=zh hlo;have HZ6:=zh (And.intro dK hN5);have nN:=zh (zkb gY.out aW);have iN:=zh kG;clear aW kn oO dK hlo hR hm hN5 kG HT;obtain⟨x0,x1,x2⟩:=zky (xG.out _ nN.out);have ma:∀(fn:Fn) (first cap:Array Value) (w:World),(Instr.makeFunc fn first cap).run prog w=.ok (.func fn first cap) w:=fun _ _ _ _=>rfl;go_wp2_with fail;refine aZ.out.mono ?_;rintro en w7 ⟨v7,rfl,hs7,bu,mE⟩;simp only at hs7 bu
 obtain⟨As,cs,Bs,ds,Ds,es,rfl⟩:∃A c B d D e,v7=.agg #[.slice A s1.cells.length c,.slice B s1.tin.length d,.slice D s1.tout.length e]:=by
  obtain⟨A,c,B,d,D,e,h,-⟩:=hs7;exact⟨_,_,_,_,_,_,h⟩
 have hlo7:∀q,q<Bn->w7.heap[q]?=w5.heap[q]?:=fun q hq=>(bu.same q (by omega) (by omega)).trans (HLO.out q hq);have hbW:Below w2.heap.size w2 w7:=⟨mE.os.trans nN.out.os,mE.tape.trans nN.out.tape,mE.output.trans nN.out.output,Nat.le_trans nN.out.size mE.size,fun q hq=>(bu.same q (by have:=HZ2.out;have:=HZ6.out;omega) (by have:=HZ2.out;have:=HZ6.out;omega)).trans (nN.out.block q hq)⟩
 have dz:=zka (zs w7) (.cells #[.slice As s1.cells.length cs,.slice Bs s1.tin.length ds,.slice Ds s1.tout.length es] 32);have k8:=heap_alloc_new w7 (.cells #[.slice As s1.cells.length cs,.slice Bs s1.tin.length ds,.slice Ds s1.tout.length es] 32);have xW:=hs7.any.later dz;obtain⟨w8,hw8⟩:=zX (w7.alloc (.cells #[.slice As s1.cells.length cs,.slice Bs s1.tin.length ds,.slice Ds s1.tout.length es] 32));obtain⟨N7,AB⟩:=zX (w7.heap.size);rw[hw8]at dz k8 xW;rw[AB]at k8;have yS:=zh (zkb hbW dz);have qA:=zh (fun w' (h:Below w8.heap.size w8 w')=>zkc k8 h);have HS8:=zh xW;have yQ:=zh (fun w' (h:Below w8.heap.size w8 w')=>zkc (zkc bu.cnt dz) h)
 have HRW:=zh (show ∀w',Below w8.heap.size w8 w'->∀j (hj:j<L.length),∃bb o u v x,A7=some ⟨bb,o,none⟩/\w'.cell? ⟨bb,o+j*3,none⟩=some u/\w'.cell? ⟨bb,o+j*3+1,none⟩=some v/\w'.cell? ⟨bb,o+j*3+2,none⟩=some x/\SV w' Any L[j] (.agg #[u,v,x])from fun w' h j hj=>by
  obtain⟨bb,o,u,v,x,e,c0,c1,c2,hsv⟩:=ou.out j hj;have hbb:bb<Bn:=by have:=World.block_lt_of_cell? w5 _ c0;have:=iN.out;simp only at *;omega
  have hq:∀q,q<Bn->w'.heap[q]?=w5.heap[q]?:=fun q hq=>(h.block q (by have:=dz.size;have:=bu.size;omega)).trans ((dz.block q (by have:=bu.size;omega)).trans (hlo7 q hq));have hcl:∀oo z,w5.cell? ⟨bb,oo,none⟩=some z->w'.cell? ⟨bb,oo,none⟩=some z:=fun oo z hz=>(World.cell?_of_block (a:=⟨bb,oo,none⟩) (hq bb hbb)).trans hz;exact⟨bb,o,u,v,x,e,hcl _ _ c0,hcl _ _ c1,hcl _ _ c2,hsv.keep (fun _ _ _=>trivial) fun q h _=>hq q (by have:=iN.out;omega)⟩)
 clear hs7 bu mE hlo7 hbW dz k8 xW x0 x1 x2 aZ ma;have HD8:=zh (zs w8);go_upto_region 6 with fail
 try rw[hw8]
 try rw[AB]
 clear hw8 AB;obtain⟨x0,x1,x2⟩:=zky (xG.out _ yS.out);have HFZ:=zh (zvE (W:=w8) (A1:=A1) (n1:=vs.length) (c1:=c1) (b:=b));go_wp2_with fail;refine HFZ.out.mono ?_;rintro en w9 ⟨rfl,aU⟩;have Ag:=zka aU (.cells #[.slice none 0 0,.slice none 0 0,.slice none 0 0] 32);have kA:=heap_alloc_new w9 (.cells #[.slice none 0 0,.slice none 0 0,.slice none 0 0] 32);go_upto_region 7 with fail;obtain⟨wA,oN⟩:=zX (w9.alloc (.cells #[.slice none 0 0,.slice none 0 0,.slice none 0 0] 32));obtain⟨NA,Az⟩:=zX (w9.heap.size);rw[oN]at Ag kA
 try rw[oN]
 rw[Az]at kA
 try rw[Az]
 have qG:=zh Ag;have BP:=zh kA;clear x0 x1 x2 aU Ag kA oN Az;obtain⟨z0,z1,z2⟩:=zky BP.out;have n0:wA.cell? ⟨Bn,0,none⟩=some (.int .i64 (n1:Int)):=zc (yQ.out _ qG.out) rfl;have u0:wA.cell? ⟨N+1,0,none⟩=some (.int .u8 k):=zc (jJ.out _ (zkb yS.out qG.out)) rfl;obtain⟨M,hM⟩:=zX (m+1);have hwM:wrap64 ((wrap64 k).tmod 70+1)=(M:Int):=by
  have h1:=jV.out.2;have h2:=iG.out;rw[IntWalk.wrap64_in k (by omega),h2.1,IntWalk.wrap64_in _ (by omega)];omega
 have HM:=zh hM;clear hM;have hq0:((n1:Int) != (n1:Int))=false:=by simp
 go_upto_region 10 with fail;rw[hwM];clear hwM n0 u0 z0 z1 z2;by_cases hle:m<nl
 ·have hle1:(M:Int)<=(nl:Int):=by have:=HM.out;omega
  have hfe:=zwN L m (by rw[oz.out];exact hle);rw[dD.out]at hfe;injection hfe with e1 e2;injection e2 with e2 e3;have e2:n1=M:=by rw[e2];exact HM.out
  subst e2 e3;have eF:=zh e1;clear e1;obtain⟨bb,o,u,v,x,rfl,r0,r1,r2,hsv⟩:=HRW.out _ qG.out m (by rw[oz.out];exact hle);rw[<-eF.out]at hsv;obtain⟨At,ct,Bt,dt,Dt,et,hag,-⟩:=id hsv;injection hag with hag;simp only[Array.mk.injEq,List.cons.injEq,and_true]at hag;obtain⟨rfl,rfl,rfl⟩:=hag;have kK:=zh hsv;have HRR:=zh (And.intro r0 (And.intro r1 r2));clear hsv r0 r1 r2;go_upto_region 11 with fail;have HST:=zh (fun w' (h:Below wA.heap.size wA w')=>(⟨zky (zkc (qA.out _ qG.out) h),zb h HRR.out.1,zb h HRR.out.2.1,zb h HRR.out.2.2⟩:stC w' N7 As s1.cells.length cs Bs s1.tin.length ds Ds s1.tout.length es/\w'.cell? ⟨bb,o+m*3,none⟩=some (.slice At s1.cells.length ct)/\w'.cell? ⟨bb,o+m*3+1,none⟩=some (.slice Bt s1.tin.length dt)/\w'.cell? ⟨bb,o+m*3+2,none⟩=some (.slice Dt s1.tout.length et)))
  have hSS:zW (fun w':World=>stC w' N7 As s1.cells.length cs Bs s1.tin.length ds Ds s1.tout.length es/\zv w' bb (o+m*3) (.slice At s1.cells.length ct)/\zv w' bb (o+m*3+1) (.slice Bt s1.tin.length dt)/\zv w' bb (o+m*3+2) (.slice Dt s1.tout.length et)) zU wA.drew:=⟨HST.out _ zr.drew,trivial⟩
  have hw1:wrap64 ((n1:Int)-1)=(m:Int):=by have:=HM.out;have:=iG.out.2;rw[IntWalk.wrap64_in _ (by omega)];omega
  have hb0:(0:Int)<=(m:Int):=by omega
  have vY:IntKind.i64.wrap (m:Int)=(m:Int):=by have h1:=iG.out.2;rw[IntKind.wrap_i64];omega
  have hb1:(m:Int)<(nl:Int):=by omega
  have dQ:=zh (znl nQ.out.1 s1 (by rw[dN.out,eF.out];exact List.getElem_mem _)).2;have hle0:=hle;clear eF HM hle1;refine wp_region_noPanic ?_;refine zG hSS 20 ?_;refine zT 0 hSS ?_;refine zT 1 hSS ?_;refine zT 2 hSS ?_;refine zT 3 hSS ?_;refine zT 4 hSS ?_;refine zT 5 hSS ?_;refine zT 6 hSS ?_;refine zT 7 hSS ?_;refine zT 8 hSS ?_;refine zT 9 hSS ?_;refine zT 10 hSS ?_;refine zT 11 hSS ?_;refine zT 12 hSS ?_;have hSA:SV wA.drew Any s1 (.agg #[.slice As s1.cells.length cs,.slice Bs s1.tin.length ds,.slice Ds s1.tout.length es]):=HS8.out.later (qG.out.trans (zr.drew.mono qG.out.size));have dA:SV wA.drew Any s1 (.agg #[.slice At s1.cells.length ct,.slice Bt s1.tin.length dt,.slice Dt s1.tout.length et]):=kK.out.later zr.drew;have hcon:=ztL hSA dA (by have:=dQ.out;omega)
  have had:Calls prog 14 [.agg #[.slice As s1.cells.length cs,.slice Bs s1.tin.length ds,.slice Ds s1.tout.length es],.agg #[.slice At s1.cells.length ct,.slice Bt s1.tin.length dt,.slice Dt s1.tout.length et]].toArray wA.drew fun e' W'=>∃z,e'=.returned z/\(z=.bool true/\Below wA.heap.size wA W'):=hcon.mono fun e' W' ⟨h1,h2⟩=>⟨_,h1,rfl,(zs wA).drew.trans (h2.mono (zs wA).drew.size)⟩
  refine zo 13 fun K hK=>?_;refine zlg (by rfl) (.func 14) [.tmp 79,.tmp 84] _ (by rfl) 14 _ zwF (by rfl) [.agg #[.slice As s1.cells.length cs,.slice Bs s1.tin.length ds,.slice Ds s1.tout.length es],.agg #[.slice At s1.cells.length ct,.slice Bt s1.tin.length dt,.slice Dt s1.tout.length et]] (by rfl) _ had ?_;rintro z wB ⟨rfl,Af⟩;have hS2:=zV hSS (HST.out _ Af) trivial;refine hK.out _ _ hS2 ?_;clear hK K had hcon hSA dA;(try simp only[zQ]);refine zT 14 hS2 ?_;refine zT 15 hS2 ?_;refine zd ?_;refine NoPanic.normal ?_;have oJ:=zh (zkb qG.out Af);clear hS2 Af;go_wp2_with fail;go_ret;exact⟨rfl,iL.out _ (zkb yS.out oJ.out)⟩
 ·have hle1:¬ (M:Int)<=(nl:Int):=by have:=HM.out;omega
  have hfe:=zuG L m (by rw[oz.out];exact hle);rw[dD.out,oz.out]at hfe;injection hfe with e1 e2;injection e2 with e2 e3;subst e1 e2 e3;obtain⟨y0,y1,y2⟩:=zky (qA.out _ qG.out);go_wp2_with fail;go_ret;exact⟨rfl,iL.out _ (zkb yS.out qG.out)⟩
end
section
open Go.RowKit Go.ChangeShapes Go.WideShapes Go.ChangeAt Go.Deep
theorem zmR{H:Type}{P:Program}{e:TypeId}:∀ {l:List (DataW H)} {d:DataW H},d∈l->∀n∈d.weights P e,n∈DataW.weightsAll P e l
 | d0::l,d,hd,n,hn=>by
  simp only[DataW.weightsAll,List.mem_append];rcases List.mem_cons.1 hd with rfl|hd
  ·exact .inl hn
  ·exact .inr (zmR hd n hn)
section
variable {H:Type} {enc:TypeId×Value->H} {w:World} {held:Bool}
def zeroT':T:=.nd 0 0 ⟨#[]⟩ []
end
theorem Tryz.own:ownKnob prog.godebug=none:=by kernel_rfl
theorem Tryz.laidOut:laidOutB prog=true:=by kernel_rfl
theorem zuZ:prog.cellsOf 57=3:=by kernel_rfl
theorem zyX:prog.bytesOf 57=32:=by kernel_rfl
section
variable {H:Type} {enc:TypeId×Value->H} {w:World} {held:Bool}
theorem zwg{ty E:TypeId}{n b:Nat}(ht:prog.underlying ty=some (.slice E))(hc:prog.cellsOf E=n)(hb:prog.bytesOf E=b){fuel:Nat}{cs:List Value}{x:DataW H×List MemPlace}
  (h:DataW.trod enc prog w 0 (fun _=>true) held fuel ty cs=some x)(hw:∀q∈x.1.weights prog ty,q<=reachBytes) :
  cs=[.slice none 0 0]\/∃a len cap,cs=[.slice (some a) len cap]/\len<=cap/\cap*b<=reachBytes/\∀i,i<len->∃cs' y n',w.cells? 0 (a.add (i*n)) n=some cs'/\DataW.trod enc prog w 0 (fun _=>true) held n' E cs'=some y/\∀q∈y.1.weights prog E,q<=reachBytes:=by
 have hsl:=DataW.trod_slice ht h;rcases hsl with⟨e3,e3'⟩|⟨a,len,cap,elems,rest,n',hn',e3,e3',_,hl,hm,hel,hat,hsp,_⟩
 ·exact .inl e3
 ·refine .inr ⟨a,len,cap,e3,hl,?_,?_⟩
  ·obtain⟨hrl,_⟩:=hsp rfl;subst e3';simp only[DataW.weights,ht,hb]at hw;have:=hw _ (List.mem_cons_self ..);simp only[List.length_map]at this;rw[hel,hrl]at this;rw[show cap=len+(cap-len) by omega];exact this
  ·intro i hi;subst e3';simp only[DataW.weights,ht,hb]at hw;have hi':i<elems.length:=by omega
   have h1:=hat i (by omega);rw[List.getElem?_eq_getElem hi',hc]at h1;obtain⟨cs',hcs,ht'⟩:=Option.bind_eq_some_iff.1 h1;exact⟨cs',elems[i],n',hcs,ht',fun q hq=>hw q (List.mem_cons_of_mem _ (List.mem_append_left _ (zmR (List.mem_map_of_mem (List.getElem_mem hi')) q hq)))⟩
theorem zyn{fuel:Nat}{cs:List Value}{x:DataW H×List MemPlace}(h:DataW.trod enc prog w 0 (fun _=>true) held fuel 57 cs=some x) :
  ∃v:VD,cs=[.string v.s,.int .u8 v.k,.int .i64 v.n]/\FldV v:=by
 have hts:=DataW.trod_struct underlying57 h;obtain⟨xs,n,hfu,hx,hcl,hxl,hg⟩:=hts;rw[zuZ]at hcl
 match cs,hcl with
 | [c0,c1,c2],_ =>
 match xs,hxl with
 | [y0,y1,y2],_ =>
 have g0:=hg 0 _ rfl;have g1:=hg 1 _ rfl;have g2:=hg 2 _ rfl;obtain⟨s,e2,e2',ws⟩:=DataW.trod_string underlying9 g0;obtain⟨k,e0,e0',wk⟩:=DataW.trod_int underlying5 g1;obtain⟨m,e1,e1',wm⟩:=DataW.trod_int underlying3 g2;injection e0 with e0;injection e1 with e1;injection e2 with e2;subst e0 e1 e2;refine⟨⟨s,k,m⟩,rfl,ws,?_,?_⟩
 ·have:=wk;simp[Lit.wf,IntKind.min,IntKind.max,IntKind.signed,IntKind.bits]at this;constructor<;>simp only<;>omega
 ·have:=wm;simp[Lit.wf,IntKind.min,IntKind.max,IntKind.signed,IntKind.bits]at this;constructor<;>simp only<;>omega
theorem zro{α:Type}[Inhabited α]{n:Nat}{P:Nat->α->Prop}(h:∀i,i<n->∃x,P i x):∃l:List α,l.length=n/\∀i (hi:i<l.length),P i l[i]:=by
 obtain⟨f,hf⟩:=choose_lt h;exact⟨(List.range n).map f,by simp,fun i hi=>by simp only[List.getElem_map,List.getElem_range];exact hf i (by simpa using hi)⟩
instance:Inhabited VD:=⟨⟨⟨#[]⟩,0,0⟩⟩
theorem zsT{fuel:Nat}{cs:List Value}{x:DataW H×List MemPlace}(h:DataW.trod enc prog w 0 (fun _=>true) held fuel 22 cs=some x)(hw:∀q∈x.1.weights prog 22,q<=reachBytes) :
  ∃(A:Option Addr) (vs:List VD) (c:Nat),cs=[.slice A vs.length c]/\RowV w Any A vs/\vs.length<=4398046510976/\vs.length<=c:=by
 rcases zwg underlying22 zuZ zyX h hw with rfl|⟨a,len,cap,rfl,hl,hcap,hat⟩
 ·exact⟨none,[],0,rfl,fun i hi=>absurd hi (by simp),Nat.zero_le _,Nat.zero_le _⟩
 ·obtain⟨vs,hvl,hvs⟩:=zro (n:=len) (P:=fun i (v:VD)=>w.cells? 0 (a.add (i*3)) 3=some [.string v.s,.int .u8 v.k,.int .i64 v.n]/\FldV v) fun i hi=>by
   obtain⟨cs',y,n',hcs,ht,_⟩:=hat i hi;obtain⟨v,rfl,hf⟩:=zyn ht;exact⟨v,hcs,hf⟩
  refine⟨some a,vs,cap,by rw[hvl],fun i hi=>?_,by unfold reachBytes at hcap;omega,by omega⟩;obtain⟨hc,hf⟩:=hvs i hi;obtain⟨_,_,hcell⟩:=World.cells?_some hc;refine⟨a,rfl,trivial,⟨?_,?_,?_⟩,hf⟩
  ·have:=hcell 0 (by omega);simpa[Addr.add]using this
  ·have:=hcell 1 (by omega);simpa[Addr.add]using this
  ·have:=hcell 2 (by omega);simpa[Addr.add]using this
theorem zt1{fuel:Nat}{cs:List Value}{x:DataW H×List MemPlace}(h:DataW.trod enc prog w 0 (fun _=>true) held fuel 22 cs=some x)(hw:∀q∈x.1.weights prog 22,q<=reachBytes) :
  ∃(A:Option Addr) (vs:List VD) (c:Nat),cs=[.slice A vs.length c]/\RowV w Any A vs/\vs.length<=LV/\vs.length<=c:=by
 obtain⟨A,vs,c,h1,h2,h3,h4⟩:=zsT h hw;exact⟨A,vs,c,h1,h2,by unfold LV;omega,h4⟩
instance:Inhabited T:=⟨zeroT'⟩
end
section
variable {H:Type} {enc:TypeId×Value->H} {w:World} {held:Bool}
instance:Inhabited (List Int):=⟨[]⟩
theorem zx3{W:World}{base:Nat}{v:Value}{d:DataW H}{p:List MemPlace}(hok:Value.okWide prog W .any base 22 v)
  (h:DataW.Trod enc prog W 0 (fun _=>true) true 22 v d p)(hw:∀n∈d.weights prog 22,n<=reachBytes):∃(A:Option Addr) (vs:List VD) (c:Nat),v=.slice A vs.length c/\RowV W Any A vs/\vs.length<=LV:=by
 obtain⟨a,len,cap,rfl⟩:=okWide_slice underlying22 hok;obtain⟨fuel,hf⟩:=h;obtain⟨A,vs,c,e,hr,h1,h2⟩:=zt1 hf hw;refine⟨A,vs,c,?_,hr,h1⟩;simpa[Value.cells]using e
end
theorem zwZ:prog.cellsOf 24=3:=by kernel_rfl
theorem zzX{H:Type}{enc:TypeId×Value->H}{W:World}{base:Nat}{v:Value}{d:DataW H}{p:List MemPlace}(hok:Value.okWide prog W .any base 24 v)
  (h:DataW.Trod enc prog W 0 (fun _=>true) true 24 v d p):∃x:BX,v=.agg #[.int .i64 x.v,.int .i64 x.l,.int .i64 x.i]/\(-9223372036854775808<=x.v/\x.v<=9223372036854775807)/\(-9223372036854775808<=x.l/\x.l<=9223372036854775807)/\(-9223372036854775808<=x.i/\x.i<=9223372036854775807):=by
 obtain⟨cs,rfl,hcs⟩:=okWide_struct underlying24 hok;obtain⟨fuel,hf⟩:=h;have hts:=DataW.trod_struct underlying24 hf;obtain⟨xs,n,hfu,hx,hcl,hxl,hg⟩:=hts;rw[zwZ]at hcl;obtain⟨cs⟩:=cs;simp only[Value.cells]at hcl hg
 match cs,hcl with
 | [c0,c1,c2],_ =>
 match xs,hxl with
 | [y0,y1,y2],_ =>
 have g0:=hg 0 _ rfl;have g1:=hg 1 _ rfl;have g2:=hg 2 _ rfl;obtain⟨m0,e0,_,w0⟩:=DataW.trod_int underlying3 g0;obtain⟨m1,e1,_,w1⟩:=DataW.trod_int underlying3 g1;obtain⟨m2,e2,_,w2⟩:=DataW.trod_int underlying3 g2;injection e0 with e0;injection e1 with e1;injection e2 with e2;subst e0 e1 e2;simp[Lit.wf,IntKind.min,IntKind.max,IntKind.signed,IntKind.bits]at w0 w1 w2;exact⟨⟨m0,m1,m2⟩,rfl,⟨by simp only;omega,by simp only;omega⟩,⟨by simp only;omega,by simp only;omega⟩,⟨by simp only;omega,by simp only;omega⟩⟩
end
end Go.Proofs.YtembgnhbpmfhpaaGreat
