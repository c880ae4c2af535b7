/-
  Texts of the proof, put together without their remarks: Sfi, Ie, Is, Ic, Iu, Iw, Ix, Iy, Il, Iv, Id, It, Ik.
-/
import Derived.Test.YtembgnhbpmfhpaaGreatK9
set_option linter.unusedSimpArgs false
set_option linter.unusedVariables false
set_option maxHeartbeats 8000000
set_option maxRecDepth 100000
namespace Go.Proofs.YtembgnhbpmfhpaaGreat
section
open Go Go.RowKit
attribute [local go_sem] Oper.semAt_some
theorem al5F(W:World)(o0 o1 o2 o3 o4:Obj):Below W.heap.size W (((((W.alloc o0).alloc o1).alloc o2).alloc o3).alloc o4)/\(((((W.alloc o0).alloc o1).alloc o2).alloc o3).alloc o4).heap.size=W.heap.size+5/\(((((W.alloc o0).alloc o1).alloc o2).alloc o3).alloc o4).heap[W.heap.size]?=some o0/\(((((W.alloc o0).alloc o1).alloc o2).alloc o3).alloc o4).heap[W.heap.size+1]?=some o1/\(((((W.alloc o0).alloc o1).alloc o2).alloc o3).alloc o4).heap[W.heap.size+2]?=some o2/\(((((W.alloc o0).alloc o1).alloc o2).alloc o3).alloc o4).heap[W.heap.size+3]?=some o3/\(((((W.alloc o0).alloc o1).alloc o2).alloc o3).alloc o4).heap[W.heap.size+4]?=some o4 :=
 ⟨zkb (zkb (zkb (zkb (zkb zr _) _) _) _) _,by simp,zkf (zkf (zkf (zkf (zl4 _ rfl _) _) _) _) _,zkf (zkf (zkf (zl4 _ (by simp) _) _) _) _,zkf (zkf (zl4 _ (by simp) _) _) _,zkf (zl4 _ (by simp) _) _,zl4 _ (by simp) _⟩
structure zs3(fid:FuncId)(lb:Array Value)(f:Nat->SS->Bool)(xs:List SS)(B0:Nat)(Inv:Nat->World->Prop):Prop where
 keep:∀n W W',Inv n W->W.heap.size<=W'.heap.size->(∀b,b<B0->W'.heap[b]?=W.heap[b]?)->Inv n W'
 size:∀n W,Inv n W->B0<=W.heap.size
 call:∀n s v W g,Inv n W->B0<=g->g<=W.heap.size->OwnS W g s v->xs[n]?=some s->Calls Tryz.prog fid (#[v]++lb) W fun e W'=>e=.returned (.bool (f n s))/\Inv (n+1) W'/\Chg (fun b=>b<B0\/g<=b) W W'
theorem zpM{f:Nat->SS->Bool}:∀ {a b:List SS} {n:Nat},(∀i (h:i<a.length),f (n+i) a[i]=false)->firE f n (a++b)=firE f (n+a.length) b
 | [],_,_,_=>rfl
 | x::a,b,n,h=>by
  have h0:f n x=false:=h 0 (by simp);rw[List.cons_append,firE,if_neg (by rw[h0];simp),zpM (a:=a) (n:=n+1) fun i hi=>by have:=h (i+1) (by simpa using hi);simpa[Nat.add_assoc,Nat.add_comm 1 i]using this];congr 1;simp;omega
theorem zqD{f:Nat->SS->Bool}{l:List SS}(h:∀i (h:i<l.length),f i l[i]=false):firE f 0 l=(nilS,l.length,false):=by
 have:=zpM (f:=f) (a:=l) (b:=[]) (n:=0) fun i hi=>by simpa using h i hi
 rw[List.append_nil]at this;rw[this,Nat.zero_add];rfl
theorem zuw{f:Nat->SS->Bool}{l bE:List SS}{s:SS}(hp:(bE++[s]) <+: l)(h:∀i (h:i<bE.length),f i bE[i]=false)(hs:f bE.length s=true):firE f 0 l=(s,bE.length+1,true):=by
 obtain⟨t,rfl⟩:=hp;rw[List.append_assoc,zpM (n:=0) fun i hi=>by simpa using h i hi,Nat.zero_add]
 show firE f bE.length (s::t)=_
 rw[firE,if_pos hs]
theorem SV.nilF(w:World)(S:Nat->Prop):SV w S nilS (.agg #[.slice none 0 0,.slice none 0 0,.slice none 0 0]) :=
 ⟨none,0,none,0,none,0,rfl,fun i hi=>by simp[nilS]at hi,fun i hi=>by simp[nilS]at hi,fun i hi=>by simp[nilS]at hi,by simp[nilS],by simp[nilS],by simp[nilS],by simp[nilS,LI],by intro l hl;simp[nilS]at hl,by simp[nilS,LI],by simp[nilS,LI]⟩
theorem zzQ:IsFn Tryz.prog 93 Tryz.f93:=⟨Tryz.func93,by kernel_rfl,by kernel_rfl⟩
theorem zsT:IsFn Tryz.prog 47 Tryz.f47:=⟨Tryz.func47,by kernel_rfl,by kernel_rfl⟩
abbrev stC(w':World)(b:Nat)(A:Option Addr)(l c:Nat)(B:Option Addr)(m d:Nat)(D:Option Addr)(n e:Nat):Prop:=w'.cell? ⟨b,0,none⟩=some (.slice A l c)/\w'.cell? ⟨b,1,none⟩=some (.slice B m d)/\w'.cell? ⟨b,2,none⟩=some (.slice D n e)
def FstP(r:SS×Nat×Bool)(Inv:Nat->World->Prop)(W:World)(e:Ending)(W':World):Prop :=
 ∃v,e=.returned (.tuple #[v,.int .i64 (r.2.1:Int),.bool r.2.2])/\SV W' (fun q=>W.heap.size<=q) r.1 v/\Inv r.2.1 W'/\Chg (fun b=>b<W.heap.size) W W'
def FiI(N:Nat)(w5:World)(f:Nat->SS->Bool)(Inv:Nat->World->Prop)(pre:List SS)(C:Nat->Prop)(W:World):Prop :=
 (∀b,C b↔b<N+6)/\(∀b,N<=b->b<N+5->W.heap[b]?=w5.heap[b]?)/\W.heap[N+5]?=some (.cells #[.int .i64 (pre.length:Int)] 3 (0,0))/\Inv pre.length W/\(∀i (h:i<pre.length),f i pre[i]=false)/\N+6<=W.heap.size
def FiX(N:Nat)(w5:World)(f:Nat->SS->Bool)(Inv:Nat->World->Prop)(xs pre:List SS)(C:Nat->Prop)(W:World):Prop:=∃bE s g X A l c B1 m d D k e,pre=bE++[s]/\pre <+: xs/\(∀i (h:i<bE.length),f i bE[i]=false)/\f bE.length s=true/\(∀b,C b↔b<N+6\/(g<=b/\b<X))/\w5.heap.size<g/\X<=W.heap.size/\N+6<=W.heap.size /\
 Inv pre.length W/\W.heap[N+2]?=some (.cells #[.slice A l c,.slice B1 m d,.slice D k e] 32 (0,0))/\W.heap[N+3]?=some (.cells #[.int .i64 (pre.length:Int)] 3 (0,0))/\W.heap[N+4]?=some (.cells #[.bool true] 4 (0,0)) /\
 SV W (fun q=>g<=q/\q<X) s (.agg #[.slice A l c,.slice B1 m d,.slice D k e])
theorem FiI.chg{N:Nat}{w5 W W':World}{fid:FuncId}{lb:Array Value}{xs:List SS}{f:Nat->SS->Bool}{Inv:Nat->World->Prop}{pre:List SS}{C D:Nat->Prop}(h:FiI N w5 f Inv pre C W)(hT:zs3 fid lb f xs N Inv)(hc:Chg D W W')(hD:∀b,C b->¬ D b):FiI N w5 f Inv pre C W':=by
 obtain⟨h1,h2,h3,h4,h5,h6⟩:=h;have hk:∀b,b<N+6->W'.heap[b]?=W.heap[b]?:=fun b hb=>hc.block b (Nat.lt_of_lt_of_le hb h6) (hD b ((h1 b).2 hb));exact⟨h1,fun b hb hb5=>(hk b (by omega)).trans (h2 b hb hb5),(hk _ (by omega)).trans h3,hT.keep _ _ _ h4 hc.size fun b hb=>hk b (by omega),h5,Nat.le_trans h6 hc.size⟩
theorem FiX.chg{N:Nat}{w5 W W':World}{fid:FuncId}{lb:Array Value}{xs:List SS}{f:Nat->SS->Bool}{Inv:Nat->World->Prop}{pre:List SS}{C D:Nat->Prop}(h:FiX N w5 f Inv xs pre C W)(hT:zs3 fid lb f xs N Inv)(hc:Chg D W W')(hD:∀b,C b->¬ D b):FiX N w5 f Inv xs pre C W':=by
 obtain⟨bE,s,g,X,A,l,c,B1,m,d,E,k,e,h1,h2,h3,h4,h5,h6,h7,h8,h9,h10,h11,h12,lJ⟩:=h;have hk:∀b,b<N+6->W'.heap[b]?=W.heap[b]?:=fun b hb=>hc.block b (Nat.lt_of_lt_of_le hb h8) (hD b ((h5 b).2 (.inl hb)));exact⟨bE,s,g,X,A,l,c,B1,m,d,E,k,e,h1,h2,h3,h4,h5,h6,Nat.le_trans h7 hc.size,Nat.le_trans h8 hc.size,hT.keep _ _ _ h9 hc.size fun b hb=>hk b (by omega),(hk _ (by omega)).trans h10,(hk _ (by omega)).trans h11,(hk _ (by omega)).trans h12,lJ.keep (fun _ h _=>h) fun b hb _=>hc.block b (by omega) (hD b ((h5 b).2 (.inr hb)))⟩
theorem zoD{W:World}{vs:List VD}{b:BX}{A1:Option Addr}{c1:Nat}{fid:FuncId}{lb:Array Value}{f:Nat->SS->Bool}{Inv:Nat->World->Prop}(hr:RowV W Any A1 vs)(hl:vs.length<=LV)(hok:(b.ok&&svB vs)=true)
  (hm:(allS b (lenE vs b)).length<=1000000){ftn:Func}(hfn:IsFn Tryz.prog fid ftn)(hT:zs3 fid lb f (allS b (lenE vs b)) W.heap.size Inv)(h0:Inv 0 W) :
  Calls Tryz.prog 12 #[.slice A1 vs.length c1,.agg #[.int .i64 b.v,.int .i64 b.l,.int .i64 b.i],.func (.func fid) #[] lb] W (FstP (firE f 0 (allS b (lenE vs b))) Inv W):=by
 have kX:=zh (fun w' (hb:Below W.heap.size W w')=>zzh vs b A1 c1 w' (hr.later hb) hl hok);have dN:=zh hok;have HT:=zh hT;have H0:=zh h0;have HMX:=zh hm;have jL:=zh hfn;obtain⟨bv,bl,bi⟩:=b;obtain⟨N,hN⟩:=zX (W.heap.size);have HN:=zh hN;obtain⟨hb1,hz1,k0,k1,k2,k3,k4⟩:=al5F W (.cells #[.int .i64 bv,.int .i64 bl,.int .i64 bi] 24) (.cells #[.func (.func fid) #[] lb] 35) (.cells #[.slice none 0 0,.slice none 0 0,.slice none 0 0] 32) (.cells #[.int .i64 0] 3) (.cells #[.bool false] 4);obtain⟨w1,hw1⟩:=zX (((((W.alloc (.cells #[.int .i64 bv,.int .i64 bl,.int .i64 bi] 24)).alloc (.cells #[.func (.func fid) #[] lb] 35)).alloc (.cells #[.slice none 0 0,.slice none 0 0,.slice none 0 0] 32)).alloc (.cells #[.int .i64 0] 3)).alloc (.cells #[.bool false] 4));rw[hw1]at hb1 hz1 k0 k1 k2 k3 k4;rw[hN]at hz1 k0 k1 k2 k3 k4;have HB1:=zh hb1;have HZ1:=zh hz1;have aD:=zh k0;have az:=zh k1
 have aR:=zh k2;have gM:=zh k3;have dI:=zh k4;obtain⟨y0,y1,y2⟩:=zkr k0;have t0:w1.cell? ⟨N+1,0,none⟩=some (.func (.func fid) #[] lb):=zc k1 rfl;clear hr hl hok hT h0 hm hfn hb1 hz1 k0 k1 k2 k3 k4
 show Calls Tryz.prog 12 #[.slice A1 vs.length c1,.agg #[.int .i64 bv,.int .i64 bl,.int .i64 bi],.func (.func fid) #[] lb] W _
 refine(callsIn_wide (n:=3)).1 (callsIn_of_wp_marks Tryz.func12 rfl trivial ((wpIn_wide (n:=3)).2 ?_));simp only[Tryz.ntmps12,List.size_toArray,List.length_cons,List.length_nil,Nat.reduceAdd,Nat.reduceSub,Array.replicate_succ,Array.replicate_zero,List.push_toArray,List.append_toArray,List.nil_append,List.cons_append];have hbf:∀w,(binOp BinOp.eql 35 (.func (.func fid) #[] lb) .nilFunc).run Tryz.prog w=.ok (.bool false) w:=fun w=>by first|rfl|simp[go_sem]
 clear y0 y1 y2;go_upto_region 4 with fail;simp only[Nat.add_assoc,Nat.reduceAdd];have hk5:=heap_alloc_new w1 (.cells #[.int .i64 0] 3);have hb2:=zkb (zs w1) (.cells #[.int .i64 0] 3);obtain⟨w2,hw2⟩:=zX (w1.alloc (.cells #[.int .i64 0] 3));have hz2:w2.heap.size=N+6:=by rw[<-hw2];simp[HZ1.out]
 rw[hw2]at hk5 hb2 ⊢;rw[HZ1.out]at hk5 ⊢;have qf:=zh (zkc aD.out hb2);have jI:=zh (zkc az.out hb2);have qd:=zh (zkc aR.out hb2);have qc:=zh (zkc gM.out hb2);have jH:=zh (zkc dI.out hb2);have HK52:=zh hk5;have HB2:=zh (zka HB1.out hb2);have HZ2:=zh hz2;clear hk5 hb2 hz2 hw2 t0;obtain⟨y0,y1,y2⟩:=zkr qf.out;have jQ:=zh (kX.out _ HB2.out);go_wp2_with fail;refine jQ.out.mono ?_;rintro e5 w5 ⟨ko,xb,lb',A9,c9,rfl,hb5,g1,g2,g3,hM5⟩;have aP:=zh hb5;have HG5:=zh (And.intro g1 (And.intro g2 g3));have uz:=zh hM5;clear hb5 g1 g2 g3 hM5 y0 y1 y2 jQ;go_wp2_with fail;have hlb:=zlI dN.out
 have xJ:=zh (zvC (nf:=3-1) (S:=fun q=>w2.heap.size<=q/\q<w5.heap.size) ⟨uz.out.ok,uz.out.bx,uz.out.ls,uz.out.row.keep (fun b h hlt=>⟨h,hlt⟩) fun _ _ _=>rfl⟩ ⟨hlb.2.2.2.1,hlb.2.2.2.2⟩ ⟨by rw[hlb.1];omega,by rw[hlb.1];have:=hlb.2.1;omega⟩ fun q hq=>(hlb.2.2.1 q hq).2);clear hlb;have pG:=zh (show N+6<=w5.heap.size by have:=aP.out.size;have:=HZ2.out;omega);have HI0:=zh (HT.out.keep _ _ _ H0.out (zka HB2.out aP.out).size fun b hb=>(zka HB2.out aP.out).block b hb);rw[HN.out]at HT;refine(wpIn_wide (n:=3)).1 ?_;refine zsL (n:=3) (gf:=93) (lb := #[ptr0 ko,ptr0 xb,ptr0 lb']) rfl (zkN zzQ) xJ.out (fun l x vs' g W' h=>by obtain⟨v9,rfl,-,h2,-⟩:=h;exact⟨rfl,h2⟩)
  (FiI N w5 f Inv) (FiX N w5 f Inv (allS ⟨bv,bl,bi⟩ (lenE vs ⟨bv,bl,bi⟩))) (fun b=>b<N+6)
  (fun pre C W' W'' h hc=>h.chg HT.out hc fun b hb h=>h hb) (fun pre C W' W'' h hc=>h.chg HT.out hc fun b hb h=>h hb) (fun pre C W' h b hb=>Nat.lt_of_lt_of_le ((h.1 b).1 hb) h.2.2.2.2.2) (fun pre C W' h b hb=>by obtain⟨_,_,g,X,_,_,_,_,_,_,_,_,_,_,_,_,_,h5,h6,h7,h8,_⟩:=h;rcases(h5 b).1 hb with h|h<;>omega)
  (fun b h1 h2=>by
   have:=HG5.out;have:=HZ2.out;rcases h2 with h|h|h|h<;>omega) (fun b h=>by
   rcases h with rfl|rfl|rfl|h
   ·exact zkn uz.out.ok
   ·exact zkn uz.out.bx
   ·exact zkn uz.out.ls
   ·exact h.2) ⟨fun _=>Iff.rfl,fun _ _ _=>rfl,zkc HK52.out aP.out,HI0.out,fun i h=>by simp at h,pG.out⟩ ?_ ?_ ?_
 ·rintro l pre x C W3 vs' g hI vw Ah hl hlW hpre ⟨sv,rfl,hsv,zn⟩;clear vw;have hxm:x∈allS ⟨bv,bl,bi⟩ (lenE vs ⟨bv,bl,bi⟩):=hpre.subset (by simp);have hpl:pre.length<1000000:=by have h1:=hpre.length_le;have h2:=HMX.out;simp only[List.length_append,List.length_cons,List.length_nil]at h1;omega
  have hxc:x.cells.length<=100:=by
   obtain⟨y,hy,rfl⟩:=List.mem_map.1 hxm;have h1:=(zne rfl y hy).len;have h2:=zlI dN.out;simp only[stOf,List.length_dropLast];omega
  obtain⟨As,cs,Bs,ds,Ds,es,rfl⟩:∃A c B d D e,sv=.agg #[.slice A x.cells.length c,.slice B x.tin.length d,.slice D x.tout.length e]:=by
   obtain⟨A,c,B,d,D,e,rfl,-⟩:=hsv;exact⟨_,_,_,_,_,_,rfl⟩
  change Code.wpIn (Fence.wide.inRound l) (3-1-1) Tryz.prog _ _ _ _
  gi_wp2
  refine⟨(Chg.refl _ _).alloc _,fun W4 tq=>?_⟩;have hbx:=tq.keep (heap_alloc_new W3 (.cells #[.slice As x.cells.length cs,.slice Bs x.tin.length ds,.slice Ds x.tout.length es] 32)) (show ¬ W3.heap.size=l by omega);have sV:=zkb (zs W3) (.cells #[.slice As x.cells.length cs,.slice Bs x.tin.length ds,.slice Ds x.tout.length es] 32);have ve:=(hI.chg HT.out (Chg.of_below sV) (fun b hb h=>h)).chg HT.out tq (fun b hb h=>Ah (by have h:b=l:=h;rwa[h]at hb));have hsv4:SV W4 (fun q=>g<=q) x (.agg #[.slice As x.cells.length cs,.slice Bs x.tin.length ds,.slice Ds x.tout.length es]):=(hsv.later sV).keep (fun _ h _=>h) fun q h hlt=>tq.block q hlt (fun e:q=l=>by have h:g<=q:=h;omega);obtain⟨xp,hxp⟩:=zX (W3.heap.size);rw[hxp]at hbx ⊢;have hg6:N+6<=g:=by have:=pG.out;omega
  have hxp6:g<=xp:=by omega
  have z5:W4.cell? ⟨N+5,0,none⟩=some (.int .i64 (pre.length:Int)):=zc ve.2.2.1 rfl;have cf5:∀o,W4.frozen? ⟨N+5,o,none⟩=false:=fun o=>zf ve.2.2.1;obtain⟨W5,il,bP,jw⟩:=setU (o:=0) (.int .i64 ((pre.length:Int)+1)) ve.2.2.1;have HI4:=zh ve;have HSV4:=zh hsv4;have aX:=zh hbx;have HXC:=zh hxc;have HCLL:=zh Ah;have HXM:=zh (show(allS ⟨bv,bl,bi⟩ (lenE vs ⟨bv,bl,bi⟩))[pre.length]?=some x by obtain⟨t,ht⟩:=hpre;rw[<-ht];simp);have nZ:=zh (And.intro hl (And.intro hlW (And.intro zn (And.intro hg6 hxp6))));have gK:=zh hpre;have eH:=zh bP;have yG:=zh jw;clear hI hpre hbx ve hsv4 tq hsv hxc Ah hl hlW zn sV hxm bP jw hg6 hxp6;change Code.wpIn (Fence.wide.inRound l) (3-1-1) Tryz.prog _ _ _ _
  gi_upto_region 7 with fail
  have hk15:=eH.out.keep ((HI4.out.2.1 (N+1) (by omega) (by omega)).trans (zkc jI.out aP.out)) (fun e:N+1=N+5=>by omega);have hx5:=eH.out.keep aX.out (fun e:xp=N+5=>by have:=nZ.out;omega);have HSV5:=zh (HSV4.out.keep (S':=Any) (fun _ _ _=>trivial) fun q h hlt=>eH.out.block q hlt (fun e:q=N+5=>by have h:g<=q:=h;have:=nZ.out;omega));have nU:=zh hx5;have hSS:(fun w':World=>zv w' (N+1) 0 (.func (.func fid) #[] lb)/\stC w' xp As x.cells.length cs Bs x.tin.length ds Ds x.tout.length es) W5.drew:=⟨zc hk15 rfl,zkr hx5⟩
  refine zma (ro:=some l) (fun w':World=>zv w' (N+1) 0 (.func (.func fid) #[] lb)/\stC w' xp As x.cells.length cs Bs x.tin.length ds Ds x.tout.length es) (by kernel_rfl) ?_;clear hk15 hx5 z5 cf5 il;refine zI 0 hSS ?_;refine zI 1 hSS ?_;have hcl:=zp3 x _ W5.drew (HSV5.out.later zr.drew) (by have:=HXC.out;omega);have had:Calls Tryz.prog 47 [.agg #[.slice As x.cells.length cs,.slice Bs x.tin.length ds,.slice Ds x.tout.length es]].toArray W5.drew fun e w'=>∃u,e=.returned u/\(OwnS w' W5.heap.size x u/\Below W5.heap.size W5 w') :=
   hcl.mono fun e w' ⟨v,h1,h2,h3⟩=>⟨v,h1,h2,zka (zs W5).drew h3⟩
  refine znl (i:=2) (by kernel_rfl) rfl (by kernel_rfl) (by rfl) (fun K hK=>?_);refine zkd (by rfl) (.func 47) [.tmp 21] _ (by rfl) 47 _ zsT (by rfl) _ (by rfl) _ had ?_;rintro u w6 ⟨kF,hb6⟩;have wH:(fun w':World=>zv w' (N+1) 0 (.func (.func fid) #[] lb)/\stC w' xp As x.cells.length cs Bs x.tin.length ds Ds x.tout.length es) w6:=⟨zb hb6 hSS.1,zb hb6 hSS.2.1,zb hb6 hSS.2.2.1,zb hb6 hSS.2.2.2⟩
  refine hK.out _ _ wH ?_;clear hK K had hcl hSS;(try simp only[zQ]);have oz:W4.heap.size<=W5.heap.size:=eH.out.size;have hN4:N+6<=W4.heap.size:=HI4.out.2.2.2.2.2;have iB:Chg (fun q=>q=N+5) W4 w6:=eH.out.trans2 (Chg.of_below (C:=fun _=>False) hb6) fun b _ h=>h.elim;have bJ:Inv pre.length w6:=HT.out.keep _ _ _ HI4.out.2.2.2.1 iB.size fun b hb=>iB.block b (by omega) (fun e=>by have e:b=N+5:=e;omega);have iE:Calls Tryz.prog fid ([u].toArray++lb) w6 fun e w'=>∃z,e=.returned z/\(z=.bool (f pre.length x)/\Inv (pre.length+1) w'/\Chg (fun b=>b<N\/W5.heap.size<=b) w6 w') :=
   (HT.out.call pre.length x u w6 W5.heap.size bJ (by omega) hb6.size kF HXM.out).mono fun e w' ⟨h1,h2,h3⟩=>⟨_,h1,rfl,h2,h3⟩
  refine znl (i:=3) (by kernel_rfl) rfl (by kernel_rfl) (by rfl) (fun K hK=>?_);refine zk3 (by rfl) (.tmp 20) [.tmp 22] _ (by rfl) fid _ jL.out lb (by rfl) _ (by rfl) _ iE ?_;rintro z w7 ⟨rfl,bH,nR⟩;have sQ:=nR.keep (zkc nU.out hb6) (fun e=>by have:=nZ.out;have:=zkn nU.out;rcases e with e|e<;>omega);have hk17:=nR.keep (zkc (eH.out.keep ((HI4.out.2.1 (N+1) (by omega) (by omega)).trans (zkc jI.out aP.out)) (fun e:N+1=N+5=>by omega)) hb6) (fun e=>by rcases e with e|e<;>omega);refine hK.out _ _ ⟨zc hk17 rfl,zkr sQ⟩ ?_;clear hK K iE wH bJ;(try simp only[zQ]);refine zpp (by kernel_rfl) ?_;have hch:Chg C W4 w7:=(iB.mono fun q _ (e:q=N+5)=>(HI4.out.1 q).2 (by omega)).trans2 nR fun q hlt e=>(HI4.out.1 q).2 (by rcases e with e|e<;>omega)
  have hlow:∀b,N<=b->b<N+5->w7.heap[b]?=w5.heap[b]?:=fun b h1 h2=>((nR.block b (by have:=iB.size;omega) (fun e=>by rcases e with e|e<;>omega)).trans (iB.block b (by omega) (fun e=>by have e:b=N+5:=e;omega))).trans (HI4.out.2.1 b h1 h2);have uR:w7.heap[N+5]?=some (.cells #[.int .i64 ((pre.length:Int)+1)] 3 (0,0)):=by
   refine nR.keep (zkc ?_ hb6) (fun e=>by rcases e with e|e<;>omega);have:=yG.out;simpa using this
  have hsv7:SV w7 (fun q=>g<=q/\q<w7.heap.size) x (.agg #[.slice As x.cells.length cs,.slice Bs x.tin.length ds,.slice Ds x.tout.length es]) :=
   HSV4.out.keep (fun q h hlt=>⟨h,Nat.lt_of_lt_of_le hlt hch.size⟩) fun q h hlt=>(nR.block q (by have:=iB.size;omega) (fun e=>by have h:g<=q:=h;have:=nZ.out;rcases e with e|e<;>omega)).trans (iB.block q hlt (fun e=>by have h:g<=q:=h;have e:q=N+5:=e;have:=nZ.out;omega))
  have dC:=zh hch;have qa:=zh hlow;have qQ:=zh uR;have HSV7:=zh hsv7;have ja:=zh bH;have wR:=zh sQ;have jk:N+6<=w7.heap.size:=by have:=hch.size;omega
  have AJ:=zh jk;clear hch hlow uR hsv7 bH sQ hk17 nR hb6 kF iB oz hN4 jk;obtain⟨ft,hft⟩:=zX (f pre.length x);rw[hft];have lQ:=zh hft;clear hft
  cases ft
  ·gi_wp2
   refine⟨C,⟨HI4.out.1,qa.out,by rw[qQ.out];simp,by simpa using ja.out,fun i hi=>?_,AJ.out⟩,fun b hb=>.inl hb,dC.out⟩;by_cases h9:i<pre.length
   ·rw[List.getElem_append_left h9];exact HI4.out.2.2.2.2.1 i h9
   ·obtain rfl:i=pre.length:=by simp at hi;omega
    rw[List.getElem_append_right zl];simp only[Nat.sub_self,List.getElem_cons_zero];exact lQ.out
  ·gi_upto_region 8 with fail
   have hk2:=(qa.out (N+2) (by omega) (by omega)).trans (zkc qd.out aP.out);have hk3:=(qa.out (N+3) (by omega) (by omega)).trans (zkc qc.out aP.out);have hk4:=(qa.out (N+4) (by omega) (by omega)).trans (zkc jH.out aP.out);have nS:(fun w':World=>zv w' (N+5) 0 (.int .i64 ((pre.length:Int)+1))/\stC w' xp As x.cells.length cs Bs x.tin.length ds Ds x.tout.length es) w7.drew:=⟨zc qQ.out rfl,zkr wR.out⟩
   refine zma (ro:=some l) (fun w':World=>zv w' (N+5) 0 (.int .i64 ((pre.length:Int)+1))/\stC w' xp As x.cells.length cs Bs x.tin.length ds Ds x.tout.length es) (by kernel_rfl) ?_;refine zI 0 nS ?_;refine zI 1 nS ?_;have hdw:Below w7.heap.size w7 w7.drew:=zr.drew;obtain⟨w8,hw8⟩:=zX (w7.drew);rw[hw8]at hdw nS ⊢;have hxb:=zkc wR.out hdw;have hnb:=zkc qQ.out hdw
   replace hk2:=zkc hk2 hdw
   replace hk3:=zkc hk3 hdw
   replace hk4:=zkc hk4 hdw
   obtain⟨q0,q1,q2⟩:=zkr hk2;have cf:∀o,w8.frozen? ⟨N+2,o,none⟩=false:=fun o=>zf hk2;obtain⟨w9,dx,bF,fH⟩:=st3 (.slice As x.cells.length cs) (.slice Bs x.tin.length ds) (.slice Ds x.tout.length es) hk2;refine znl (i:=2) (by kernel_rfl) rfl (by kernel_rfl) (by rfl) (fun K hK=>?_);(try simp only[zA,zB,zC]);go_simp;refine hK.out _ _ ⟨zc (bF.keep hnb (fun(e:N+5=N+2)=>by omega)) rfl,zkr (bF.keep hxb (fun e:xp=N+2=>by have:=nZ.out;omega))⟩ ?_;clear hK K q0 q1 q2 cf;(try simp only[zQ]);have gy:=bF.keep hk3 (fun e:N+3=N+2=>by omega);have q0:w9.cell? ⟨N+3,0,none⟩=some (.int .i64 0):=zc gy rfl;have cf:∀o,w9.frozen? ⟨N+3,o,none⟩=false:=fun o=>zf gy;obtain⟨aT,bW,jy,mi⟩:=setU (o:=0) (.int .i64 ((pre.length:Int)+1)) gy;refine znl (i:=3) (by kernel_rfl) rfl (by kernel_rfl) (by rfl) (fun K hK=>?_);(try simp only[zA,zB,zC]);go_simp
   have hc:Chg (fun q=>q=N+2\/q=N+3) w8 aT:=(bF.mono fun q _ e=>.inl e).trans2 jy fun q _ e=>.inr e;refine hK.out _ _ ⟨zc (hc.keep hnb (fun e=>by rcases e with e|e<;>omega)) rfl,zkr (hc.keep hxb (fun e=>by have:=nZ.out;rcases e with e|e<;>omega))⟩ ?_;clear hK K q0 cf;(try simp only[zQ]);have cB:=hc.keep hk4 (fun e=>by rcases e with e|e<;>omega);have q0:aT.cell? ⟨N+4,0,none⟩=some (.bool false):=zc cB rfl;have cf:∀o,aT.frozen? ⟨N+4,o,none⟩=false:=fun o=>zf cB;obtain⟨aQ,fQ,dM,mh⟩:=setU (o:=0) (.bool true) cB;refine znl (i:=4) (by kernel_rfl) rfl (by kernel_rfl) (by rfl) (fun K hK=>?_);(try simp only[zA,zB,zC]);go_simp;have hcx:Chg (fun q=>q=N+2\/q=N+3\/q=N+4) w7 aQ:=(Chg.of_below hdw).trans2 ((hc.mono fun q _ e=>e.elim .inl fun e=>.inr (.inl e)).trans2 dM fun q _ e=>.inr (.inr e)) fun q _ e=>e
   have hx11:=hcx.keep wR.out (fun e=>by have:=nZ.out;rcases e with e|e|e<;>omega);have lZ:=hcx.keep qQ.out (fun e=>by rcases e with e|e|e<;>omega);have hk2':=dM.keep (jy.keep fH (fun e:N+2=N+3=>by omega)) (fun e:N+2=N+4=>by omega);have hk3':=dM.keep mi (fun e:N+3=N+4=>by omega);have jK:=zh (show FiX N w5 f Inv (allS ⟨bv,bl,bi⟩ (lenE vs ⟨bv,bl,bi⟩)) (pre++[x]) (fun b=>b<N+6\/(g<=b/\b<aQ.heap.size)) aQ from
    ⟨pre,x,g,aQ.heap.size,As,_,cs,Bs,_,ds,Ds,_,es,rfl,gK.out,HI4.out.2.2.2.2.1,lQ.out,fun b=>Iff.rfl,(by have:=nZ.out;omega),zl,Nat.le_trans AJ.out hcx.size,
     by simpa using HT.out.keep _ _ _ ja.out hcx.size fun b hb=>hcx.block b (by have:=AJ.out;omega) (fun e=>by rcases e with e|e|e<;>omega),hk2',by rw[hk3'];simp,mh,
     HSV7.out.keep (fun q h hlt=>⟨h.1,Nat.lt_of_lt_of_le hlt hcx.size⟩) fun q h hlt=>hcx.block q hlt fun e=>by have h:g<=q:=h.1;have:=nZ.out;rcases e with e|e|e<;>omega⟩)
   have qi:=zh (dC.out.trans2 hcx fun q _ e=>(HI4.out.1 q).2 (by rcases e with e|e|e<;>omega));refine hK.out _ _ ⟨zc lZ rfl,zkr hx11⟩ ?_;clear hK K q0 cf hcx hx11 lZ hk2' hk3' dM mh jy mi bF fH hc cB gy hk2 hk3 hk4 hxb hnb hdw nS;(try simp only[zQ]);refine zpp (by kernel_rfl) ?_
   gi_wp2
   exact⟨_,jK.out,(fun b hb=>by rcases hb with h|h;exact .inl ((HI4.out.1 b).2 h);exact .inr h.1),qi.out⟩
 ·intro D C W' hD hI hch hK;have mo:Chg (fun b=>b<N+6) w5 W':=hch;have hk2:=(hI.2.1 (N+2) (by omega) (by omega)).trans (zkc qd.out aP.out);have hk3:=(hI.2.1 (N+3) (by omega) (by omega)).trans (zkc qc.out aP.out);have hk4:=(hI.2.1 (N+4) (by omega) (by omega)).trans (zkc jH.out aP.out);have hn5:=hI.2.2.1;have BF:=zh hI;have dC:=zh mo;have HK:=zh hK;have HD:=zh (show w5.heap.size=D from hD.symm);have aR:=zh hk2;have gM:=zh hk3;have dI:=zh hk4;have xg:=zh hn5;clear hI hch mo hK hD hk2 hk3 hk4 hn5;go_upto_region 9 with fail;have nS:zW (fun w':World=>zv w' (N+5) 0 (.int .i64 ((allS ⟨bv,bl,bi⟩ (lenE vs ⟨bv,bl,bi⟩)).length:Int))) zU W'.drew:=⟨zc xg.out rfl,trivial⟩
  refine wp_region_noPanic ?_;refine zG nS 4 ?_;refine zT 0 nS ?_;refine zT 1 nS ?_;have hdw:Below W'.heap.size W' W'.drew:=zr.drew;obtain⟨w8,hw8⟩:=zX (W'.drew);rw[hw8]at hdw nS ⊢;have hnb:=zkc xg.out hdw;have hk2:=zkc aR.out hdw;have hk3:=zkc gM.out hdw;have hk4:=zkc dI.out hdw;obtain⟨q0,q1,q2⟩:=zkr hk2;have cf:∀o,w8.frozen? ⟨N+2,o,none⟩=false:=fun o=>zf hk2;obtain⟨w9,dx,bF,fH⟩:=st3 (.slice none 0 0) (.slice none 0 0) (.slice none 0 0) hk2;refine zo 2 fun K hK=>?_;(try simp only[zA,zB,zC]);go_simp;refine hK.out _ _ ⟨zc (bF.keep hnb (fun(e:N+5=N+2)=>by omega)) rfl,trivial⟩ ?_;clear hK K q0 q1 q2 cf;(try simp only[zQ]);have gy:=bF.keep hk3 (fun e:N+3=N+2=>by omega);have q0:w9.cell? ⟨N+3,0,none⟩=some (.int .i64 0):=zc gy rfl;have cf:∀o,w9.frozen? ⟨N+3,o,none⟩=false:=fun o=>zf gy
  obtain⟨aT,bW,jy,mi⟩:=setU (o:=0) (.int .i64 ((allS ⟨bv,bl,bi⟩ (lenE vs ⟨bv,bl,bi⟩)).length:Int)) gy;refine zo 3 fun K hK=>?_;(try simp only[zA,zB,zC]);go_simp;have hc:Chg (fun q=>q=N+2\/q=N+3) w8 aT:=(bF.mono fun q _ e=>.inl e).trans2 jy fun q _ e=>.inr e;refine hK.out _ _ ⟨zc (hc.keep hnb (fun e=>by rcases e with e|e<;>omega)) rfl,trivial⟩ ?_;clear hK K q0 cf;(try simp only[zQ]);have cB:=hc.keep hk4 (fun e=>by rcases e with e|e<;>omega);have q0:aT.cell? ⟨N+4,0,none⟩=some (.bool false):=zc cB rfl;have cf:∀o,aT.frozen? ⟨N+4,o,none⟩=false:=fun o=>zf cB;obtain⟨aQ,fQ,dM,mh⟩:=setU (o:=0) (.bool false) cB;refine zp 4 fun K hK=>?_;(try simp only[zA,zB,zC]);go_simp;have hcx:Chg (fun q=>q=N+2\/q=N+3\/q=N+4) W' aQ:=(Chg.of_below hdw).trans2 ((hc.mono fun q _ e=>e.elim .inl fun e=>.inr (.inl e)).trans2 dM fun q _ e=>.inr (.inr e)) fun q _ e=>e
  have aJ:=zh (dM.keep (jy.keep fH (fun e:N+2=N+3=>by omega)) (fun e:N+2=N+4=>by omega));have bQ:=zh (dM.keep mi (fun e:N+3=N+4=>by omega));have Bq:=zh mh;have qW:=zh (hcx.keep HK.out (fun e=>by have:=pG.out;have:=HD.out;rcases e with e|e|e<;>omega));have qi:=zh hcx;have lZ:=hcx.keep xg.out (fun e=>by rcases e with e|e|e<;>omega);refine hK.out _ _ (zc lZ rfl) ?_;clear hK K q0 cf hcx lZ dM mh jy mi bF fH hc cB gy hk2 hk3 hk4 hnb hdw nS;(try simp only[zQ]);refine zd ?_;refine NoPanic.normal ?_;go_wp2_with fail;refine⟨by simp,.inl ⟨_,_,rfl,run_takeDeferred qW.out,?_⟩⟩;have hcd:=Chg.putObj aQ D (.deferred none);have hND:N+5<D:=by have:=pG.out;have:=HD.out;omega
  have hn2:=hcd.keep aJ.out (fun(e:N+2=D)=>by omega);have cz:=hcd.keep bQ.out (fun(e:N+3=D)=>by omega);have qA:=hcd.keep Bq.out (fun(e:N+4=D)=>by omega);obtain⟨t0,t1,t2⟩:=zkr hn2;have t3:(aQ.putObj D (.deferred none)).cell? ⟨N+3,0,none⟩=some (.int .i64 ((allS ⟨bv,bl,bi⟩ (lenE vs ⟨bv,bl,bi⟩)).length:Int)):=zc cz rfl;have t4:(aQ.putObj D (.deferred none)).cell? ⟨N+4,0,none⟩=some (.bool false):=zc qA rfl;have hbb:=zka HB2.out aP.out;have sO:Chg (fun q=>q=N+2\/q=N+3\/q=N+4\/q=D) W' (aQ.putObj D (.deferred none)):=(qi.out.mono fun q _ e=>by rcases e with e|e|e;exact .inl e;exact .inr (.inl e);exact .inr (.inr (.inl e))).trans2 hcd fun q _ e=>.inr (.inr (.inr e))
  have hcw:Chg (fun b=>b<N+6\/b=D) w5 (aQ.putObj D (.deferred none)):=(dC.out.mono fun b _ h=>.inl h).trans2 sO fun q _ e=>by rcases e with e|e|e|e;exact .inl (by omega);exact .inl (by omega);exact .inl (by omega);exact .inr e
  rw[zqD BF.out.2.2.2.2.1];refine⟨.tuple #[.agg #[.slice none 0 0,.slice none 0 0,.slice none 0 0],.int .i64 ((allS ⟨bv,bl,bi⟩ (lenE vs ⟨bv,bl,bi⟩)).length:Int),.bool false],by simp[results,Tryz.results12,go_sem,t0,t1,t2,t3,t4],_,rfl,SV.nilF _ _,HT.out.keep _ _ _ BF.out.2.2.2.1 sO.size fun b hb=>sO.block b (by have:=BF.out.2.2.2.2.2;omega) (fun e=>by rcases e with e|e|e|e<;>omega),?_⟩;exact(Chg.of_below hbb).trans2 hcw fun b hlt e=>hlt
 ·intro D pre C W' hD hX hch hK;obtain⟨bE,s,g,X,As,ls,cs,Bs,ms,ds,Ds,ks',es,rfl,h2,h3,h4,h5,h6,h7,h8,h9,h10,h11,h12,lJ⟩:=hX;have mo:Chg (fun b=>b<N+6) w5 W':=hch;have HF:=zh (zuw h2 h3 h4);have dC:=zh mo;have HK:=zh hK;have HD:=zh (show w5.heap.size=D from hD.symm);have HS:=zh lJ;have aJ:=zh h10;have bQ:=zh h11;have Bq:=zh h12;have HG:=zh (And.intro h6 (And.intro h7 h8));have xu:=zh h9;clear h2 h3 h4 h5 h6 h7 h8 h9 h10 h11 h12 lJ hch mo hK hD;refine wpIn_ret ?_;simp only[Exit.inBlock,Exit.then];refine⟨by simp,.inl ⟨_,_,rfl,run_takeDeferred HK.out,?_⟩⟩;have hcd:=Chg.putObj W' D (.deferred none);have hND:N+5<D:=by have:=pG.out;have:=HD.out;omega
  have hn2:=hcd.keep aJ.out (fun(e:N+2=D)=>by omega);have cz:=hcd.keep bQ.out (fun(e:N+3=D)=>by omega);have qA:=hcd.keep Bq.out (fun(e:N+4=D)=>by omega);obtain⟨t0,t1,t2⟩:=zkr hn2;have t3:(W'.putObj D (.deferred none)).cell? ⟨N+3,0,none⟩=some (.int .i64 ((bE++[s]).length:Int)):=zc cz rfl;have t4:(W'.putObj D (.deferred none)).cell? ⟨N+4,0,none⟩=some (.bool true):=zc qA rfl;have hbb:=zka HB2.out aP.out;have hcw:Chg (fun b=>b<N+6\/b=D) w5 (W'.putObj D (.deferred none)):=(dC.out.mono fun b _ h=>.inl h).trans2 hcd fun q _ e=>.inr e;rw[HF.out];have hpl:(((bE++[s]).length:Nat):Int)=((bE.length+1:Nat):Int):=by simp
  refine⟨.tuple #[.agg #[.slice As ls cs,.slice Bs ms ds,.slice Ds ks' es],.int .i64 ((bE.length+1:Nat):Int),.bool true],by simp[results,Tryz.results12,go_sem,t0,t1,t2,t3,t4],_,rfl,HS.out.keep (fun q h _=>by have:=HG.out;have:=hbb.size;show W.heap.size<=q;omega) fun q h hlt=>hcd.block q hlt fun e=>by have h:g<=q:=h.1;have e:q=D:=e;have:=HG.out;have:=HD.out;omega,by simpa using HT.out.keep _ _ _ xu.out hcd.size fun b hb=>hcd.block b (by have:=HG.out;omega) (fun(e:b=D)=>by omega),?_⟩;exact(Chg.of_below hbb).trans2 hcw fun b hlt e=>hlt
end
section
open Go Go.RowKit
section
variable {P:Program} {ops:Array Oper} {Q:Exit->Act->World->Prop} {md:Region.Mode} {S1 S2:World->Prop} {k:Nat}
theorem zvG{i j:Nat}{o o':Oper}{fuel:Nat}{listed:Array Bool}{a:Act}{w:World}(hr:Region.ready md ops listed=[i,j])(ho:ops[i]?=some o)(ho':ops[j]?=some o')
  (h:∀K':Act->World->Prop,Shut (∀a w,S1 w/\S2 w->wpG P md ops Q S1 S2 k fuel (listed.setIfInBounds i true) a w->K' a w)->if Region.wanted o (yielded ops a.tmps)=true then Oper.wp P o a w K' Q else K' (a.put o.dst undef) w)
  (h':∀K':Act->World->Prop,Shut (∀a w,S1 w/\S2 w->wpG P md ops Q S1 S2 k fuel (listed.setIfInBounds j true) a w->K' a w)->if Region.wanted o' (yielded ops a.tmps)=true then Oper.wp P o' a w K' Q else K' (a.put o'.dst undef) w) :
  wpG P md ops Q S1 S2 k (fuel+1) listed a w:=by
 refine⟨(fun h0=>by rw[hr]at h0;cases h0),fun x hx=>?_⟩;rw[hr]at hx;simp only[List.mem_cons,List.not_mem_nil,or_false]at hx;rcases hx with rfl|rfl
 ·exact wpOp_step ho fun K' hK=>h K' fun a w hS hW=>hK a w ⟨⟨hS.1,fun _=>hS.2⟩,hW⟩
 ·exact wpOp_step ho' fun K' hK=>h' K' fun a w hS hW=>hK a w ⟨⟨hS.1,fun _=>hS.2⟩,hW⟩
end
theorem set4{W:World}{b:Nat}{x0 x1 x2 x3 u0 u1 u2 u3:Value}{E:TypeId}(h:W.heap[b]?=some (.cells #[x0,x1,x2,x3] E (0,0))) :
  ((((W.setCell ⟨b,0,none⟩ u0).setCell ⟨b,1,none⟩ u1).setCell ⟨b,2,none⟩ u2).setCell ⟨b,3,none⟩ u3).heap[b]?=some (.cells #[u0,u1,u2,u3] E (0,0)) /\
   Chg (fun q=>q=b) W ((((W.setCell ⟨b,0,none⟩ u0).setCell ⟨b,1,none⟩ u1).setCell ⟨b,2,none⟩ u2).setCell ⟨b,3,none⟩ u3):=by
 refine⟨?_,((((Chg.refl (fun q=>q=b) W).setCell (p:=⟨b,0,none⟩) (.inl rfl) _).setCell (p:=⟨b,1,none⟩) (.inl rfl) _).setCell (p:=⟨b,2,none⟩) (.inl rfl) _).setCell (p:=⟨b,3,none⟩) (.inl rfl) _⟩;rw[heap_setCell_same _ b 3 _ _ u3 (heap_setCell_same _ b 2 _ _ u2 (heap_setCell_same _ b 1 _ _ u1 (heap_setCell_same W b 0 _ _ u0 h)))];simp
theorem zpP(t:T)(v:Value)(back:Bool)(w0 w:World)(hB0:Below w0.heap.size w0 w)(hv:NV w0 Any t v)(hk:0<t.ks.length):Calls Tryz.prog 197 #[v,.bool back] w fun e W'=>∃v1 v2,e=.returned (.tuple #[v1,v2])/\NV w0 Any (fstT back t) v1/\NV w0 Any (lstT back t) v2/\Below w.heap.size w W':=by
 have HV:=zh hv;obtain⟨A,c,rfl,hf,hlk,hlc,hrow⟩:=hv.open_;obtain⟨m,hm⟩:∃m,t.ks.length=m+1:=⟨t.ks.length-1,by omega⟩
 obtain⟨a,a0,a1,a2,a3,rfl,-,ha,hna⟩:=hrow 0 (by omega);obtain⟨a',b0,b1,b2,b3,e',-,hb,hnb⟩:=hrow m (by omega);injection e' with e';subst e';obtain⟨t6,ze⟩:=zX (t.ks[0]'(by omega));obtain⟨t7,za⟩:=zX (t.ks[m]'(by omega));rw[ze]at hna;rw[za]at hnb;have kV:=zh hna;have qQ:=zh hnb;have Bf:=zh (show kid t 0=t6 by simp[kid,show 0<t.ks.length by omega,ze]);have Be:=zh (show kid t (t.ks.length-1)=t7 by simp[kid,hm,show m<t.ks.length by omega,za]);obtain⟨A6,c6,e6,-⟩:=hna.open_;obtain⟨A7,c7,e7,-⟩:=hnb.open_;simp only[nv,Value.agg.injEq,Array.mk.injEq,List.cons.injEq,and_true]at e6 e7;obtain⟨rfl,rfl,rfl,rfl⟩:=e6;obtain⟨rfl,rfl,rfl,rfl⟩:=e7;clear hna hnb ze za;obtain⟨ha0,ha1,ha2,wE⟩:=ha;obtain⟨hb0,hb1,hb2,hb3⟩:=hb;simp only[Nat.zero_mul,Addr.add_zero']at ha0 ha1 ha2 wE
 replace ha0:=zb hB0 ha0
 replace ha1:=zb hB0 ha1
 replace ha2:=zb hB0 ha2
 replace wE:=zb hB0 wE
 replace hb0:=zb hB0 hb0
 replace hb1:=zb hB0 hb1
 replace hb2:=zb hB0 hb2
 replace hb3:=zb hB0 hb3
 clear hB0;have xP:IntKind.i64.wrap (m:Int)=(m:Int):=IntWalk.i64_in _ (by unfold LK at hlk;omega);have hm0:(0:Int)<=(m:Int):=by omega
 have hm1:(m:Int)<((m:Int)+1):=by omega
 have hbl:Below w.heap.size w (((w.alloc (.cells #[.int .u8 t.k,.int .i64 t.n,.string t.s,.slice (some a) (m+1) c] 41)).alloc (.cells #[.int .u8 0,.int .i64 0,.string ⟨#[]⟩,.slice none 0 0] 41)).alloc (.cells #[.int .u8 0,.int .i64 0,.string ⟨#[]⟩,.slice none 0 0] 41)):=zkb (zkb (zkb zr _) _) _;have hk0:=zkf (zkf (heap_alloc_new w (.cells #[.int .u8 t.k,.int .i64 t.n,.string t.s,.slice (some a) (m+1) c] 41)) (.cells #[.int .u8 0,.int .i64 0,.string ⟨#[]⟩,.slice none 0 0] 41)) (.cells #[.int .u8 0,.int .i64 0,.string ⟨#[]⟩,.slice none 0 0] 41);have hk4:=zkf (heap_alloc_new (w.alloc (.cells #[.int .u8 t.k,.int .i64 t.n,.string t.s,.slice (some a) (m+1) c] 41)) (.cells #[.int .u8 0,.int .i64 0,.string ⟨#[]⟩,.slice none 0 0] 41)) (.cells #[.int .u8 0,.int .i64 0,.string ⟨#[]⟩,.slice none 0 0] 41)
 have hk5:=heap_alloc_new ((w.alloc (.cells #[.int .u8 t.k,.int .i64 t.n,.string t.s,.slice (some a) (m+1) c] 41)).alloc (.cells #[.int .u8 0,.int .i64 0,.string ⟨#[]⟩,.slice none 0 0] 41)) (.cells #[.int .u8 0,.int .i64 0,.string ⟨#[]⟩,.slice none 0 0] 41);simp only[World.size_alloc]at hk4 hk5;go_enter Tryz.func197,Tryz.ntmps197;go_upto_region 1 with fail;obtain⟨w1,hw1⟩:=zX (((w.alloc (.cells #[.int .u8 t.k,.int .i64 t.n,.string t.s,.slice (some a) (m+1) c] 41)).alloc (.cells #[.int .u8 0,.int .i64 0,.string ⟨#[]⟩,.slice none 0 0] 41)).alloc (.cells #[.int .u8 0,.int .i64 0,.string ⟨#[]⟩,.slice none 0 0] 41));rw[hw1]at hbl hk0 hk4 hk5 ⊢
 have hSS:zW (fun w':World=>zv w' w.heap.size 3 (.slice (some a) (m+1) c)/\(w'.cell? a=some (.int .u8 t6.k)/\zv w' a.block (a.off+1) (.int .i64 t6.n)/\zv w' a.block (a.off+2) (.string t6.s)/\zv w' a.block (a.off+3) (.slice A6 t6.ks.length c6))/\(w'.cell? (a.add (m*4))=some (.int .u8 t7.k)/\zv w' ((a.add (m*4)).block) ((a.add (m*4)).off+1) (.int .i64 t7.n)/\zv w' ((a.add (m*4)).block) ((a.add (m*4)).off+2) (.string t7.s)/\zv w' ((a.add (m*4)).block) ((a.add (m*4)).off+3) (.slice A7 t7.ks.length c7))) zU w1.drew:=⟨⟨zc hk0 rfl,⟨zb hbl.drew ha0,zb hbl.drew ha1,zb hbl.drew ha2,zb hbl.drew wE⟩,⟨zb hbl.drew hb0,zb hbl.drew hb1,zb hbl.drew hb2,zb hbl.drew hb3⟩⟩,trivial⟩
 have dI:=zh (show w1.heap[w.heap.size+1]?=some (.cells #[.int .u8 0,.int .i64 0,.string ⟨#[]⟩,.slice none 0 0] 41 (0,0))from hk4);have iN:=zh (show w1.heap[w.heap.size+1+1]?=some (.cells #[.int .u8 0,.int .i64 0,.string ⟨#[]⟩,.slice none 0 0] 41 (0,0))from hk5);have af:=zh hbl;clear hw1 hbl hk0 hk4 hk5 ha0 ha1 ha2 wE hb0 hb1 hb2 hb3 hrow HV;refine wp_region_noPanic ?_;refine zG hSS 15 ?_;refine zT 0 hSS ?_;refine zT 1 hSS ?_;refine zT 2 hSS ?_;refine zT 3 hSS ?_;refine zT 4 hSS ?_;refine zT 5 hSS ?_;refine zT 6 hSS ?_;refine zT 7 hSS ?_;refine zT 8 hSS ?_;refine zT 9 hSS ?_;refine zT 10 hSS ?_;refine zT 11 hSS ?_
 have uf:=zh (show ∀w',Below w1.heap.size w1 w'->(fun w':World=>zv w' w.heap.size 3 (.slice (some a) (m+1) c)/\(w'.cell? a=some (.int .u8 t6.k)/\zv w' a.block (a.off+1) (.int .i64 t6.n)/\zv w' a.block (a.off+2) (.string t6.s)/\zv w' a.block (a.off+3) (.slice A6 t6.ks.length c6))/\(w'.cell? (a.add (m*4))=some (.int .u8 t7.k)/\zv w' ((a.add (m*4)).block) ((a.add (m*4)).off+1) (.int .i64 t7.n)/\zv w' ((a.add (m*4)).block) ((a.add (m*4)).off+2) (.string t7.s)/\zv w' ((a.add (m*4)).block) ((a.add (m*4)).off+3) (.slice A7 t7.ks.length c7))) w' from fun w' hb=>by
  obtain⟨⟨q0,⟨q1,q2,q3,q4⟩,q5,q6,q7,q8⟩,-⟩:=hSS;exact⟨zb hb q0,⟨zb hb q1,zb hb q2,zb hb q3,zb hb q4⟩,zb hb q5,zb hb q6,zb hb q7,zb hb q8⟩)
 clear hSS;refine zvG (i:=12) (j:=13) (by kernel_rfl) rfl rfl (fun K hK=>?_) (fun K hK=>?_);(try simp only[zA,zB,zC]);go_simp;have hb2:=zkb (zs w1) (.cells #[.int .u8 0,.int .i64 0,.string ⟨#[]⟩,.slice none 0 0] 41);refine hK.out _ _ ⟨uf.out _ hb2.drew,trivial⟩ ?_;clear hK K;(try simp only[zQ]);refine zo 13 fun K hK=>?_;(try simp only[zA,zB,zC]);go_simp;have hb3:Below w1.heap.size w1 ((w1.alloc (.cells #[.int .u8 0,.int .i64 0,.string ⟨#[]⟩,.slice none 0 0] 41)).alloc (.cells #[.int .u8 0,.int .i64 0,.string ⟨#[]⟩,.slice none 0 0] 41)):=zkb hb2 (.cells #[.int .u8 0,.int .i64 0,.string ⟨#[]⟩,.slice none 0 0] 41);have eX:=zkf (heap_alloc_new w1 (.cells #[.int .u8 0,.int .i64 0,.string ⟨#[]⟩,.slice none 0 0] 41)) (.cells #[.int .u8 0,.int .i64 0,.string ⟨#[]⟩,.slice none 0 0] 41)
 have jk:=heap_alloc_new (w1.alloc (.cells #[.int .u8 0,.int .i64 0,.string ⟨#[]⟩,.slice none 0 0] 41)) (.cells #[.int .u8 0,.int .i64 0,.string ⟨#[]⟩,.slice none 0 0] 41);rw[World.size_alloc]at jk;refine hK.out _ _ ⟨uf.out _ hb3.drew,trivial⟩ ?_;clear hK K;(try simp only[zQ]);obtain⟨w3,hw3⟩:=zX ((w1.alloc (.cells #[.int .u8 0,.int .i64 0,.string ⟨#[]⟩,.slice none 0 0] 41)).alloc (.cells #[.int .u8 0,.int .i64 0,.string ⟨#[]⟩,.slice none 0 0] 41));rw[hw3]at hb3 eX jk ⊢;clear hw3 hb2;generalize GE7:w1.heap.size+1=b7 at jk ⊢;generalize GE6:w1.heap.size=b6 at eX ⊢;rotate_left 1;(try simp only[zA,zB,zC]);go_simp;have hb2:=zkb (zs w1) (.cells #[.int .u8 0,.int .i64 0,.string ⟨#[]⟩,.slice none 0 0] 41);refine hK.out _ _ ⟨uf.out _ hb2.drew,trivial⟩ ?_;clear hK K;(try simp only[zQ]);refine zo 12 fun K hK=>?_;(try simp only[zA,zB,zC]);go_simp
 have hb3:Below w1.heap.size w1 ((w1.alloc (.cells #[.int .u8 0,.int .i64 0,.string ⟨#[]⟩,.slice none 0 0] 41)).alloc (.cells #[.int .u8 0,.int .i64 0,.string ⟨#[]⟩,.slice none 0 0] 41)):=zkb hb2 (.cells #[.int .u8 0,.int .i64 0,.string ⟨#[]⟩,.slice none 0 0] 41);have jk:=zkf (heap_alloc_new w1 (.cells #[.int .u8 0,.int .i64 0,.string ⟨#[]⟩,.slice none 0 0] 41)) (.cells #[.int .u8 0,.int .i64 0,.string ⟨#[]⟩,.slice none 0 0] 41);have eX:=heap_alloc_new (w1.alloc (.cells #[.int .u8 0,.int .i64 0,.string ⟨#[]⟩,.slice none 0 0] 41)) (.cells #[.int .u8 0,.int .i64 0,.string ⟨#[]⟩,.slice none 0 0] 41);rw[World.size_alloc]at eX;refine hK.out _ _ ⟨uf.out _ hb3.drew,trivial⟩ ?_;clear hK K;(try simp only[zQ]);obtain⟨w3,hw3⟩:=zX ((w1.alloc (.cells #[.int .u8 0,.int .i64 0,.string ⟨#[]⟩,.slice none 0 0] 41)).alloc (.cells #[.int .u8 0,.int .i64 0,.string ⟨#[]⟩,.slice none 0 0] 41))
 rw[hw3]at hb3 jk eX ⊢;clear hw3 hb2;generalize GE7:w1.heap.size+1=b6 at eX ⊢;generalize GE6:w1.heap.size=b7 at jk ⊢
 all_goals
  have gE:w1.heap.size<=b6/\w1.heap.size<=b7/\b6≠b7:=by omega
  obtain⟨g6,g7,gN⟩:=gE;clear GE6 GE7;have HB3:=zh hb3;have c0:w3.cell? ⟨b6,0,none⟩=some (.int .u8 0):=zc eX rfl;have c1:w3.cell? ⟨b6,1,none⟩=some (.int .i64 0):=zc eX rfl;have c2:w3.cell? ⟨b6,2,none⟩=some (.string ⟨#[]⟩):=zc eX rfl;have c3:w3.cell? ⟨b6,3,none⟩=some (.slice none 0 0):=zc eX rfl;have cf:∀o,w3.frozen? ⟨b6,o,none⟩=false:=fun _=>zf eX;refine zo 14 fun K hK=>?_;(try simp only[zA,zB,zC]);go_simp;obtain⟨hh,hch⟩:=set4 (u0:=(.int .u8 t6.k)) (u1:=(.int .i64 t6.n)) (u2:=(.string t6.s)) (u3:=(.slice A6 t6.ks.length c6)) eX;obtain⟨w4,hwn⟩:=zX ((((w3.setCell ⟨b6,0,none⟩ (.int .u8 t6.k)).setCell ⟨b6,1,none⟩ (.int .i64 t6.n)).setCell ⟨b6,2,none⟩ (.string t6.s)).setCell ⟨b6,3,none⟩ (.slice A6 t6.ks.length c6));rw[hwn]at hh hch ⊢;have hb4:Below w1.heap.size w1 w4:=HB3.out.trans (hch.below HB3.out.size fun b e=>by omega);refine hK.out _ _ ⟨uf.out _ hb4.drew,trivial⟩ ?_
  clear hK K c0 c1 c2 c3 cf hwn;(try simp only[zQ]);have aF:=zh hb4;have ji:=hch.keep jk (by omega);have c0:w4.cell? ⟨b7,0,none⟩=some (.int .u8 0):=zc ji rfl;have c1:w4.cell? ⟨b7,1,none⟩=some (.int .i64 0):=zc ji rfl;have c2:w4.cell? ⟨b7,2,none⟩=some (.string ⟨#[]⟩):=zc ji rfl;have c3:w4.cell? ⟨b7,3,none⟩=some (.slice none 0 0):=zc ji rfl;have cf:∀o,w4.frozen? ⟨b7,o,none⟩=false:=fun _=>zf ji;refine zp 15 fun K hK=>?_;(try simp only[zA,zB,zC]);go_simp;obtain⟨oQ,oZ⟩:=set4 (u0:=(.int .u8 t7.k)) (u1:=(.int .i64 t7.n)) (u2:=(.string t7.s)) (u3:=(.slice A7 t7.ks.length c7)) ji;obtain⟨w5,hwn⟩:=zX ((((w4.setCell ⟨b7,0,none⟩ (.int .u8 t7.k)).setCell ⟨b7,1,none⟩ (.int .i64 t7.n)).setCell ⟨b7,2,none⟩ (.string t7.s)).setCell ⟨b7,3,none⟩ (.slice A7 t7.ks.length c7));rw[hwn]at oQ oZ ⊢;have hb5:Below w1.heap.size w1 w5:=aF.out.trans (oZ.below aF.out.size fun b e=>by omega)
  refine hK.out _ _ (uf.out _ hb5.drew) ?_;clear hK K c0 c1 c2 c3 cf hwn;(try simp only[zQ]);have xy:=zh (oZ.keep hh (by omega));have BI:=zh oQ;have aP:=zh (show Below w1.heap.size w1 w5 from hb5);clear hb3 eX jk ji hh oQ hch oZ hb4 hb5 aF HB3 uf;refine zd ?_;refine NoPanic.normal ?_;have qF:=zh (zkc dI.out aP.out);have pG:=zh (zkc iN.out aP.out);obtain⟨P,Q,X,Y,AX,AY,CX,CY,hE⟩:∃P Q X Y AX AY CX CY,cond back (P=b7/\Q=b6/\X=t7/\Y=t6/\AX=A7/\AY=A6/\CX=c7/\CY=c6) (P=b6/\Q=b7/\X=t6/\Y=t7/\AX=A6/\AY=A7/\CX=c6/\CY=c7):=by cases back<;>exact⟨_,_,_,_,_,_,_,_,rfl,rfl,rfl,rfl,rfl,rfl,rfl,rfl⟩
  cases back
  obtain⟨rfl,rfl,rfl,rfl,rfl,rfl,rfl,rfl⟩:=hE;have HX:=xy;have HY:=BI;have NX:=kV;have NY:=qQ;have EX:=Bf;have EY:=Be;go_upto_region 4 with fail;rotate_left 1;obtain⟨rfl,rfl,rfl,rfl,rfl,rfl,rfl,rfl⟩:=hE;have HX:=BI;have HY:=xy;have NX:=qQ;have NY:=kV;have EX:=Be;have EY:=Bf;go_upto_region 3 with fail
  all_goals
   clear xy BI kV qQ Bf Be;have hS5:(fun w':World=>(zN4 w' P (.int .u8 X.k) (.int .i64 X.n) (.string X.s) (.slice AX X.ks.length CX))/\zN4 w' Q (.int .u8 Y.k) (.int .i64 Y.n) (.string Y.s) (.slice AY Y.ks.length CY)) w5.drew:=⟨⟨zc HX.out rfl,zc HX.out rfl,zc HX.out rfl,zc HX.out rfl⟩,⟨zc HY.out rfl,zc HY.out rfl,zc HY.out rfl,zc HY.out rfl⟩⟩
   refine wp_region_noPanic ?_;refine zkk (fun w':World=>(zN4 w' P (.int .u8 X.k) (.int .i64 X.n) (.string X.s) (.slice AX X.ks.length CX))/\zN4 w' Q (.int .u8 Y.k) (.int .i64 Y.n) (.string Y.s) (.slice AY Y.ks.length CY)) zU 3 (by kernel_rfl) ?_;refine zkQ (i:=0) (v:=?_) rfl (by kernel_rfl) (by kernel_rfl) (by kernel_rfl) (by decide) (fun _ _ _ h=>h) (Or.inl ⟨by rfl,?_⟩) ⟨hS5,trivial⟩ ?_;rotate_left 1
   ·(intro w hSw;(try dsimp only at hSw);(try simp only[zA,zC]);go_simp;(try with_reducible rfl))
   (try simp only[zQ]);refine zkQ (i:=1) (v:=?_) rfl (by kernel_rfl) (by kernel_rfl) (by kernel_rfl) (by decide) (fun _ _ _ h=>h) (Or.inl ⟨by rfl,?_⟩) ⟨hS5,trivial⟩ ?_;rotate_left 1
   ·(intro w hSw;(try dsimp only at hSw);(try simp only[zA,zB,zC]);go_simp;(try with_reducible rfl))
   (try simp only[zQ]);have hsz:w.heap.size+1+1<w1.heap.size:=(Array.getElem?_eq_some_iff.mp iN.out).1;have ig:=zh (af.out.trans (aP.out.mono (by omega)));have HC:=zh (show ∀W':World,W'.heap[P]?=w5.heap[P]?->W'.heap[Q]?=w5.heap[Q]?->(fun w':World=>(zN4 w' P (.int .u8 X.k) (.int .i64 X.n) (.string X.s) (.slice AX X.ks.length CX)/\zN4 w' Q (.int .u8 Y.k) (.int .i64 Y.n) (.string Y.s) (.slice AY Y.ks.length CY))) W'.drew from fun W' h6 h7=>⟨⟨zc (h6.trans HX.out) rfl,zc (h6.trans HX.out) rfl,zc (h6.trans HX.out) rfl,zc (h6.trans HX.out) rfl⟩,⟨zc (h7.trans HY.out) rfl,zc (h7.trans HY.out) rfl,zc (h7.trans HY.out) rfl,zc (h7.trans HY.out) rfl⟩⟩);have HZQ:=zh qF.out;have kM:=qF.out;have HZ5K:=pG.out;have c0:w5.cell? ⟨(w.heap.size+1),0,none⟩=some (.int .u8 0):=zc kM rfl;have c1:w5.cell? ⟨(w.heap.size+1),1,none⟩=some (.int .i64 0):=zc kM rfl
   have c2:w5.cell? ⟨(w.heap.size+1),2,none⟩=some (.string ⟨#[]⟩):=zc kM rfl;have c3:w5.cell? ⟨(w.heap.size+1),3,none⟩=some (.slice none 0 0):=zc kM rfl;have cf:∀o,w5.frozen? ⟨(w.heap.size+1),o,none⟩=false:=fun _=>zf kM;refine zo 2 fun K hK=>?_;(try simp only[zA,zB,zC]);go_simp;obtain⟨hh,hch⟩:=set4 (u0:=(.int .u8 X.k)) (u1:=(.int .i64 X.n)) (u2:=(.string X.s)) (u3:=(.slice AX X.ks.length CX)) kM;obtain⟨w6,hwn⟩:=zX ((((w5.setCell ⟨(w.heap.size+1),0,none⟩ (.int .u8 X.k)).setCell ⟨(w.heap.size+1),1,none⟩ (.int .i64 X.n)).setCell ⟨(w.heap.size+1),2,none⟩ (.string X.s)).setCell ⟨(w.heap.size+1),3,none⟩ (.slice AX X.ks.length CX));rw[hwn]at hh hch ⊢;clear c0 c1 c2 c3 cf hwn;have HBW6:=zh (ig.out.trans (hch.below ig.out.size fun b e=>by omega));have k6:=hch.block (P) (Array.getElem?_eq_some_iff.mp HX.out).1 (by omega)
   have k7:=hch.block (Q) (Array.getElem?_eq_some_iff.mp HY.out).1 (by omega);have kL:=hch.keep HZ5K (by omega);refine hK.out _ _ ⟨HC.out _ k6 k7,trivial⟩ ?_;have HF4:=zh hh;have K6:=zh k6;have K7:=zh k7;have dC:=zh hch;clear hK K k6 k7 hh hch;(try simp only[zQ]);have c0:w6.cell? ⟨(w.heap.size+1+1),0,none⟩=some (.int .u8 0):=zc kL rfl;have c1:w6.cell? ⟨(w.heap.size+1+1),1,none⟩=some (.int .i64 0):=zc kL rfl;have c2:w6.cell? ⟨(w.heap.size+1+1),2,none⟩=some (.string ⟨#[]⟩):=zc kL rfl;have c3:w6.cell? ⟨(w.heap.size+1+1),3,none⟩=some (.slice none 0 0):=zc kL rfl;have cf:∀o,w6.frozen? ⟨(w.heap.size+1+1),o,none⟩=false:=fun _=>zf kL;refine zp 3 fun K hK=>?_;(try simp only[zA,zB,zC]);go_simp;obtain⟨hh,hch⟩:=set4 (u0:=(.int .u8 Y.k)) (u1:=(.int .i64 Y.n)) (u2:=(.string Y.s)) (u3:=(.slice AY Y.ks.length CY)) kL
   obtain⟨w7,hwn⟩:=zX ((((w6.setCell ⟨(w.heap.size+1+1),0,none⟩ (.int .u8 Y.k)).setCell ⟨(w.heap.size+1+1),1,none⟩ (.int .i64 Y.n)).setCell ⟨(w.heap.size+1+1),2,none⟩ (.string Y.s)).setCell ⟨(w.heap.size+1+1),3,none⟩ (.slice AY Y.ks.length CY));rw[hwn]at hh hch ⊢;clear c0 c1 c2 c3 cf hwn;have HBW7:=zh (HBW6.out.trans (hch.below HBW6.out.size fun b e=>by omega));have k6:=hch.block (P) (by have:=(Array.getElem?_eq_some_iff.mp HX.out).1;have:=dC.out.size;omega) (by omega);have k7:=hch.block (Q) (by have:=(Array.getElem?_eq_some_iff.mp HY.out).1;have:=dC.out.size;omega) (by omega);have HF4':=zh (hch.keep HF4.out (by omega));refine hK.out _ _ (HC.out _ (k6.trans K6.out) (k7.trans K7.out)) ?_;have HF5:=zh hh;clear hK K k6 k7 hh hch;(try simp only[zQ]);refine zd ?_;refine NoPanic.normal ?_;have d4:=HF4'.out;have d5:=HF5.out
   have g0:w7.drew.cell? ⟨w.heap.size+1,0,none⟩=some (.int .u8 X.k):=zc d4 rfl;have g1:w7.drew.cell? ⟨w.heap.size+1,1,none⟩=some (.int .i64 X.n):=zc d4 rfl;have g2:w7.drew.cell? ⟨w.heap.size+1,2,none⟩=some (.string X.s):=zc d4 rfl;have g3:w7.drew.cell? ⟨w.heap.size+1,3,none⟩=some (.slice AX X.ks.length CX):=zc d4 rfl;have g4:w7.drew.cell? ⟨w.heap.size+1+1,0,none⟩=some (.int .u8 Y.k):=zc d5 rfl;have g5:w7.drew.cell? ⟨w.heap.size+1+1,1,none⟩=some (.int .i64 Y.n):=zc d5 rfl;have g6:w7.drew.cell? ⟨w.heap.size+1+1,2,none⟩=some (.string Y.s):=zc d5 rfl;have g7:w7.drew.cell? ⟨w.heap.size+1+1,3,none⟩=some (.slice AY Y.ks.length CY):=zc d5 rfl;go_wp2_with fail
   refine bodyPost_ret (v:=.tuple #[.agg #[.int .u8 X.k,.int .i64 X.n,.string X.s,.slice AX X.ks.length CX],.agg #[.int .u8 Y.k,.int .i64 Y.n,.string Y.s,.slice AY Y.ks.length CY]]) (by simp[results,Tryz.results197,go_sem,g0,g1,g2,g3,g4,g5,g6,g7]) rfl ⟨_,_,rfl,?_,?_,HBW7.out.drew.drew⟩
   ·simp only[fstT,lstT,if_true,if_false,Bool.false_eq_true,EX.out,EY.out];exact NX.out
   ·simp only[fstT,lstT,if_true,if_false,Bool.false_eq_true,EX.out,EY.out];exact NY.out
def IStC(G:List PR->T->Prop)(g:Nat):Prop:=∀C:RC,C.Ok->∀(W:World) (r:RS),RI C W r->∀(t:T) (v:Value) (back:Bool),NV C.w Any t v->G C.p.prs t->zkA C.p.prs C.F g back t r ≠ .gas ->
 Calls Tryz.prog 137 #[.pointer (some ⟨C.rb,0,none⟩),v,.bool back] W (RunP C W (zkA C.p.prs C.F g back t r))
theorem zlf{G:List PR->T->Prop}{g:Nat}(hS:IStC G g){C:RC}(hC:C.Ok){W:World}{r:RS}(h:RI C W r)(t:T)(v:Value)(back:Bool)(hv:NV C.w Any t v)(hG:∀u∈t.ks,G C.p.prs u)(aH:runO C.p.prs C.F g back t r ≠ .gas) :
  Calls Tryz.prog 101 #[.pointer (some ⟨C.rb,0,none⟩),v,.bool back] W (RunP C W (runO C.p.prs C.F g back t r)):=by
 obtain⟨A,c,rfl,-,hlk,hlc,hrow⟩:=hv.open_;have ae:=zh hrow;have HS:=zh hS;have HG:=zh hG;have hb0:=zkb (zs W) (.cells #[.int .u8 t.k,.int .i64 t.n,.string t.s,.slice A t.ks.length c] 41);obtain⟨cK,h1⟩:=h.plus hC hb0;have hz1:(W.alloc (.cells #[.int .u8 t.k,.int .i64 t.n,.string t.s,.slice A t.ks.length c] 41)).heap.size=W.heap.size+1:=by simp
 have hbx:=box4 (heap_alloc_new W (.cells #[.int .u8 t.k,.int .i64 t.n,.string t.s,.slice A t.ks.length c] 41));have aD:=zh (Kpt.of_below (n0:=C.n0) (kb:=C.kb) hb0);obtain⟨W1,hW1⟩:=zX (W.alloc (.cells #[.int .u8 t.k,.int .i64 t.n,.string t.s,.slice A t.ks.length c] 41));rw[hW1]at cK h1 hz1 hbx aD;obtain⟨hi,hhi⟩:=zX (W1.heap.size);rw[hhi]at cK h1 hz1;have lT:=zh cK;have H1:=zh h1;have aX:=zh hbx;have hz2:W.heap.size<hi:=by omega
 have hwn:IntKind.i64.wrap ((t.ks.length:Int)-1)=(t.ks.length:Int)-1:=IntWalk.i64_in _ (by unfold LK at hlk;omega);have hwq:∀j:Nat,j<t.ks.length->IntKind.i64.wrap ((t.ks.length:Int)-1-(j:Int))=((t.ks.length-1-j:Nat):Int):=fun j hj=>by rw[IntWalk.i64_in _ (by unfold LK at hlk;omega)];omega
 obtain⟨o,ho⟩:=zX (runO C.p.prs C.F g back t r);have HO:=zh (show zld (zkA C.p.prs C.F g back) ((blkL back t).drop 0) r=o by rw[List.drop_zero];exact ho);have qh:=zh (show o ≠ .gas from ho▸aH);have lG:(blkL back t).length=t.ks.length:=by unfold blkL;split<;>simp
 rw[ho];have bV:=zh lG;have hlk2:t.ks.length<=17592186044416:=by unfold LK at hlk;omega
 clear lG hlk;clear hv cK h1 hbx hb0 h hz1 hS hG hrow ho aH;obtain⟨x0,x1,x2,x3⟩:=aX.out;go_enter Tryz.func101,Tryz.ntmps101;go_wp2_with fail;clear x0 x1 x2 x3 hW1
 go_loopw [15] (fun i wr=>∃(j:Nat) (r1:RS),j<=t.ks.length/\i=.int .i64 j/\Hid (RI (C.plus W.heap.size hi) wr r1)/\Hid (Kpt C.n0 (C.plus W.heap.size hi).kb W1 wr)/\Hid (zld (zkA C.p.prs C.F g back) ((blkL back t).drop j) r1=o)) (fun i _=>t.ks.length-(intOf i).toNat)
 case atStart=>exact⟨0,r,Nat.zero_le _,rfl,H1,zh (Kpt.refl _ _ _),HO⟩
 case round =>
  obtain⟨j,r1,hj,rfl,HR,HK,HB⟩:=hrel;by_cases hlt:j<t.ks.length
  ·cases back
   ·skip
    have hj1:(j:Int)<(t.ks.length:Int):=by omega
    have hj0:(0:Int)<=(j:Int):=by omega
    have zk:j<t.ks.length:=by omega
    have hqs1:(j:Int)<(t.ks.length:Int):=by omega
    have hqs0:(0:Int)<=(j:Int):=by omega
    have eu:=HR.out.below;obtain⟨a,u,A1,c1,rfl,-,hu,⟨p0,p1,p2,p3⟩,hnu⟩:=ae.out.nd zk;have hgu:=HG.out u (by rw[<-hu.out];exact List.getElem_mem _);have hbs:zld (zkA C.p.prs C.F g false) ((blkL false t).drop j) r1=(zkA C.p.prs C.F g false u r1).bind (zld (zkA C.p.prs C.F g false) ((blkL false t).drop (j+1))):=by
     rw[show(blkL false t).drop j=u::(blkL false t).drop (j+1) by rw[List.drop_eq_getElem_cons (by rw[bV.out];exact hlt),<-hu.out];congr 1;all_goals simp[blkL,hlt]];rfl
    rw[HB.out]at hbs;have nL:=zh hbs;have wW:=zh (HS.out (C.plus W.heap.size hi) lT.out wr r1 HR.out u _ false hnu hgu (fun e=>qh.out (by rw[hbs,show zkA C.p.prs C.F g false u r1=.gas from e];rfl)));have q0:=zb eu p0;have q1:=zb eu p1;have q2:=zb eu p2;have q3:=zb eu p3;have x3:wr.cell? ⟨W.heap.size,3,none⟩=some (.slice (some a) t.ks.length c):=HK.out.cell (.inr (.inr ⟨zl,hz2⟩)) aX.out.2.2.2;clear hbs eu hnu hgu p0 p1 p2 p3 hu;go_wp2_with fail;refine wW.out.mono ?_;rintro e w2 ⟨hk2,hb2,ho2⟩;have gq:match zkA C.p.prs C.F g false u r1 with
     | .gas=>True
     | .err x=>e=zlC x
     | .ok r=>(∃u,e=.returned u)/\RI (C.plus W.heap.size hi) w2 r:=ho2
    have aR:=zh (HK.out.trans hk2);clear ho2 hk2 wW q0 q1 q2 q3 x3
    cases hx:zkA C.p.prs C.F g false u r1 with
    | gas=>exact absurd (by rw[nL.out,hx];rfl) qh.out
    | err x =>
     rw[hx]at gq;subst gq;have ho3:o=.err x:=by rw[nL.out,hx];rfl
     dsimp only;refine⟨rfl,aD.out.trans (Kpt.less aR.out),hb2,?_⟩;rw[ho3]
    | ok r2 =>
     rw[hx]at gq;obtain⟨⟨u2,rfl⟩,hr2⟩:=gq;have HR2:=zh hr2;have HB2:=zh (show zld (zkA C.p.prs C.F g false) ((blkL false t).drop (j+1)) r2=o by rw[nL.out,hx];rfl);clear hr2 hx;go_wp2_with fail
     go_roundw
     case rel=>exact⟨j+1,r2,by omega,by go_num,HR2,aR,HB2⟩
     case measure=>simp[intOf];omega
   ·skip
    have hwq1:=hwq j hlt;obtain⟨q,hq⟩:=zX (t.ks.length-1-j);rw[hq]at hwq1;have hj1:(j:Int)<(t.ks.length:Int):=by omega
    have hj0:(0:Int)<=(j:Int):=by omega
    have zk:q<t.ks.length:=by omega
    have hqs1:(q:Int)<(t.ks.length:Int):=by omega
    have hqs0:(0:Int)<=(q:Int):=by omega
    have eu:=HR.out.below;obtain⟨a,u,A1,c1,rfl,-,hu,⟨p0,p1,p2,p3⟩,hnu⟩:=ae.out.nd zk;have hgu:=HG.out u (by rw[<-hu.out];exact List.getElem_mem _);have hbs:zld (zkA C.p.prs C.F g true) ((blkL true t).drop j) r1=(zkA C.p.prs C.F g true u r1).bind (zld (zkA C.p.prs C.F g true) ((blkL true t).drop (j+1))):=by
     rw[show(blkL true t).drop j=u::(blkL true t).drop (j+1) by rw[List.drop_eq_getElem_cons (by rw[bV.out];exact hlt),<-hu.out];congr 1;all_goals simp[blkL,hq]];rfl
    rw[HB.out]at hbs;have nL:=zh hbs;have wW:=zh (HS.out (C.plus W.heap.size hi) lT.out wr r1 HR.out u _ true hnu hgu (fun e=>qh.out (by rw[hbs,show zkA C.p.prs C.F g true u r1=.gas from e];rfl)));have q0:=zb eu p0;have q1:=zb eu p1;have q2:=zb eu p2;have q3:=zb eu p3;have x3:wr.cell? ⟨W.heap.size,3,none⟩=some (.slice (some a) t.ks.length c):=HK.out.cell (.inr (.inr ⟨zl,hz2⟩)) aX.out.2.2.2;clear hbs eu hnu hgu p0 p1 p2 p3 hu;go_wp2_with fail;refine wW.out.mono ?_;rintro e w2 ⟨hk2,hb2,ho2⟩;have gq:match zkA C.p.prs C.F g true u r1 with
     | .gas=>True
     | .err x=>e=zlC x
     | .ok r=>(∃u,e=.returned u)/\RI (C.plus W.heap.size hi) w2 r:=ho2
    have aR:=zh (HK.out.trans hk2);clear ho2 hk2 wW q0 q1 q2 q3 x3
    cases hx:zkA C.p.prs C.F g true u r1 with
    | gas=>exact absurd (by rw[nL.out,hx];rfl) qh.out
    | err x =>
     rw[hx]at gq;subst gq;have ho3:o=.err x:=by rw[nL.out,hx];rfl
     dsimp only;refine⟨rfl,aD.out.trans (Kpt.less aR.out),hb2,?_⟩;rw[ho3]
    | ok r2 =>
     rw[hx]at gq;obtain⟨⟨u2,rfl⟩,hr2⟩:=gq;have HR2:=zh hr2;have HB2:=zh (show zld (zkA C.p.prs C.F g true) ((blkL true t).drop (j+1)) r2=o by rw[nL.out,hx];rfl);clear hr2 hx;go_wp2_with fail
     go_roundw
     case rel=>exact⟨j+1,r2,by omega,by go_num,HR2,aR,HB2⟩
     case measure=>simp[intOf];omega
  ·have ho3:o=.ok r1:=by
    rw[<-HB.out,show(blkL back t).drop j=[] by rw[List.drop_eq_nil_iff,bV.out];omega];rfl
   have hbr:=HR.out.below;have hj1:¬ (j:Int)<(t.ks.length:Int):=by omega
   go_wp2_with fail;go_end0;refine⟨aD.out.trans (Kpt.less HK.out),hbr,?_⟩
   try rw[ho3]
   exact⟨⟨_,rfl⟩,HR.out.less⟩
def brO(prs:List PR)(F:Int)(g:Nat)(back:Bool)(t:T)(r:RS):Out :=
 zlg F (fstT back t) r fun yes r=>(zld (zkA prs F g back) (blkL back (if yes=true then kid t 1 else kid t 2)) r).bind (zku F (lstT back t) yes)
theorem zs0{G:List PR->T->Prop}{g:Nat}(hS:IStC G g){C:RC}(hC:C.Ok){W:World}{r:RS}(h:RI C W r)(t:T)(v:Value)(back:Bool)(hv:NV C.w Any t v)(hk:t.ks.length=4)(hG1:∀u∈(kid t 1).ks,G C.p.prs u)(hG2:∀u∈(kid t 2).ks,G C.p.prs u)
  (aH:brO C.p.prs C.F g back t r ≠ .gas) :
  Calls Tryz.prog 176 #[.pointer (some ⟨C.rb,0,none⟩),v,.bool back] W (RunP C W (brO C.p.prs C.F g back t r)):=by
 obtain⟨A,c,rfl,-,hlk,hlc,hrow⟩:=hv.open_;have ae:=zh hrow;have HS:=zh hS;have HV:=zh hv;have hb0:=zkb (zs W) (.cells #[.int .u8 t.k,.int .i64 t.n,.string t.s,.slice A t.ks.length c] 41);obtain⟨x0,x1,x2,x3⟩:=box4 (heap_alloc_new W (.cells #[.int .u8 t.k,.int .i64 t.n,.string t.s,.slice A t.ks.length c] 41));have HB0:=zh hb0;have H:=zh h;have HC:=zh hC;have HX:=zh (heap_alloc_new W (.cells #[.int .u8 t.k,.int .i64 t.n,.string t.s,.slice A t.ks.length c] 41));have nI:=zh (fun w' (hb:Below W.heap.size W w')=>zpP t _ back C.w w' (zka h.below hb) hv (by omega));have nD:=zh hk;clear hrow hS hb0 h hv hk hC hlk;go_enter Tryz.func176,Tryz.ntmps176;go_wp2_with fail;refine(nI.out _ HB0.out).mono ?_;rintro e w2 ⟨v1,v2,rfl,n1,n2,b2⟩;obtain⟨t1,ht1⟩:=zX (fstT back t);obtain⟨t2,ht2⟩:=zX (lstT back t);have HT1:=zh ht1;have HT2:=zh ht2;rw[ht1]at n1;rw[ht2]at n2;obtain⟨A1,c1,rfl,-⟩:=n1.open_
 obtain⟨A2,c2,rfl,-⟩:=n2.open_;have ny:=zh n1;have aJ:=zh n2;have b3:=zkb (zkb (zka HB0.out b2) (.cells #[.int .u8 t1.k,.int .i64 t1.n,.string t1.s,.slice A1 t1.ks.length c1] 41)) (.cells #[.int .u8 t2.k,.int .i64 t2.n,.string t2.s,.slice A2 t2.ks.length c2] 41);have k0:=zkf (zkf (zkc HX.out b2) (.cells #[.int .u8 t1.k,.int .i64 t1.n,.string t1.s,.slice A1 t1.ks.length c1] 41)) (.cells #[.int .u8 t2.k,.int .i64 t2.n,.string t2.s,.slice A2 t2.ks.length c2] 41);have k1:=zkf (heap_alloc_new w2 (.cells #[.int .u8 t1.k,.int .i64 t1.n,.string t1.s,.slice A1 t1.ks.length c1] 41)) (.cells #[.int .u8 t2.k,.int .i64 t2.n,.string t2.s,.slice A2 t2.ks.length c2] 41);have k2:=heap_alloc_new (w2.alloc (.cells #[.int .u8 t1.k,.int .i64 t1.n,.string t1.s,.slice A1 t1.ks.length c1] 41)) (.cells #[.int .u8 t2.k,.int .i64 t2.n,.string t2.s,.slice A2 t2.ks.length c2] 41)
 simp only[World.size_alloc]at k2;obtain⟨w3,hw3⟩:=zX ((w2.alloc (.cells #[.int .u8 t1.k,.int .i64 t1.n,.string t1.s,.slice A1 t1.ks.length c1] 41)).alloc (.cells #[.int .u8 t2.k,.int .i64 t2.n,.string t2.s,.slice A2 t2.ks.length c2] 41));rw[hw3]at b3 k0 k1 k2;have hz2:=zka HB0.out b2;have hzz:=hz2.size;obtain⟨fq,h3⟩:=H.out.plus HC.out b3;have bS:=zh (Kpt.of_below (n0:=C.n0) (kb:=C.kb) b3);have l0:=zkn k0;have l1:=zkn k1;have l2:=zkn k2;obtain⟨hi,hhi⟩:=zX (w3.heap.size);rw[hhi]at fq h3 l0 l1 l2;have dY:=zh fq;have H3:=zh h3;have K0:=zh k0;have K1:=zh k1;have K2:=zh k2;have iP:=zh (zol fq h3 t1 _ n1)
 obtain⟨p1,⟨y0,y1,y2,y3⟩⟩:True/\(w3.cell? ⟨w2.heap.size,0,none⟩=some (.int .u8 t1.k)/\w3.cell? ⟨w2.heap.size,1,none⟩=some (.int .i64 t1.n)/\w3.cell? ⟨w2.heap.size,2,none⟩=some (.string t1.s)/\w3.cell? ⟨w2.heap.size,3,none⟩=some (.slice A1 t1.ks.length c1)):=⟨trivial,zc k1 rfl,zc k1 rfl,zc k1 rfl,zc k1 rfl⟩
 clear n1 n2 b2 b3 k0 k1 k2 hz2 fq h3 x0 x1 x2 x3 HX HB0 nI p1 ht1 ht2;go_upto_region 2 with fail;clear hw3;go_wp2_with fail;refine iP.out.mono ?_;rintro e w4 ⟨hk4,hb4,eZ⟩;have dI:=zh (bS.out.trans (Kpt.less (C:=C) hk4));have aF:=zh (show Below C.w.heap.size C.w w4 from hb4);clear y0 y1 y2 y3 iP;rcases eZ with⟨x,rfl,hx⟩|⟨b,r1,rfl,hr1,hx⟩
 ·refine⟨rfl,dI.out,aF.out,?_⟩;rw[show brO C.p.prs C.F g back t r=.err x by unfold brO;rw[HT1.out];exact hx _]
 ·have k0:=hk4.blk (.inr (.inr ⟨by omega,l0⟩)) K0.out;have k2:=hk4.blk (.inr (.inr ⟨by omega,l2⟩)) K2.out;have HR4:=zh hr1;have fG:=zh (show brO C.p.prs C.F g back t r=(runO C.p.prs C.F g back (if b=true then kid t 1 else kid t 2) r1).bind (zku C.F t2 b) by unfold brO;rw[HT1.out,HT2.out];exact hx _);have K4:=zh k0;have K5:=zh k2;have z3:w4.cell? ⟨W.heap.size,3,none⟩=some (.slice A t.ks.length c):=zc k0 rfl;have dn:=zh aH;clear hk4 hb4 hr1 hx k0 k2 aH
  cases b
  ·skip
   have hI:2<t.ks.length:=by have:=nD.out;omega
   have hI1:(2:Int)<(t.ks.length:Int):=by omega
   obtain⟨a,u,Au,cu,rfl,-,hu,⟨p0,p1,p2,p3⟩,hnu⟩:=ae.out.nd hI;have gu:kid t 2=u:=by unfold kid;rw[List.getD_eq_getElem?_getD,List.getElem?_eq_getElem hI];exact hu.out
   have uG:=zh (show ∀x∈u.ks,G C.p.prs x by rw[<-gu];exact hG2);have gP:=zh (show brO C.p.prs C.F g back t r=(runO C.p.prs C.F g back u r1).bind (zku C.F t2 false) by rw[fG.out];simp only[Bool.false_eq_true,if_false,if_true,gu]);have hgu:runO C.p.prs C.F g back u r1 ≠ .gas:=fun e=>dn.out (by rw[gP.out,e];rfl);have aC:=zh (zlf HS.out dY.out HR4.out u _ back hnu uG.out hgu);have ha:a.add (2*4)=⟨a.block,a.off+8,none⟩:=by unfold Addr.add;split<;>simp_all
   rw[ha]at p0 p1 p2 p3;have q0:w4.cell? ⟨a.block,a.off+8,none⟩=some (.int .u8 u.k):=zb aF.out p0;have q1:w4.cell? ⟨a.block,a.off+8+1,none⟩=some (.int .i64 u.n):=zb aF.out p1;have q2:w4.cell? ⟨a.block,a.off+8+2,none⟩=some (.string u.s):=zb aF.out p2;have q3:w4.cell? ⟨a.block,a.off+8+3,none⟩=some (.slice Au u.ks.length cu):=zb aF.out p3;clear gu hnu hu p0 p1 p2 p3 hgu;go_wp2_with fail;refine aC.out.mono ?_;rintro e w5 ⟨hk5,hb5,lu⟩;have iN:=zh (dI.out.trans (Kpt.less (C:=C) hk5));have aP:=zh (show Below C.w.heap.size C.w w5 from hb5);have bZ:match runO C.p.prs C.F g back u r1 with
    | .gas=>True
    | .err x=>e=zlC x
    | .ok r=>(∃u,e=.returned u)/\RI (C.plus W.heap.size hi) w5 r:=lu
   have k5:=hk5.blk (.inr (.inr ⟨by omega,l2⟩)) K5.out;have K6:=zh k5;clear q0 q1 q2 q3 z3 hk5 hb5 lu k5
   cases hx:runO C.p.prs C.F g back u r1 with
   | gas=>exact absurd (by rw[gP.out,hx];rfl) dn.out
   | err x =>
    rw[hx]at bZ;subst bZ;refine⟨rfl,iN.out,aP.out,?_⟩;rw[gP.out,hx];rfl
   | ok r2 =>
    rw[hx]at bZ;obtain⟨⟨u2,rfl⟩,hr2⟩:=bZ;have HAS:=zh (zmJ dY.out hr2 t2 _ aJ.out false);have jP:=zh (show brO C.p.prs C.F g back t r=zku C.F t2 false r2 by rw[gP.out,hx];rfl);have q0:w5.cell? ⟨w2.heap.size+1,0,none⟩=some (.int .u8 t2.k):=zc K6.out rfl;have q1:w5.cell? ⟨w2.heap.size+1,1,none⟩=some (.int .i64 t2.n):=zc K6.out rfl;have q2:w5.cell? ⟨w2.heap.size+1,2,none⟩=some (.string t2.s):=zc K6.out rfl;have q3:w5.cell? ⟨w2.heap.size+1,3,none⟩=some (.slice A2 t2.ks.length c2):=zc K6.out rfl;clear hx hr2;go_wp2_with fail;refine HAS.out.mono ?_;rintro e w6 ⟨bC,hb6,kF⟩;have dO:=zh (iN.out.trans (Kpt.less (C:=C) bC));have aV:=zh (show Below C.w.heap.size C.w w6 from hb6);have bY:match zku C.F t2 false r2 with
     | .gas=>True
     | .err x=>e=zlC x
     | .ok r=>(∃u,e=.returned u)/\RI (C.plus W.heap.size hi) w6 r:=kF
    clear q0 q1 q2 q3 bC hb6 kF
    cases hy:zku C.F t2 false r2 with
    | gas=>exact absurd (by rw[jP.out,hy]) dn.out
    | err x =>
     rw[hy]at bY;subst bY;refine⟨rfl,dO.out,aV.out,?_⟩;rw[jP.out,hy]
    | ok r3 =>
     rw[hy]at bY;obtain⟨⟨u3,rfl⟩,hr3⟩:=bY;have gH:=zh hr3.less;have uM:=zh (show brO C.p.prs C.F g back t r=.ok r3 by rw[jP.out,hy]);clear hr3 hy;go_wp2_with fail;go_end0;refine⟨dO.out,aV.out,?_⟩;rw[uM.out];exact⟨⟨_,rfl⟩,gH.out⟩
  ·skip
   have hI:1<t.ks.length:=by have:=nD.out;omega
   have hI1:(1:Int)<(t.ks.length:Int):=by omega
   obtain⟨a,u,Au,cu,rfl,-,hu,⟨p0,p1,p2,p3⟩,hnu⟩:=ae.out.nd hI;have gu:kid t 1=u:=by unfold kid;rw[List.getD_eq_getElem?_getD,List.getElem?_eq_getElem hI];exact hu.out
   have uG:=zh (show ∀x∈u.ks,G C.p.prs x by rw[<-gu];exact hG1);have gP:=zh (show brO C.p.prs C.F g back t r=(runO C.p.prs C.F g back u r1).bind (zku C.F t2 true) by rw[fG.out];simp only[Bool.false_eq_true,if_false,if_true,gu]);have hgu:runO C.p.prs C.F g back u r1 ≠ .gas:=fun e=>dn.out (by rw[gP.out,e];rfl);have aC:=zh (zlf HS.out dY.out HR4.out u _ back hnu uG.out hgu);have ha:a.add (1*4)=⟨a.block,a.off+4,none⟩:=by unfold Addr.add;split<;>simp_all
   rw[ha]at p0 p1 p2 p3;have q0:w4.cell? ⟨a.block,a.off+4,none⟩=some (.int .u8 u.k):=zb aF.out p0;have q1:w4.cell? ⟨a.block,a.off+4+1,none⟩=some (.int .i64 u.n):=zb aF.out p1;have q2:w4.cell? ⟨a.block,a.off+4+2,none⟩=some (.string u.s):=zb aF.out p2;have q3:w4.cell? ⟨a.block,a.off+4+3,none⟩=some (.slice Au u.ks.length cu):=zb aF.out p3;clear gu hnu hu p0 p1 p2 p3 hgu;go_wp2_with fail;refine aC.out.mono ?_;rintro e w5 ⟨hk5,hb5,lu⟩;have iN:=zh (dI.out.trans (Kpt.less (C:=C) hk5));have aP:=zh (show Below C.w.heap.size C.w w5 from hb5);have bZ:match runO C.p.prs C.F g back u r1 with
    | .gas=>True
    | .err x=>e=zlC x
    | .ok r=>(∃u,e=.returned u)/\RI (C.plus W.heap.size hi) w5 r:=lu
   have k5:=hk5.blk (.inr (.inr ⟨by omega,l2⟩)) K5.out;have K6:=zh k5;clear q0 q1 q2 q3 z3 hk5 hb5 lu k5
   cases hx:runO C.p.prs C.F g back u r1 with
   | gas=>exact absurd (by rw[gP.out,hx];rfl) dn.out
   | err x =>
    rw[hx]at bZ;subst bZ;refine⟨rfl,iN.out,aP.out,?_⟩;rw[gP.out,hx];rfl
   | ok r2 =>
    rw[hx]at bZ;obtain⟨⟨u2,rfl⟩,hr2⟩:=bZ;have HAS:=zh (zmJ dY.out hr2 t2 _ aJ.out true);have jP:=zh (show brO C.p.prs C.F g back t r=zku C.F t2 true r2 by rw[gP.out,hx];rfl);have q0:w5.cell? ⟨w2.heap.size+1,0,none⟩=some (.int .u8 t2.k):=zc K6.out rfl;have q1:w5.cell? ⟨w2.heap.size+1,1,none⟩=some (.int .i64 t2.n):=zc K6.out rfl;have q2:w5.cell? ⟨w2.heap.size+1,2,none⟩=some (.string t2.s):=zc K6.out rfl;have q3:w5.cell? ⟨w2.heap.size+1,3,none⟩=some (.slice A2 t2.ks.length c2):=zc K6.out rfl;clear hx hr2;go_wp2_with fail;refine HAS.out.mono ?_;rintro e w6 ⟨bC,hb6,kF⟩;have dO:=zh (iN.out.trans (Kpt.less (C:=C) bC));have aV:=zh (show Below C.w.heap.size C.w w6 from hb6);have bY:match zku C.F t2 true r2 with
     | .gas=>True
     | .err x=>e=zlC x
     | .ok r=>(∃u,e=.returned u)/\RI (C.plus W.heap.size hi) w6 r:=kF
    clear q0 q1 q2 q3 bC hb6 kF
    cases hy:zku C.F t2 true r2 with
    | gas=>exact absurd (by rw[jP.out,hy]) dn.out
    | err x =>
     rw[hy]at bY;subst bY;refine⟨rfl,dO.out,aV.out,?_⟩;rw[jP.out,hy]
    | ok r3 =>
     rw[hy]at bY;obtain⟨⟨u3,rfl⟩,hr3⟩:=bY;have gH:=zh hr3.less;have uM:=zh (show brO C.p.prs C.F g back t r=.ok r3 by rw[jP.out,hy]);clear hr3 hy;go_wp2_with fail;go_end0;refine⟨dO.out,aV.out,?_⟩;rw[uM.out];exact⟨⟨_,rfl⟩,gH.out⟩
def Up(n:Nat)(o:Out):Prop:=∀r,o=.ok r->n<=r.n
section
variable {m n:Nat} {o:Out} {F:Int} {t:T} {r:RS}
theorem Up.of(h:Good n o):Up n o:=h.2
theorem Up.mono(h:Up n o)(hm:m<=n):Up m o:=fun r e=>Nat.le_trans hm (h r e)
theorem Up.bind{f:RS->Out}(h:Up n o)(hf:∀r,n<=r.n->Up m (f r)):Up m (o.bind f):=by
 cases o with
 | gas=>intro r e;cases e
 | err x=>intro r e;cases e
 | ok r=>exact hf r (h r rfl)
theorem zqW{f:Int->RS->Out}(hf:∀x,Up m (f x r)):Up m (valO t r f):=by
 unfold valO
 split
 ·intro r e;cases e
 ·exact hf _
theorem zom{f:Bool->RS->Out}(hf:∀b r',r.n+1<=r'.n->Up m (f b r')):Up m (zlg F t r f):=by
 unfold zlg;exact(Up.of (zkt F r)).bind fun r' h=>zqW fun x=>hf _ _ h
theorem zmI{f:T->RS->Out}(hf:∀t r,Up r.n (f t r)):∀(l:List T) (r:RS),Up r.n (zld f l r)
 | [],r=>fun r' e=>by injection e with e;subst e;exact zl
 | t::ts,r=>by
  rw[zld];exact(hf t r).bind fun r1 h1=>(zmI hf ts r1).mono h1
theorem zsb{f:T->RS->Out}(hf:∀t r,Up r.n (f t r)){entry test:T}{l1 l2:List T}:∀(m:Nat) (r:RS),Up r.n (zl6 F f entry test l1 l2 m r)
 | 0,_=>fun r' e=>by cases e
 | m+1,r=>by
  rw[zl6];refine(zmI hf l1 r).bind fun r1 h1=>zom fun b r2 h2=>?_
  split
  ·intro r' e;injection e with e;subst e;omega
  ·refine(zmI hf l2 r2).bind fun r3 h3=>(Up.of (zlh F entry false r3)).bind fun r4 h4=>?_;exact(zsb hf m r4).mono (by omega)
end
theorem znU{prs:List PR}{F:Int}:∀(g:Nat) (back:Bool) (t:T) (r:RS),Up r.n (zkA prs F g back t r)
 | 0,_,_,_=>fun r' e=>by cases e
 | g+1,back,t,r=>by
  have hb:∀(back:Bool) l r1,Up r1.n (zld (zkA prs F g back) l r1):=fun back l r1=>zmI (fun u r2=>znU g back u r2) l r1;rw[zkA]
  split
  ·exact zom fun b r1 h1=>(hb _ _ r1).bind fun r2 h2=>(Up.of (zlh _ _ _ _)).mono (by omega)
  ·split
   ·refine(Up.of (zlh _ _ _ _)).bind fun r1 h1=>?_;exact(zsb (fun u r2=>znU g back u r2) g r1).mono (by omega)
   ·split
    ·refine(Up.of (zkt F r)).bind fun r1 h1=>zqW fun x=>?_;refine(Up.of (zkD r1 _)).bind fun r2 h2=>(hb _ _ r2).bind fun r3 h3=>(Up.of (zkt F r3)).bind fun r4 h4=>zqW fun x=>?_;exact(Up.of (zkD r4 _)).mono (by omega)
    ·split
     ·refine(Up.of (zkt F r)).bind fun r1 h1=>?_;refine(Up.of (zkD r1 _)).bind fun r2 h2=>(hb _ _ r2).bind fun r3 h3=>(Up.of (zkt F r3)).bind fun r4 h4=>?_;exact(Up.of (zkD r4 _)).mono (by omega)
     ·split
      ·split
       ·intro r' e;cases e
       ·refine(Up.of (zkt F r)).bind fun r1 h1=>?_;refine(Up.of (zkD r1 _)).bind fun r2 h2=>(hb _ _ _).bind fun r3 h3=>(Up.of (zkt F r3)).bind fun r4 h4=>?_;exact(Up.of (zkD r4 _)).mono (by simp only at h3;omega)
      ·refine(Up.of (zkt F r)).bind fun r1 h1=>?_;exact(Up.of (zkD r1 _)).mono (by omega)
def lpO(prs:List PR)(F:Int)(g:Nat)(back:Bool)(t:T)(r:RS):Out :=
 (zku F (fstT back t) true r).bind (zl6 F (zkA prs F g back) (fstT back t) (lstT back t) (blkL back (kid t 1)) (blkL back (kid t 2)) g)
def stp(rb:Nat)(W:World):Nat:=match W.cell? ⟨rb,7,none⟩with
 | some (.int _ n)=>n.toNat
 | _=>0
theorem zxu{C:RC}{W:World}{r:RS}(h:RI C W r):stp C.rb W=r.n:=by
 unfold stp;rw[h.cells.2.1];simp
theorem zwi{G:List PR->T->Prop}{g:Nat}(hS:IStC G g){C:RC}(hC:C.Ok){W:World}{r:RS}(h:RI C W r)(t:T)(v:Value)(back:Bool)(hv:NV C.w Any t v)(hk:t.ks.length=4)(hG1:∀u∈(kid t 1).ks,G C.p.prs u)(hG2:∀u∈(kid t 2).ks,G C.p.prs u)
  (aH:lpO C.p.prs C.F g back t r ≠ .gas) :
  Calls Tryz.prog 177 #[.pointer (some ⟨C.rb,0,none⟩),v,.bool back] W (RunP C W (lpO C.p.prs C.F g back t r)):=by
 obtain⟨A,c,rfl,-,hlk,hlc,hrow⟩:=hv.open_;have ae:=zh hrow;have HS:=zh hS;have HV:=zh hv;have hb0:=zkb (zs W) (.cells #[.int .u8 t.k,.int .i64 t.n,.string t.s,.slice A t.ks.length c] 41);obtain⟨x0,x1,x2,x3⟩:=box4 (heap_alloc_new W (.cells #[.int .u8 t.k,.int .i64 t.n,.string t.s,.slice A t.ks.length c] 41));have HB0:=zh hb0;have H:=zh h;have HC:=zh hC;have HX:=zh (heap_alloc_new W (.cells #[.int .u8 t.k,.int .i64 t.n,.string t.s,.slice A t.ks.length c] 41));have nI:=zh (fun w' (hb:Below W.heap.size W w')=>zpP t _ back C.w w' (zka h.below hb) hv (by omega));have nD:=zh hk;clear hrow hS hb0 h hv hk hC hlk;go_enter Tryz.func177,Tryz.ntmps177;go_wp2_with fail;refine(nI.out _ HB0.out).mono ?_;rintro e w2 ⟨v1,v2,rfl,n1,n2,b2⟩;obtain⟨t1,ht1⟩:=zX (fstT back t);obtain⟨t2,ht2⟩:=zX (lstT back t);have HT1:=zh ht1;have HT2:=zh ht2;rw[ht1]at n1;rw[ht2]at n2;obtain⟨A1,c1,rfl,-⟩:=n1.open_
 obtain⟨A2,c2,rfl,-⟩:=n2.open_;have ny:=zh n1;have aJ:=zh n2;have b3:=zkb (zkb (zka HB0.out b2) (.cells #[.int .u8 t1.k,.int .i64 t1.n,.string t1.s,.slice A1 t1.ks.length c1] 41)) (.cells #[.int .u8 t2.k,.int .i64 t2.n,.string t2.s,.slice A2 t2.ks.length c2] 41);have k0:=zkf (zkf (zkc HX.out b2) (.cells #[.int .u8 t1.k,.int .i64 t1.n,.string t1.s,.slice A1 t1.ks.length c1] 41)) (.cells #[.int .u8 t2.k,.int .i64 t2.n,.string t2.s,.slice A2 t2.ks.length c2] 41);have k1:=zkf (heap_alloc_new w2 (.cells #[.int .u8 t1.k,.int .i64 t1.n,.string t1.s,.slice A1 t1.ks.length c1] 41)) (.cells #[.int .u8 t2.k,.int .i64 t2.n,.string t2.s,.slice A2 t2.ks.length c2] 41);have k2:=heap_alloc_new (w2.alloc (.cells #[.int .u8 t1.k,.int .i64 t1.n,.string t1.s,.slice A1 t1.ks.length c1] 41)) (.cells #[.int .u8 t2.k,.int .i64 t2.n,.string t2.s,.slice A2 t2.ks.length c2] 41)
 simp only[World.size_alloc]at k2;obtain⟨w3,hw3⟩:=zX ((w2.alloc (.cells #[.int .u8 t1.k,.int .i64 t1.n,.string t1.s,.slice A1 t1.ks.length c1] 41)).alloc (.cells #[.int .u8 t2.k,.int .i64 t2.n,.string t2.s,.slice A2 t2.ks.length c2] 41));rw[hw3]at b3 k0 k1 k2;have hz2:=zka HB0.out b2;have hzz:=hz2.size;obtain⟨fq,h3⟩:=H.out.plus HC.out b3;have bS:=zh (Kpt.of_below (n0:=C.n0) (kb:=C.kb) b3);have l0:=zkn k0;have l1:=zkn k1;have l2:=zkn k2;obtain⟨hi,hhi⟩:=zX (w3.heap.size);rw[hhi]at fq h3 l0 l1 l2;have dY:=zh fq;have H3:=zh h3;have K0:=zh k0;have K1:=zh k1;have K2:=zh k2;have iP:=zh (zmJ fq h3 t1 _ n1 true)
 obtain⟨p1,⟨y0,y1,y2,y3⟩⟩:True/\(w3.cell? ⟨w2.heap.size,0,none⟩=some (.int .u8 t1.k)/\w3.cell? ⟨w2.heap.size,1,none⟩=some (.int .i64 t1.n)/\w3.cell? ⟨w2.heap.size,2,none⟩=some (.string t1.s)/\w3.cell? ⟨w2.heap.size,3,none⟩=some (.slice A1 t1.ks.length c1)):=⟨trivial,zc k1 rfl,zc k1 rfl,zc k1 rfl,zc k1 rfl⟩
 clear n1 n2 b2 b3 k0 k1 k2 hz2 fq h3 x0 x1 x2 x3 HX HB0 nI p1 ht1 ht2;go_upto_region 2 with fail;clear hw3;obtain⟨o,ho⟩:=zX (lpO C.p.prs C.F g back t r);have HO:=zh (show(zku C.F t1 true r).bind (zl6 C.F (zkA C.p.prs C.F g back) t1 t2 (blkL back (kid t 1)) (blkL back (kid t 2)) g)=o by rw[<-ho];unfold lpO;rw[HT1.out,HT2.out]);rw[ho]at aH ⊢;have dn:=zh aH;have bO:=zh ho;clear aH ho;go_wp2_with fail;refine iP.out.mono ?_;rintro e w4 ⟨hk4,hb4,eZ⟩;have dI:=zh (bS.out.trans (Kpt.less (C:=C) hk4));have aF:=zh (show Below C.w.heap.size C.w w4 from hb4);have bB:match zku C.F t1 true r with
  | .gas=>True
  | .err x=>e=zlC x
  | .ok r=>(∃u,e=.returned u)/\RI (C.plus W.heap.size hi) w4 r:=eZ
 have dP:=zh hk4;clear y0 y1 y2 y3 iP hk4 hb4 eZ
 cases hy:zku C.F t1 true r with
 | gas=>exact absurd (by rw[<-HO.out,hy];rfl) dn.out
 | err x =>
  rw[hy]at bB;subst bB;refine⟨rfl,dI.out,aF.out,?_⟩;rw[<-HO.out,hy];rfl
 | ok r1 =>
  rw[hy]at bB;obtain⟨⟨u3,rfl⟩,hr1⟩:=bB;have HR4:=zh hr1;have iZ:=zh (show zl6 C.F (zkA C.p.prs C.F g back) t1 t2 (blkL back (kid t 1)) (blkL back (kid t 2)) g r1=o by rw[<-HO.out,hy];rfl);clear hr1 hy;have hI1:(1:Int)<(t.ks.length:Int):=by have:=nD.out;omega
  have hI2:(2:Int)<(t.ks.length:Int):=by have:=nD.out;omega
  have hi1:1<t.ks.length:=by omega
  have hi2:2<t.ks.length:=by omega
  obtain⟨a,u,Au,cu,rfl,-,hu,⟨p0,p1,p2,p3⟩,hnu⟩:=ae.out.nd hi1;obtain⟨a',u',Au',cu',e',-,hu',⟨p4,p5,p6,p7⟩,hnu'⟩:=ae.out.nd hi2;injection e' with e';subst e';have gu:kid t 1=u:=by unfold kid;rw[List.getD_eq_getElem?_getD,List.getElem?_eq_getElem hi1];exact hu.out
  have sG:kid t 2=u':=by unfold kid;rw[List.getD_eq_getElem?_getD,List.getElem?_eq_getElem hi2];exact hu'.out
  rw[gu]at hG1;rw[sG]at hG2;rw[gu,sG]at iZ;have yI:=zh hG1;have HG2:=zh hG2;have xe:=zh hnu;have HNU':=zh hnu';have ha:a.add (1*4)=⟨a.block,a.off+4,none⟩:=by unfold Addr.add;split<;>simp_all
  have ha':a.add (2*4)=⟨a.block,a.off+8,none⟩:=by unfold Addr.add;split<;>simp_all
  rw[ha]at p0 p1 p2 p3;rw[ha']at p4 p5 p6 p7;have uw:=zh (show ∀w',Below C.w.heap.size C.w w'->(w'.cell? ⟨a.block,a.off+4,none⟩=some (.int .u8 u.k)/\w'.cell? ⟨a.block,a.off+4+1,none⟩=some (.int .i64 u.n)/\w'.cell? ⟨a.block,a.off+4+2,none⟩=some (.string u.s)/\w'.cell? ⟨a.block,a.off+4+3,none⟩=some (.slice Au u.ks.length cu))/\(w'.cell? ⟨a.block,a.off+8,none⟩=some (.int .u8 u'.k)/\w'.cell? ⟨a.block,a.off+8+1,none⟩=some (.int .i64 u'.n)/\w'.cell? ⟨a.block,a.off+8+2,none⟩=some (.string u'.s)/\w'.cell? ⟨a.block,a.off+8+3,none⟩=some (.slice Au' u'.ks.length cu'))from fun w' hb=>⟨⟨zb hb p0,zb hb p1,zb hb p2,zb hb p3⟩,⟨zb hb p4,zb hb p5,zb hb p6,zb hb p7⟩⟩);clear gu sG hnu hnu' hu hu' p0 p1 p2 p3 p4 p5 p6 p7 ha ha' hG1 hG2;have hz0:W.heap.size<hi:=l0;go_wp2_with fail
  go_loopw [] (fun wr=>∃(m:Nat) (r1:RS),Hid (RI (C.plus W.heap.size hi) wr r1)/\Hid (Kpt C.n0 (C.plus W.heap.size hi).kb w3 wr)/\Hid (zl6 C.F (zkA C.p.prs C.F g back) t1 t2 (blkL back u) (blkL back u') m r1=o)) (fun wr=>C.F.toNat-stp C.rb wr)
  case atStart=>exact⟨g,r1,HR4,dP,iZ⟩
  case round =>
   obtain⟨m,r3,HR,HK,HL⟩:=hrel;have j0:=HK.out.blk (.inr (.inr ⟨by omega,l0⟩)) K0.out;have j1:=HK.out.blk (.inr (.inr ⟨by omega,l1⟩)) K1.out;have j2:=HK.out.blk (.inr (.inr ⟨by omega,l2⟩)) K2.out;have z3:wr.cell? ⟨W.heap.size,3,none⟩=some (.slice (some a) t.ks.length c):=zc j0 rfl
   cases m with
   | zero=>exact absurd HL.out.symm dn.out
   | succ m =>
    have HL2:=zh (show(runO C.p.prs C.F g back u r3).bind (fun r=>zlg C.F t2 r fun b r=>if b=true then .ok r else(runO C.p.prs C.F g back u' r).bind fun r=>(zku C.F t1 false r).bind (zl6 C.F (zkA C.p.prs C.F g back) t1 t2 (blkL back u) (blkL back u') m))=o from HL.out);have hgu:runO C.p.prs C.F g back u r3 ≠ .gas:=fun e=>dn.out (by rw[<-HL2.out,e];rfl);have aC:=zh (zlf HS.out dY.out HR.out u _ back xe.out yI.out hgu);obtain⟨⟨q0,q1,q2,q3⟩,-⟩:=uw.out wr HR.out.below;clear hgu j0 j1 j2;go_wp2_with fail;refine aC.out.mono ?_;rintro e w5 ⟨hk5,hb5,lu⟩;have iN:=zh (HK.out.trans hk5);have aP:=zh (show Below C.w.heap.size C.w w5 from hb5);have bZ:match runO C.p.prs C.F g back u r3 with
     | .gas=>True
     | .err x=>e=zlC x
     | .ok r=>(∃u,e=.returned u)/\RI (C.plus W.heap.size hi) w5 r:=lu
    clear q0 q1 q2 q3 z3 hk5 hb5 lu aC
    cases hx:runO C.p.prs C.F g back u r3 with
    | gas=>exact absurd (by rw[<-HL2.out,hx];rfl) dn.out
    | err x =>
     rw[hx]at bZ;subst bZ;refine⟨rfl,bS.out.trans (Kpt.less (C:=C) iN.out),aP.out,?_⟩
     try rw[bO.out]
     rw[<-HL2.out,hx];rfl
    | ok r4 =>
     rw[hx]at bZ;obtain⟨⟨u2,rfl⟩,hr4⟩:=bZ;have vz:=zh (zmI (fun t r=>znU g back t r) (blkL back u) r3 r4 hx);have xn:=zh (show(zlg C.F t2 r4 fun b r=>if b=true then .ok r else(runO C.p.prs C.F g back u' r).bind fun r=>(zku C.F t1 false r).bind (zl6 C.F (zkA C.p.prs C.F g back) t1 t2 (blkL back u) (blkL back u') m))=o by rw[<-HL2.out,hx];rfl);have HHO2:=zh (zol dY.out hr4 t2 _ aJ.out);have j2:=iN.out.blk (.inr (.inr ⟨by omega,l2⟩)) K2.out;have q0:w5.cell? ⟨w2.heap.size+1,0,none⟩=some (.int .u8 t2.k):=zc j2 rfl;have q1:w5.cell? ⟨w2.heap.size+1,1,none⟩=some (.int .i64 t2.n):=zc j2 rfl;have q2:w5.cell? ⟨w2.heap.size+1,2,none⟩=some (.string t2.s):=zc j2 rfl;have q3:w5.cell? ⟨w2.heap.size+1,3,none⟩=some (.slice A2 t2.ks.length c2):=zc j2 rfl;clear hx hr4 j2;go_wp2_with fail;refine HHO2.out.mono ?_;rintro e w6 ⟨bC,hb6,kF⟩;have dO:=zh (iN.out.trans bC)
     have aV:=zh (show Below C.w.heap.size C.w w6 from hb6);clear q0 q1 q2 q3 bC hb6 HHO2;rcases kF with⟨x,rfl,hx⟩|⟨b,r5,rfl,ky,hx⟩
     ·refine⟨rfl,bS.out.trans (Kpt.less (C:=C) dO.out),aV.out,?_⟩
      try rw[bO.out]
      rw[<-xn.out,show ∀f,zlg C.F t2 r4 f=.err x from hx]
     ·have gH:=zh ky;have HL4:=zh (show(if b=true then .ok r5 else(runO C.p.prs C.F g back u' r5).bind fun r=>(zku C.F t1 false r).bind (zl6 C.F (zkA C.p.prs C.F g back) t1 t2 (blkL back u) (blkL back u') m))=o by rw[<-xn.out,show ∀f,zlg C.F t2 r4 f=f b r5 from hx]);have HUP2:=zh (zom (t:=t2) (F:=C.F) (r:=r4) (m:=r4.n+1) (f:=fun _ r=>.ok r) (fun b r' h r'' e=>by injection e with e;subst e;exact h) r5 (hx _));clear hx ky
      cases b
      ·have kW:=zh (show(runO C.p.prs C.F g back u' r5).bind (fun r=>(zku C.F t1 false r).bind (zl6 C.F (zkA C.p.prs C.F g back) t1 t2 (blkL back u) (blkL back u') m))=o from HL4.out);have hgu:runO C.p.prs C.F g back u' r5 ≠ .gas:=fun e=>dn.out (by rw[<-kW.out,e];rfl);have aC:=zh (zlf HS.out dY.out gH.out u' _ back HNU'.out HG2.out hgu);have j0:=dO.out.blk (.inr (.inr ⟨by omega,l0⟩)) K0.out;have z3:w6.cell? ⟨W.heap.size,3,none⟩=some (.slice (some a) t.ks.length c):=zc j0 rfl;obtain⟨-,q0,q1,q2,q3⟩:=uw.out w6 aV.out;clear hgu j0;go_wp2_with fail;refine aC.out.mono ?_;rintro e w7 ⟨wC,iD,ho7⟩;have xq:=zh (dO.out.trans wC);have uN:=zh (show Below C.w.heap.size C.w w7 from iD);have oK:match runO C.p.prs C.F g back u' r5 with
        | .gas=>True
        | .err x=>e=zlC x
        | .ok r=>(∃u,e=.returned u)/\RI (C.plus W.heap.size hi) w7 r:=ho7
       clear q0 q1 q2 q3 z3 wC iD ho7 aC
       cases hx:runO C.p.prs C.F g back u' r5 with
       | gas=>exact absurd (by rw[<-kW.out,hx];rfl) dn.out
       | err x =>
        rw[hx]at oK;subst oK;refine⟨rfl,bS.out.trans (Kpt.less (C:=C) xq.out),uN.out,?_⟩
        try rw[bO.out]
        rw[<-kW.out,hx];rfl
       | ok r6 =>
        rw[hx]at oK;obtain⟨⟨u2,rfl⟩,dK⟩:=oK;have HUP3:=zh (zmI (fun t r=>znU g back t r) (blkL back u') r5 r6 hx);have Bz:=zh (show(zku C.F t1 false r6).bind (zl6 C.F (zkA C.p.prs C.F g back) t1 t2 (blkL back u) (blkL back u') m)=o by rw[<-kW.out,hx];rfl);have HAS:=zh (zmJ dY.out dK t1 _ ny.out false);have j1:=xq.out.blk (.inr (.inr ⟨by omega,l1⟩)) K1.out;have q0:w7.cell? ⟨w2.heap.size,0,none⟩=some (.int .u8 t1.k):=zc j1 rfl;have q1:w7.cell? ⟨w2.heap.size,1,none⟩=some (.int .i64 t1.n):=zc j1 rfl;have q2:w7.cell? ⟨w2.heap.size,2,none⟩=some (.string t1.s):=zc j1 rfl;have q3:w7.cell? ⟨w2.heap.size,3,none⟩=some (.slice A1 t1.ks.length c1):=zc j1 rfl;clear hx dK j1;go_wp2_with fail;refine HAS.out.mono ?_;rintro e w8 ⟨jU,bR,qz⟩;have qX:=zh (xq.out.trans jU);have dQ:=zh (show Below C.w.heap.size C.w w8 from bR)
        have bX:match zku C.F t1 false r6 with
         | .gas=>True
         | .err x=>e=zlC x
         | .ok r=>(∃u,e=.returned u)/\RI (C.plus W.heap.size hi) w8 r:=qz
        clear q0 q1 q2 q3 jU bR qz HAS
        cases hy:zku C.F t1 false r6 with
        | gas=>exact absurd (by rw[<-Bz.out,hy];rfl) dn.out
        | err x =>
         rw[hy]at bX;subst bX;refine⟨rfl,bS.out.trans (Kpt.less (C:=C) qX.out),dQ.out,?_⟩
         try rw[bO.out]
         rw[<-Bz.out,hy];rfl
        | ok r7 =>
         rw[hy]at bX;obtain⟨⟨u3,rfl⟩,nP⟩:=bX;have nX:=zh nP;have HL7:=zh (show zl6 C.F (zkA C.p.prs C.F g back) t1 t2 (blkL back u) (blkL back u') m r7=o by rw[<-Bz.out,hy];rfl);have hmm:C.F.toNat-stp C.rb w8<C.F.toNat-stp C.rb wr:=by
          have e1:stp C.rb w8=r7.n:=zxu (C:=C.plus W.heap.size hi) nX.out;have e2:stp C.rb wr=r3.n:=zxu (C:=C.plus W.heap.size hi) HR.out;obtain⟨e3,e4⟩:=zny hy;have e5:=vz.out;have e6:=HUP2.out;have e7:=HUP3.out;have e8:r7.n=r6.n+1:=by rw[e3]
          omega
         have vJ:=zh hmm;clear nP hy hmm;go_wp2_with fail
         go_roundw
         case rel=>exact⟨m,r7,nX,qX,HL7⟩
         case measure=>exact vJ.out
      ·have kW:=zh (show o=.ok r5 from HL4.out.symm);have gV:=zh gH.out.less;go_wp2_with fail;go_end0;refine⟨bS.out.trans (Kpt.less (C:=C) dO.out),aV.out,?_⟩
       try rw[bO.out]
       rw[kW.out];exact⟨⟨_,rfl⟩,gV.out⟩
section
variable {C:RC} {W W':World} {r:RS} {S':ST}
theorem RI.store(h:RI C W r)(hk:KS C.w C.n0 C.sb (fun b=>C.kb b\/b=C.rb\/C.ev.ownBlock=some b) W' S')(hp:Kpt C.n0 (fun b=>C.kb b\/b=C.rb\/C.ev.ownBlock=some b) W W')(hf:FB r.n S') :
  RI C W' { r with S:=S' }/\Kpt C.n0 C.kb W W' :=
 ⟨⟨hk,hp.blk (.inr (.inr (.inl rfl))) h.box,zmr h.ent fun b hb=>hp.kept b (h.ent.lt b hb).2 (.inr (.inr (.inr hb))),h.el,h.en,h.n,hf⟩,⟨hp.size,fun b hb hk=>hp.kept b hb (hk.imp id .inl)⟩⟩
end
theorem FB.fr{j:Nat}{S S':ST}(h:FB j S)(hf:FrK S S'):FB (j+1) S':=by
 obtain⟨h1,h2,_⟩:=hf;unfold FB;rw[h1,h2];exact h.mono (Nat.le_succ _)
theorem FB.cur{j:Nat}{S:ST}(h:FB j S):S.cur.vs.length<=1000+j:=by
 rcases Nat.eq_zero_or_pos S.calls.length with h0|h0
 ·rw[zna h0];have:=h.1;omega
 ·rw[zm9 h0];exact h.2 _ (List.getElem_mem _)
theorem FB.setCur{j:Nat}{S:ST}(h:FB j S)(f:FR)(hf:f.vs.length<=S.cur.vs.length+1):FB (j+1) (S.setCur f):=by
 unfold ST.setCur;by_cases h0:S.calls.length=0
 ·rw[if_pos h0];rw[zna h0]at hf;exact⟨by have:=h.1;show f.vs.length<=_;omega,(h.mono (Nat.le_succ _)).2⟩
 ·rw[if_neg h0];refine⟨(h.mono (Nat.le_succ _)).1,fun g hg=>?_⟩;rw[zm9 (by omega)]at hf;rcases List.mem_or_eq_of_mem_set hg with hg|rfl
  ·exact(h.mono (Nat.le_succ _)).2 g hg
  ·have:=h.2 _ (List.getElem_mem (l:=S.calls) (n:=S.calls.length-1) (by omega));omega
theorem FB.open_{j:Nat}{S:ST}(h:FB j S)(v:VD)(x:Int):FB (j+1) (zlV S v x).2:=by
 unfold zlV
 repeat' split
 all_goals first|exact h.mono (Nat.le_succ _)|exact FB.setCur (S:=S.newCell _) h _ (by rw[zmQ];simp[FR.push])
theorem FB.close_{j:Nat}{S:ST}(h:FB j S)(s:ByteArray)(x:Int):FB (j+1) (zk8 S s x).2:=by
 unfold zk8
 repeat' split
 all_goals first|exact h.mono (Nat.le_succ _)|skip
 all_goals exact h.setCur _ (by simp[FR.pop];omega)
theorem FB.enter{j:Nat}{S:ST}(h:FB j S)(ps:List VD)(ss:List ByteArray)(hp:ps.length<=1000):FB (j+1) (zlQ S ps ss).2:=by
 unfold zlQ
 split
 ·exact h.mono (Nat.le_succ _)
 ·rcases he:entL S.cur ⟨[],[],0⟩ (ps.zip ss)with e|f
  ·exact h.mono (Nat.le_succ _)
  ·unfold entR;dsimp only
   split
   ·exact h.mono (Nat.le_succ _)
   ·refine⟨(h.mono (Nat.le_succ _)).1,fun g hg=>?_⟩;rcases List.mem_append.1 hg with hg|hg
    ·exact(h.mono (Nat.le_succ _)).2 g hg
    ·simp at hg;subst hg;have:=zsp _ _ _ he;simp at this;omega
theorem FB.leave{j:Nat}{S:ST}(h:FB j S):FB (j+1) (zl1 S).2:=by
 unfold zl1
 split
 ·exact h.mono (Nat.le_succ _)
 ·exact⟨(h.mono (Nat.le_succ _)).1,fun g hg=>(h.mono (Nat.le_succ _)).2 g (List.mem_of_mem_take hg)⟩
theorem FB.do_{j:Nat}{S:ST}(h:FB j S)(t:T):FB (j+1) (doE S t).2:=h.fr (zxL _ _)
theorem FB.undo{j:Nat}{S:ST}(h:FB j S)(t:T):FB (j+1) (zn5 S t).2:=h.fr (zvN _ _)
theorem zk2{P:Program}{ops:Array Oper}{o:Oper}{a:Act}{w:World}{K:Act->World->Prop}{Q:Exit->Act->World->Prop}{F:Prop}(hw:Region.wanted o (yielded ops a.tmps)=true)(x:Operand)(xs:List Operand)(ats:Array TypeId)
  (ho:o.op=.call { callee:=.value x,args:=xs.toArray,argTypes:=ats })(f:FuncId)(fn:Func)(hf:IsFn P f fn)(hv:a.eval x=.func (.func f) #[] #[])(l:List Value)(hargs:xs.map a.eval=l)(R:Value->World->Prop)
  (hc:Calls P f l.toArray w fun e w'=>(∃v,e=.returned v/\R v w')\/∃ch,e=.panicked ch/\Q (.panic ch) a w')(h:∀v w',R v w'->K (a.put o.dst v) w') :
  if Region.wanted o (yielded ops a.tmps)=true then Oper.wp P o a w K Q else F:=by
 rw[if_pos hw];subst hargs;have e:(execOp a.eval o).run P w=.ok (.enter f (xs.map a.eval).toArray) w:=by
  unfold execOp;simp only[ho,resolve,hv,Deferred.ofValue,Sem.run_bind,Sem.run_pure,Result.andThen_ok,invoke,zkN hf,Array.empty_append,List.map_toArray,Array.append_empty]
 unfold Oper.wp;rw[e,Oper.upon_enter];refine hc.mono ?_;rintro e w' (⟨v,rfl,hR⟩|⟨ch,rfl,hq⟩)
 ·exact h v w' hR
 ·exact hq
theorem zul:IsFn Tryz.prog 200 Tryz.f200:=⟨Tryz.func200,by kernel_rfl,by kernel_rfl⟩
theorem zme:IsFn Tryz.prog 180 Tryz.f180:=⟨Tryz.func180,by kernel_rfl,by kernel_rfl⟩
theorem zuq:IsFn Tryz.prog 181 Tryz.f181:=⟨Tryz.func181,by kernel_rfl,by kernel_rfl⟩
theorem zsk:IsFn Tryz.prog 182 Tryz.f182:=⟨Tryz.func182,by kernel_rfl,by kernel_rfl⟩
def loR(prs:List PR)(F:Int)(g:Nat)(back:Bool)(t t2:T)(r:RS):Out :=
 (zld (zkA prs F g back) (blkL back (kid t 1)) r).bind fun r=>(zkE F r).bind fun r=>valO t2 r fun x r=>zkl r (zk8 r.S t.s x)
def loO(prs:List PR)(F:Int)(g:Nat)(back:Bool)(t:T)(r:RS):Out :=
 (zkE F r).bind fun r=>valO (fstT back t) r fun x r=>(zkl r (zlV r.S ⟨t.s,1,0⟩ x)).bind (loR prs F g back t (lstT back t))
theorem zt6{G:List PR->T->Prop}{g:Nat}(hS:IStC G g){C:RC}(hC:C.Ok){W:World}{r:RS}(h:RI C W r)(t:T)(v:Value)(back:Bool)(hv:NV C.w Any t v)(hk:t.ks.length=3)(hG1:∀u∈(kid t 1).ks,G C.p.prs u)
  (aH:loO C.p.prs C.F g back t r ≠ .gas) :
  Calls Tryz.prog 178 #[.pointer (some ⟨C.rb,0,none⟩),v,.bool back] W (RunP C W (loO C.p.prs C.F g back t r)):=by
 obtain⟨A,c,rfl,-,hlk,hlc,hrow⟩:=hv.open_;have ae:=zh hrow;have HS:=zh hS;have HV:=zh hv;have hb0:=zkb (zs W) (.cells #[.int .u8 t.k,.int .i64 t.n,.string t.s,.slice A t.ks.length c] 41);obtain⟨x0,x1,x2,x3⟩:=box4 (heap_alloc_new W (.cells #[.int .u8 t.k,.int .i64 t.n,.string t.s,.slice A t.ks.length c] 41));have HB0:=zh hb0;have H:=zh h;have HC:=zh hC;have HX:=zh (heap_alloc_new W (.cells #[.int .u8 t.k,.int .i64 t.n,.string t.s,.slice A t.ks.length c] 41));have nI:=zh (fun w' (hb:Below W.heap.size W w')=>zpP t _ back C.w w' (zka h.below hb) hv (by omega));have nD:=zh hk;clear hrow hS hb0 h hv hk hC hlk;go_enter Tryz.func178,Tryz.ntmps178;go_wp2_with fail;refine(nI.out _ HB0.out).mono ?_;rintro e w2 ⟨v1,v2,rfl,n1,n2,b2⟩;obtain⟨t1,ht1⟩:=zX (fstT back t);obtain⟨t2,ht2⟩:=zX (lstT back t);have HT1:=zh ht1;have HT2:=zh ht2;rw[ht1]at n1;rw[ht2]at n2;obtain⟨A1,c1,rfl,-⟩:=n1.open_
 obtain⟨A2,c2,rfl,-⟩:=n2.open_;have ny:=zh n1;have aJ:=zh n2;have b3:=zkb (zkb (zka HB0.out b2) (.cells #[.int .u8 t1.k,.int .i64 t1.n,.string t1.s,.slice A1 t1.ks.length c1] 41)) (.cells #[.int .u8 t2.k,.int .i64 t2.n,.string t2.s,.slice A2 t2.ks.length c2] 41);have k0:=zkf (zkf (zkc HX.out b2) (.cells #[.int .u8 t1.k,.int .i64 t1.n,.string t1.s,.slice A1 t1.ks.length c1] 41)) (.cells #[.int .u8 t2.k,.int .i64 t2.n,.string t2.s,.slice A2 t2.ks.length c2] 41);have k1:=zkf (heap_alloc_new w2 (.cells #[.int .u8 t1.k,.int .i64 t1.n,.string t1.s,.slice A1 t1.ks.length c1] 41)) (.cells #[.int .u8 t2.k,.int .i64 t2.n,.string t2.s,.slice A2 t2.ks.length c2] 41);have k2:=heap_alloc_new (w2.alloc (.cells #[.int .u8 t1.k,.int .i64 t1.n,.string t1.s,.slice A1 t1.ks.length c1] 41)) (.cells #[.int .u8 t2.k,.int .i64 t2.n,.string t2.s,.slice A2 t2.ks.length c2] 41)
 simp only[World.size_alloc]at k2;obtain⟨w3,hw3⟩:=zX ((w2.alloc (.cells #[.int .u8 t1.k,.int .i64 t1.n,.string t1.s,.slice A1 t1.ks.length c1] 41)).alloc (.cells #[.int .u8 t2.k,.int .i64 t2.n,.string t2.s,.slice A2 t2.ks.length c2] 41));rw[hw3]at b3 k0 k1 k2;have hz2:=zka HB0.out b2;have hzz:=hz2.size;obtain⟨fq,h3⟩:=H.out.plus HC.out b3;have bS:=zh (Kpt.of_below (n0:=C.n0) (kb:=C.kb) b3);have l0:=zkn k0;have l1:=zkn k1;have l2:=zkn k2;obtain⟨hi,hhi⟩:=zX (w3.heap.size);rw[hhi]at fq h3 l0 l1 l2;have dY:=zh fq;have H3:=zh h3;have K0:=zh k0;have K1:=zh k1;have K2:=zh k2;have iP:=zh (zlX fq h3)
 obtain⟨p1,⟨y0,y1,y2,y3⟩⟩:True/\(w3.cell? ⟨w2.heap.size,0,none⟩=some (.int .u8 t1.k)/\w3.cell? ⟨w2.heap.size,1,none⟩=some (.int .i64 t1.n)/\w3.cell? ⟨w2.heap.size,2,none⟩=some (.string t1.s)/\w3.cell? ⟨w2.heap.size,3,none⟩=some (.slice A1 t1.ks.length c1)):=⟨trivial,zc k1 rfl,zc k1 rfl,zc k1 rfl,zc k1 rfl⟩
 clear n1 n2 b2 b3 k0 k1 k2 hz2 fq h3 x0 x1 x2 x3 HX HB0 nI p1 ht1 ht2;go_upto_region 2 with fail;clear hw3;obtain⟨o,ho⟩:=zX (loO C.p.prs C.F g back t r);have HO:=zh (show(zkE C.F r).bind (fun r=>valO t1 r fun x r=>(zkl r (zlV r.S ⟨t.s,1,0⟩ x)).bind (loR C.p.prs C.F g back t t2))=o by rw[<-ho];unfold loO loR;rw[HT1.out,HT2.out]);rw[ho]at aH ⊢;have dn:=zh aH;have bO:=zh ho;clear aH ho;go_wp2_with fail;refine iP.out.mono ?_;rintro e w4 ⟨hk4,hb4,eZ⟩;have dI:=zh (bS.out.trans (Kpt.less (C:=C) hk4));have aF:=zh (show Below C.w.heap.size C.w w4 from hb4);have bB:match zkE C.F r with
  | .gas=>True
  | .err x=>e=zlC x
  | .ok r=>(∃u,e=.returned u)/\RI (C.plus W.heap.size hi) w4 r:=eZ
 have dP:=zh hk4;clear y0 y1 y2 y3 iP hk4 hb4 eZ
 cases hy:zkE C.F r with
 | gas=>exact absurd (by rw[<-HO.out,hy];rfl) dn.out
 | err x =>
  rw[hy]at bB;subst bB;refine⟨rfl,dI.out,aF.out,?_⟩;rw[<-HO.out,hy];rfl
 | ok r1 =>
  rw[hy]at bB;obtain⟨⟨u3,rfl⟩,hr1⟩:=bB;have HR4:=zh hr1;have iZ:=zh (show(valO t1 r1 fun x r=>(zkl r (zlV r.S ⟨t.s,1,0⟩ x)).bind (loR C.p.prs C.F g back t t2))=o by rw[<-HO.out,hy];rfl);have bT:=zh (show FB r.n r1.S/\r1.n=r.n+1 by obtain⟨rfl,-⟩:=zlx hy;exact⟨H.out.fb,rfl⟩);have j0:=dP.out.blk (.inr (.inr ⟨by omega,l0⟩)) K0.out;have j1:=dP.out.blk (.inr (.inr ⟨by omega,l1⟩)) K1.out;have iV:=zh (fun w' (hb:Below w4.heap.size w4 w')=>zp6 (hr1.later hb) t1 _ ny.out);have av:=zh (show ∀w',Below w4.heap.size w4 w'->(fun w':World=>zv w' C.rb 6 (.pointer (some ⟨C.sb,0,none⟩))/\zv w' W.heap.size 2 (.string t.s)/\zN4 w' w2.heap.size (.int .u8 t1.k) (.int .i64 t1.n) (.string t1.s) (.slice A1 t1.ks.length c1)) w' from fun w' hb=>⟨zb hb hr1.cells.1,zb hb (zc j0 rfl),zb hb (zc j1 rfl),zb hb (zc j1 rfl),zb hb (zc j1 rfl),zb hb (zc j1 rfl)⟩);have gW:=zh (av.out _ zr.drew)
  clear hr1 hy j0 j1;go_upto_region 3 with fail;have hSS:zW (fun w':World=>zv w' C.rb 6 (.pointer (some ⟨C.sb,0,none⟩))/\zv w' W.heap.size 2 (.string t.s)/\zN4 w' w2.heap.size (.int .u8 t1.k) (.int .i64 t1.n) (.string t1.s) (.slice A1 t1.ks.length c1)) zU w4.drew:=⟨gW.out,trivial⟩
  refine zG hSS 12 ?_;refine zT 0 hSS ?_;refine zT 1 hSS ?_;refine zT 2 hSS ?_;refine zT 3 hSS ?_;refine zT 4 hSS ?_;refine zT 5 hSS ?_;refine zT 6 hSS ?_;refine zT 7 hSS ?_;refine zT 8 hSS ?_;refine zT 9 hSS ?_;have had:Calls Tryz.prog 200 [.pointer (some ⟨C.rb,0,none⟩),nv t1.k t1.n t1.s A1 t1.ks.length c1].toArray w4.drew (ValP (C.plus W.heap.size hi) w4.drew t1 r1):=iV.out _ zr.drew;refine zo 10 fun K hK=>?_;refine zk2 (by rfl) (.func 200) [.tmp 24,.tmp 25] _ (by rfl) 200 _ zul (by rfl) _ (by rfl) (fun v w'=>Below w4.heap.size w4 w'/\∃x,v=.int .i64 x/\I64 x/\∀f,valO t1 r1 f=f x r1) (had.mono ?_) ?_
  ·rintro e y1 ⟨dV,hv1⟩;have b1:=zka (zs w4).drew dV;rcases hv1 with⟨x,rfl,hx⟩|⟨x,rfl,oC,hx⟩
   ·refine .inr ⟨_,rfl,?_⟩;refine⟨rfl,dI.out.trans (Kpt.of_below b1),zka aF.out b1,?_⟩
    try rw[bO.out]
    rw[<-iZ.out,hx]
   ·exact .inl ⟨_,rfl,b1,x,rfl,oC,hx⟩
  rintro v5 w5 ⟨b5,x,rfl,hx,vY⟩;have aP:=zh b5;have nU:=zh hx;have iJ:=zh (show(zkl r1 (zlV r1.S ⟨t.s,1,0⟩ x)).bind (loR C.p.prs C.F g back t t2)=o by rw[<-iZ.out,vY]);refine hK.out _ _ ⟨av.out _ b5,trivial⟩ ?_;clear hK K had b5 hx vY hSS iV;(try simp only[zQ]);obtain⟨R,hR⟩:=zX (zlV r1.S ⟨t.s,1,0⟩ x);have HRR:=zh hR;have kH:=bT.out.1.cur;have uS:=H.out.n;have had:Calls Tryz.prog 181 [.pointer (some ⟨C.sb,0,none⟩),.agg #[.string t.s,.int .u8 1,.int .i64 0],.int .i64 x].toArray w5 fun e w'=>∃v,e=.returned v/\(v=.int .i64 R.1/\RI (C.plus W.heap.size hi) w' { r1 with S:=R.2 }/\Kpt C.n0 (C.plus W.heap.size hi).kb w5 w') :=
   ((HR4.out.later aP.out).ks.open_ ⟨t.s,1,0⟩ (by obtain⟨_,_,_,hf,-⟩:=HV.out.open_;exact⟨hf.2.2,⟨by simp only;omega,by simp only;omega⟩,⟨by simp only;omega,by simp only;omega⟩⟩) x nU.out (by omega)).mono fun e w' ⟨h1,h2,h3⟩=>⟨_,h1,by rw[hR],(RI.store (C:=C.plus W.heap.size hi) (HR4.out.later aP.out) (hR▸h2) h3 (by rw[bT.out.2,<-hR];exact bT.out.1.open_ _ _))⟩
  refine zo 11 fun K hK=>?_;refine zlr (by rfl) (.func 181) [.tmp 20,.tmp 23,.tmp 26] _ (by rfl) 181 _ zuq (by rfl) _ (by rfl) _ had ?_;rintro v6 w6 ⟨rfl,dK,bC⟩;have fF:=zh (dP.out.trans ((Kpt.of_below aP.out).trans bC));have j0:=fF.out.blk (.inr (.inr ⟨by omega,l0⟩)) K0.out;have j1:=fF.out.blk (.inr (.inr ⟨by omega,l1⟩)) K1.out;have gH:=zh dK;have aA:(fun w':World=>zv w' C.rb 6 (.pointer (some ⟨C.sb,0,none⟩))/\zv w' W.heap.size 2 (.string t.s)/\zN4 w' w2.heap.size (.int .u8 t1.k) (.int .i64 t1.n) (.string t1.s) (.slice A1 t1.ks.length c1)) w6:=⟨dK.cells.1,zc j0 rfl,zc j1 rfl,zc j1 rfl,zc j1 rfl,zc j1 rfl⟩
  refine hK.out _ _ ⟨aA,trivial⟩ ?_;have mV:=zh aA;have aV:=zh dK.below;clear hK K had dK bC j0 j1 aA gW av;(try simp only[zQ]);have dO:=zh (bS.out.trans (Kpt.less (C:=C) fF.out));rw[hR]at iJ;have had:=zlc ⟨C.rb,0,none⟩ R.1 w6;refine zp 12 fun K hK=>?_;refine zk2 (by rfl) (.func 180) [.tmp 16,.tmp 27] _ (by rfl) 180 _ zme (by rfl) _ (by rfl) (fun v w'=>w'=w6/\R.1=0) (had.mono ?_) ?_
  ·rintro e y1 ⟨rfl,hv1⟩;rcases hv1 with⟨h0,u0,rfl⟩|⟨h0,rfl⟩
   ·exact .inl ⟨_,rfl,rfl,h0⟩
   ·refine .inr ⟨_,rfl,?_⟩;refine⟨rfl,dO.out,aV.out,?_⟩
    try rw[bO.out]
    rw[<-iJ.out,show zkl r1 R=.err R.1 by unfold zkl;rw[if_pos h0]];rfl
  rintro v7 w7 ⟨rfl,h0⟩;have pW:=zh (show loR C.p.prs C.F g back t t2 { r1 with S:=R.2 }=o by rw[<-iJ.out,show zkl r1 R=.ok { r1 with S:=R.2 } by unfold zkl;rw[if_neg (by simpa using h0)]];rfl);refine hK.out _ _ mV.out ?_;clear hK K had h0;(try simp only[zQ]);refine zd ?_;obtain⟨r2,hr2⟩:=zX (({ r1 with S:=R.2 }:RS));rw[hr2]at gH pW;have hI:1<t.ks.length:=by have:=nD.out;omega
  have hI1:(1:Int)<(t.ks.length:Int):=by omega
  obtain⟨a,u,Au,cu,rfl,-,hu,⟨p0,p1,p2,p3⟩,hnu⟩:=ae.out.nd hI;have gu:kid t 1=u:=by unfold kid;rw[List.getD_eq_getElem?_getD,List.getElem?_eq_getElem hI];exact hu.out
  have uG:=zh (show ∀x∈u.ks,G C.p.prs x by rw[<-gu];exact hG1);have kT:=zh (show(runO C.p.prs C.F g back u r2).bind (fun r=>(zkE C.F r).bind fun r=>valO t2 r fun x r=>zkl r (zk8 r.S t.s x))=o by rw[<-pW.out,<-gu];rfl);have hgu:runO C.p.prs C.F g back u r2 ≠ .gas:=fun e=>dn.out (by rw[<-kT.out,e];rfl);have aC:=zh (zlf HS.out dY.out gH.out u _ back hnu uG.out hgu);have ha:a.add (1*4)=⟨a.block,a.off+4,none⟩:=by unfold Addr.add;split<;>simp_all
  rw[ha]at p0 p1 p2 p3;have q0:=zb aV.out p0;have q1:=zb aV.out p1;have q2:=zb aV.out p2;have q3:=zb aV.out p3;have j0:=fF.out.blk (.inr (.inr ⟨by omega,l0⟩)) K0.out;have q4:=zc (i:=3) j0 rfl;clear gu hnu hu p0 p1 p2 p3 hgu ha j0 kH uS;go_wp2_with fail;refine aC.out.mono ?_;rintro e w8 ⟨jU,bR,qz⟩;have nE:=zh (fF.out.trans jU);have qX:=zh (bS.out.trans (Kpt.less (C:=C) nE.out));have dQ:=zh (show Below C.w.heap.size C.w w8 from bR);have bX:match runO C.p.prs C.F g back u r2 with
   | .gas=>True
   | .err x=>e=zlC x
   | .ok r=>(∃u,e=.returned u)/\RI (C.plus W.heap.size hi) w8 r:=qz
  clear q0 q1 q2 q3 q4 jU bR qz aC
  cases hx:runO C.p.prs C.F g back u r2 with
  | gas=>exact absurd (by rw[<-kT.out,hx];rfl) dn.out
  | err x =>
   rw[hx]at bX;subst bX;refine⟨rfl,qX.out,dQ.out,?_⟩
   try rw[bO.out]
   rw[<-kT.out,hx];rfl
  | ok r3 =>
   rw[hx]at bX;obtain⟨⟨u9,rfl⟩,hr3⟩:=bX;have HST:=zh (zlX dY.out hr3);have jX:=zh (show((zkE C.F r3).bind fun r=>valO t2 r fun x r=>zkl r (zk8 r.S t.s x))=o by rw[<-kT.out,hx];rfl);have gV:=zh hr3;clear hx hr3;go_wp2_with fail;refine HST.out.mono ?_;rintro e w9 ⟨aK,aU,dL⟩;have iO:=zh (nE.out.trans aK);have gY:=zh (bS.out.trans (Kpt.less (C:=C) iO.out));have aG:=zh (show Below C.w.heap.size C.w w9 from aU);have gp:match zkE C.F r3 with
    | .gas=>True
    | .err x=>e=zlC x
    | .ok r=>(∃u,e=.returned u)/\RI (C.plus W.heap.size hi) w9 r:=dL
   clear aK aU dL HST
   cases hy:zkE C.F r3 with
   | gas=>exact absurd (by rw[<-jX.out,hy];rfl) dn.out
   | err x =>
    rw[hy]at gp;subst gp;refine⟨rfl,gY.out,aG.out,?_⟩
    try rw[bO.out]
    rw[<-jX.out,hy];rfl
   | ok r4 =>
    rw[hy]at gp;obtain⟨⟨u9,rfl⟩,hr4⟩:=gp;have bI:=zh hr4;have fM:=zh (show(valO t2 r4 fun x r=>zkl r (zk8 r.S t.s x))=o by rw[<-jX.out,hy];rfl);have iQ:=zh (show FB r3.n r4.S/\r4.n=r3.n+1 by obtain⟨rfl,-⟩:=zlx hy;exact⟨gV.out.fb,rfl⟩);have j0:=iO.out.blk (.inr (.inr ⟨by omega,l0⟩)) K0.out;have j2:=iO.out.blk (.inr (.inr ⟨by omega,l2⟩)) K2.out;have iV:=zh (fun w' (hb:Below w9.heap.size w9 w')=>zp6 (hr4.later hb) t2 _ aJ.out);have av:=zh (show ∀w',Below w9.heap.size w9 w'->(fun w':World=>zv w' C.rb 6 (.pointer (some ⟨C.sb,0,none⟩))/\zv w' W.heap.size 2 (.string t.s)/\zN4 w' (w2.heap.size+1) (.int .u8 t2.k) (.int .i64 t2.n) (.string t2.s) (.slice A2 t2.ks.length c2)) w' from fun w' hb=>⟨zb hb hr4.cells.1,zb hb (zc j0 rfl),zb hb (zc j2 rfl),zb hb (zc j2 rfl),zb hb (zc j2 rfl),zb hb (zc j2 rfl)⟩);clear hr4 hy j0 j2;go_upto_region 6 with fail
    have hSS:zW (fun w':World=>zv w' C.rb 6 (.pointer (some ⟨C.sb,0,none⟩))/\zv w' W.heap.size 2 (.string t.s)/\zN4 w' (w2.heap.size+1) (.int .u8 t2.k) (.int .i64 t2.n) (.string t2.s) (.slice A2 t2.ks.length c2)) zU w9.drew:=⟨av.out _ zr.drew,trivial⟩
    refine zG hSS 11 ?_;refine zT 0 hSS ?_;refine zT 1 hSS ?_;refine zT 2 hSS ?_;refine zT 3 hSS ?_;refine zT 4 hSS ?_;refine zT 5 hSS ?_;refine zT 6 hSS ?_;refine zT 7 hSS ?_;refine zT 8 hSS ?_;have had:Calls Tryz.prog 200 [.pointer (some ⟨C.rb,0,none⟩),nv t2.k t2.n t2.s A2 t2.ks.length c2].toArray w9.drew (ValP (C.plus W.heap.size hi) w9.drew t2 r4):=iV.out _ zr.drew;refine zo 9 fun K hK=>?_;refine zk2 (by rfl) (.func 200) [.tmp 45,.tmp 46] _ (by rfl) 200 _ zul (by rfl) _ (by rfl) (fun v w'=>Below w9.heap.size w9 w'/\∃x,v=.int .i64 x/\I64 x/\∀f,valO t2 r4 f=f x r4) (had.mono ?_) ?_
    ·rintro e y1 ⟨dV,hv1⟩;have b1:=zka (zs w9).drew dV;rcases hv1 with⟨x,rfl,hx⟩|⟨x,rfl,oC,hx⟩
     ·refine .inr ⟨_,rfl,?_⟩;refine⟨rfl,gY.out.trans (Kpt.of_below b1),zka aG.out b1,?_⟩
      try rw[bO.out]
      rw[<-fM.out,hx]
     ·exact .inl ⟨_,rfl,b1,x,rfl,oC,hx⟩
    rintro v10 aT ⟨b10,z,rfl,hx,vY⟩;have dE:=zh b10;obtain⟨Rc,lF⟩:=zX (zk8 r4.S t.s z);have iK:=zh (show zkl r4 Rc=o by rw[<-fM.out,vY,lF]);refine hK.out _ _ ⟨av.out _ b10,trivial⟩ ?_;clear hK K had b10 hx vY hSS iV;(try simp only[zQ]);have had:Calls Tryz.prog 182 [.pointer (some ⟨C.sb,0,none⟩),.string t.s,.int .i64 z].toArray aT fun e w'=>∃v,e=.returned v/\(v=.int .i64 Rc.1/\RI (C.plus W.heap.size hi) w' { r4 with S:=Rc.2 }/\Kpt C.n0 (C.plus W.heap.size hi).kb aT w') :=
     ((bI.out.later dE.out).ks.close t.s z).mono fun e w' ⟨h1,h2,h3⟩=>⟨_,h1,by rw[lF],(RI.store (C:=C.plus W.heap.size hi) (bI.out.later dE.out) (lF▸h2) h3 (by rw[iQ.out.2,<-lF];exact iQ.out.1.close_ _ _))⟩
    refine zo 10 fun K hK=>?_;refine zlr (by rfl) (.func 182) [.tmp 42,.tmp 44,.tmp 47] _ (by rfl) 182 _ zsk (by rfl) _ (by rfl) _ had ?_;rintro v11 aQ ⟨rfl,fU,iy⟩;have fO:=zh (iO.out.trans ((Kpt.of_below dE.out).trans iy));have j0:=fO.out.blk (.inr (.inr ⟨by omega,l0⟩)) K0.out;have j2:=fO.out.blk (.inr (.inr ⟨by omega,l2⟩)) K2.out;have kR:=zh fU;have aA:(fun w':World=>zv w' C.rb 6 (.pointer (some ⟨C.sb,0,none⟩))/\zv w' W.heap.size 2 (.string t.s)/\zN4 w' (w2.heap.size+1) (.int .u8 t2.k) (.int .i64 t2.n) (.string t2.s) (.slice A2 t2.ks.length c2)) aQ:=⟨fU.cells.1,zc j0 rfl,zc j2 rfl,zc j2 rfl,zc j2 rfl,zc j2 rfl⟩
    refine hK.out _ _ ⟨aA,trivial⟩ ?_;have mV:=zh aA;have bM:=zh fU.below;clear hK K had fU iy j0 j2 aA av;(try simp only[zQ]);have dB:=zh (bS.out.trans (Kpt.less (C:=C) fO.out));have had:=zlc ⟨C.rb,0,none⟩ Rc.1 aQ;refine zp 11 fun K hK=>?_;refine zk2 (by rfl) (.func 180) [.tmp 38,.tmp 48] _ (by rfl) 180 _ zme (by rfl) _ (by rfl) (fun v w'=>w'=aQ/\Rc.1=0) (had.mono ?_) ?_
    ·rintro e y1 ⟨rfl,hv1⟩;rcases hv1 with⟨h0,u0,rfl⟩|⟨h0,rfl⟩
     ·exact .inl ⟨_,rfl,rfl,h0⟩
     ·refine .inr ⟨_,rfl,?_⟩;refine⟨rfl,dB.out,bM.out,?_⟩
      try rw[bO.out]
      rw[<-iK.out,show zkl r4 Rc=.err Rc.1 by unfold zkl;rw[if_pos h0]]
    rintro v12 iR ⟨rfl,h0⟩;have gL:=zh (show o=.ok { r4 with S:=Rc.2 } by rw[<-iK.out];unfold zkl;rw[if_neg (by simpa using h0)]);refine hK.out _ _ mV.out ?_;clear hK K had h0;(try simp only[zQ]);refine zd ?_;have mW:=zh kR.out.less;go_wp2_with fail;go_end0;refine⟨dB.out,bM.out,?_⟩
    try rw[bO.out]
    rw[gL.out];exact⟨⟨_,rfl⟩,mW.out⟩
theorem zx6{G:List PR->T->Prop}{g:Nat}(hS:IStC G g){C:RC}(hC:C.Ok){W:World}{r:RS}(h:RI C W r)(t:T)(v:Value)(back:Bool)(hv:NV C.w Any t v)(hk0:t.k=52)(hk:t.ks.length=4)(hG1:∀u∈(kid t 1).ks,G C.p.prs u)(hG2:∀u∈(kid t 2).ks,G C.p.prs u)
  (o:Out)(ho:brO C.p.prs C.F g back t r=o)(hog:o ≠ .gas) :
  Calls Tryz.prog 137 #[.pointer (some ⟨C.rb,0,none⟩),v,.bool back] W (RunP C W o):=by
 have aH:=hog;obtain⟨k,n,s,ks⟩:=t;obtain rfl:k=52:=hk0;obtain⟨A,c,rfl,-,hlk,hlc,-⟩:=hv.open_;have hb0:=zkb (zs W) (.cells #[.int .u8 52,.int .i64 n,.string s,.slice A ks.length c] 41);obtain⟨x0,x1,x2,x3⟩:=box4 (heap_alloc_new W (.cells #[.int .u8 52,.int .i64 n,.string s,.slice A ks.length c] 41));have aD:=zh (Kpt.of_below (n0:=C.n0) (kb:=C.kb) hb0);have aZ:=zh (show Calls Tryz.prog 176 #[.pointer (some ⟨C.rb,0,none⟩),.agg #[.int .u8 52,.int .i64 n,.string s,.slice A ks.length c],.bool back] (W.alloc (.cells #[.int .u8 52,.int .i64 n,.string s,.slice A ks.length c] 41)) (RunP C _ o)from(ho▸(zs0 hS hC (h.later hb0) _ _ back hv hk hG1 hG2 (ho▸hog))));clear hv hb0 h aH hG1 ho hk;go_enter Tryz.func137,Tryz.ntmps137;go_wp2_with fail;refine aZ.out.mono ?_;rintro e w1 ⟨hk1,hb1,ho1⟩
 cases o with
 | gas=>exact absurd rfl hog
 | err x =>
  subst ho1;exact⟨rfl,aD.out.trans hk1,hb1,rfl⟩
 | ok r1 =>
  obtain⟨⟨u,rfl⟩,hr1⟩:=ho1;have HR:=zh hr1;have az:=zh (aD.out.trans hk1);have HB1:=zh hb1;clear x0 x1 x2 x3 hr1 hk1 hb1;go_wp2_with fail;go_end0;exact⟨az.out,HB1.out,⟨_,rfl⟩,HR.out⟩
theorem ztz{G:List PR->T->Prop}{g:Nat}(hS:IStC G g){C:RC}(hC:C.Ok){W:World}{r:RS}(h:RI C W r)(t:T)(v:Value)(back:Bool)(hv:NV C.w Any t v)(hk0:t.k=53)(hk:t.ks.length=4)(hG1:∀u∈(kid t 1).ks,G C.p.prs u)(hG2:∀u∈(kid t 2).ks,G C.p.prs u)
  (o:Out)(ho:lpO C.p.prs C.F g back t r=o)(hog:o ≠ .gas) :
  Calls Tryz.prog 137 #[.pointer (some ⟨C.rb,0,none⟩),v,.bool back] W (RunP C W o):=by
 have aH:=hog;obtain⟨k,n,s,ks⟩:=t;obtain rfl:k=53:=hk0;obtain⟨A,c,rfl,-,hlk,hlc,-⟩:=hv.open_;have hb0:=zkb (zs W) (.cells #[.int .u8 53,.int .i64 n,.string s,.slice A ks.length c] 41);obtain⟨x0,x1,x2,x3⟩:=box4 (heap_alloc_new W (.cells #[.int .u8 53,.int .i64 n,.string s,.slice A ks.length c] 41));have aD:=zh (Kpt.of_below (n0:=C.n0) (kb:=C.kb) hb0);have aZ:=zh (show Calls Tryz.prog 177 #[.pointer (some ⟨C.rb,0,none⟩),.agg #[.int .u8 53,.int .i64 n,.string s,.slice A ks.length c],.bool back] (W.alloc (.cells #[.int .u8 53,.int .i64 n,.string s,.slice A ks.length c] 41)) (RunP C _ o)from(ho▸(zwi hS hC (h.later hb0) _ _ back hv hk hG1 hG2 (ho▸hog))));clear hv hb0 h aH hG1 ho hk;go_enter Tryz.func137,Tryz.ntmps137;go_wp2_with fail;refine aZ.out.mono ?_;rintro e w1 ⟨hk1,hb1,ho1⟩
 cases o with
 | gas=>exact absurd rfl hog
 | err x =>
  subst ho1;exact⟨rfl,aD.out.trans hk1,hb1,rfl⟩
 | ok r1 =>
  obtain⟨⟨u,rfl⟩,hr1⟩:=ho1;have HR:=zh hr1;have az:=zh (aD.out.trans hk1);have HB1:=zh hb1;clear x0 x1 x2 x3 hr1 hk1 hb1;go_wp2_with fail;go_end0;exact⟨az.out,HB1.out,⟨_,rfl⟩,HR.out⟩
theorem zsC{G:List PR->T->Prop}{g:Nat}(hS:IStC G g){C:RC}(hC:C.Ok){W:World}{r:RS}(h:RI C W r)(t:T)(v:Value)(back:Bool)(hv:NV C.w Any t v)(hk0:t.k=54)(hk:t.ks.length=3)(hG1:∀u∈(kid t 1).ks,G C.p.prs u)
  (o:Out)(ho:loO C.p.prs C.F g back t r=o)(hog:o ≠ .gas) :
  Calls Tryz.prog 137 #[.pointer (some ⟨C.rb,0,none⟩),v,.bool back] W (RunP C W o):=by
 have aH:=hog;obtain⟨k,n,s,ks⟩:=t;obtain rfl:k=54:=hk0;obtain⟨A,c,rfl,-,hlk,hlc,-⟩:=hv.open_;have hb0:=zkb (zs W) (.cells #[.int .u8 54,.int .i64 n,.string s,.slice A ks.length c] 41);obtain⟨x0,x1,x2,x3⟩:=box4 (heap_alloc_new W (.cells #[.int .u8 54,.int .i64 n,.string s,.slice A ks.length c] 41));have aD:=zh (Kpt.of_below (n0:=C.n0) (kb:=C.kb) hb0);have aZ:=zh (show Calls Tryz.prog 178 #[.pointer (some ⟨C.rb,0,none⟩),.agg #[.int .u8 54,.int .i64 n,.string s,.slice A ks.length c],.bool back] (W.alloc (.cells #[.int .u8 54,.int .i64 n,.string s,.slice A ks.length c] 41)) (RunP C _ o)from(ho▸(zt6 hS hC (h.later hb0) _ _ back hv hk hG1 (ho▸hog))));clear hv hb0 h aH hG1 ho hk;go_enter Tryz.func137,Tryz.ntmps137;go_wp2_with fail;refine aZ.out.mono ?_;rintro e w1 ⟨hk1,hb1,ho1⟩
 cases o with
 | gas=>exact absurd rfl hog
 | err x =>
  subst ho1;exact⟨rfl,aD.out.trans hk1,hb1,rfl⟩
 | ok r1 =>
  obtain⟨⟨u,rfl⟩,hr1⟩:=ho1;have HR:=zh hr1;have az:=zh (aD.out.trans hk1);have HB1:=zh hb1;clear x0 x1 x2 x3 hr1 hk1 hb1;go_wp2_with fail;go_end0;exact⟨az.out,HB1.out,⟨_,rfl⟩,HR.out⟩
theorem zKE:IsFn Tryz.prog 123 Tryz.f123:=⟨Tryz.func123,by kernel_rfl,by kernel_rfl⟩
theorem zyy:IsFn Tryz.prog 184 Tryz.f184:=⟨Tryz.func184,by kernel_rfl,by kernel_rfl⟩
def basO(F:Int)(back:Bool)(t:T)(r:RS):Out:=(zkE F r).bind fun r=>zkl r (if back=true then zn5 r.S t else doE r.S t)
theorem zvT{C:RC}(hC:C.Ok){W:World}{r:RS}(h:RI C W r)(t:T)(v:Value)(back:Bool)(hv:NV C.w Any t v)(hk:t.k≠52/\t.k≠53/\t.k≠54/\t.k≠55/\t.k≠50/\t.k≠51) :
  Calls Tryz.prog 137 #[.pointer (some ⟨C.rb,0,none⟩),v,.bool back] W (RunP C W (basO C.F back t r)):=by
 have HV:=zh hv;have H:=zh h;obtain⟨A,c,rfl,-,hlk,hlc,-⟩:=hv.open_;have e0:(t.k==52)=false:=by simpa using hk.1
 have e1:(t.k==53)=false:=by simpa using hk.2.1
 have e2:(t.k==54)=false:=by simpa using hk.2.2.1
 have e3:(t.k==55)=false:=by simpa using hk.2.2.2.1
 have e4:(t.k==50)=false:=by simpa using hk.2.2.2.2.1
 have e5:(t.k==51)=false:=by simpa using hk.2.2.2.2.2
 have hb0:=zkb (zs W) (.cells #[.int .u8 t.k,.int .i64 t.n,.string t.s,.slice A t.ks.length c] 41);obtain⟨cK,h1⟩:=h.plus hC hb0;have k0:=heap_alloc_new W (.cells #[.int .u8 t.k,.int .i64 t.n,.string t.s,.slice A t.ks.length c] 41);obtain⟨x0,x1,x2,x3⟩:=box4 k0;have bS:=zh (Kpt.of_below (n0:=C.n0) (kb:=C.kb) hb0);obtain⟨w3,hw3⟩:=zX (W.alloc (.cells #[.int .u8 t.k,.int .i64 t.n,.string t.s,.slice A t.ks.length c] 41));rw[hw3]at cK h1 k0 x0 x1 x2 x3 bS;have l0:=zkn k0;have K0:=zh k0;obtain⟨hi,hhi⟩:=zX (w3.heap.size);rw[hhi]at cK h1 l0;have iP:=zh (zlX cK h1);obtain⟨o,ho⟩:=zX (basO C.F back t r);have bO:=zh ho;have HO:=zh (show(zkE C.F r).bind (fun r=>zkl r (if back=true then zn5 r.S t else doE r.S t))=o from ho);rw[ho];clear hv hb0 cK h1 k0 h hk ho;go_enter Tryz.func137,Tryz.ntmps137;go_wp2_with fail;refine iP.out.mono ?_;rintro e w4 ⟨hk4,hb4,eZ⟩
 have dI:=zh (bS.out.trans (Kpt.less (C:=C) hk4));have aF:=zh (show Below C.w.heap.size C.w w4 from hb4);have bB:match zkE C.F r with
  | .gas=>True
  | .err x=>e=zlC x
  | .ok r=>(∃u,e=.returned u)/\RI (C.plus W.heap.size hi) w4 r:=eZ
 have dP:=zh hk4;clear x0 x1 x2 x3 iP hk4 hb4 eZ hw3
 cases hy:zkE C.F r with
 | gas=>exact absurd hy (zkt _ _).1
 | err x =>
  rw[hy]at bB;subst bB;refine⟨rfl,dI.out,aF.out,?_⟩
  try rw[bO.out]
  rw[<-HO.out,hy];rfl
 | ok r1 =>
  rw[hy]at bB;obtain⟨⟨u3,rfl⟩,hr1⟩:=bB;have HR4:=zh hr1;have iZ:=zh (show zkl r1 (if back=true then zn5 r1.S t else doE r1.S t)=o by rw[<-HO.out,hy];rfl);have bT:=zh (show FB r.n r1.S/\r1.n=r.n+1 by obtain⟨rfl,-⟩:=zlx hy;exact⟨H.out.fb,rfl⟩);have j0:=dP.out.blk (.inr (.inr ⟨zl,l0⟩)) K0.out;have hSS:zW (fun w':World=>zv w' C.rb 6 (.pointer (some ⟨C.sb,0,none⟩))/\zN4 w' W.heap.size (.int .u8 t.k) (.int .i64 t.n) (.string t.s) (.slice A t.ks.length c)) zU w4.drew:=⟨⟨hr1.cells.1,zc j0 rfl,zc j0 rfl,zc j0 rfl,zc j0 rfl⟩,trivial⟩
  clear hr1 hy j0
  cases back
  ·skip
   go_upto_region 5 with fail;refine zG hSS 7 ?_;refine zT 0 hSS ?_;refine zT 1 hSS ?_;refine zT 2 hSS ?_;refine zT 3 hSS ?_;refine zT 4 hSS ?_;refine zT 5 hSS ?_;obtain⟨R,hR⟩:=zX (doE r1.S t);have iJ:=zh (show zkl r1 R=o by rw[<-hR];exact iZ.out);have hbd:Below w4.heap.size w4 w4.drew:=zr.drew;have had:Calls Tryz.prog 123 [.pointer (some ⟨C.sb,0,none⟩),.agg #[.int .u8 t.k,.int .i64 t.n,.string t.s,.slice A t.ks.length c]].toArray w4.drew fun e w'=>∃v,e=.returned v/\(v=.int .i64 R.1/\RI (C.plus W.heap.size hi) w' { r1 with S:=R.2 }/\Kpt C.n0 (C.plus W.heap.size hi).kb w4 w') :=
    ((HR4.out.later hbd).ks.do_ t _ (HV.out.later (zka aF.out hbd))).mono fun e w' ⟨h1,h2,h3⟩=>by
     have hs:=RI.store (C:=C.plus W.heap.size hi) (HR4.out.later hbd) h2 h3 (by rw[bT.out.2];exact bT.out.1.do_ _);rw[hR]at h1 hs;exact⟨_,h1,rfl,hs.1,(Kpt.of_below hbd).trans hs.2⟩
   refine zo 6 fun K hK=>?_;refine zlr (by rfl) (.func 123) [.tmp 23,.tmp 24] _ (by rfl) 123 _ zKE (by rfl) _ (by rfl) _ had ?_;rintro v6 w6 ⟨rfl,dK,bC⟩;have dO:=zh (dI.out.trans (Kpt.less (C:=C) bC));have j0:=(dP.out.trans bC).blk (.inr (.inr ⟨zl,l0⟩)) K0.out;have aA:(fun w':World=>zv w' C.rb 6 (.pointer (some ⟨C.sb,0,none⟩))/\zN4 w' W.heap.size (.int .u8 t.k) (.int .i64 t.n) (.string t.s) (.slice A t.ks.length c)) w6:=⟨dK.cells.1,zc j0 rfl,zc j0 rfl,zc j0 rfl,zc j0 rfl⟩
   have gH:=zh dK.less;have aV:=zh dK.below;refine hK.out _ _ ⟨aA,trivial⟩ ?_;have mV:=zh aA;clear hK K had dK bC j0 aA hSS;(try simp only[zQ]);have had:=zlc ⟨C.rb,0,none⟩ R.1 w6;refine zp 7 fun K hK=>?_;refine zk2 (by rfl) (.func 180) [.tmp 19,.tmp 25] _ (by rfl) 180 _ zme (by rfl) _ (by rfl) (fun v w'=>w'=w6/\R.1=0) (had.mono ?_) ?_
   ·rintro e y1 ⟨rfl,hv1⟩;rcases hv1 with⟨h0,u0,rfl⟩|⟨h0,rfl⟩
    ·exact .inl ⟨_,rfl,rfl,h0⟩
    ·refine .inr ⟨_,rfl,?_⟩;refine⟨rfl,dO.out,aV.out,?_⟩
     try rw[bO.out]
     rw[<-iJ.out,show zkl r1 R=.err R.1 by unfold zkl;rw[if_pos h0]]
   rintro v12 iR ⟨rfl,h0⟩;have gL:=zh (show o=.ok { r1 with S:=R.2 } by rw[<-iJ.out];unfold zkl;rw[if_neg (by simpa using h0)]);refine hK.out _ _ mV.out ?_;clear hK K had h0;(try simp only[zQ]);refine zd ?_;go_wp2_with fail;go_end0;refine⟨dO.out,aV.out,?_⟩
   try rw[bO.out]
   rw[gL.out];exact⟨⟨_,rfl⟩,gH.out⟩
  ·skip
   go_upto_region 4 with fail;refine zkk (fun w':World=>zv w' C.rb 6 (.pointer (some ⟨C.sb,0,none⟩))/\zN4 w' W.heap.size (.int .u8 t.k) (.int .i64 t.n) (.string t.s) (.slice A t.ks.length c)) zU 7 (by kernel_rfl) ?_;refine zT 0 hSS ?_;refine zT 1 hSS ?_;refine zT 2 hSS ?_;refine zT 3 hSS ?_;refine zT 4 hSS ?_;refine zT 5 hSS ?_;obtain⟨R,hR⟩:=zX (zn5 r1.S t);have iJ:=zh (show zkl r1 R=o by rw[<-hR];exact iZ.out);have hbd:Below w4.heap.size w4 w4.drew:=zr.drew;have had:Calls Tryz.prog 184 [.pointer (some ⟨C.sb,0,none⟩),.agg #[.int .u8 t.k,.int .i64 t.n,.string t.s,.slice A t.ks.length c]].toArray w4.drew fun e w'=>∃v,e=.returned v/\(v=.int .i64 R.1/\RI (C.plus W.heap.size hi) w' { r1 with S:=R.2 }/\Kpt C.n0 (C.plus W.heap.size hi).kb w4 w') :=
    ((HR4.out.later hbd).ks.undo t _ (HV.out.later (zka aF.out hbd))).mono fun e w' ⟨h1,h2,h3⟩=>by
     have hs:=RI.store (C:=C.plus W.heap.size hi) (HR4.out.later hbd) h2 h3 (by rw[bT.out.2];exact bT.out.1.undo _);rw[hR]at h1 hs;exact⟨_,h1,rfl,hs.1,(Kpt.of_below hbd).trans hs.2⟩
   refine zo 6 fun K hK=>?_;refine zlr (by rfl) (.func 184) [.tmp 15,.tmp 16] _ (by rfl) 184 _ zyy (by rfl) _ (by rfl) _ had ?_;rintro v6 w6 ⟨rfl,dK,bC⟩;have dO:=zh (dI.out.trans (Kpt.less (C:=C) bC));have j0:=(dP.out.trans bC).blk (.inr (.inr ⟨zl,l0⟩)) K0.out;have aA:(fun w':World=>zv w' C.rb 6 (.pointer (some ⟨C.sb,0,none⟩))/\zN4 w' W.heap.size (.int .u8 t.k) (.int .i64 t.n) (.string t.s) (.slice A t.ks.length c)) w6:=⟨dK.cells.1,zc j0 rfl,zc j0 rfl,zc j0 rfl,zc j0 rfl⟩
   have gH:=zh dK.less;have aV:=zh dK.below;refine hK.out _ _ ⟨aA,trivial⟩ ?_;have mV:=zh aA;clear hK K had dK bC j0 aA hSS;(try simp only[zQ]);have had:=zlc ⟨C.rb,0,none⟩ R.1 w6;refine zp 7 fun K hK=>?_;refine zk2 (by rfl) (.func 180) [.tmp 11,.tmp 17] _ (by rfl) 180 _ zme (by rfl) _ (by rfl) (fun v w'=>w'=w6/\R.1=0) (had.mono ?_) ?_
   ·rintro e y1 ⟨rfl,hv1⟩;rcases hv1 with⟨h0,u0,rfl⟩|⟨h0,rfl⟩
    ·exact .inl ⟨_,rfl,rfl,h0⟩
    ·refine .inr ⟨_,rfl,?_⟩;refine⟨rfl,dO.out,aV.out,?_⟩
     try rw[bO.out]
     rw[<-iJ.out,show zkl r1 R=.err R.1 by unfold zkl;rw[if_pos h0]]
   rintro v12 iR ⟨rfl,h0⟩;have gL:=zh (show o=.ok { r1 with S:=R.2 } by rw[<-iJ.out];unfold zkl;rw[if_neg (by simpa using h0)]);refine hK.out _ _ mV.out ?_;clear hK K had h0;(try simp only[zQ]);refine zd ?_;go_wp2_with fail;go_end0;refine⟨dO.out,aV.out,?_⟩
   try rw[bO.out]
   rw[gL.out];exact⟨⟨_,rfl⟩,gH.out⟩
def lsR(prs:List PR)(F:Int)(g:Nat)(back:Bool)(t:T)(r:RS):Out :=
 (zld (zkA prs F g back) (blkL back (kid t 0)) r).bind fun r=>(zkE F r).bind fun r=>zkl r (zk8 r.S t.s 0)
def lsO(prs:List PR)(F:Int)(g:Nat)(back:Bool)(t:T)(r:RS):Out :=
 (zkE F r).bind fun r=>(zkl r (zlV r.S ⟨t.s,3,0⟩ 0)).bind (lsR prs F g back t)
theorem zx5{G:List PR->T->Prop}{g:Nat}(hS:IStC G g){C:RC}(hC:C.Ok){W:World}{r:RS}(h:RI C W r)(t:T)(v:Value)(back:Bool)(hv:NV C.w Any t v)(hk0:t.k=55)(hk:t.ks.length=1)(hG1:∀u∈(kid t 0).ks,G C.p.prs u)
  (aH:lsO C.p.prs C.F g back t r ≠ .gas) :
  Calls Tryz.prog 137 #[.pointer (some ⟨C.rb,0,none⟩),v,.bool back] W (RunP C W (lsO C.p.prs C.F g back t r)):=by
 have HV:=zh hv;have H:=zh h;have HS:=zh hS;have nD:=zh hk;obtain⟨A,c,rfl,-,hlk,hlc,hrow⟩:=hv.open_;have ae:=zh hrow;have hb0:=zkb (zs W) (.cells #[.int .u8 t.k,.int .i64 t.n,.string t.s,.slice A t.ks.length c] 41);obtain⟨cK,h1⟩:=h.plus hC hb0;have k0:=heap_alloc_new W (.cells #[.int .u8 t.k,.int .i64 t.n,.string t.s,.slice A t.ks.length c] 41);obtain⟨x0,x1,x2,x3⟩:=box4 k0;have bS:=zh (Kpt.of_below (n0:=C.n0) (kb:=C.kb) hb0);obtain⟨w3,hw3⟩:=zX (W.alloc (.cells #[.int .u8 t.k,.int .i64 t.n,.string t.s,.slice A t.ks.length c] 41));rw[hw3]at cK h1 k0 x0 x1 x2 x3 bS;have l0:=zkn k0;have K0:=zh k0;obtain⟨hi,hhi⟩:=zX (w3.heap.size);rw[hhi]at cK h1 l0;have lT:=zh cK;have iP:=zh (zlX cK h1);obtain⟨o,ho⟩:=zX (lsO C.p.prs C.F g back t r);have bO:=zh ho;have HO:=zh (show(zkE C.F r).bind (fun r=>(zkl r (zlV r.S ⟨t.s,3,0⟩ 0)).bind (lsR C.p.prs C.F g back t))=o from ho)
 rw[ho]at aH ⊢;have dn:=zh aH;rw[hk0]at hw3;have hw3':=hw3;clear hv hb0 cK h1 k0 h hk ho aH hrow hS hlk;have HKK:=zh hk0;rw[hk0]at x0;rw[hk0];clear hk0;go_enter Tryz.func137,Tryz.ntmps137;go_wp2_with fail;refine iP.out.mono ?_;rintro e w4 ⟨hk4,hb4,eZ⟩;have dI:=zh (bS.out.trans (Kpt.less (C:=C) hk4));have aF:=zh (show Below C.w.heap.size C.w w4 from hb4);have bB:match zkE C.F r with
  | .gas=>True
  | .err x=>e=zlC x
  | .ok r=>(∃u,e=.returned u)/\RI (C.plus W.heap.size hi) w4 r:=eZ
 have dP:=zh hk4;clear x0 x1 x2 x3 iP hk4 hb4 eZ hw3 hw3'
 cases hy:zkE C.F r with
 | gas=>exact absurd hy (zkt _ _).1
 | err x =>
  rw[hy]at bB;subst bB;refine⟨rfl,dI.out,aF.out,?_⟩
  try rw[bO.out]
  rw[<-HO.out,hy];rfl
 | ok r1 =>
  rw[hy]at bB;obtain⟨⟨u3,rfl⟩,hr1⟩:=bB;have HR4:=zh hr1;have iZ:=zh (show(zkl r1 (zlV r1.S ⟨t.s,3,0⟩ 0)).bind (lsR C.p.prs C.F g back t)=o by rw[<-HO.out,hy];rfl);have bT:=zh (show FB r.n r1.S/\r1.n=r.n+1 by obtain⟨rfl,-⟩:=zlx hy;exact⟨H.out.fb,rfl⟩);have j0:=dP.out.blk (.inr (.inr ⟨zl,l0⟩)) K0.out;have hSS:zW (fun w':World=>zv w' C.rb 6 (.pointer (some ⟨C.sb,0,none⟩))/\zv w' W.heap.size 2 (.string t.s)) zU w4.drew:=⟨⟨hr1.cells.1,zc j0 rfl⟩,trivial⟩
  clear hr1 hy j0;go_upto_region 14 with fail;refine zG hSS 9 ?_;refine zT 0 hSS ?_;refine zT 1 hSS ?_;refine zT 2 hSS ?_;refine zT 3 hSS ?_;refine zT 4 hSS ?_;refine zT 5 hSS ?_;refine zT 6 hSS ?_;refine zT 7 hSS ?_;obtain⟨R,hR⟩:=zX (zlV r1.S ⟨t.s,3,0⟩ 0);have HRR:=zh hR;have kH:=bT.out.1.cur;have uS:=H.out.n;have hbd:Below w4.heap.size w4 w4.drew:=zr.drew;have had:Calls Tryz.prog 181 [.pointer (some ⟨C.sb,0,none⟩),.agg #[.string t.s,.int .u8 3,.int .i64 0],.int .i64 0].toArray w4.drew fun e w'=>∃v,e=.returned v/\(v=.int .i64 R.1/\RI (C.plus W.heap.size hi) w' { r1 with S:=R.2 }/\Kpt C.n0 (C.plus W.heap.size hi).kb w4 w') :=
   ((HR4.out.later hbd).ks.open_ ⟨t.s,3,0⟩ (by obtain⟨_,_,_,hf,-⟩:=HV.out.open_;exact⟨hf.2.2,⟨by simp only;omega,by simp only;omega⟩,⟨by simp only;omega,by simp only;omega⟩⟩) 0 zero_I64 (by omega)).mono fun e w' ⟨h1,h2,h3⟩=>by
    have hs:=RI.store (C:=C.plus W.heap.size hi) (HR4.out.later hbd) (hR▸h2) h3 (by rw[bT.out.2,<-hR];exact bT.out.1.open_ _ _);exact⟨_,h1,by rw[hR],hs.1,(Kpt.of_below hbd).trans hs.2⟩
  refine zo 8 fun K hK=>?_;refine zlr (by rfl) (.func 181) [.tmp 53,.tmp 56,.const (.int .i64 0)] _ (by rfl) 181 _ zuq (by rfl) _ (by rfl) _ had ?_;rintro v6 w6 ⟨rfl,dK,bC⟩;have fF:=zh (dP.out.trans bC);have j0:=fF.out.blk (.inr (.inr ⟨zl,l0⟩)) K0.out;have gH:=zh dK;have aA:(fun w':World=>zv w' C.rb 6 (.pointer (some ⟨C.sb,0,none⟩))/\zv w' W.heap.size 2 (.string t.s)) w6:=⟨dK.cells.1,zc j0 rfl⟩
  refine hK.out _ _ ⟨aA,trivial⟩ ?_;have mV:=zh aA;have aV:=zh dK.below;clear hK K had dK bC j0 aA hSS;(try simp only[zQ]);have dO:=zh (bS.out.trans (Kpt.less (C:=C) fF.out));rw[hR]at iZ;have had:=zlc ⟨C.rb,0,none⟩ R.1 w6;refine zp 9 fun K hK=>?_;refine zk2 (by rfl) (.func 180) [.tmp 49,.tmp 57] _ (by rfl) 180 _ zme (by rfl) _ (by rfl) (fun v w'=>w'=w6/\R.1=0) (had.mono ?_) ?_
  ·rintro e y1 ⟨rfl,hv1⟩;rcases hv1 with⟨h0,u0,rfl⟩|⟨h0,rfl⟩
   ·exact .inl ⟨_,rfl,rfl,h0⟩
   ·refine .inr ⟨_,rfl,?_⟩;refine⟨rfl,dO.out,aV.out,?_⟩
    try rw[bO.out]
    rw[<-iZ.out,show zkl r1 R=.err R.1 by unfold zkl;rw[if_pos h0]];rfl
  rintro v7 w7 ⟨rfl,h0⟩;have pW:=zh (show lsR C.p.prs C.F g back t { r1 with S:=R.2 }=o by rw[<-iZ.out,show zkl r1 R=.ok { r1 with S:=R.2 } by unfold zkl;rw[if_neg (by simpa using h0)]];rfl);refine hK.out _ _ mV.out ?_;clear hK K had h0;(try simp only[zQ]);refine zd ?_;obtain⟨r2,hr2⟩:=zX (({ r1 with S:=R.2 }:RS));rw[hr2]at gH pW;have hI:0<t.ks.length:=by have:=nD.out;omega
  have hI1:(0:Int)<(t.ks.length:Int):=by omega
  obtain⟨a,u,Au,cu,rfl,-,hu,⟨p0,p1,p2,p3⟩,hnu⟩:=ae.out.nd hI;have gu:kid t 0=u:=by unfold kid;rw[List.getD_eq_getElem?_getD,List.getElem?_eq_getElem hI];exact hu.out
  have uG:=zh (show ∀x∈u.ks,G C.p.prs x by rw[<-gu];exact hG1);have kT:=zh (show(runO C.p.prs C.F g back u r2).bind (fun r=>(zkE C.F r).bind fun r=>zkl r (zk8 r.S t.s 0))=o by rw[<-pW.out,<-gu];rfl);have hgu:runO C.p.prs C.F g back u r2 ≠ .gas:=fun e=>dn.out (by rw[<-kT.out,e];rfl);have aC:=zh (zlf HS.out lT.out gH.out u _ back hnu uG.out hgu);have ha:a.add (0*4)=a:=by unfold Addr.add;simp
  rw[ha]at p0 p1 p2 p3;have q0:=zb aV.out p0;have q1:=zb aV.out p1;have q2:=zb aV.out p2;have q3:=zb aV.out p3;have j0:=fF.out.blk (.inr (.inr ⟨zl,l0⟩)) K0.out;have q4:=zc (i:=3) j0 rfl;clear gu hnu hu p0 p1 p2 p3 hgu ha j0 kH uS hG1;go_wp2_with fail;refine aC.out.mono ?_;rintro e w8 ⟨jU,bR,qz⟩;have nE:=zh (fF.out.trans jU);have qX:=zh (bS.out.trans (Kpt.less (C:=C) nE.out));have dQ:=zh (show Below C.w.heap.size C.w w8 from bR);have bX:match runO C.p.prs C.F g back u r2 with
   | .gas=>True
   | .err x=>e=zlC x
   | .ok r=>(∃u,e=.returned u)/\RI (C.plus W.heap.size hi) w8 r:=qz
  clear q0 q1 q2 q3 q4 jU bR qz aC
  cases hx:runO C.p.prs C.F g back u r2 with
  | gas=>exact absurd (by rw[<-kT.out,hx];rfl) dn.out
  | err x =>
   rw[hx]at bX;subst bX;refine⟨rfl,qX.out,dQ.out,?_⟩
   try rw[bO.out]
   rw[<-kT.out,hx];rfl
  | ok r3 =>
   rw[hx]at bX;obtain⟨⟨u9,rfl⟩,hr3⟩:=bX;have HST:=zh (zlX lT.out hr3);have jX:=zh (show((zkE C.F r3).bind fun r=>zkl r (zk8 r.S t.s 0))=o by rw[<-kT.out,hx];rfl);have gV:=zh hr3;clear hx hr3;go_wp2_with fail;refine HST.out.mono ?_;rintro e w9 ⟨aK,aU,dL⟩;have iO:=zh (nE.out.trans aK);have gY:=zh (bS.out.trans (Kpt.less (C:=C) iO.out));have aG:=zh (show Below C.w.heap.size C.w w9 from aU);have gp:match zkE C.F r3 with
    | .gas=>True
    | .err x=>e=zlC x
    | .ok r=>(∃u,e=.returned u)/\RI (C.plus W.heap.size hi) w9 r:=dL
   clear aK aU dL HST
   cases hy:zkE C.F r3 with
   | gas=>exact absurd (by rw[<-jX.out,hy];rfl) dn.out
   | err x =>
    rw[hy]at gp;subst gp;refine⟨rfl,gY.out,aG.out,?_⟩
    try rw[bO.out]
    rw[<-jX.out,hy];rfl
   | ok r4 =>
    rw[hy]at gp;obtain⟨⟨u9,rfl⟩,hr4⟩:=gp;have bI:=zh hr4;have iQ:=zh (show FB r3.n r4.S/\r4.n=r3.n+1 by obtain⟨rfl,-⟩:=zlx hy;exact⟨gV.out.fb,rfl⟩);obtain⟨Rc,lF⟩:=zX (zk8 r4.S t.s 0);have iK:=zh (show zkl r4 Rc=o by rw[<-jX.out,hy,<-lF];rfl);have j0:=iO.out.blk (.inr (.inr ⟨zl,l0⟩)) K0.out;have hSS:zW (fun w':World=>zv w' C.rb 6 (.pointer (some ⟨C.sb,0,none⟩))/\zv w' W.heap.size 2 (.string t.s)) zU w9.drew:=⟨⟨hr4.cells.1,zc j0 rfl⟩,trivial⟩
    clear hr4 hy j0;go_upto_region 17 with fail;refine zG hSS 8 ?_;refine zT 0 hSS ?_;refine zT 1 hSS ?_;refine zT 2 hSS ?_;refine zT 3 hSS ?_;refine zT 4 hSS ?_;refine zT 5 hSS ?_;refine zT 6 hSS ?_;have sS:Below w9.heap.size w9 w9.drew:=zr.drew;have had:Calls Tryz.prog 182 [.pointer (some ⟨C.sb,0,none⟩),.string t.s,.int .i64 0].toArray w9.drew fun e w'=>∃v,e=.returned v/\(v=.int .i64 Rc.1/\RI (C.plus W.heap.size hi) w' { r4 with S:=Rc.2 }/\Kpt C.n0 (C.plus W.heap.size hi).kb w9 w') :=
     ((bI.out.later sS).ks.close t.s 0).mono fun e w' ⟨h1,h2,h3⟩=>by
      have hs:=RI.store (C:=C.plus W.heap.size hi) (bI.out.later sS) (lF▸h2) h3 (by rw[iQ.out.2,<-lF];exact iQ.out.1.close_ _ _);exact⟨_,h1,by rw[lF],hs.1,(Kpt.of_below sS).trans hs.2⟩
    refine zo 7 fun K hK=>?_;refine zlr (by rfl) (.func 182) [.tmp 72,.tmp 74,.const (.int .i64 0)] _ (by rfl) 182 _ zsk (by rfl) _ (by rfl) _ had ?_;rintro v11 aQ ⟨rfl,fU,iy⟩;have fO:=zh (iO.out.trans iy);have j0:=fO.out.blk (.inr (.inr ⟨zl,l0⟩)) K0.out;have kR:=zh fU;have aA:(fun w':World=>zv w' C.rb 6 (.pointer (some ⟨C.sb,0,none⟩))/\zv w' W.heap.size 2 (.string t.s)) aQ:=⟨fU.cells.1,zc j0 rfl⟩
    refine hK.out _ _ ⟨aA,trivial⟩ ?_;have mV:=zh aA;have bM:=zh fU.below;clear hK K had fU iy j0 aA hSS;(try simp only[zQ]);have dB:=zh (bS.out.trans (Kpt.less (C:=C) fO.out));have had:=zlc ⟨C.rb,0,none⟩ Rc.1 aQ;refine zp 8 fun K hK=>?_;refine zk2 (by rfl) (.func 180) [.tmp 68,.tmp 75] _ (by rfl) 180 _ zme (by rfl) _ (by rfl) (fun v w'=>w'=aQ/\Rc.1=0) (had.mono ?_) ?_
    ·rintro e y1 ⟨rfl,hv1⟩;rcases hv1 with⟨h0,u0,rfl⟩|⟨h0,rfl⟩
     ·exact .inl ⟨_,rfl,rfl,h0⟩
     ·refine .inr ⟨_,rfl,?_⟩;refine⟨rfl,dB.out,bM.out,?_⟩
      try rw[bO.out]
      rw[<-iK.out,show zkl r4 Rc=.err Rc.1 by unfold zkl;rw[if_pos h0]]
    rintro v12 iR ⟨rfl,h0⟩;have gL:=zh (show o=.ok { r4 with S:=Rc.2 } by rw[<-iK.out];unfold zkl;rw[if_neg (by simpa using h0)]);refine hK.out _ _ mV.out ?_;clear hK K had h0;(try simp only[zQ]);refine zd ?_;have mW:=zh kR.out.less;go_wp2_with fail;go_end0;refine⟨dB.out,bM.out,?_⟩
    try rw[bO.out]
    rw[gL.out];exact⟨⟨_,rfl⟩,mW.out⟩
theorem zpy:∀(prs:List PR) (s:ByteArray) (i:Nat),prcI prs s=some i->zlD prs s=(i:Int)/\i<prs.length
 | [],_,_,h=>by simp[prcI]at h
 | q::qs,s,i,h=>by
  unfold prcI at h;unfold zlD idxP;rw[List.findIdx?_cons]
  split at h
  ·rename_i h0;injection h with h;subst h;rw[if_pos h0];exact⟨rfl,by simp⟩
  ·rename_i h0;rw[if_neg h0];obtain⟨j,hj,rfl⟩:=Option.map_eq_some_iff.1 h;have h5:=zpy qs s j hj;unfold zlD idxP at h5
   cases hf:List.findIdx? (fun r=>r.s.toList==s.toList) qs with
   | none =>
    rw[hf]at h5;have h6:(-1:Int)=(j:Int):=h5.1;omega
   | some m =>
    rw[hf]at h5;have h6:(m:Int)=(j:Int):=h5.1;exact⟨by show((m+1:Nat):Int)=((j+1:Nat):Int);omega,by have:=h5.2;simp;omega⟩
def strA(l:List ByteArray):Array Value:=(l.map Value.string).toArray
theorem zzo:(Tryz.prog.info? 9).map (fun i=>(i.zero,i.size,i.bytes))=some (some (.string ⟨#[]⟩),1,16):=by kernel_rfl
theorem zwh(n:Nat):madeCells (Value.string ⟨#[]⟩).cells (n*1)=strA (List.replicate n ⟨#[]⟩):=by
 unfold strA;apply Array.ext';apply List.ext_getElem
 ·rw[Array.length_toList,size_madeCells];simp
 ·intro i h1 h2;have e:i % 1=0:=by omega
  simp[madeCells,Value.cells,e]
theorem zzY(n:Nat)(hn:n<=17592186044416)(w:World):(Instr.makeSlice 227 (.int .i64 (n:Int)) (.int .i64 (n:Int))).run Tryz.prog w=.ok (.slice (some ⟨w.heap.size,0,none⟩) n n) (w.alloc (.cells (strA (List.replicate n ⟨#[]⟩)) 9)):=by
 have h:=zzo;obtain⟨i,hi,hz⟩:=Option.map_eq_some_iff.1 h;injection hz with h1 h2;injection h2 with h2 h3;have:=zlj (P:=Tryz.prog) 227 9 i (.string ⟨#[]⟩) Tryz.underlying227 hi h1 .i64 .i64 n n zl (by rw[h3];omega) (by omega) w;rw[h2,zwh]at this;exact this
def argL(ks:List T)(j:Nat):List ByteArray:=(ks.take j).map (·.s)++List.replicate (ks.length-j) ⟨#[]⟩
theorem zxP(ks:List T):argL ks 0=List.replicate ks.length ⟨#[]⟩:=by simp[argL]
theorem zw0(ks:List T):argL ks ks.length=ks.map (·.s):=by simp[argL]
theorem zwZ(ks:List T){j:Nat}(hj:j<=ks.length):(argL ks j).length=ks.length:=by simp[argL];omega
theorem zwY(ks:List T){j:Nat}(hj:j<ks.length):(strA (argL ks j)).setIfInBounds j (.string ks[j].s)=strA (argL ks (j+1)):=by
 unfold strA;rw[List.setIfInBounds_toArray,<-List.map_set];congr 2;unfold argL;refine List.ext_getElem (by simp;omega) fun i h1 h2=>?_;rw[List.getElem_set];simp only[List.length_append,List.length_map,List.length_take,List.length_replicate,List.length_set]at h1 h2;by_cases e:j=i
 ·subst e;rw[if_pos rfl,List.getElem_append_left (by simp;omega)];simp
 ·rw[if_neg e];by_cases hi:i<j
  ·rw[List.getElem_append_left (by simp;omega),List.getElem_append_left (by simp;omega)];simp
  ·rw[List.getElem_append_right (by simp;omega),List.getElem_append_right (by simp;omega)];simp
theorem zvS{W:World}{b:Nat}{E:TypeId}{l:List ByteArray}(h:W.heap[b]?=some (.cells (strA l) E (0,0))):RowS W (some ⟨b,0,none⟩) l:=fun i hi=>by
 have ha:(⟨b,0,none⟩:Addr).add i=⟨b,i,none⟩:=by rw[Addr.add_lit,Nat.zero_add]
 refine⟨⟨b,0,none⟩,rfl,?_⟩;rw[ha];simp only[World.cell?,h];simp[strA,hi]
theorem RI.count{C:RC}(hC:C.Ok){W:World}{r:RS}(h:RI C W r){i:Nat}(hi:i<r.ent.length)(hn:r.ent.getD i 0+1<=r.n) :
  ∃g c,C.ev=.slice (some ⟨g,0,none⟩) r.ent.length c/\W.cell? ⟨g,i,none⟩=some (.int .i64 (r.ent.getD i 0:Nat))/\W.frozen? ⟨g,i,none⟩=false /\
   RI C (W.setCell ⟨g,i,none⟩ (.int .i64 ((r.ent.getD i 0+1:Nat):Int))) { r with ent:=r.ent.set i (r.ent.getD i 0+1) }/\Kpt C.n0 C.kb W (W.setCell ⟨g,i,none⟩ (.int .i64 ((r.ent.getD i 0+1:Nat):Int))):=by
 obtain⟨e1,h2⟩:=h.ent;rcases h2 with h2|⟨g,cap,cur,hev,hb,hg,hcap,hlen,hsz,kH⟩
 ·have hn0:r.ent.length=0:=h2.2;omega
 ·have hcz:cur[i]?=some (.int .i64 (r.ent.getD i 0:Nat)):=by
   have h3:(zkg (r.ent.map Int.ofNat))[i]?=some (.int .i64 (r.ent.getD i 0:Nat)):=by simp[zkg,hi]
   rw[<-kH,List.getElem?_take]at h3
   split at h3
   ·simpa using h3
   ·cases h3
  have hci:i<cur.size:=by
   rcases Nat.lt_or_ge i cur.size with h|h
   ·exact h
   ·rw[Array.getElem?_eq_none h]at hcz;cases hcz
  have hrb:g≠C.rb:=fun e=>hC.ev.1 (by rw[hev,<-e];rfl);have hkb:¬ C.kb g:=hC.ev.2 g (by rw[hev];rfl);have hch:Chg (fun b=>b=g) W (W.setCell ⟨g,i,none⟩ (.int .i64 ((r.ent.getD i 0+1:Nat):Int))):=(Chg.refl (fun b=>b=g) W).setCell (p:=⟨g,i,none⟩) (.inl rfl) _;have hnn:=h.ks.hn;refine⟨g,cap,hev,zc hg hcz,zf hg,⟨h.ks.chg hch fun b _ e=>⟨by omega,.inr (.inr (.inr (by rw[hev,e];rfl)))⟩,?_,?_,by simp[h.el],?_,h.n,h.fb⟩,Kpt.chg hch fun b e=>⟨by omega,by rw[e];exact hkb⟩⟩
  ·rw[Below.heap_setCell _ _ _ _ (fun e=>hrb (by simpa using e.symm))];exact h.box
  ·have hs:=heap_setCell_same W g i _ _ (.int .i64 ((r.ent.getD i 0+1:Nat):Int)) hg;refine⟨by simp[zkg],.inr ⟨g,cap,_,by rw[hev];simp,hb,hs,by simpa using hcap,by simpa using hlen,by simpa using hsz,?_⟩⟩;have e2:((cur.setIfInBounds i (.int .i64 ((r.ent.getD i 0+1:Nat):Int))).toList.take ((r.ent.set i (r.ent.getD i 0+1)).length*1))=(cur.toList.take (r.ent.length*1)).set i (.int .i64 ((r.ent.getD i 0+1:Nat):Int)):=by
    rw[Array.toList_setIfInBounds,List.length_set,List.take_set]
   rw[e2,kH];simp[zkg,List.map_set]
  ·intro c hc;rcases List.mem_or_eq_of_mem_set hc with hc|rfl
   ·exact h.en c hc
   ·exact hn
end
end Go.Proofs.YtembgnhbpmfhpaaGreat
