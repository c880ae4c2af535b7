/-
  Texts of the proof, put together without their remarks: Apr, Wgo, Ssp, Sfi, Ie, Is, Ic, Iu, Iw, Ix, Iy, Il, Iv, Id.
-/
import Derived.Test.YtembgnhbpmfhpaaGreatV7
set_option linter.unusedSimpArgs false
set_option linter.unusedVariables false
set_option maxHeartbeats 8000000
set_option maxRecDepth 100000
namespace Go.Proofs.YtembgnhbpmfhpaaGreat
open Tryz
section
open Go Go.RowKit
theorem bRA0(w:World):(Instr.buildSlice 29 0 #[]).run prog w=.ok (.slice (some ⟨w.heap.size,0,none⟩) 0 0) (w.alloc (.cells #[] 30)):=by kernel_rfl
theorem bRA2(A B:Option Addr)(l c m d:Nat)(w:World):(Instr.buildSlice 29 2 #[(0,.slice A l c),(1,.slice B m d)]).run prog w=.ok (.slice (some ⟨w.heap.size,0,none⟩) 2 2) (w.alloc (.cells #[.slice A l c,.slice B m d] 30)):=by kernel_rfl
theorem ztY:(prog.info? 30).map (fun i=>(i.zero,i.size,i.bytes))=some (some (.slice none 0 0),1,24):=by kernel_rfl
theorem zsT{W:World}{n0 n c:Nat}{E:TypeId}{A:Option Addr}{xs:List Value}(h:W.ownsRow n0 E 1 (.slice A n c) n xs):(A=none->n=0)/\∀ad,A=some ad->∀j u,xs[j]?=some u->W.cell? (ad.add j)=some u:=by
 have hl:=h.1;rcases h.2 with⟨e,h0⟩|⟨g,cap,cur,e,-⟩
 ·simp only[Value.slice.injEq]at e;obtain⟨rfl,rfl,rfl⟩:=e;exact⟨fun _=>rfl,nofun⟩
 ·simp only[Value.slice.injEq]at e;obtain⟨rfl,-,rfl⟩:=e;refine⟨nofun,fun ad had j u hj=>?_⟩;injection had with had;subst had;have hj':=(List.getElem?_eq_some_iff.1 hj).1;rw[Addr.add_lit,Nat.zero_add,h.cellAt j (by omega)];exact hj
def OthL(W:World)(S:Nat->Prop)(u:Value)(ys:List (List Int)):Prop :=
 ∃(A:Option Addr) (c:Nat) (us:List Value),u=.slice A ys.length c/\us.length=ys.length/\(A=none->ys.length=0)/\(∀ad,A=some ad->∀j z,us[j]?=some z->W.cell? (ad.add j)=some z)/\(∀z∈us,z.oneCell'=true)/\∀k (hk:k<ys.length) (hv:k<us.length),∃A c,us[k]=.slice A ys[k].length c/\ys[k].length<=c/\RowI W S A ys[k]
theorem zlw.oth{w:World}{S:Nat->Prop}{A:Option Addr}{ls:List (List Int)}(h:zlw w S A ls)(c:Nat):OthL w S (.slice A ls.length c) ls:=by
 obtain⟨us,h1,h2,h3,h4,h5⟩:=h.vals;exact⟨A,c,us,rfl,h1,h2,h3,h4,h5⟩
theorem zkq.oth{w:World}{n0:Nat}{S:Nat->Prop}{v:Value}{ls:List (List Int)}(h:zkq w n0 S v ls):OthL w S v ls:=by
 obtain⟨us,h1,h2,h3⟩:=h;obtain⟨A,c,rfl,-⟩:=zkd h1;obtain⟨r1,r2⟩:=zsT h1;refine⟨A,c,us,rfl,h2,r1,r2,fun z hz=>?_,fun k hk hv=>?_⟩
 ·obtain⟨k,hk,rfl⟩:=List.mem_iff_getElem.1 hz;obtain⟨A',c',e,-⟩:=h3 k (by omega) hk;rw[e];rfl
 ·obtain⟨A',c',e,hc,hr⟩:=h3 k hk hv;exact⟨A',c',e,hc,hr.keep (fun q h _=>h.1) fun _ _ _=>rfl⟩
theorem zkq.built{w:World}{N0 n:Nat}{S:Nat->Prop}{ls:List (List Int)}{us:List Value}(hN:N0<=w.heap.size)(hl:us.length=n)(hn:ls.length=n)(hS:∀q,S q->q<w.heap.size)
  (hs:∀k (hk:k<ls.length) (hv:k<us.length),∃A c,us[k]=.slice A ls[k].length c/\ls[k].length<=c/\RowI w S A ls[k])(hm:n<=1000000):zkq (w.alloc (.cells us.toArray 30)) N0 S (.slice (some ⟨w.heap.size,0,none⟩) n n) ls:=by
 subst hn;refine⟨us,⟨by omega,.inr ⟨w.heap.size,ls.length,us.toArray,rfl,hN,heap_alloc_new w _,zl,by unfold maxLen;omega,by simp[hl],by simp[<-hl]⟩⟩,hl,fun k hk hv=>?_⟩;obtain⟨A,c,e,hc,hr⟩:=hs k hk hv;exact⟨A,c,e,hc,(hr.later (zkb (zs w) _)).keep (fun q h _=>⟨h,fun e=>by injection e with e;have e:w.heap.size=q:=e;have:=hS q h;omega⟩) fun _ _ _=>rfl⟩
theorem zm8{ops:Array Oper}{o:Oper}{i:Nat}{a:Act}{W:World}{K:Act->World->Prop}{Q:Exit->Act->World->Prop}{F:Prop}{N0:Nat}{S:Nat->Prop}(hoi:ops[i]?=some o)(s x:Operand)(hgd:(ops[i]?).map (fun o=>o.guard)=some none)
  (ho:(ops[i]?).map (fun o=>o.op)=some (.call { callee:=.builtin .append,args := #[s,x],argTypes := #[29,29] }))(hN:N0<=W.heap.size)(hS:∀q,S q->q<N0){v u:Value}{ls ys:List (List Int)}(hs:a.eval s=v)(hr:zkq W N0 S v ls)(hx:a.eval x=u)(hu:OthL W S u ys)(hm:ls.length+ys.length<=1000000)
  (h:∀v' w',Chg (fun b=>v.ownBlock=some b) W w'->(∀b,v'.ownBlock=some b->(W.heap.size<=b\/v.ownBlock=some b)/\b<w'.heap.size)->zkq w' N0 S v' (ls++ys)->K (a.put o.dst v') w') :
  if Region.wanted o (yielded ops a.tmps)=true then Oper.wp prog o a W K Q else F:=by
 have hgd:=opF hoi (fun o=>o.guard) hgd;have ho:=opF hoi (fun o=>o.op) ho;obtain⟨vs,h1,h2,h3⟩:=hr;obtain⟨A,c,us,rfl,u1,u2,u3,u4,u5⟩:=hu;have hfin:∀v' w',w'.ownsRow N0 30 1 v' (ls.length+ys.length) (vs++us)->W.grownBy w' v.ownBlock->(v'.ownBlock=v.ownBlock\/v'.ownBlock=some W.heap.size)->K (a.put o.dst v') w':=fun v' w' g1 g2 g3=>by
  refine h v' w' (Chg.row g2) (fun b hb=>⟨?_,(g1.lt b hb).2⟩) (zkq.app h2 u1 h3 (fun q h _=>h) (fun k hk hv=>?_) g1 g2 g3)
  ·rcases g3 with e|e
   ·exact .inr (e▸hb)
   ·rw[e]at hb;injection hb with hb;exact .inl (by omega)
  ·obtain⟨A,c,e,hc,hr⟩:=u5 k hk hv;exact⟨A,c,e,hc,hr.keep (fun q h _=>⟨h,fun e=>by have:=(h1.lt q e).1;have:=hS q h;omega⟩) fun _ _ _=>rfl⟩
 rcases A with _|ad
 ·have h0:=u2 rfl;have hnil:us=[]:=List.eq_nil_of_length_eq_zero (by omega);have hw:Region.wanted o (yielded ops a.tmps)=true:=by simp[Region.wanted,hgd]
  rw[if_pos hw];obtain⟨j,hj,hz0,hz1,hz2⟩:=info_parts ztY;have hrun:(Builtin.append_ #[29,29] o.type #[v,.slice none 0 c]).run prog W=.ok v W:=by
   rcases h1.2 with⟨rfl,h0⟩|⟨g,cap,cur,rfl,_,_,hnc,_⟩
   ·simp[Builtin.append_,run_underlying underlying29,sizeOf,typeInfo,hj,Builtin.lenOf,Builtin.firstCells]
   ·simp[Builtin.append_,run_underlying underlying29,sizeOf,typeInfo,hj,Builtin.lenOf,Builtin.firstCells,hnc,storeCells]
  rw[h0]at hx;unfold Oper.wp execOp;simp only[ho,resolve,invoke,builtin,Sem.run_bind,Sem.run_pure,Result.andThen_ok,List.map_toArray,List.map_cons,List.map_nil,hs,hx,hrun];exact hfin v W (by rw[hnil,h0];simpa using h1) (znc _ _) (.inl rfl)
 ·exact zm7 hgd s x ho underlying29 ztY rfl (by decide) (by decide) N0 v ls.length vs hs h1 ad ys.length c us hx (by omega) (u3 ad rfl) u4 hm hN hfin
theorem zkq.chg{w w':World}{N0:Nat}{S:Nat->Prop}{C:Nat->Prop}{v:Value}{ls:List (List Int)}(h:zkq w N0 S v ls)(hS:∀q,S q->q<N0)(hc:Chg C w w')(hC:∀b,C b->N0<=b)(ho:∀b,v.ownBlock=some b->¬ C b):zkq w' N0 S v ls :=
 h.keep (fun _ h _=>h) fun q hq hlt=>hc.block q hlt fun hcq=>by
  rcases hq with hq|hq
  ·have:=hS q hq;have:=hC q hcq;omega
  ·exact ho q hq hcq
structure InB(vs:List VD)(x:SS):Prop where
 st:∃y,x=stOf y/\y.length=vs.length+1
 sm:SmS x
 n:x.cells.length=vs.length
theorem zvj{vs:List VD}{b:BX}(h:(b.ok&&svB vs)=true):∀x∈allS b (lenE vs b),InB vs x:=by
 intro x hx;obtain⟨y,hy,rfl⟩:=List.mem_map.1 hx;have h1:=zpZ rfl y hy;have h2:=zmk h;have h3:=h1.len;rw[h2.1]at h3;have hc:(stOf y).cells.length=vs.length:=by simp[stOf,h3]
 have h4:∀i (hi:i<y.length),SmI y[i]:=fun i hi=>by
  have h5:=h1.get i (by rw[h2.1];omega) hi;have h6:=(h2.2.2.1 _ (List.getElem_mem (show i<(lenE vs b).length by rw[h2.1];omega))).2.2;have h7:=h2.2.2.2;exact⟨by omega,fun e he=>by have:=h5.2.2 e he;omega⟩
 have h7:∀l∈y,SmI l:=fun l hl=>by obtain⟨i,hi,rfl⟩:=List.mem_iff_getElem.1 hl;exact h4 i hi
 refine⟨⟨y,rfl,h3⟩,⟨by omega,fun l hl=>h7 l ((List.dropLast_sublist y).subset hl),?_,⟨Nat.zero_le _,fun e he=>by cases he⟩⟩,hc⟩
 show SmI (y.getLastD [])
 rw[zmA (n:=y.length) rfl (by omega)];exact h4 _ (by omega)
def firE(f:Nat->SS->Bool):Nat->List SS->SS×Nat×Bool
 | n,[]=>(nilS,n,false)
 | n,s::l=>if f n s=true then(s,n+1,true)else firE f (n+1) l
theorem zqF(f:Nat->SS->Bool):∀(l:List SS) (n:Nat),
  (∃a s b,l=a++s::b/\(∀i (h:i<a.length),f (n+i) a[i]=false)/\f (n+a.length) s=true/\firE f n l=(s,n+a.length+1,true)) \/
  ((∀i (h:i<l.length),f (n+i) l[i]=false)/\firE f n l=(nilS,n+l.length,false))
 | [],n=>.inr ⟨fun i h=>by simp at h,rfl⟩
 | s::l,n=>by
  by_cases h:f n s=true
  ·exact .inl ⟨[],s,l,rfl,fun i h=>by simp at h,h,by rw[firE,if_pos h];rfl⟩
  ·have h':f n s=false:=by simpa using h
   rw[firE,if_neg h];rcases zqF f l (n+1)with⟨a,t,b,h1,h2,h3,h4⟩|⟨h2,h4⟩
   ·refine .inl ⟨s::a,t,b,by rw[h1];rfl,fun i hi=>?_,?_,?_⟩
    ·cases i with
     | zero=>exact h'
     | succ i=>have:=h2 i (by simpa using hi);rw[show n+(i+1)=n+1+i by omega];exact this
    ·rw[List.length_cons,show n+(a.length+1)=n+1+a.length by omega];exact h3
    ·rw[h4,List.length_cons,show n+(a.length+1)+1=n+1+a.length+1 by omega]
   ·refine .inr ⟨fun i hi=>?_,?_⟩
    ·cases i with
     | zero=>exact h'
     | succ i=>have:=h2 i (by simpa using hi);rw[show n+(i+1)=n+1+i by omega];exact this
    ·rw[h4,List.length_cons,show n+(l.length+1)=n+1+l.length by omega]
def fndE(f:SS->Bool)(l:List SS):SS×Nat×Bool:=firE (fun _=>f) 0 l
theorem zni(f:SS->Bool)(l:List SS) :
  (∃a s b,l=a++s::b/\(∀x∈a,f x=false)/\f s=true/\fndE f l=(s,a.length+1,true))\/((∀x∈l,f x=false)/\fndE f l=(nilS,l.length,false)):=by
 rcases zqF (fun _=>f) l 0 with⟨a,s,b,h1,h2,h3,h4⟩|⟨h2,h4⟩
 ·exact .inl ⟨a,s,b,h1,fun x hx=>by obtain⟨i,hi,rfl⟩:=List.mem_iff_getElem.1 hx;exact h2 i hi,h3,by unfold fndE;rw[h4];simp⟩
 ·exact .inr ⟨fun x hx=>by obtain⟨i,hi,rfl⟩:=List.mem_iff_getElem.1 hx;exact h2 i hi,by unfold fndE;rw[h4];simp⟩
theorem zs4{f g:SS->Bool}{l:List SS}(h:∀x∈l,f x=g x):fndE f l=fndE g l:=by
 rcases zni f l with⟨a,s,b,rfl,h2,h3,h4⟩|⟨h2,h4⟩
 ·rcases zni g (a++s::b)with⟨a',s',b',h1',h2',h3',h4'⟩|⟨h2',h4'⟩
  ·have hl:a.length=a'.length:=by
    rcases Nat.lt_trichotomy a.length a'.length with hlt|heq|hgt
    ·have e:(a++s::b)[a.length]'(by simp)=s:=by simp
     have e2:a'[a.length]=s:=by
      have:(a'++s'::b')[a.length]'(by simp;omega)=s:=by rw[<-e];congr 1;exact h1'.symm
      rw[List.getElem_append_left hlt]at this;exact this
     have:=h2' s (by rw[<-e2];exact List.getElem_mem _);rw[<-h s (by simp),h3]at this;cases this
    ·exact heq
    ·have e:(a'++s'::b')[a'.length]'(by simp)=s':=by simp
     have e2:a[a'.length]=s':=by
      have:(a++s::b)[a'.length]'(by simp;omega)=s':=by rw[<-e];congr 1
      rw[List.getElem_append_left hgt]at this;exact this
     have hm:s'∈a:=by rw[<-e2];exact List.getElem_mem _
     have:=h2 s' hm;rw[h s' (by simp[hm]),h3']at this;cases this
   have h5:=List.append_inj h1' hl;obtain⟨rfl,h6⟩:=h5;injection h6 with h6 h7;rw[h4,h4',h6]
  ·have:=h2' s (by simp);rw[<-h s (by simp),h3]at this;cases this
 ·rcases zni g l with⟨a',s',b',h1',h2',h3',h4'⟩|⟨h2',h4'⟩
  ·have:=h2 s' (by rw[h1'];simp);rw[h s' (by rw[h1'];simp),h3']at this;cases this
  ·rw[h4,h4']
def cntS(e:SS->Int)(l:List SS)(k:Int):Nat:=(l.filter fun s=>e s==k).length
attribute [local go_sem] Oper.semAt_some
theorem al5F(W:World)(o0 o1 o2 o3 o4:Obj):Below W.heap.size W (((((W.alloc o0).alloc o1).alloc o2).alloc o3).alloc o4)/\(((((W.alloc o0).alloc o1).alloc o2).alloc o3).alloc o4).heap.size=W.heap.size+5/\(((((W.alloc o0).alloc o1).alloc o2).alloc o3).alloc o4).heap[W.heap.size]?=some o0/\(((((W.alloc o0).alloc o1).alloc o2).alloc o3).alloc o4).heap[W.heap.size+1]?=some o1/\(((((W.alloc o0).alloc o1).alloc o2).alloc o3).alloc o4).heap[W.heap.size+2]?=some o2/\(((((W.alloc o0).alloc o1).alloc o2).alloc o3).alloc o4).heap[W.heap.size+3]?=some o3/\(((((W.alloc o0).alloc o1).alloc o2).alloc o3).alloc o4).heap[W.heap.size+4]?=some o4 :=
 ⟨zkb (zkb (zkb (zkb (zkb zr _) _) _) _) _,by simp,zke (zke (zke (zke (zl8 _ rfl _) _) _) _) _,zke (zke (zke (zl8 _ (by simp) _) _) _) _,zke (zke (zl8 _ (by simp) _) _) _,zke (zl8 _ (by simp) _) _,zl8 _ (by simp) _⟩
structure zry(fid:FuncId)(lb:Array Value)(f:Nat->SS->Bool)(xs:List SS)(B0:Nat)(Inv:Nat->World->Prop):Prop where
 keep:∀n W W',Inv n W->W.heap.size<=W'.heap.size->(∀b,b<B0->W'.heap[b]?=W.heap[b]?)->Inv n W'
 size:∀n W,Inv n W->B0<=W.heap.size
 call:∀n s v W g,Inv n W->B0<=g->g<=W.heap.size->OwnS W g s v->xs[n]?=some s->Calls prog fid (#[v]++lb) W fun e W'=>e=.returned (.bool (f n s))/\Inv (n+1) W'/\Chg (fun b=>b<B0\/g<=b) W W'
theorem zpR{f:Nat->SS->Bool}:∀ {a b:List SS} {n:Nat},(∀i (h:i<a.length),f (n+i) a[i]=false)->firE f n (a++b)=firE f (n+a.length) b
 | [],_,_,_=>rfl
 | x::a,b,n,h=>by
  have h0:f n x=false:=h 0 (by simp);rw[List.cons_append,firE,if_neg (by rw[h0];simp),zpR (a:=a) (n:=n+1) fun i hi=>by have:=h (i+1) (by simpa using hi);simpa[Nat.add_assoc,Nat.add_comm 1 i]using this];congr 1;simp;omega
theorem zqG{f:Nat->SS->Bool}{l:List SS}(h:∀i (h:i<l.length),f i l[i]=false):firE f 0 l=(nilS,l.length,false):=by
 have:=zpR (f:=f) (a:=l) (b:=[]) (n:=0) fun i hi=>by simpa using h i hi
 rw[List.append_nil]at this;rw[this,Nat.zero_add];rfl
theorem zuK{f:Nat->SS->Bool}{l bE:List SS}{s:SS}(hp:(bE++[s]) <+: l)(h:∀i (h:i<bE.length),f i bE[i]=false)(hs:f bE.length s=true):firE f 0 l=(s,bE.length+1,true):=by
 obtain⟨t,rfl⟩:=hp;rw[List.append_assoc,zpR (n:=0) fun i hi=>by simpa using h i hi,Nat.zero_add]
 show firE f bE.length (s::t)=_
 rw[firE,if_pos hs]
theorem SV.nilF(w:World)(S:Nat->Prop):SV w S nilS (.agg #[.slice none 0 0,.slice none 0 0,.slice none 0 0]) :=
 ⟨none,0,none,0,none,0,rfl,fun i hi=>by simp[nilS]at hi,fun i hi=>by simp[nilS]at hi,fun i hi=>by simp[nilS]at hi,by simp[nilS],by simp[nilS],by simp[nilS],by simp[nilS,LI],by intro l hl;simp[nilS]at hl,by simp[nilS,LI],by simp[nilS,LI]⟩
theorem zKj:IsFn prog 93 f93:=⟨func93,by kernel_rfl,by kernel_rfl⟩
theorem zs5:IsFn prog 47 f47:=⟨func47,by kernel_rfl,by kernel_rfl⟩
abbrev stC(w':World)(b:Nat)(A:Option Addr)(l c:Nat)(B:Option Addr)(m d:Nat)(D:Option Addr)(n e:Nat):Prop:=w'.cell? ⟨b,0,none⟩=some (.slice A l c)/\w'.cell? ⟨b,1,none⟩=some (.slice B m d)/\w'.cell? ⟨b,2,none⟩=some (.slice D n e)
def FstP(r:SS×Nat×Bool)(Inv:Nat->World->Prop)(W:World)(e:Ending)(W':World):Prop :=
 ∃v,e=.returned (.tuple #[v,.int .i64 (r.2.1:Int),.bool r.2.2])/\SV W' (fun q=>W.heap.size<=q) r.1 v/\Inv r.2.1 W'/\Chg (fun b=>b<W.heap.size) W W'
def FiI(N:Nat)(w5:World)(f:Nat->SS->Bool)(Inv:Nat->World->Prop)(pre:List SS)(C:Nat->Prop)(W:World):Prop :=
 (∀b,C b↔b<N+6)/\(∀b,N<=b->b<N+5->W.heap[b]?=w5.heap[b]?)/\W.heap[N+5]?=some (.cells #[.int .i64 (pre.length:Int)] 3 (0,0))/\Inv pre.length W/\(∀i (h:i<pre.length),f i pre[i]=false)/\N+6<=W.heap.size
def FiX(N:Nat)(w5:World)(f:Nat->SS->Bool)(Inv:Nat->World->Prop)(xs pre:List SS)(C:Nat->Prop)(W:World):Prop:=∃bE s g X A l c B1 m d D k e,pre=bE++[s]/\pre <+: xs/\(∀i (h:i<bE.length),f i bE[i]=false)/\f bE.length s=true/\(∀b,C b↔b<N+6\/(g<=b/\b<X))/\w5.heap.size<g/\X<=W.heap.size/\N+6<=W.heap.size /\
 Inv pre.length W/\W.heap[N+2]?=some (.cells #[.slice A l c,.slice B1 m d,.slice D k e] 32 (0,0))/\W.heap[N+3]?=some (.cells #[.int .i64 (pre.length:Int)] 3 (0,0))/\W.heap[N+4]?=some (.cells #[.bool true] 4 (0,0)) /\
 SV W (fun q=>g<=q/\q<X) s (.agg #[.slice A l c,.slice B1 m d,.slice D k e])
theorem FiI.chg{N:Nat}{w5 W W':World}{fid:FuncId}{lb:Array Value}{xs:List SS}{f:Nat->SS->Bool}{Inv:Nat->World->Prop}{pre:List SS}{C D:Nat->Prop}(h:FiI N w5 f Inv pre C W)(hT:zry fid lb f xs N Inv)(hc:Chg D W W')(hD:∀b,C b->¬ D b):FiI N w5 f Inv pre C W':=by
 obtain⟨h1,h2,h3,h4,h5,h6⟩:=h;have hk:∀b,b<N+6->W'.heap[b]?=W.heap[b]?:=fun b hb=>hc.block b (Nat.lt_of_lt_of_le hb h6) (hD b ((h1 b).2 hb));exact⟨h1,fun b hb hb5=>(hk b (by omega)).trans (h2 b hb hb5),(hk _ (by omega)).trans h3,hT.keep _ _ _ h4 hc.size fun b hb=>hk b (by omega),h5,Nat.le_trans h6 hc.size⟩
theorem FiX.chg{N:Nat}{w5 W W':World}{fid:FuncId}{lb:Array Value}{xs:List SS}{f:Nat->SS->Bool}{Inv:Nat->World->Prop}{pre:List SS}{C D:Nat->Prop}(h:FiX N w5 f Inv xs pre C W)(hT:zry fid lb f xs N Inv)(hc:Chg D W W')(hD:∀b,C b->¬ D b):FiX N w5 f Inv xs pre C W':=by
 obtain⟨bE,s,g,X,A,l,c,B1,m,d,E,k,e,h1,h2,h3,h4,h5,h6,h7,h8,h9,h10,h11,h12,lL⟩:=h;have hk:∀b,b<N+6->W'.heap[b]?=W.heap[b]?:=fun b hb=>hc.block b (Nat.lt_of_lt_of_le hb h8) (hD b ((h5 b).2 (.inl hb)));exact⟨bE,s,g,X,A,l,c,B1,m,d,E,k,e,h1,h2,h3,h4,h5,h6,Nat.le_trans h7 hc.size,Nat.le_trans h8 hc.size,hT.keep _ _ _ h9 hc.size fun b hb=>hk b (by omega),(hk _ (by omega)).trans h10,(hk _ (by omega)).trans h11,(hk _ (by omega)).trans h12,lL.keep (fun _ h _=>h) fun b hb _=>hc.block b (by omega) (hD b ((h5 b).2 (.inr hb)))⟩
theorem znw{W:World}{vs:List VD}{b:BX}{A1:Option Addr}{c1:Nat}{fid:FuncId}{lb:Array Value}{f:Nat->SS->Bool}{Inv:Nat->World->Prop}(hr:RowV W Any A1 vs)(hl:vs.length<=LV)(hok:(b.ok&&svB vs)=true)
  (hm:(allS b (lenE vs b)).length<=1000000){ftn:Func}(hfn:IsFn prog fid ftn)(hT:zry fid lb f (allS b (lenE vs b)) W.heap.size Inv)(h0:Inv 0 W) :
  Calls prog 12 #[.slice A1 vs.length c1,.agg #[.int .i64 b.v,.int .i64 b.l,.int .i64 b.i],.func (.func fid) #[] lb] W (FstP (firE f 0 (allS b (lenE vs b))) Inv W):=by
 have kZ:=zh (fun w' (hb:Below W.heap.size W w')=>zzK vs b A1 c1 w' (hr.later hb) hl hok);have fG:=zh hok;have HT:=zh hT;have H0:=zh h0;have HMX:=zh hm;have eH:=zh hfn;obtain⟨bv,bl,bi⟩:=b;obtain⟨N,hN⟩:=zX (W.heap.size);have HN:=zh hN;obtain⟨hb1,hz1,k0,k1,k2,k3,k4⟩:=al5F W (.cells #[.int .i64 bv,.int .i64 bl,.int .i64 bi] 24) (.cells #[.func (.func fid) #[] lb] 35) (.cells #[.slice none 0 0,.slice none 0 0,.slice none 0 0] 32) (.cells #[.int .i64 0] 3) (.cells #[.bool false] 4);obtain⟨w1,hw1⟩:=zX (((((W.alloc (.cells #[.int .i64 bv,.int .i64 bl,.int .i64 bi] 24)).alloc (.cells #[.func (.func fid) #[] lb] 35)).alloc (.cells #[.slice none 0 0,.slice none 0 0,.slice none 0 0] 32)).alloc (.cells #[.int .i64 0] 3)).alloc (.cells #[.bool false] 4));rw[hw1]at hb1 hz1 k0 k1 k2 k3 k4;rw[hN]at hz1 k0 k1 k2 k3 k4;have HB1:=zh hb1;have HZ1:=zh hz1;have aD:=zh k0;have aA:=zh k1
 have aR:=zh k2;have gT:=zh k3;have dM:=zh k4;obtain⟨y0,y1,y2⟩:=zky k0;have t0:w1.cell? ⟨N+1,0,none⟩=some (.func (.func fid) #[] lb):=zc k1 rfl;clear hr hl hok hT h0 hm hfn hb1 hz1 k0 k1 k2 k3 k4
 show Calls prog 12 #[.slice A1 vs.length c1,.agg #[.int .i64 bv,.int .i64 bl,.int .i64 bi],.func (.func fid) #[] lb] W _
 refine(callsIn_wide (n:=3)).1 (callsIn_of_wp_marks func12 rfl trivial ((wpIn_wide (n:=3)).2 ?_));simp only[ntmps12,List.size_toArray,List.length_cons,List.length_nil,Nat.reduceAdd,Nat.reduceSub,Array.replicate_succ,Array.replicate_zero,List.push_toArray,List.append_toArray,List.nil_append,List.cons_append];have hbf:∀w,(binOp BinOp.eql 35 (.func (.func fid) #[] lb) .nilFunc).run prog w=.ok (.bool false) w:=fun w=>by first|rfl|simp[go_sem]
 clear y0 y1 y2;go_upto_region 4 with fail;simp only[Nat.add_assoc,Nat.reduceAdd];have hk5:=heap_alloc_new w1 (.cells #[.int .i64 0] 3);have hb2:=zkb (zs w1) (.cells #[.int .i64 0] 3);obtain⟨w2,hw2⟩:=zX (w1.alloc (.cells #[.int .i64 0] 3));have hz2:w2.heap.size=N+6:=by rw[<-hw2];simp[HZ1.out]
 rw[hw2]at hk5 hb2 ⊢;rw[HZ1.out]at hk5 ⊢;have qB:=zh (zkc aD.out hb2);have jI:=zh (zkc aA.out hb2);have qA:=zh (zkc aR.out hb2);have qz:=zh (zkc gT.out hb2);have jH:=zh (zkc dM.out hb2);have HK52:=zh hk5;have HB2:=zh (zka HB1.out hb2);have HZ2:=zh hz2;clear hk5 hb2 hz2 hw2 t0;obtain⟨y0,y1,y2⟩:=zky qB.out;have jP:=zh (kZ.out _ HB2.out);go_wp2_with fail;refine jP.out.mono ?_;rintro e5 w5 ⟨kg,xb,lb',A9,c9,rfl,hb5,g1,g2,g3,hM5⟩;have aO:=zh hb5;have HG5:=zh (And.intro g1 (And.intro g2 g3));have uF:=zh hM5;clear hb5 g1 g2 g3 hM5 y0 y1 y2 jP;go_wp2_with fail;have hlb:=zmk fG.out
 have uU:=zh (zvR (nf:=3-1) (S:=fun q=>w2.heap.size<=q/\q<w5.heap.size) ⟨uF.out.ok,uF.out.bx,uF.out.ls,uF.out.row.keep (fun b h hlt=>⟨h,hlt⟩) fun _ _ _=>rfl⟩ ⟨hlb.2.2.2.1,hlb.2.2.2.2⟩ ⟨by rw[hlb.1];omega,by rw[hlb.1];have:=hlb.2.1;omega⟩ fun q hq=>(hlb.2.2.1 q hq).2);clear hlb;have pW:=zh (show N+6<=w5.heap.size by have:=aO.out.size;have:=HZ2.out;omega);have HI0:=zh (HT.out.keep _ _ _ H0.out (zka HB2.out aO.out).size fun b hb=>(zka HB2.out aO.out).block b hb);rw[HN.out]at HT;refine(wpIn_wide (n:=3)).1 ?_;refine zsU (n:=3) (gf:=93) (lb := #[ptr0 kg,ptr0 xb,ptr0 lb']) rfl (zkQ zKj) uU.out (fun l x vs' g W' h=>by obtain⟨v9,rfl,-,h2,-⟩:=h;exact⟨rfl,h2⟩)
  (FiI N w5 f Inv) (FiX N w5 f Inv (allS ⟨bv,bl,bi⟩ (lenE vs ⟨bv,bl,bi⟩))) (fun b=>b<N+6)
  (fun pre C W' W'' h hc=>h.chg HT.out hc fun b hb h=>h hb) (fun pre C W' W'' h hc=>h.chg HT.out hc fun b hb h=>h hb) (fun pre C W' h b hb=>Nat.lt_of_lt_of_le ((h.1 b).1 hb) h.2.2.2.2.2) (fun pre C W' h b hb=>by obtain⟨_,_,g,X,_,_,_,_,_,_,_,_,_,_,_,_,_,h5,h6,h7,h8,_⟩:=h;rcases(h5 b).1 hb with h|h<;>omega)
  (fun b h1 h2=>by
   have:=HG5.out;have:=HZ2.out;rcases h2 with h|h|h|h<;>omega) (fun b h=>by
   rcases h with rfl|rfl|rfl|h
   ·exact zko uF.out.ok
   ·exact zko uF.out.bx
   ·exact zko uF.out.ls
   ·exact h.2) ⟨fun _=>Iff.rfl,fun _ _ _=>rfl,zkc HK52.out aO.out,HI0.out,fun i h=>by simp at h,pW.out⟩ ?_ ?_ ?_
 ·rintro l pre x C W3 vs' g hI vL Bj hl hlW hpre ⟨sv,rfl,hsv,AQ⟩;clear vL;have hxm:x∈allS ⟨bv,bl,bi⟩ (lenE vs ⟨bv,bl,bi⟩):=hpre.subset (by simp);have hpl:pre.length<1000000:=by have h1:=hpre.length_le;have h2:=HMX.out;simp only[List.length_append,List.length_cons,List.length_nil]at h1;omega
  have hxc:x.cells.length<=100:=by
   obtain⟨y,hy,rfl⟩:=List.mem_map.1 hxm;have h1:=(zpZ rfl y hy).len;have h2:=zmk fG.out;simp only[stOf,List.length_dropLast];omega
  obtain⟨As,cs,Bs,ds,Ds,es,rfl⟩:∃A c B d D e,sv=.agg #[.slice A x.cells.length c,.slice B x.tin.length d,.slice D x.tout.length e]:=by
   obtain⟨A,c,B,d,D,e,rfl,-⟩:=hsv;exact⟨_,_,_,_,_,_,rfl⟩
  change Code.wpIn (Fence.wide.inRound l) (3-1-1) prog _ _ _ _
  gi_wp2
  refine⟨(Chg.refl _ _).alloc _,fun W4 tN=>?_⟩;have hbx:=tN.keep (heap_alloc_new W3 (.cells #[.slice As x.cells.length cs,.slice Bs x.tin.length ds,.slice Ds x.tout.length es] 32)) (show ¬ W3.heap.size=l by omega);have tJ:=zkb (zs W3) (.cells #[.slice As x.cells.length cs,.slice Bs x.tin.length ds,.slice Ds x.tout.length es] 32);have vJ:=(hI.chg HT.out (Chg.of_below tJ) (fun b hb h=>h)).chg HT.out tN (fun b hb h=>Bj (by have h:b=l:=h;rwa[h]at hb));have hsv4:SV W4 (fun q=>g<=q) x (.agg #[.slice As x.cells.length cs,.slice Bs x.tin.length ds,.slice Ds x.tout.length es]):=(hsv.later tJ).keep (fun _ h _=>h) fun q h hlt=>tN.block q hlt (fun e:q=l=>by have h:g<=q:=h;omega);obtain⟨xp,hxp⟩:=zX (W3.heap.size);rw[hxp]at hbx ⊢;have hg6:N+6<=g:=by have:=pW.out;omega
  have hxp6:g<=xp:=by omega
  have z5:W4.cell? ⟨N+5,0,none⟩=some (.int .i64 (pre.length:Int)):=zc vJ.2.2.1 rfl;have cf5:∀o,W4.frozen? ⟨N+5,o,none⟩=false:=fun o=>zf vJ.2.2.1;obtain⟨W5,iA,bQ,jr⟩:=setU (o:=0) (.int .i64 ((pre.length:Int)+1)) vJ.2.2.1;have HI4:=zh vJ;have HSV4:=zh hsv4;have aX:=zh hbx;have HXC:=zh hxc;have HCLL:=zh Bj;have HXM:=zh (show(allS ⟨bv,bl,bi⟩ (lenE vs ⟨bv,bl,bi⟩))[pre.length]?=some x by obtain⟨t,ht⟩:=hpre;rw[<-ht];simp);have oG:=zh (And.intro hl (And.intro hlW (And.intro AQ (And.intro hg6 hxp6))));have gP:=zh hpre;have dB:=zh bQ;have zg:=zh jr;clear hI hpre hbx vJ hsv4 tN hsv hxc Bj hl hlW AQ tJ hxm bQ jr hg6 hxp6;change Code.wpIn (Fence.wide.inRound l) (3-1-1) prog _ _ _ _
  gi_upto_region 7 with fail
  have hk15:=dB.out.keep ((HI4.out.2.1 (N+1) (by omega) (by omega)).trans (zkc jI.out aO.out)) (fun e:N+1=N+5=>by omega);have hx5:=dB.out.keep aX.out (fun e:xp=N+5=>by have:=oG.out;omega);have HSV5:=zh (HSV4.out.keep (S':=Any) (fun _ _ _=>trivial) fun q h hlt=>dB.out.block q hlt (fun e:q=N+5=>by have h:g<=q:=h;have:=oG.out;omega));have ow:=zh hx5;have hSS:(fun w':World=>zv w' (N+1) 0 (.func (.func fid) #[] lb)/\stC w' xp As x.cells.length cs Bs x.tin.length ds Ds x.tout.length es) W5.drew:=⟨zc hk15 rfl,zky hx5⟩
  refine zme (ro:=some l) (fun w':World=>zv w' (N+1) 0 (.func (.func fid) #[] lb)/\stC w' xp As x.cells.length cs Bs x.tin.length ds Ds x.tout.length es) (by kernel_rfl) ?_;clear hk15 hx5 z5 cf5 iA;refine zI 0 hSS ?_;refine zI 1 hSS ?_;have hcl:=zp6 x _ W5.drew (HSV5.out.later zr.drew) (by have:=HXC.out;omega);have had:Calls prog 47 [.agg #[.slice As x.cells.length cs,.slice Bs x.tin.length ds,.slice Ds x.tout.length es]].toArray W5.drew fun e w'=>∃u,e=.returned u/\(OwnS w' W5.heap.size x u/\Below W5.heap.size W5 w') :=
   hcl.mono fun e w' ⟨v,h1,h2,h3⟩=>⟨v,h1,h2,zka (zs W5).drew h3⟩
  refine znx (i:=2) (by kernel_rfl) rfl (by kernel_rfl) (by rfl) (fun K hK=>?_);refine zkf (by rfl) (.func 47) [.tmp 21] _ (by rfl) 47 _ zs5 (by rfl) _ (by rfl) _ had ?_;rintro u w6 ⟨kC,hb6⟩;have xg:(fun w':World=>zv w' (N+1) 0 (.func (.func fid) #[] lb)/\stC w' xp As x.cells.length cs Bs x.tin.length ds Ds x.tout.length es) w6:=⟨zb hb6 hSS.1,zb hb6 hSS.2.1,zb hb6 hSS.2.2.1,zb hb6 hSS.2.2.2⟩
  refine hK.out _ _ xg ?_;clear hK K had hcl hSS;(try simp only[zQ]);have oO:W4.heap.size<=W5.heap.size:=dB.out.size;have hN4:N+6<=W4.heap.size:=HI4.out.2.2.2.2.2;have iF:Chg (fun q=>q=N+5) W4 w6:=dB.out.trans2 (Chg.of_below (C:=fun _=>False) hb6) fun b _ h=>h.elim;have bK:Inv pre.length w6:=HT.out.keep _ _ _ HI4.out.2.2.2.1 iF.size fun b hb=>iF.block b (by omega) (fun e=>by have e:b=N+5:=e;omega);have had2:Calls prog fid ([u].toArray++lb) w6 fun e w'=>∃z,e=.returned z/\(z=.bool (f pre.length x)/\Inv (pre.length+1) w'/\Chg (fun b=>b<N\/W5.heap.size<=b) w6 w') :=
   (HT.out.call pre.length x u w6 W5.heap.size bK (by omega) hb6.size kC HXM.out).mono fun e w' ⟨h1,h2,h3⟩=>⟨_,h1,rfl,h2,h3⟩
  refine znx (i:=3) (by kernel_rfl) rfl (by kernel_rfl) (by rfl) (fun K hK=>?_);refine zld (by rfl) (.tmp 20) [.tmp 22] _ (by rfl) fid _ eH.out lb (by rfl) _ (by rfl) _ had2 ?_;rintro z w7 ⟨rfl,bI,og⟩;have tC:=og.keep (zkc ow.out hb6) (fun e=>by have:=oG.out;have:=zko ow.out;rcases e with e|e<;>omega);have hk17:=og.keep (zkc (dB.out.keep ((HI4.out.2.1 (N+1) (by omega) (by omega)).trans (zkc jI.out aO.out)) (fun e:N+1=N+5=>by omega)) hb6) (fun e=>by rcases e with e|e<;>omega);refine hK.out _ _ ⟨zc hk17 rfl,zky tC⟩ ?_;clear hK K had2 xg bK;(try simp only[zQ]);refine zpv (by kernel_rfl) ?_;have hch:Chg C W4 w7:=(iF.mono fun q _ (e:q=N+5)=>(HI4.out.1 q).2 (by omega)).trans2 og fun q hlt e=>(HI4.out.1 q).2 (by rcases e with e|e<;>omega)
  have hlow:∀b,N<=b->b<N+5->w7.heap[b]?=w5.heap[b]?:=fun b h1 h2=>((og.block b (by have:=iF.size;omega) (fun e=>by rcases e with e|e<;>omega)).trans (iF.block b (by omega) (fun e=>by have e:b=N+5:=e;omega))).trans (HI4.out.2.1 b h1 h2);have nY:w7.heap[N+5]?=some (.cells #[.int .i64 ((pre.length:Int)+1)] 3 (0,0)):=by
   refine og.keep (zkc ?_ hb6) (fun e=>by rcases e with e|e<;>omega);have:=zg.out;simpa using this
  have hsv7:SV w7 (fun q=>g<=q/\q<w7.heap.size) x (.agg #[.slice As x.cells.length cs,.slice Bs x.tin.length ds,.slice Ds x.tout.length es]) :=
   HSV4.out.keep (fun q h hlt=>⟨h,Nat.lt_of_lt_of_le hlt hch.size⟩) fun q h hlt=>(og.block q (by have:=iF.size;omega) (fun e=>by have h:g<=q:=h;have:=oG.out;rcases e with e|e<;>omega)).trans (iF.block q hlt (fun e=>by have h:g<=q:=h;have e:q=N+5:=e;have:=oG.out;omega))
  have dG:=zh hch;have qy:=zh hlow;have nA:=zh nY;have HSV7:=zh hsv7;have jf:=zh bI;have xz:=zh tC;have gX:N+6<=w7.heap.size:=by have:=hch.size;omega
  have vM:=zh gX;clear hch hlow nY hsv7 bI tC hk17 og hb6 kC iF oO hN4 gX;obtain⟨ft,hft⟩:=zX (f pre.length x);rw[hft];have lS:=zh hft;clear hft
  cases ft
  ·gi_wp2
   refine⟨C,⟨HI4.out.1,qy.out,by rw[nA.out];simp,by simpa using jf.out,fun i hi=>?_,vM.out⟩,fun b hb=>.inl hb,dG.out⟩;by_cases h9:i<pre.length
   ·rw[List.getElem_append_left h9];exact HI4.out.2.2.2.2.1 i h9
   ·obtain rfl:i=pre.length:=by simp at hi;omega
    rw[List.getElem_append_right zl];simp only[Nat.sub_self,List.getElem_cons_zero];exact lS.out
  ·gi_upto_region 8 with fail
   have hk2:=(qy.out (N+2) (by omega) (by omega)).trans (zkc qA.out aO.out);have hk3:=(qy.out (N+3) (by omega) (by omega)).trans (zkc qz.out aO.out);have hk4:=(qy.out (N+4) (by omega) (by omega)).trans (zkc jH.out aO.out);have oo:(fun w':World=>zv w' (N+5) 0 (.int .i64 ((pre.length:Int)+1))/\stC w' xp As x.cells.length cs Bs x.tin.length ds Ds x.tout.length es) w7.drew:=⟨zc nA.out rfl,zky xz.out⟩
   refine zme (ro:=some l) (fun w':World=>zv w' (N+5) 0 (.int .i64 ((pre.length:Int)+1))/\stC w' xp As x.cells.length cs Bs x.tin.length ds Ds x.tout.length es) (by kernel_rfl) ?_;refine zI 0 oo ?_;refine zI 1 oo ?_;have hdw:Below w7.heap.size w7 w7.drew:=zr.drew;obtain⟨w8,hw8⟩:=zX (w7.drew);rw[hw8]at hdw oo ⊢;have hxb:=zkc xz.out hdw;have hnb:=zkc nA.out hdw
   replace hk2:=zkc hk2 hdw
   replace hk3:=zkc hk3 hdw
   replace hk4:=zkc hk4 hdw
   obtain⟨q0,q1,q2⟩:=zky hk2;have cf:∀o,w8.frozen? ⟨N+2,o,none⟩=false:=fun o=>zf hk2;obtain⟨w9,bX,bF,fI⟩:=st3 (.slice As x.cells.length cs) (.slice Bs x.tin.length ds) (.slice Ds x.tout.length es) hk2;refine znx (i:=2) (by kernel_rfl) rfl (by kernel_rfl) (by rfl) (fun K hK=>?_);(try simp only[zA,zB,zC]);go_simp;refine hK.out _ _ ⟨zc (bF.keep hnb (fun(e:N+5=N+2)=>by omega)) rfl,zky (bF.keep hxb (fun e:xp=N+2=>by have:=oG.out;omega))⟩ ?_;clear hK K q0 q1 q2 cf;(try simp only[zQ]);have gH:=bF.keep hk3 (fun e:N+3=N+2=>by omega);have q0:w9.cell? ⟨N+3,0,none⟩=some (.int .i64 0):=zc gH rfl;have cf:∀o,w9.frozen? ⟨N+3,o,none⟩=false:=fun o=>zf gH;obtain⟨aT,bY,jw,mo⟩:=setU (o:=0) (.int .i64 ((pre.length:Int)+1)) gH;refine znx (i:=3) (by kernel_rfl) rfl (by kernel_rfl) (by rfl) (fun K hK=>?_);(try simp only[zA,zB,zC]);go_simp
   have hc:Chg (fun q=>q=N+2\/q=N+3) w8 aT:=(bF.mono fun q _ e=>.inl e).trans2 jw fun q _ e=>.inr e;refine hK.out _ _ ⟨zc (hc.keep hnb (fun e=>by rcases e with e|e<;>omega)) rfl,zky (hc.keep hxb (fun e=>by have:=oG.out;rcases e with e|e<;>omega))⟩ ?_;clear hK K q0 cf;(try simp only[zQ]);have df:=hc.keep hk4 (fun e=>by rcases e with e|e<;>omega);have q0:aT.cell? ⟨N+4,0,none⟩=some (.bool false):=zc df rfl;have cf:∀o,aT.frozen? ⟨N+4,o,none⟩=false:=fun o=>zf df;obtain⟨aQ,gp,dQ,mi⟩:=setU (o:=0) (.bool true) df;refine znx (i:=4) (by kernel_rfl) rfl (by kernel_rfl) (by rfl) (fun K hK=>?_);(try simp only[zA,zB,zC]);go_simp;have hcx:Chg (fun q=>q=N+2\/q=N+3\/q=N+4) w7 aQ:=(Chg.of_below hdw).trans2 ((hc.mono fun q _ e=>e.elim .inl fun e=>.inr (.inl e)).trans2 dQ fun q _ e=>.inr (.inr e)) fun q _ e=>e
   have hx11:=hcx.keep xz.out (fun e=>by have:=oG.out;rcases e with e|e|e<;>omega);have ma:=hcx.keep nA.out (fun e=>by rcases e with e|e|e<;>omega);have hk2':=dQ.keep (jw.keep fI (fun e:N+2=N+3=>by omega)) (fun e:N+2=N+4=>by omega);have hk3':=dQ.keep mo (fun e:N+3=N+4=>by omega);have jK:=zh (show FiX N w5 f Inv (allS ⟨bv,bl,bi⟩ (lenE vs ⟨bv,bl,bi⟩)) (pre++[x]) (fun b=>b<N+6\/(g<=b/\b<aQ.heap.size)) aQ from
    ⟨pre,x,g,aQ.heap.size,As,_,cs,Bs,_,ds,Ds,_,es,rfl,gP.out,HI4.out.2.2.2.2.1,lS.out,fun b=>Iff.rfl,(by have:=oG.out;omega),zl,Nat.le_trans vM.out hcx.size,
     by simpa using HT.out.keep _ _ _ jf.out hcx.size fun b hb=>hcx.block b (by have:=vM.out;omega) (fun e=>by rcases e with e|e|e<;>omega),hk2',by rw[hk3'];simp,mi,
     HSV7.out.keep (fun q h hlt=>⟨h.1,Nat.lt_of_lt_of_le hlt hcx.size⟩) fun q h hlt=>hcx.block q hlt fun e=>by have h:g<=q:=h.1;have:=oG.out;rcases e with e|e|e<;>omega⟩)
   have qE:=zh (dG.out.trans2 hcx fun q _ e=>(HI4.out.1 q).2 (by rcases e with e|e|e<;>omega));refine hK.out _ _ ⟨zc ma rfl,zky hx11⟩ ?_;clear hK K q0 cf hcx hx11 ma hk2' hk3' dQ mi jw mo bF fI hc df gH hk2 hk3 hk4 hxb hnb hdw oo;(try simp only[zQ]);refine zpv (by kernel_rfl) ?_
   gi_wp2
   exact⟨_,jK.out,(fun b hb=>by rcases hb with h|h;exact .inl ((HI4.out.1 b).2 h);exact .inr h.1),qE.out⟩
 ·intro D C W' hD hI hch hK;have mq:Chg (fun b=>b<N+6) w5 W':=hch;have hk2:=(hI.2.1 (N+2) (by omega) (by omega)).trans (zkc qA.out aO.out);have hk3:=(hI.2.1 (N+3) (by omega) (by omega)).trans (zkc qz.out aO.out);have hk4:=(hI.2.1 (N+4) (by omega) (by omega)).trans (zkc jH.out aO.out);have AP:=hI.2.2.1;have Cn:=zh hI;have dG:=zh mq;have HK:=zh hK;have HD:=zh (show w5.heap.size=D from hD.symm);have aR:=zh hk2;have gT:=zh hk3;have dM:=zh hk4;have xN:=zh AP;clear hI hch mq hK hD hk2 hk3 hk4 AP;go_upto_region 9 with fail;have oo:zW (fun w':World=>zv w' (N+5) 0 (.int .i64 ((allS ⟨bv,bl,bi⟩ (lenE vs ⟨bv,bl,bi⟩)).length:Int))) zU W'.drew:=⟨zc xN.out rfl,trivial⟩
  refine wp_region_noPanic ?_;refine zG oo 4 ?_;refine zT 0 oo ?_;refine zT 1 oo ?_;have hdw:Below W'.heap.size W' W'.drew:=zr.drew;obtain⟨w8,hw8⟩:=zX (W'.drew);rw[hw8]at hdw oo ⊢;have hnb:=zkc xN.out hdw;have hk2:=zkc aR.out hdw;have hk3:=zkc gT.out hdw;have hk4:=zkc dM.out hdw;obtain⟨q0,q1,q2⟩:=zky hk2;have cf:∀o,w8.frozen? ⟨N+2,o,none⟩=false:=fun o=>zf hk2;obtain⟨w9,bX,bF,fI⟩:=st3 (.slice none 0 0) (.slice none 0 0) (.slice none 0 0) hk2;refine zo 2 fun K hK=>?_;(try simp only[zA,zB,zC]);go_simp;refine hK.out _ _ ⟨zc (bF.keep hnb (fun(e:N+5=N+2)=>by omega)) rfl,trivial⟩ ?_;clear hK K q0 q1 q2 cf;(try simp only[zQ]);have gH:=bF.keep hk3 (fun e:N+3=N+2=>by omega);have q0:w9.cell? ⟨N+3,0,none⟩=some (.int .i64 0):=zc gH rfl;have cf:∀o,w9.frozen? ⟨N+3,o,none⟩=false:=fun o=>zf gH
  obtain⟨aT,bY,jw,mo⟩:=setU (o:=0) (.int .i64 ((allS ⟨bv,bl,bi⟩ (lenE vs ⟨bv,bl,bi⟩)).length:Int)) gH;refine zo 3 fun K hK=>?_;(try simp only[zA,zB,zC]);go_simp;have hc:Chg (fun q=>q=N+2\/q=N+3) w8 aT:=(bF.mono fun q _ e=>.inl e).trans2 jw fun q _ e=>.inr e;refine hK.out _ _ ⟨zc (hc.keep hnb (fun e=>by rcases e with e|e<;>omega)) rfl,trivial⟩ ?_;clear hK K q0 cf;(try simp only[zQ]);have df:=hc.keep hk4 (fun e=>by rcases e with e|e<;>omega);have q0:aT.cell? ⟨N+4,0,none⟩=some (.bool false):=zc df rfl;have cf:∀o,aT.frozen? ⟨N+4,o,none⟩=false:=fun o=>zf df;obtain⟨aQ,gp,dQ,mi⟩:=setU (o:=0) (.bool false) df;refine zp 4 fun K hK=>?_;(try simp only[zA,zB,zC]);go_simp;have hcx:Chg (fun q=>q=N+2\/q=N+3\/q=N+4) W' aQ:=(Chg.of_below hdw).trans2 ((hc.mono fun q _ e=>e.elim .inl fun e=>.inr (.inl e)).trans2 dQ fun q _ e=>.inr (.inr e)) fun q _ e=>e
  have aK:=zh (dQ.keep (jw.keep fI (fun e:N+2=N+3=>by omega)) (fun e:N+2=N+4=>by omega));have bR:=zh (dQ.keep mo (fun e:N+3=N+4=>by omega));have BZ:=zh mi;have oJ:=zh (hcx.keep HK.out (fun e=>by have:=pW.out;have:=HD.out;rcases e with e|e|e<;>omega));have qE:=zh hcx;have ma:=hcx.keep xN.out (fun e=>by rcases e with e|e|e<;>omega);refine hK.out _ _ (zc ma rfl) ?_;clear hK K q0 cf hcx ma dQ mi jw mo bF fI hc df gH hk2 hk3 hk4 hnb hdw oo;(try simp only[zQ]);refine zd ?_;refine NoPanic.normal ?_;go_wp2_with fail;refine⟨by simp,.inl ⟨_,_,rfl,run_takeDeferred oJ.out,?_⟩⟩;have hcd:=Chg.putObj aQ D (.deferred none);have yL:N+5<D:=by have:=pW.out;have:=HD.out;omega
  have hn2:=hcd.keep aK.out (fun(e:N+2=D)=>by omega);have bV:=hcd.keep bR.out (fun(e:N+3=D)=>by omega);have qM:=hcd.keep BZ.out (fun(e:N+4=D)=>by omega);obtain⟨t0,t1,t2⟩:=zky hn2;have t3:(aQ.putObj D (.deferred none)).cell? ⟨N+3,0,none⟩=some (.int .i64 ((allS ⟨bv,bl,bi⟩ (lenE vs ⟨bv,bl,bi⟩)).length:Int)):=zc bV rfl;have t4:(aQ.putObj D (.deferred none)).cell? ⟨N+4,0,none⟩=some (.bool false):=zc qM rfl;have hbb:=zka HB2.out aO.out;have tq:Chg (fun q=>q=N+2\/q=N+3\/q=N+4\/q=D) W' (aQ.putObj D (.deferred none)):=(qE.out.mono fun q _ e=>by rcases e with e|e|e;exact .inl e;exact .inr (.inl e);exact .inr (.inr (.inl e))).trans2 hcd fun q _ e=>.inr (.inr (.inr e))
  have hcw:Chg (fun b=>b<N+6\/b=D) w5 (aQ.putObj D (.deferred none)):=(dG.out.mono fun b _ h=>.inl h).trans2 tq fun q _ e=>by rcases e with e|e|e|e;exact .inl (by omega);exact .inl (by omega);exact .inl (by omega);exact .inr e
  rw[zqG Cn.out.2.2.2.2.1];refine⟨.tuple #[.agg #[.slice none 0 0,.slice none 0 0,.slice none 0 0],.int .i64 ((allS ⟨bv,bl,bi⟩ (lenE vs ⟨bv,bl,bi⟩)).length:Int),.bool false],by simp[results,results12,go_sem,t0,t1,t2,t3,t4],_,rfl,SV.nilF _ _,HT.out.keep _ _ _ Cn.out.2.2.2.1 tq.size fun b hb=>tq.block b (by have:=Cn.out.2.2.2.2.2;omega) (fun e=>by rcases e with e|e|e|e<;>omega),?_⟩;exact(Chg.of_below hbb).trans2 hcw fun b hlt e=>hlt
 ·intro D pre C W' hD hX hch hK;obtain⟨bE,s,g,X,As,ls,cs,Bs,ms,ds,Ds,ks',es,rfl,h2,h3,h4,h5,h6,h7,h8,h9,h10,h11,h12,lL⟩:=hX;have mq:Chg (fun b=>b<N+6) w5 W':=hch;have HF:=zh (zuK h2 h3 h4);have dG:=zh mq;have HK:=zh hK;have HD:=zh (show w5.heap.size=D from hD.symm);have HS:=zh lL;have aK:=zh h10;have bR:=zh h11;have BZ:=zh h12;have HG:=zh (And.intro h6 (And.intro h7 h8));have xV:=zh h9;clear h2 h3 h4 h5 h6 h7 h8 h9 h10 h11 h12 lL hch mq hK hD;refine wpIn_ret ?_;simp only[Exit.inBlock,Exit.then];refine⟨by simp,.inl ⟨_,_,rfl,run_takeDeferred HK.out,?_⟩⟩;have hcd:=Chg.putObj W' D (.deferred none);have yL:N+5<D:=by have:=pW.out;have:=HD.out;omega
  have hn2:=hcd.keep aK.out (fun(e:N+2=D)=>by omega);have bV:=hcd.keep bR.out (fun(e:N+3=D)=>by omega);have qM:=hcd.keep BZ.out (fun(e:N+4=D)=>by omega);obtain⟨t0,t1,t2⟩:=zky hn2;have t3:(W'.putObj D (.deferred none)).cell? ⟨N+3,0,none⟩=some (.int .i64 ((bE++[s]).length:Int)):=zc bV rfl;have t4:(W'.putObj D (.deferred none)).cell? ⟨N+4,0,none⟩=some (.bool true):=zc qM rfl;have hbb:=zka HB2.out aO.out;have hcw:Chg (fun b=>b<N+6\/b=D) w5 (W'.putObj D (.deferred none)):=(dG.out.mono fun b _ h=>.inl h).trans2 hcd fun q _ e=>.inr e;rw[HF.out];have hpl:(((bE++[s]).length:Nat):Int)=((bE.length+1:Nat):Int):=by simp
  refine⟨.tuple #[.agg #[.slice As ls cs,.slice Bs ms ds,.slice Ds ks' es],.int .i64 ((bE.length+1:Nat):Int),.bool true],by simp[results,results12,go_sem,t0,t1,t2,t3,t4],_,rfl,HS.out.keep (fun q h _=>by have:=HG.out;have:=hbb.size;show W.heap.size<=q;omega) fun q h hlt=>hcd.block q hlt fun e=>by have h:g<=q:=h.1;have e:q=D:=e;have:=HG.out;have:=HD.out;omega,by simpa using HT.out.keep _ _ _ xV.out hcd.size fun b hb=>hcd.block b (by have:=HG.out;omega) (fun(e:b=D)=>by omega),?_⟩;exact(Chg.of_below hbb).trans2 hcw fun b hlt e=>hlt
end
section
open Go Go.RowKit
section
variable {P:Program} {ops:Array Oper} {Q:Exit->Act->World->Prop} {md:Region.Mode} {S1 S2:World->Prop} {k:Nat}
theorem zvV{i j:Nat}{o o':Oper}{fuel:Nat}{listed:Array Bool}{a:Act}{w:World}(hr:Region.ready md ops listed=[i,j])(ho:ops[i]?=some o)(ho':ops[j]?=some o')
  (h:∀K':Act->World->Prop,Shut (∀a w,S1 w/\S2 w->wpG P md ops Q S1 S2 k fuel (listed.setIfInBounds i true) a w->K' a w)->if Region.wanted o (yielded ops a.tmps)=true then Oper.wp P o a w K' Q else K' (a.put o.dst undef) w)
  (h':∀K':Act->World->Prop,Shut (∀a w,S1 w/\S2 w->wpG P md ops Q S1 S2 k fuel (listed.setIfInBounds j true) a w->K' a w)->if Region.wanted o' (yielded ops a.tmps)=true then Oper.wp P o' a w K' Q else K' (a.put o'.dst undef) w) :
  wpG P md ops Q S1 S2 k (fuel+1) listed a w:=by
 refine⟨(fun h0=>by rw[hr]at h0;cases h0),fun x hx=>?_⟩;rw[hr]at hx;simp only[List.mem_cons,List.not_mem_nil,or_false]at hx;rcases hx with rfl|rfl
 ·exact wpOp_step ho fun K' hK=>h K' fun a w hS hW=>hK a w ⟨⟨hS.1,fun _=>hS.2⟩,hW⟩
 ·exact wpOp_step ho' fun K' hK=>h' K' fun a w hS hW=>hK a w ⟨⟨hS.1,fun _=>hS.2⟩,hW⟩
end
theorem set4{W:World}{b:Nat}{x0 x1 x2 x3 u0 u1 u2 u3:Value}{E:TypeId}(h:W.heap[b]?=some (.cells #[x0,x1,x2,x3] E (0,0))) :
  ((((W.setCell ⟨b,0,none⟩ u0).setCell ⟨b,1,none⟩ u1).setCell ⟨b,2,none⟩ u2).setCell ⟨b,3,none⟩ u3).heap[b]?=some (.cells #[u0,u1,u2,u3] E (0,0)) /\
   Chg (fun q=>q=b) W ((((W.setCell ⟨b,0,none⟩ u0).setCell ⟨b,1,none⟩ u1).setCell ⟨b,2,none⟩ u2).setCell ⟨b,3,none⟩ u3):=by
 refine⟨?_,((((Chg.refl (fun q=>q=b) W).setCell (p:=⟨b,0,none⟩) (.inl rfl) _).setCell (p:=⟨b,1,none⟩) (.inl rfl) _).setCell (p:=⟨b,2,none⟩) (.inl rfl) _).setCell (p:=⟨b,3,none⟩) (.inl rfl) _⟩;rw[heap_setCell_same _ b 3 _ _ u3 (heap_setCell_same _ b 2 _ _ u2 (heap_setCell_same _ b 1 _ _ u1 (heap_setCell_same W b 0 _ _ u0 h)))];simp
theorem zpT(t:T)(v:Value)(back:Bool)(w0 w:World)(hB0:Below w0.heap.size w0 w)(hv:NV w0 Any t v)(hk:0<t.ks.length):Calls prog 197 #[v,.bool back] w fun e W'=>∃v1 v2,e=.returned (.tuple #[v1,v2])/\NV w0 Any (fstT back t) v1/\NV w0 Any (lstT back t) v2/\Below w.heap.size w W':=by
 have HV:=zh hv;obtain⟨A,c,rfl,hf,hlk,hlc,hrow⟩:=hv.open_;obtain⟨m,hm⟩:∃m,t.ks.length=m+1:=⟨t.ks.length-1,by omega⟩
 obtain⟨a,a0,a1,a2,a3,rfl,-,ha,hna⟩:=hrow 0 (by omega);obtain⟨a',b0,b1,b2,b3,e',-,hb,hnb⟩:=hrow m (by omega);injection e' with e';subst e';obtain⟨t6,Ai⟩:=zX (t.ks[0]'(by omega));obtain⟨t7,Ah⟩:=zX (t.ks[m]'(by omega));rw[Ai]at hna;rw[Ah]at hnb;have kU:=zh hna;have nA:=zh hnb;have BM:=zh (show kid t 0=t6 by simp[kid,show 0<t.ks.length by omega,Ai]);have BL:=zh (show kid t (t.ks.length-1)=t7 by simp[kid,hm,show m<t.ks.length by omega,Ah]);obtain⟨A6,c6,e6,-⟩:=hna.open_;obtain⟨A7,c7,e7,-⟩:=hnb.open_;simp only[nv,Value.agg.injEq,Array.mk.injEq,List.cons.injEq,and_true]at e6 e7;obtain⟨rfl,rfl,rfl,rfl⟩:=e6;obtain⟨rfl,rfl,rfl,rfl⟩:=e7;clear hna hnb Ai Ah;obtain⟨ha0,ha1,ha2,wZ⟩:=ha;obtain⟨hb0,hb1,hb2,hb3⟩:=hb;simp only[Nat.zero_mul,Addr.add_zero']at ha0 ha1 ha2 wZ
 replace ha0:=zb hB0 ha0
 replace ha1:=zb hB0 ha1
 replace ha2:=zb hB0 ha2
 replace wZ:=zb hB0 wZ
 replace hb0:=zb hB0 hb0
 replace hb1:=zb hB0 hb1
 replace hb2:=zb hB0 hb2
 replace hb3:=zb hB0 hb3
 clear hB0;have yz:IntKind.i64.wrap (m:Int)=(m:Int):=IntWalk.i64_in _ (by unfold LK at hlk;omega);have hm0:(0:Int)<=(m:Int):=by omega
 have hm1:(m:Int)<((m:Int)+1):=by omega
 have hbl:Below w.heap.size w (((w.alloc (.cells #[.int .u8 t.k,.int .i64 t.n,.string t.s,.slice (some a) (m+1) c] 41)).alloc (.cells #[.int .u8 0,.int .i64 0,.string ⟨#[]⟩,.slice none 0 0] 41)).alloc (.cells #[.int .u8 0,.int .i64 0,.string ⟨#[]⟩,.slice none 0 0] 41)):=zkb (zkb (zkb zr _) _) _;have hk0:=zke (zke (heap_alloc_new w (.cells #[.int .u8 t.k,.int .i64 t.n,.string t.s,.slice (some a) (m+1) c] 41)) (.cells #[.int .u8 0,.int .i64 0,.string ⟨#[]⟩,.slice none 0 0] 41)) (.cells #[.int .u8 0,.int .i64 0,.string ⟨#[]⟩,.slice none 0 0] 41);have hk4:=zke (heap_alloc_new (w.alloc (.cells #[.int .u8 t.k,.int .i64 t.n,.string t.s,.slice (some a) (m+1) c] 41)) (.cells #[.int .u8 0,.int .i64 0,.string ⟨#[]⟩,.slice none 0 0] 41)) (.cells #[.int .u8 0,.int .i64 0,.string ⟨#[]⟩,.slice none 0 0] 41)
 have hk5:=heap_alloc_new ((w.alloc (.cells #[.int .u8 t.k,.int .i64 t.n,.string t.s,.slice (some a) (m+1) c] 41)).alloc (.cells #[.int .u8 0,.int .i64 0,.string ⟨#[]⟩,.slice none 0 0] 41)) (.cells #[.int .u8 0,.int .i64 0,.string ⟨#[]⟩,.slice none 0 0] 41);simp only[World.size_alloc]at hk4 hk5;go_enter func197,ntmps197;go_upto_region 1 with fail;obtain⟨w1,hw1⟩:=zX (((w.alloc (.cells #[.int .u8 t.k,.int .i64 t.n,.string t.s,.slice (some a) (m+1) c] 41)).alloc (.cells #[.int .u8 0,.int .i64 0,.string ⟨#[]⟩,.slice none 0 0] 41)).alloc (.cells #[.int .u8 0,.int .i64 0,.string ⟨#[]⟩,.slice none 0 0] 41));rw[hw1]at hbl hk0 hk4 hk5 ⊢
 have hSS:zW (fun w':World=>zv w' w.heap.size 3 (.slice (some a) (m+1) c)/\(w'.cell? a=some (.int .u8 t6.k)/\zv w' a.block (a.off+1) (.int .i64 t6.n)/\zv w' a.block (a.off+2) (.string t6.s)/\zv w' a.block (a.off+3) (.slice A6 t6.ks.length c6))/\(w'.cell? (a.add (m*4))=some (.int .u8 t7.k)/\zv w' ((a.add (m*4)).block) ((a.add (m*4)).off+1) (.int .i64 t7.n)/\zv w' ((a.add (m*4)).block) ((a.add (m*4)).off+2) (.string t7.s)/\zv w' ((a.add (m*4)).block) ((a.add (m*4)).off+3) (.slice A7 t7.ks.length c7))) zU w1.drew:=⟨⟨zc hk0 rfl,⟨zb hbl.drew ha0,zb hbl.drew ha1,zb hbl.drew ha2,zb hbl.drew wZ⟩,⟨zb hbl.drew hb0,zb hbl.drew hb1,zb hbl.drew hb2,zb hbl.drew hb3⟩⟩,trivial⟩
 have dM:=zh (show w1.heap[w.heap.size+1]?=some (.cells #[.int .u8 0,.int .i64 0,.string ⟨#[]⟩,.slice none 0 0] 41 (0,0))from hk4);have iQ:=zh (show w1.heap[w.heap.size+1+1]?=some (.cells #[.int .u8 0,.int .i64 0,.string ⟨#[]⟩,.slice none 0 0] 41 (0,0))from hk5);have ag:=zh hbl;clear hw1 hbl hk0 hk4 hk5 ha0 ha1 ha2 wZ hb0 hb1 hb2 hb3 hrow HV;refine wp_region_noPanic ?_;refine zG hSS 15 ?_;refine zT 0 hSS ?_;refine zT 1 hSS ?_;refine zT 2 hSS ?_;refine zT 3 hSS ?_;refine zT 4 hSS ?_;refine zT 5 hSS ?_;refine zT 6 hSS ?_;refine zT 7 hSS ?_;refine zT 8 hSS ?_;refine zT 9 hSS ?_;refine zT 10 hSS ?_;refine zT 11 hSS ?_
 have uw:=zh (show ∀w',Below w1.heap.size w1 w'->(fun w':World=>zv w' w.heap.size 3 (.slice (some a) (m+1) c)/\(w'.cell? a=some (.int .u8 t6.k)/\zv w' a.block (a.off+1) (.int .i64 t6.n)/\zv w' a.block (a.off+2) (.string t6.s)/\zv w' a.block (a.off+3) (.slice A6 t6.ks.length c6))/\(w'.cell? (a.add (m*4))=some (.int .u8 t7.k)/\zv w' ((a.add (m*4)).block) ((a.add (m*4)).off+1) (.int .i64 t7.n)/\zv w' ((a.add (m*4)).block) ((a.add (m*4)).off+2) (.string t7.s)/\zv w' ((a.add (m*4)).block) ((a.add (m*4)).off+3) (.slice A7 t7.ks.length c7))) w' from fun w' hb=>by
  obtain⟨⟨q0,⟨q1,q2,q3,q4⟩,q5,q6,q7,q8⟩,-⟩:=hSS;exact⟨zb hb q0,⟨zb hb q1,zb hb q2,zb hb q3,zb hb q4⟩,zb hb q5,zb hb q6,zb hb q7,zb hb q8⟩)
 clear hSS;refine zvV (i:=12) (j:=13) (by kernel_rfl) rfl rfl (fun K hK=>?_) (fun K hK=>?_);(try simp only[zA,zB,zC]);go_simp;have hb2:=zkb (zs w1) (.cells #[.int .u8 0,.int .i64 0,.string ⟨#[]⟩,.slice none 0 0] 41);refine hK.out _ _ ⟨uw.out _ hb2.drew,trivial⟩ ?_;clear hK K;(try simp only[zQ]);refine zo 13 fun K hK=>?_;(try simp only[zA,zB,zC]);go_simp;have hb3:Below w1.heap.size w1 ((w1.alloc (.cells #[.int .u8 0,.int .i64 0,.string ⟨#[]⟩,.slice none 0 0] 41)).alloc (.cells #[.int .u8 0,.int .i64 0,.string ⟨#[]⟩,.slice none 0 0] 41)):=zkb hb2 (.cells #[.int .u8 0,.int .i64 0,.string ⟨#[]⟩,.slice none 0 0] 41);have dW:=zke (heap_alloc_new w1 (.cells #[.int .u8 0,.int .i64 0,.string ⟨#[]⟩,.slice none 0 0] 41)) (.cells #[.int .u8 0,.int .i64 0,.string ⟨#[]⟩,.slice none 0 0] 41)
 have gX:=heap_alloc_new (w1.alloc (.cells #[.int .u8 0,.int .i64 0,.string ⟨#[]⟩,.slice none 0 0] 41)) (.cells #[.int .u8 0,.int .i64 0,.string ⟨#[]⟩,.slice none 0 0] 41);rw[World.size_alloc]at gX;refine hK.out _ _ ⟨uw.out _ hb3.drew,trivial⟩ ?_;clear hK K;(try simp only[zQ]);obtain⟨w3,hw3⟩:=zX ((w1.alloc (.cells #[.int .u8 0,.int .i64 0,.string ⟨#[]⟩,.slice none 0 0] 41)).alloc (.cells #[.int .u8 0,.int .i64 0,.string ⟨#[]⟩,.slice none 0 0] 41));rw[hw3]at hb3 dW gX ⊢;clear hw3 hb2;generalize GE7:w1.heap.size+1=b7 at gX ⊢;generalize GE6:w1.heap.size=b6 at dW ⊢;rotate_left 1;(try simp only[zA,zB,zC]);go_simp;have hb2:=zkb (zs w1) (.cells #[.int .u8 0,.int .i64 0,.string ⟨#[]⟩,.slice none 0 0] 41);refine hK.out _ _ ⟨uw.out _ hb2.drew,trivial⟩ ?_;clear hK K;(try simp only[zQ]);refine zo 12 fun K hK=>?_;(try simp only[zA,zB,zC]);go_simp
 have hb3:Below w1.heap.size w1 ((w1.alloc (.cells #[.int .u8 0,.int .i64 0,.string ⟨#[]⟩,.slice none 0 0] 41)).alloc (.cells #[.int .u8 0,.int .i64 0,.string ⟨#[]⟩,.slice none 0 0] 41)):=zkb hb2 (.cells #[.int .u8 0,.int .i64 0,.string ⟨#[]⟩,.slice none 0 0] 41);have gX:=zke (heap_alloc_new w1 (.cells #[.int .u8 0,.int .i64 0,.string ⟨#[]⟩,.slice none 0 0] 41)) (.cells #[.int .u8 0,.int .i64 0,.string ⟨#[]⟩,.slice none 0 0] 41);have dW:=heap_alloc_new (w1.alloc (.cells #[.int .u8 0,.int .i64 0,.string ⟨#[]⟩,.slice none 0 0] 41)) (.cells #[.int .u8 0,.int .i64 0,.string ⟨#[]⟩,.slice none 0 0] 41);rw[World.size_alloc]at dW;refine hK.out _ _ ⟨uw.out _ hb3.drew,trivial⟩ ?_;clear hK K;(try simp only[zQ]);obtain⟨w3,hw3⟩:=zX ((w1.alloc (.cells #[.int .u8 0,.int .i64 0,.string ⟨#[]⟩,.slice none 0 0] 41)).alloc (.cells #[.int .u8 0,.int .i64 0,.string ⟨#[]⟩,.slice none 0 0] 41))
 rw[hw3]at hb3 gX dW ⊢;clear hw3 hb2;generalize GE7:w1.heap.size+1=b6 at dW ⊢;generalize GE6:w1.heap.size=b7 at gX ⊢
 all_goals
  have gE:w1.heap.size<=b6/\w1.heap.size<=b7/\b6≠b7:=by omega
  obtain⟨g6,g7,gN⟩:=gE;clear GE6 GE7;have HB3:=zh hb3;have c0:w3.cell? ⟨b6,0,none⟩=some (.int .u8 0):=zc dW rfl;have c1:w3.cell? ⟨b6,1,none⟩=some (.int .i64 0):=zc dW rfl;have c2:w3.cell? ⟨b6,2,none⟩=some (.string ⟨#[]⟩):=zc dW rfl;have c3:w3.cell? ⟨b6,3,none⟩=some (.slice none 0 0):=zc dW rfl;have cf:∀o,w3.frozen? ⟨b6,o,none⟩=false:=fun _=>zf dW;refine zo 14 fun K hK=>?_;(try simp only[zA,zB,zC]);go_simp;obtain⟨hh,hch⟩:=set4 (u0:=(.int .u8 t6.k)) (u1:=(.int .i64 t6.n)) (u2:=(.string t6.s)) (u3:=(.slice A6 t6.ks.length c6)) dW;obtain⟨w4,hwn⟩:=zX ((((w3.setCell ⟨b6,0,none⟩ (.int .u8 t6.k)).setCell ⟨b6,1,none⟩ (.int .i64 t6.n)).setCell ⟨b6,2,none⟩ (.string t6.s)).setCell ⟨b6,3,none⟩ (.slice A6 t6.ks.length c6));rw[hwn]at hh hch ⊢;have hb4:Below w1.heap.size w1 w4:=HB3.out.trans (hch.below HB3.out.size fun b e=>by omega);refine hK.out _ _ ⟨uw.out _ hb4.drew,trivial⟩ ?_
  clear hK K c0 c1 c2 c3 cf hwn;(try simp only[zQ]);have aF:=zh hb4;have ji:=hch.keep gX (by omega);have c0:w4.cell? ⟨b7,0,none⟩=some (.int .u8 0):=zc ji rfl;have c1:w4.cell? ⟨b7,1,none⟩=some (.int .i64 0):=zc ji rfl;have c2:w4.cell? ⟨b7,2,none⟩=some (.string ⟨#[]⟩):=zc ji rfl;have c3:w4.cell? ⟨b7,3,none⟩=some (.slice none 0 0):=zc ji rfl;have cf:∀o,w4.frozen? ⟨b7,o,none⟩=false:=fun _=>zf ji;refine zp 15 fun K hK=>?_;(try simp only[zA,zB,zC]);go_simp;obtain⟨pF,pK⟩:=set4 (u0:=(.int .u8 t7.k)) (u1:=(.int .i64 t7.n)) (u2:=(.string t7.s)) (u3:=(.slice A7 t7.ks.length c7)) ji;obtain⟨w5,hwn⟩:=zX ((((w4.setCell ⟨b7,0,none⟩ (.int .u8 t7.k)).setCell ⟨b7,1,none⟩ (.int .i64 t7.n)).setCell ⟨b7,2,none⟩ (.string t7.s)).setCell ⟨b7,3,none⟩ (.slice A7 t7.ks.length c7));rw[hwn]at pF pK ⊢;have hb5:Below w1.heap.size w1 w5:=aF.out.trans (pK.below aF.out.size fun b e=>by omega)
  refine hK.out _ _ (uw.out _ hb5.drew) ?_;clear hK K c0 c1 c2 c3 cf hwn;(try simp only[zQ]);have xY:=zh (pK.keep hh (by omega));have Cr:=zh pF;have aO:=zh (show Below w1.heap.size w1 w5 from hb5);clear hb3 dW gX ji hh pF hch pK hb4 hb5 aF HB3 uw;refine zd ?_;refine NoPanic.normal ?_;have qR:=zh (zkc dM.out aO.out);have pW:=zh (zkc iQ.out aO.out);obtain⟨P,Q,X,Y,AX,AY,CX,CY,hE⟩:∃P Q X Y AX AY CX CY,cond back (P=b7/\Q=b6/\X=t7/\Y=t6/\AX=A7/\AY=A6/\CX=c7/\CY=c6) (P=b6/\Q=b7/\X=t6/\Y=t7/\AX=A6/\AY=A7/\CX=c6/\CY=c7):=by cases back<;>exact⟨_,_,_,_,_,_,_,_,rfl,rfl,rfl,rfl,rfl,rfl,rfl,rfl⟩
  cases back
  obtain⟨rfl,rfl,rfl,rfl,rfl,rfl,rfl,rfl⟩:=hE;have HX:=xY;have HY:=Cr;have NX:=kU;have NY:=nA;have EX:=BM;have EY:=BL;go_upto_region 4 with fail;rotate_left 1;obtain⟨rfl,rfl,rfl,rfl,rfl,rfl,rfl,rfl⟩:=hE;have HX:=Cr;have HY:=xY;have NX:=nA;have NY:=kU;have EX:=BL;have EY:=BM;go_upto_region 3 with fail
  all_goals
   clear xY Cr kU nA BM BL;have hS5:(fun w':World=>(zN4 w' P (.int .u8 X.k) (.int .i64 X.n) (.string X.s) (.slice AX X.ks.length CX))/\zN4 w' Q (.int .u8 Y.k) (.int .i64 Y.n) (.string Y.s) (.slice AY Y.ks.length CY)) w5.drew:=⟨⟨zc HX.out rfl,zc HX.out rfl,zc HX.out rfl,zc HX.out rfl⟩,⟨zc HY.out rfl,zc HY.out rfl,zc HY.out rfl,zc HY.out rfl⟩⟩
   refine wp_region_noPanic ?_;refine zkl (fun w':World=>(zN4 w' P (.int .u8 X.k) (.int .i64 X.n) (.string X.s) (.slice AX X.ks.length CX))/\zN4 w' Q (.int .u8 Y.k) (.int .i64 Y.n) (.string Y.s) (.slice AY Y.ks.length CY)) zU 3 (by kernel_rfl) ?_;refine zkV (i:=0) (v:=?_) rfl (by kernel_rfl) (by kernel_rfl) (by kernel_rfl) (by decide) (fun _ _ _ h=>h) (Or.inl ⟨by rfl,?_⟩) ⟨hS5,trivial⟩ ?_;rotate_left 1
   ·(intro w hSw;(try dsimp only at hSw);(try simp only[zA,zC]);go_simp;(try with_reducible rfl))
   (try simp only[zQ]);refine zkV (i:=1) (v:=?_) rfl (by kernel_rfl) (by kernel_rfl) (by kernel_rfl) (by decide) (fun _ _ _ h=>h) (Or.inl ⟨by rfl,?_⟩) ⟨hS5,trivial⟩ ?_;rotate_left 1
   ·(intro w hSw;(try dsimp only at hSw);(try simp only[zA,zB,zC]);go_simp;(try with_reducible rfl))
   (try simp only[zQ]);have hsz:w.heap.size+1+1<w1.heap.size:=(Array.getElem?_eq_some_iff.mp iQ.out).1;have fZ:=zh (ag.out.trans (aO.out.mono (by omega)));have HC:=zh (show ∀W':World,W'.heap[P]?=w5.heap[P]?->W'.heap[Q]?=w5.heap[Q]?->(fun w':World=>(zN4 w' P (.int .u8 X.k) (.int .i64 X.n) (.string X.s) (.slice AX X.ks.length CX)/\zN4 w' Q (.int .u8 Y.k) (.int .i64 Y.n) (.string Y.s) (.slice AY Y.ks.length CY))) W'.drew from fun W' h6 h7=>⟨⟨zc (h6.trans HX.out) rfl,zc (h6.trans HX.out) rfl,zc (h6.trans HX.out) rfl,zc (h6.trans HX.out) rfl⟩,⟨zc (h7.trans HY.out) rfl,zc (h7.trans HY.out) rfl,zc (h7.trans HY.out) rfl,zc (h7.trans HY.out) rfl⟩⟩);have HZQ:=zh qR.out;have kM:=qR.out;have HZ5K:=pW.out;have c0:w5.cell? ⟨(w.heap.size+1),0,none⟩=some (.int .u8 0):=zc kM rfl;have c1:w5.cell? ⟨(w.heap.size+1),1,none⟩=some (.int .i64 0):=zc kM rfl
   have c2:w5.cell? ⟨(w.heap.size+1),2,none⟩=some (.string ⟨#[]⟩):=zc kM rfl;have c3:w5.cell? ⟨(w.heap.size+1),3,none⟩=some (.slice none 0 0):=zc kM rfl;have cf:∀o,w5.frozen? ⟨(w.heap.size+1),o,none⟩=false:=fun _=>zf kM;refine zo 2 fun K hK=>?_;(try simp only[zA,zB,zC]);go_simp;obtain⟨hh,hch⟩:=set4 (u0:=(.int .u8 X.k)) (u1:=(.int .i64 X.n)) (u2:=(.string X.s)) (u3:=(.slice AX X.ks.length CX)) kM;obtain⟨w6,hwn⟩:=zX ((((w5.setCell ⟨(w.heap.size+1),0,none⟩ (.int .u8 X.k)).setCell ⟨(w.heap.size+1),1,none⟩ (.int .i64 X.n)).setCell ⟨(w.heap.size+1),2,none⟩ (.string X.s)).setCell ⟨(w.heap.size+1),3,none⟩ (.slice AX X.ks.length CX));rw[hwn]at hh hch ⊢;clear c0 c1 c2 c3 cf hwn;have HBW6:=zh (fZ.out.trans (hch.below fZ.out.size fun b e=>by omega));have k6:=hch.block (P) (Array.getElem?_eq_some_iff.mp HX.out).1 (by omega)
   have k7:=hch.block (Q) (Array.getElem?_eq_some_iff.mp HY.out).1 (by omega);have kL:=hch.keep HZ5K (by omega);refine hK.out _ _ ⟨HC.out _ k6 k7,trivial⟩ ?_;have HF4:=zh hh;have K6:=zh k6;have K7:=zh k7;have dG:=zh hch;clear hK K k6 k7 hh hch;(try simp only[zQ]);have c0:w6.cell? ⟨(w.heap.size+1+1),0,none⟩=some (.int .u8 0):=zc kL rfl;have c1:w6.cell? ⟨(w.heap.size+1+1),1,none⟩=some (.int .i64 0):=zc kL rfl;have c2:w6.cell? ⟨(w.heap.size+1+1),2,none⟩=some (.string ⟨#[]⟩):=zc kL rfl;have c3:w6.cell? ⟨(w.heap.size+1+1),3,none⟩=some (.slice none 0 0):=zc kL rfl;have cf:∀o,w6.frozen? ⟨(w.heap.size+1+1),o,none⟩=false:=fun _=>zf kL;refine zp 3 fun K hK=>?_;(try simp only[zA,zB,zC]);go_simp;obtain⟨hh,hch⟩:=set4 (u0:=(.int .u8 Y.k)) (u1:=(.int .i64 Y.n)) (u2:=(.string Y.s)) (u3:=(.slice AY Y.ks.length CY)) kL
   obtain⟨w7,hwn⟩:=zX ((((w6.setCell ⟨(w.heap.size+1+1),0,none⟩ (.int .u8 Y.k)).setCell ⟨(w.heap.size+1+1),1,none⟩ (.int .i64 Y.n)).setCell ⟨(w.heap.size+1+1),2,none⟩ (.string Y.s)).setCell ⟨(w.heap.size+1+1),3,none⟩ (.slice AY Y.ks.length CY));rw[hwn]at hh hch ⊢;clear c0 c1 c2 c3 cf hwn;have HBW7:=zh (HBW6.out.trans (hch.below HBW6.out.size fun b e=>by omega));have k6:=hch.block (P) (by have:=(Array.getElem?_eq_some_iff.mp HX.out).1;have:=dG.out.size;omega) (by omega);have k7:=hch.block (Q) (by have:=(Array.getElem?_eq_some_iff.mp HY.out).1;have:=dG.out.size;omega) (by omega);have HF4':=zh (hch.keep HF4.out (by omega));refine hK.out _ _ (HC.out _ (k6.trans K6.out) (k7.trans K7.out)) ?_;have HF5:=zh hh;clear hK K k6 k7 hh hch;(try simp only[zQ]);refine zd ?_;refine NoPanic.normal ?_;have d4:=HF4'.out;have d5:=HF5.out
   have g0:w7.drew.cell? ⟨w.heap.size+1,0,none⟩=some (.int .u8 X.k):=zc d4 rfl;have g1:w7.drew.cell? ⟨w.heap.size+1,1,none⟩=some (.int .i64 X.n):=zc d4 rfl;have g2:w7.drew.cell? ⟨w.heap.size+1,2,none⟩=some (.string X.s):=zc d4 rfl;have g3:w7.drew.cell? ⟨w.heap.size+1,3,none⟩=some (.slice AX X.ks.length CX):=zc d4 rfl;have g4:w7.drew.cell? ⟨w.heap.size+1+1,0,none⟩=some (.int .u8 Y.k):=zc d5 rfl;have g5:w7.drew.cell? ⟨w.heap.size+1+1,1,none⟩=some (.int .i64 Y.n):=zc d5 rfl;have g6:w7.drew.cell? ⟨w.heap.size+1+1,2,none⟩=some (.string Y.s):=zc d5 rfl;have g7:w7.drew.cell? ⟨w.heap.size+1+1,3,none⟩=some (.slice AY Y.ks.length CY):=zc d5 rfl;go_wp2_with fail
   refine bodyPost_ret (v:=.tuple #[.agg #[.int .u8 X.k,.int .i64 X.n,.string X.s,.slice AX X.ks.length CX],.agg #[.int .u8 Y.k,.int .i64 Y.n,.string Y.s,.slice AY Y.ks.length CY]]) (by simp[results,results197,go_sem,g0,g1,g2,g3,g4,g5,g6,g7]) rfl ⟨_,_,rfl,?_,?_,HBW7.out.drew.drew⟩
   ·simp only[fstT,lstT,if_true,if_false,Bool.false_eq_true,EX.out,EY.out];exact NX.out
   ·simp only[fstT,lstT,if_true,if_false,Bool.false_eq_true,EX.out,EY.out];exact NY.out
def IStC(G:List PR->T->Prop)(g:Nat):Prop:=∀C:RC,C.Ok->∀(W:World) (r:RS),RI C W r->∀(t:T) (v:Value) (back:Bool),NV C.w Any t v->G C.p.prs t->zkt C.p.prs C.F g back t r ≠ .gas ->
 Calls prog 137 #[.pointer (some ⟨C.rb,0,none⟩),v,.bool back] W (RunP C W (zkt C.p.prs C.F g back t r))
theorem zlq{G:List PR->T->Prop}{g:Nat}(hS:IStC G g){C:RC}(hC:C.Ok){W:World}{r:RS}(h:RI C W r)(t:T)(v:Value)(back:Bool)(hv:NV C.w Any t v)(hG:∀u∈t.ks,G C.p.prs u)(aG:runO C.p.prs C.F g back t r ≠ .gas) :
  Calls prog 101 #[.pointer (some ⟨C.rb,0,none⟩),v,.bool back] W (RunP C W (runO C.p.prs C.F g back t r)):=by
 obtain⟨A,c,rfl,-,hlk,hlc,hrow⟩:=hv.open_;have af:=zh hrow;have HS:=zh hS;have HG:=zh hG;have hb0:=zkb (zs W) (.cells #[.int .u8 t.k,.int .i64 t.n,.string t.s,.slice A t.ks.length c] 41);obtain⟨di,h1⟩:=h.plus hC hb0;have hz1:(W.alloc (.cells #[.int .u8 t.k,.int .i64 t.n,.string t.s,.slice A t.ks.length c] 41)).heap.size=W.heap.size+1:=by simp
 have hbx:=box4 (heap_alloc_new W (.cells #[.int .u8 t.k,.int .i64 t.n,.string t.s,.slice A t.ks.length c] 41));have aD:=zh (Kpt.of_below (n0:=C.n0) (kb:=C.kb) hb0);obtain⟨W1,hW1⟩:=zX (W.alloc (.cells #[.int .u8 t.k,.int .i64 t.n,.string t.s,.slice A t.ks.length c] 41));rw[hW1]at di h1 hz1 hbx aD;obtain⟨hi,hhi⟩:=zX (W1.heap.size);rw[hhi]at di h1 hz1;have lU:=zh di;have H1:=zh h1;have aX:=zh hbx;have hz2:W.heap.size<hi:=by omega
 have hwn:IntKind.i64.wrap ((t.ks.length:Int)-1)=(t.ks.length:Int)-1:=IntWalk.i64_in _ (by unfold LK at hlk;omega);have hwq:∀j:Nat,j<t.ks.length->IntKind.i64.wrap ((t.ks.length:Int)-1-(j:Int))=((t.ks.length-1-j:Nat):Int):=fun j hj=>by rw[IntWalk.i64_in _ (by unfold LK at hlk;omega)];omega
 obtain⟨o,ho⟩:=zX (runO C.p.prs C.F g back t r);have HO:=zh (show zkK (zkt C.p.prs C.F g back) ((blkL back t).drop 0) r=o by rw[List.drop_zero];exact ho);have qD:=zh (show o ≠ .gas from ho▸aG);have lI:(blkL back t).length=t.ks.length:=by unfold blkL;split<;>simp
 rw[ho];have bH:=zh lI;have hlk2:t.ks.length<=17592186044416:=by unfold LK at hlk;omega
 clear lI hlk;clear hv di h1 hbx hb0 h hz1 hS hG hrow ho aG;obtain⟨x0,x1,x2,x3⟩:=aX.out;go_enter func101,ntmps101;go_wp2_with fail;clear x0 x1 x2 x3 hW1
 go_loopw [15] (fun i wr=>∃(j:Nat) (r1:RS),j<=t.ks.length/\i=.int .i64 j/\Hid (RI (C.plus W.heap.size hi) wr r1)/\Hid (Kpt C.n0 (C.plus W.heap.size hi).kb W1 wr)/\Hid (zkK (zkt C.p.prs C.F g back) ((blkL back t).drop j) r1=o)) (fun i _=>t.ks.length-(intOf i).toNat)
 case atStart=>exact⟨0,r,Nat.zero_le _,rfl,H1,zh (Kpt.refl _ _ _),HO⟩
 case round =>
  obtain⟨j,r1,hj,rfl,HR,HK,HB⟩:=hrel;by_cases hlt:j<t.ks.length
  ·cases back
   ·skip
    have hj1:(j:Int)<(t.ks.length:Int):=by omega
    have hj0:(0:Int)<=(j:Int):=by omega
    have AJ:j<t.ks.length:=by omega
    have hqs1:(j:Int)<(t.ks.length:Int):=by omega
    have hqs0:(0:Int)<=(j:Int):=by omega
    have eB:=HR.out.below;obtain⟨a,u,A1,c1,rfl,-,hu,⟨p0,p1,p2,p3⟩,hnu⟩:=af.out.nd AJ;have hgu:=HG.out u (by rw[<-hu.out];exact List.getElem_mem _);have hbs:zkK (zkt C.p.prs C.F g false) ((blkL false t).drop j) r1=(zkt C.p.prs C.F g false u r1).bind (zkK (zkt C.p.prs C.F g false) ((blkL false t).drop (j+1))):=by
     rw[show(blkL false t).drop j=u::(blkL false t).drop (j+1) by rw[List.drop_eq_getElem_cons (by rw[bH.out];exact hlt),<-hu.out];congr 1;all_goals simp[blkL,hlt]];rfl
    rw[HB.out]at hbs;have nR:=zh hbs;have xG:=zh (HS.out (C.plus W.heap.size hi) lU.out wr r1 HR.out u _ false hnu hgu (fun e=>qD.out (by rw[hbs,show zkt C.p.prs C.F g false u r1=.gas from e];rfl)));have q0:=zb eB p0;have q1:=zb eB p1;have q2:=zb eB p2;have q3:=zb eB p3;have x3:wr.cell? ⟨W.heap.size,3,none⟩=some (.slice (some a) t.ks.length c):=HK.out.cell (.inr (.inr ⟨zl,hz2⟩)) aX.out.2.2.2;clear hbs eB hnu hgu p0 p1 p2 p3 hu;go_wp2_with fail;refine xG.out.mono ?_;rintro e w2 ⟨hk2,hb2,ho2⟩;have gz:match zkt C.p.prs C.F g false u r1 with
     | .gas=>True
     | .err x=>e=zlK x
     | .ok r=>(∃u,e=.returned u)/\RI (C.plus W.heap.size hi) w2 r:=ho2
    have aR:=zh (HK.out.trans hk2);clear ho2 hk2 xG q0 q1 q2 q3 x3
    cases hx:zkt C.p.prs C.F g false u r1 with
    | gas=>exact absurd (by rw[nR.out,hx];rfl) qD.out
    | err x =>
     rw[hx]at gz;subst gz;have ho3:o=.err x:=by rw[nR.out,hx];rfl
     dsimp only;refine⟨rfl,aD.out.trans (Kpt.less aR.out),hb2,?_⟩;rw[ho3]
    | ok r2 =>
     rw[hx]at gz;obtain⟨⟨u2,rfl⟩,hr2⟩:=gz;have HR2:=zh hr2;have HB2:=zh (show zkK (zkt C.p.prs C.F g false) ((blkL false t).drop (j+1)) r2=o by rw[nR.out,hx];rfl);clear hr2 hx;go_wp2_with fail
     go_roundw
     case rel=>exact⟨j+1,r2,by omega,by go_num,HR2,aR,HB2⟩
     case measure=>simp[intOf];omega
   ·skip
    have hwq1:=hwq j hlt;obtain⟨q,hq⟩:=zX (t.ks.length-1-j);rw[hq]at hwq1;have hj1:(j:Int)<(t.ks.length:Int):=by omega
    have hj0:(0:Int)<=(j:Int):=by omega
    have AJ:q<t.ks.length:=by omega
    have hqs1:(q:Int)<(t.ks.length:Int):=by omega
    have hqs0:(0:Int)<=(q:Int):=by omega
    have eB:=HR.out.below;obtain⟨a,u,A1,c1,rfl,-,hu,⟨p0,p1,p2,p3⟩,hnu⟩:=af.out.nd AJ;have hgu:=HG.out u (by rw[<-hu.out];exact List.getElem_mem _);have hbs:zkK (zkt C.p.prs C.F g true) ((blkL true t).drop j) r1=(zkt C.p.prs C.F g true u r1).bind (zkK (zkt C.p.prs C.F g true) ((blkL true t).drop (j+1))):=by
     rw[show(blkL true t).drop j=u::(blkL true t).drop (j+1) by rw[List.drop_eq_getElem_cons (by rw[bH.out];exact hlt),<-hu.out];congr 1;all_goals simp[blkL,hq]];rfl
    rw[HB.out]at hbs;have nR:=zh hbs;have xG:=zh (HS.out (C.plus W.heap.size hi) lU.out wr r1 HR.out u _ true hnu hgu (fun e=>qD.out (by rw[hbs,show zkt C.p.prs C.F g true u r1=.gas from e];rfl)));have q0:=zb eB p0;have q1:=zb eB p1;have q2:=zb eB p2;have q3:=zb eB p3;have x3:wr.cell? ⟨W.heap.size,3,none⟩=some (.slice (some a) t.ks.length c):=HK.out.cell (.inr (.inr ⟨zl,hz2⟩)) aX.out.2.2.2;clear hbs eB hnu hgu p0 p1 p2 p3 hu;go_wp2_with fail;refine xG.out.mono ?_;rintro e w2 ⟨hk2,hb2,ho2⟩;have gz:match zkt C.p.prs C.F g true u r1 with
     | .gas=>True
     | .err x=>e=zlK x
     | .ok r=>(∃u,e=.returned u)/\RI (C.plus W.heap.size hi) w2 r:=ho2
    have aR:=zh (HK.out.trans hk2);clear ho2 hk2 xG q0 q1 q2 q3 x3
    cases hx:zkt C.p.prs C.F g true u r1 with
    | gas=>exact absurd (by rw[nR.out,hx];rfl) qD.out
    | err x =>
     rw[hx]at gz;subst gz;have ho3:o=.err x:=by rw[nR.out,hx];rfl
     dsimp only;refine⟨rfl,aD.out.trans (Kpt.less aR.out),hb2,?_⟩;rw[ho3]
    | ok r2 =>
     rw[hx]at gz;obtain⟨⟨u2,rfl⟩,hr2⟩:=gz;have HR2:=zh hr2;have HB2:=zh (show zkK (zkt C.p.prs C.F g true) ((blkL true t).drop (j+1)) r2=o by rw[nR.out,hx];rfl);clear hr2 hx;go_wp2_with fail
     go_roundw
     case rel=>exact⟨j+1,r2,by omega,by go_num,HR2,aR,HB2⟩
     case measure=>simp[intOf];omega
  ·have ho3:o=.ok r1:=by
    rw[<-HB.out,show(blkL back t).drop j=[] by rw[List.drop_eq_nil_iff,bH.out];omega];rfl
   have hbr:=HR.out.below;have hj1:¬ (j:Int)<(t.ks.length:Int):=by omega
   go_wp2_with fail;go_end0;refine⟨aD.out.trans (Kpt.less HK.out),hbr,?_⟩
   try rw[ho3]
   exact⟨⟨_,rfl⟩,HR.out.less⟩
def brO(prs:List PR)(F:Int)(g:Nat)(back:Bool)(t:T)(r:RS):Out :=
 zk0 F (fstT back t) r fun yes r=>(zkK (zkt prs F g back) (blkL back (if yes=true then kid t 1 else kid t 2)) r).bind (zks F (lstT back t) yes)
theorem zte{G:List PR->T->Prop}{g:Nat}(hS:IStC G g){C:RC}(hC:C.Ok){W:World}{r:RS}(h:RI C W r)(t:T)(v:Value)(back:Bool)(hv:NV C.w Any t v)(hk:t.ks.length=4)(hG1:∀u∈(kid t 1).ks,G C.p.prs u)(hG2:∀u∈(kid t 2).ks,G C.p.prs u)
  (aG:brO C.p.prs C.F g back t r ≠ .gas) :
  Calls prog 176 #[.pointer (some ⟨C.rb,0,none⟩),v,.bool back] W (RunP C W (brO C.p.prs C.F g back t r)):=by
 obtain⟨A,c,rfl,-,hlk,hlc,hrow⟩:=hv.open_;have af:=zh hrow;have HS:=zh hS;have HV:=zh hv;have hb0:=zkb (zs W) (.cells #[.int .u8 t.k,.int .i64 t.n,.string t.s,.slice A t.ks.length c] 41);obtain⟨x0,x1,x2,x3⟩:=box4 (heap_alloc_new W (.cells #[.int .u8 t.k,.int .i64 t.n,.string t.s,.slice A t.ks.length c] 41));have HB0:=zh hb0;have H:=zh h;have HC:=zh hC;have HX:=zh (heap_alloc_new W (.cells #[.int .u8 t.k,.int .i64 t.n,.string t.s,.slice A t.ks.length c] 41));have nM:=zh (fun w' (hb:Below W.heap.size W w')=>zpT t _ back C.w w' (zka h.below hb) hv (by omega));have nH:=zh hk;clear hrow hS hb0 h hv hk hC hlk;go_enter func176,ntmps176;go_wp2_with fail;refine(nM.out _ HB0.out).mono ?_;rintro e w2 ⟨v1,v2,rfl,n1,n2,b2⟩;obtain⟨t1,ht1⟩:=zX (fstT back t);obtain⟨t2,ht2⟩:=zX (lstT back t);have HT1:=zh ht1;have HT2:=zh ht2;rw[ht1]at n1;rw[ht2]at n2;obtain⟨A1,c1,rfl,-⟩:=n1.open_
 obtain⟨A2,c2,rfl,-⟩:=n2.open_;have kV:=zh n1;have aK:=zh n2;have b3:=zkb (zkb (zka HB0.out b2) (.cells #[.int .u8 t1.k,.int .i64 t1.n,.string t1.s,.slice A1 t1.ks.length c1] 41)) (.cells #[.int .u8 t2.k,.int .i64 t2.n,.string t2.s,.slice A2 t2.ks.length c2] 41);have k0:=zke (zke (zkc HX.out b2) (.cells #[.int .u8 t1.k,.int .i64 t1.n,.string t1.s,.slice A1 t1.ks.length c1] 41)) (.cells #[.int .u8 t2.k,.int .i64 t2.n,.string t2.s,.slice A2 t2.ks.length c2] 41);have k1:=zke (heap_alloc_new w2 (.cells #[.int .u8 t1.k,.int .i64 t1.n,.string t1.s,.slice A1 t1.ks.length c1] 41)) (.cells #[.int .u8 t2.k,.int .i64 t2.n,.string t2.s,.slice A2 t2.ks.length c2] 41);have k2:=heap_alloc_new (w2.alloc (.cells #[.int .u8 t1.k,.int .i64 t1.n,.string t1.s,.slice A1 t1.ks.length c1] 41)) (.cells #[.int .u8 t2.k,.int .i64 t2.n,.string t2.s,.slice A2 t2.ks.length c2] 41)
 simp only[World.size_alloc]at k2;obtain⟨w3,hw3⟩:=zX ((w2.alloc (.cells #[.int .u8 t1.k,.int .i64 t1.n,.string t1.s,.slice A1 t1.ks.length c1] 41)).alloc (.cells #[.int .u8 t2.k,.int .i64 t2.n,.string t2.s,.slice A2 t2.ks.length c2] 41));rw[hw3]at b3 k0 k1 k2;have hz2:=zka HB0.out b2;have hzz:=hz2.size;obtain⟨fu,h3⟩:=H.out.plus HC.out b3;have bT:=zh (Kpt.of_below (n0:=C.n0) (kb:=C.kb) b3);have l0:=zko k0;have l1:=zko k1;have l2:=zko k2;obtain⟨hi,hhi⟩:=zX (w3.heap.size);rw[hhi]at fu h3 l0 l1 l2;have iw:=zh fu;have H3:=zh h3;have K0:=zh k0;have K1:=zh k1;have K2:=zh k2;have iT:=zh (zou fu h3 t1 _ n1)
 obtain⟨p1,⟨y0,y1,y2,y3⟩⟩:True/\(w3.cell? ⟨w2.heap.size,0,none⟩=some (.int .u8 t1.k)/\w3.cell? ⟨w2.heap.size,1,none⟩=some (.int .i64 t1.n)/\w3.cell? ⟨w2.heap.size,2,none⟩=some (.string t1.s)/\w3.cell? ⟨w2.heap.size,3,none⟩=some (.slice A1 t1.ks.length c1)):=⟨trivial,zc k1 rfl,zc k1 rfl,zc k1 rfl,zc k1 rfl⟩
 clear n1 n2 b2 b3 k0 k1 k2 hz2 fu h3 x0 x1 x2 x3 HX HB0 nM p1 ht1 ht2;go_upto_region 2 with fail;clear hw3;go_wp2_with fail;refine iT.out.mono ?_;rintro e w4 ⟨hk4,hb4,fq⟩;have dM:=zh (bT.out.trans (Kpt.less (C:=C) hk4));have aF:=zh (show Below C.w.heap.size C.w w4 from hb4);clear y0 y1 y2 y3 iT;rcases fq with⟨x,rfl,hx⟩|⟨b,r1,rfl,hr1,hx⟩
 ·refine⟨rfl,dM.out,aF.out,?_⟩;rw[show brO C.p.prs C.F g back t r=.err x by unfold brO;rw[HT1.out];exact hx _]
 ·have k0:=hk4.blk (.inr (.inr ⟨by omega,l0⟩)) K0.out;have k2:=hk4.blk (.inr (.inr ⟨by omega,l2⟩)) K2.out;have HR4:=zh hr1;have kY:=zh (show brO C.p.prs C.F g back t r=(runO C.p.prs C.F g back (if b=true then kid t 1 else kid t 2) r1).bind (zks C.F t2 b) by unfold brO;rw[HT1.out,HT2.out];exact hx _);have K4:=zh k0;have K5:=zh k2;have z3:w4.cell? ⟨W.heap.size,3,none⟩=some (.slice A t.ks.length c):=zc k0 rfl;have dA:=zh aG;clear hk4 hb4 hr1 hx k0 k2 aG
  cases b
  ·skip
   have hI:2<t.ks.length:=by have:=nH.out;omega
   have hI1:(2:Int)<(t.ks.length:Int):=by omega
   obtain⟨a,u,Au,cu,rfl,-,hu,⟨p0,p1,p2,p3⟩,hnu⟩:=af.out.nd hI;have gG:kid t 2=u:=by unfold kid;rw[List.getD_eq_getElem?_getD,List.getElem?_eq_getElem hI];exact hu.out
   have uL:=zh (show ∀x∈u.ks,G C.p.prs x by rw[<-gG];exact hG2);have gU:=zh (show brO C.p.prs C.F g back t r=(runO C.p.prs C.F g back u r1).bind (zks C.F t2 false) by rw[kY.out];simp only[Bool.false_eq_true,if_false,if_true,gG]);have hgu:runO C.p.prs C.F g back u r1 ≠ .gas:=fun e=>dA.out (by rw[gU.out,e];rfl);have aC:=zh (zlq HS.out iw.out HR4.out u _ back hnu uL.out hgu);have ha:a.add (2*4)=⟨a.block,a.off+8,none⟩:=by unfold Addr.add;split<;>simp_all
   rw[ha]at p0 p1 p2 p3;have q0:w4.cell? ⟨a.block,a.off+8,none⟩=some (.int .u8 u.k):=zb aF.out p0;have q1:w4.cell? ⟨a.block,a.off+8+1,none⟩=some (.int .i64 u.n):=zb aF.out p1;have q2:w4.cell? ⟨a.block,a.off+8+2,none⟩=some (.string u.s):=zb aF.out p2;have q3:w4.cell? ⟨a.block,a.off+8+3,none⟩=some (.slice Au u.ks.length cu):=zb aF.out p3;clear gG hnu hu p0 p1 p2 p3 hgu;go_wp2_with fail;refine aC.out.mono ?_;rintro e w5 ⟨hk5,hb5,lD⟩;have iQ:=zh (dM.out.trans (Kpt.less (C:=C) hk5));have aO:=zh (show Below C.w.heap.size C.w w5 from hb5);have cZ:match runO C.p.prs C.F g back u r1 with
    | .gas=>True
    | .err x=>e=zlK x
    | .ok r=>(∃u,e=.returned u)/\RI (C.plus W.heap.size hi) w5 r:=lD
   have k5:=hk5.blk (.inr (.inr ⟨by omega,l2⟩)) K5.out;have K6:=zh k5;clear q0 q1 q2 q3 z3 hk5 hb5 lD k5
   cases hx:runO C.p.prs C.F g back u r1 with
   | gas=>exact absurd (by rw[gU.out,hx];rfl) dA.out
   | err x =>
    rw[hx]at cZ;subst cZ;refine⟨rfl,iQ.out,aO.out,?_⟩;rw[gU.out,hx];rfl
   | ok r2 =>
    rw[hx]at cZ;obtain⟨⟨u2,rfl⟩,hr2⟩:=cZ;have HAS:=zh (zmT iw.out hr2 t2 _ aK.out false);have jO:=zh (show brO C.p.prs C.F g back t r=zks C.F t2 false r2 by rw[gU.out,hx];rfl);have q0:w5.cell? ⟨w2.heap.size+1,0,none⟩=some (.int .u8 t2.k):=zc K6.out rfl;have q1:w5.cell? ⟨w2.heap.size+1,1,none⟩=some (.int .i64 t2.n):=zc K6.out rfl;have q2:w5.cell? ⟨w2.heap.size+1,2,none⟩=some (.string t2.s):=zc K6.out rfl;have q3:w5.cell? ⟨w2.heap.size+1,3,none⟩=some (.slice A2 t2.ks.length c2):=zc K6.out rfl;clear hx hr2;go_wp2_with fail;refine HAS.out.mono ?_;rintro e w6 ⟨bS,hb6,kC⟩;have dS:=zh (iQ.out.trans (Kpt.less (C:=C) bS));have aU:=zh (show Below C.w.heap.size C.w w6 from hb6);have cK:match zks C.F t2 false r2 with
     | .gas=>True
     | .err x=>e=zlK x
     | .ok r=>(∃u,e=.returned u)/\RI (C.plus W.heap.size hi) w6 r:=kC
    clear q0 q1 q2 q3 bS hb6 kC
    cases hy:zks C.F t2 false r2 with
    | gas=>exact absurd (by rw[jO.out,hy]) dA.out
    | err x =>
     rw[hy]at cK;subst cK;refine⟨rfl,dS.out,aU.out,?_⟩;rw[jO.out,hy]
    | ok r3 =>
     rw[hy]at cK;obtain⟨⟨u3,rfl⟩,hr3⟩:=cK;have gL:=zh hr3.less;have uT:=zh (show brO C.p.prs C.F g back t r=.ok r3 by rw[jO.out,hy]);clear hr3 hy;go_wp2_with fail;go_end0;refine⟨dS.out,aU.out,?_⟩;rw[uT.out];exact⟨⟨_,rfl⟩,gL.out⟩
  ·skip
   have hI:1<t.ks.length:=by have:=nH.out;omega
   have hI1:(1:Int)<(t.ks.length:Int):=by omega
   obtain⟨a,u,Au,cu,rfl,-,hu,⟨p0,p1,p2,p3⟩,hnu⟩:=af.out.nd hI;have gG:kid t 1=u:=by unfold kid;rw[List.getD_eq_getElem?_getD,List.getElem?_eq_getElem hI];exact hu.out
   have uL:=zh (show ∀x∈u.ks,G C.p.prs x by rw[<-gG];exact hG1);have gU:=zh (show brO C.p.prs C.F g back t r=(runO C.p.prs C.F g back u r1).bind (zks C.F t2 true) by rw[kY.out];simp only[Bool.false_eq_true,if_false,if_true,gG]);have hgu:runO C.p.prs C.F g back u r1 ≠ .gas:=fun e=>dA.out (by rw[gU.out,e];rfl);have aC:=zh (zlq HS.out iw.out HR4.out u _ back hnu uL.out hgu);have ha:a.add (1*4)=⟨a.block,a.off+4,none⟩:=by unfold Addr.add;split<;>simp_all
   rw[ha]at p0 p1 p2 p3;have q0:w4.cell? ⟨a.block,a.off+4,none⟩=some (.int .u8 u.k):=zb aF.out p0;have q1:w4.cell? ⟨a.block,a.off+4+1,none⟩=some (.int .i64 u.n):=zb aF.out p1;have q2:w4.cell? ⟨a.block,a.off+4+2,none⟩=some (.string u.s):=zb aF.out p2;have q3:w4.cell? ⟨a.block,a.off+4+3,none⟩=some (.slice Au u.ks.length cu):=zb aF.out p3;clear gG hnu hu p0 p1 p2 p3 hgu;go_wp2_with fail;refine aC.out.mono ?_;rintro e w5 ⟨hk5,hb5,lD⟩;have iQ:=zh (dM.out.trans (Kpt.less (C:=C) hk5));have aO:=zh (show Below C.w.heap.size C.w w5 from hb5);have cZ:match runO C.p.prs C.F g back u r1 with
    | .gas=>True
    | .err x=>e=zlK x
    | .ok r=>(∃u,e=.returned u)/\RI (C.plus W.heap.size hi) w5 r:=lD
   have k5:=hk5.blk (.inr (.inr ⟨by omega,l2⟩)) K5.out;have K6:=zh k5;clear q0 q1 q2 q3 z3 hk5 hb5 lD k5
   cases hx:runO C.p.prs C.F g back u r1 with
   | gas=>exact absurd (by rw[gU.out,hx];rfl) dA.out
   | err x =>
    rw[hx]at cZ;subst cZ;refine⟨rfl,iQ.out,aO.out,?_⟩;rw[gU.out,hx];rfl
   | ok r2 =>
    rw[hx]at cZ;obtain⟨⟨u2,rfl⟩,hr2⟩:=cZ;have HAS:=zh (zmT iw.out hr2 t2 _ aK.out true);have jO:=zh (show brO C.p.prs C.F g back t r=zks C.F t2 true r2 by rw[gU.out,hx];rfl);have q0:w5.cell? ⟨w2.heap.size+1,0,none⟩=some (.int .u8 t2.k):=zc K6.out rfl;have q1:w5.cell? ⟨w2.heap.size+1,1,none⟩=some (.int .i64 t2.n):=zc K6.out rfl;have q2:w5.cell? ⟨w2.heap.size+1,2,none⟩=some (.string t2.s):=zc K6.out rfl;have q3:w5.cell? ⟨w2.heap.size+1,3,none⟩=some (.slice A2 t2.ks.length c2):=zc K6.out rfl;clear hx hr2;go_wp2_with fail;refine HAS.out.mono ?_;rintro e w6 ⟨bS,hb6,kC⟩;have dS:=zh (iQ.out.trans (Kpt.less (C:=C) bS));have aU:=zh (show Below C.w.heap.size C.w w6 from hb6);have cK:match zks C.F t2 true r2 with
     | .gas=>True
     | .err x=>e=zlK x
     | .ok r=>(∃u,e=.returned u)/\RI (C.plus W.heap.size hi) w6 r:=kC
    clear q0 q1 q2 q3 bS hb6 kC
    cases hy:zks C.F t2 true r2 with
    | gas=>exact absurd (by rw[jO.out,hy]) dA.out
    | err x =>
     rw[hy]at cK;subst cK;refine⟨rfl,dS.out,aU.out,?_⟩;rw[jO.out,hy]
    | ok r3 =>
     rw[hy]at cK;obtain⟨⟨u3,rfl⟩,hr3⟩:=cK;have gL:=zh hr3.less;have uT:=zh (show brO C.p.prs C.F g back t r=.ok r3 by rw[jO.out,hy]);clear hr3 hy;go_wp2_with fail;go_end0;refine⟨dS.out,aU.out,?_⟩;rw[uT.out];exact⟨⟨_,rfl⟩,gL.out⟩
def Up(n:Nat)(o:Out):Prop:=∀r,o=.ok r->n<=r.n
section
variable {m n:Nat} {o:Out} {F:Int} {t:T} {r:RS}
theorem Up.of(h:Good n o):Up n o:=h.2
theorem Up.mono(h:Up n o)(hm:m<=n):Up m o:=fun r e=>Nat.le_trans hm (h r e)
theorem Up.bind{f:RS->Out}(h:Up n o)(hf:∀r,n<=r.n->Up m (f r)):Up m (o.bind f):=by
 cases o with
 | gas=>intro r e;cases e
 | err x=>intro r e;cases e
 | ok r=>exact hf r (h r rfl)
theorem zq1{f:Int->RS->Out}(hf:∀x,Up m (f x r)):Up m (valO t r f):=by
 unfold valO
 split
 ·intro r e;cases e
 ·exact hf _
theorem zov{f:Bool->RS->Out}(hf:∀b r',r.n+1<=r'.n->Up m (f b r')):Up m (zk0 F t r f):=by
 unfold zk0;exact(Up.of (zkv F r)).bind fun r' h=>zq1 fun x=>hf _ _ h
theorem zmS{f:T->RS->Out}(hf:∀t r,Up r.n (f t r)):∀(l:List T) (r:RS),Up r.n (zkK f l r)
 | [],r=>fun r' e=>by injection e with e;subst e;exact zl
 | t::ts,r=>by
  rw[zkK];exact(hf t r).bind fun r1 h1=>(zmS hf ts r1).mono h1
theorem zse{f:T->RS->Out}(hf:∀t r,Up r.n (f t r)){entry test:T}{l1 l2:List T}:∀(m:Nat) (r:RS),Up r.n (zlJ F f entry test l1 l2 m r)
 | 0,_=>fun r' e=>by cases e
 | m+1,r=>by
  rw[zlJ];refine(zmS hf l1 r).bind fun r1 h1=>zov fun b r2 h2=>?_
  split
  ·intro r' e;injection e with e;subst e;omega
  ·refine(zmS hf l2 r2).bind fun r3 h3=>(Up.of (zls F entry false r3)).bind fun r4 h4=>?_;exact(zse hf m r4).mono (by omega)
end
theorem zn3{prs:List PR}{F:Int}:∀(g:Nat) (back:Bool) (t:T) (r:RS),Up r.n (zkt prs F g back t r)
 | 0,_,_,_=>fun r' e=>by cases e
 | g+1,back,t,r=>by
  have hb:∀(back:Bool) l r1,Up r1.n (zkK (zkt prs F g back) l r1):=fun back l r1=>zmS (fun u r2=>zn3 g back u r2) l r1;rw[zkt]
  split
  ·exact zov fun b r1 h1=>(hb _ _ r1).bind fun r2 h2=>(Up.of (zls _ _ _ _)).mono (by omega)
  ·split
   ·refine(Up.of (zls _ _ _ _)).bind fun r1 h1=>?_;exact(zse (fun u r2=>zn3 g back u r2) g r1).mono (by omega)
   ·split
    ·refine(Up.of (zkv F r)).bind fun r1 h1=>zq1 fun x=>?_;refine(Up.of (zkE r1 _)).bind fun r2 h2=>(hb _ _ r2).bind fun r3 h3=>(Up.of (zkv F r3)).bind fun r4 h4=>zq1 fun x=>?_;exact(Up.of (zkE r4 _)).mono (by omega)
    ·split
     ·refine(Up.of (zkv F r)).bind fun r1 h1=>?_;refine(Up.of (zkE r1 _)).bind fun r2 h2=>(hb _ _ r2).bind fun r3 h3=>(Up.of (zkv F r3)).bind fun r4 h4=>?_;exact(Up.of (zkE r4 _)).mono (by omega)
     ·split
      ·split
       ·intro r' e;cases e
       ·refine(Up.of (zkv F r)).bind fun r1 h1=>?_;refine(Up.of (zkE r1 _)).bind fun r2 h2=>(hb _ _ _).bind fun r3 h3=>(Up.of (zkv F r3)).bind fun r4 h4=>?_;exact(Up.of (zkE r4 _)).mono (by simp only at h3;omega)
      ·refine(Up.of (zkv F r)).bind fun r1 h1=>?_;exact(Up.of (zkE r1 _)).mono (by omega)
def lpO(prs:List PR)(F:Int)(g:Nat)(back:Bool)(t:T)(r:RS):Out :=
 (zks F (fstT back t) true r).bind (zlJ F (zkt prs F g back) (fstT back t) (lstT back t) (blkL back (kid t 1)) (blkL back (kid t 2)) g)
def stp(rb:Nat)(W:World):Nat:=match W.cell? ⟨rb,7,none⟩with
 | some (.int _ n)=>n.toNat
 | _=>0
theorem zxN{C:RC}{W:World}{r:RS}(h:RI C W r):stp C.rb W=r.n:=by
 unfold stp;rw[h.cells.2.1];simp
theorem zwD{G:List PR->T->Prop}{g:Nat}(hS:IStC G g){C:RC}(hC:C.Ok){W:World}{r:RS}(h:RI C W r)(t:T)(v:Value)(back:Bool)(hv:NV C.w Any t v)(hk:t.ks.length=4)(hG1:∀u∈(kid t 1).ks,G C.p.prs u)(hG2:∀u∈(kid t 2).ks,G C.p.prs u)
  (aG:lpO C.p.prs C.F g back t r ≠ .gas) :
  Calls prog 177 #[.pointer (some ⟨C.rb,0,none⟩),v,.bool back] W (RunP C W (lpO C.p.prs C.F g back t r)):=by
 obtain⟨A,c,rfl,-,hlk,hlc,hrow⟩:=hv.open_;have af:=zh hrow;have HS:=zh hS;have HV:=zh hv;have hb0:=zkb (zs W) (.cells #[.int .u8 t.k,.int .i64 t.n,.string t.s,.slice A t.ks.length c] 41);obtain⟨x0,x1,x2,x3⟩:=box4 (heap_alloc_new W (.cells #[.int .u8 t.k,.int .i64 t.n,.string t.s,.slice A t.ks.length c] 41));have HB0:=zh hb0;have H:=zh h;have HC:=zh hC;have HX:=zh (heap_alloc_new W (.cells #[.int .u8 t.k,.int .i64 t.n,.string t.s,.slice A t.ks.length c] 41));have nM:=zh (fun w' (hb:Below W.heap.size W w')=>zpT t _ back C.w w' (zka h.below hb) hv (by omega));have nH:=zh hk;clear hrow hS hb0 h hv hk hC hlk;go_enter func177,ntmps177;go_wp2_with fail;refine(nM.out _ HB0.out).mono ?_;rintro e w2 ⟨v1,v2,rfl,n1,n2,b2⟩;obtain⟨t1,ht1⟩:=zX (fstT back t);obtain⟨t2,ht2⟩:=zX (lstT back t);have HT1:=zh ht1;have HT2:=zh ht2;rw[ht1]at n1;rw[ht2]at n2;obtain⟨A1,c1,rfl,-⟩:=n1.open_
 obtain⟨A2,c2,rfl,-⟩:=n2.open_;have kV:=zh n1;have aK:=zh n2;have b3:=zkb (zkb (zka HB0.out b2) (.cells #[.int .u8 t1.k,.int .i64 t1.n,.string t1.s,.slice A1 t1.ks.length c1] 41)) (.cells #[.int .u8 t2.k,.int .i64 t2.n,.string t2.s,.slice A2 t2.ks.length c2] 41);have k0:=zke (zke (zkc HX.out b2) (.cells #[.int .u8 t1.k,.int .i64 t1.n,.string t1.s,.slice A1 t1.ks.length c1] 41)) (.cells #[.int .u8 t2.k,.int .i64 t2.n,.string t2.s,.slice A2 t2.ks.length c2] 41);have k1:=zke (heap_alloc_new w2 (.cells #[.int .u8 t1.k,.int .i64 t1.n,.string t1.s,.slice A1 t1.ks.length c1] 41)) (.cells #[.int .u8 t2.k,.int .i64 t2.n,.string t2.s,.slice A2 t2.ks.length c2] 41);have k2:=heap_alloc_new (w2.alloc (.cells #[.int .u8 t1.k,.int .i64 t1.n,.string t1.s,.slice A1 t1.ks.length c1] 41)) (.cells #[.int .u8 t2.k,.int .i64 t2.n,.string t2.s,.slice A2 t2.ks.length c2] 41)
 simp only[World.size_alloc]at k2;obtain⟨w3,hw3⟩:=zX ((w2.alloc (.cells #[.int .u8 t1.k,.int .i64 t1.n,.string t1.s,.slice A1 t1.ks.length c1] 41)).alloc (.cells #[.int .u8 t2.k,.int .i64 t2.n,.string t2.s,.slice A2 t2.ks.length c2] 41));rw[hw3]at b3 k0 k1 k2;have hz2:=zka HB0.out b2;have hzz:=hz2.size;obtain⟨fu,h3⟩:=H.out.plus HC.out b3;have bT:=zh (Kpt.of_below (n0:=C.n0) (kb:=C.kb) b3);have l0:=zko k0;have l1:=zko k1;have l2:=zko k2;obtain⟨hi,hhi⟩:=zX (w3.heap.size);rw[hhi]at fu h3 l0 l1 l2;have iw:=zh fu;have H3:=zh h3;have K0:=zh k0;have K1:=zh k1;have K2:=zh k2;have iT:=zh (zmT fu h3 t1 _ n1 true)
 obtain⟨p1,⟨y0,y1,y2,y3⟩⟩:True/\(w3.cell? ⟨w2.heap.size,0,none⟩=some (.int .u8 t1.k)/\w3.cell? ⟨w2.heap.size,1,none⟩=some (.int .i64 t1.n)/\w3.cell? ⟨w2.heap.size,2,none⟩=some (.string t1.s)/\w3.cell? ⟨w2.heap.size,3,none⟩=some (.slice A1 t1.ks.length c1)):=⟨trivial,zc k1 rfl,zc k1 rfl,zc k1 rfl,zc k1 rfl⟩
 clear n1 n2 b2 b3 k0 k1 k2 hz2 fu h3 x0 x1 x2 x3 HX HB0 nM p1 ht1 ht2;go_upto_region 2 with fail;clear hw3;obtain⟨o,ho⟩:=zX (lpO C.p.prs C.F g back t r);have HO:=zh (show(zks C.F t1 true r).bind (zlJ C.F (zkt C.p.prs C.F g back) t1 t2 (blkL back (kid t 1)) (blkL back (kid t 2)) g)=o by rw[<-ho];unfold lpO;rw[HT1.out,HT2.out]);rw[ho]at aG ⊢;have dA:=zh aG;have bP:=zh ho;clear aG ho;go_wp2_with fail;refine iT.out.mono ?_;rintro e w4 ⟨hk4,hb4,fq⟩;have dM:=zh (bT.out.trans (Kpt.less (C:=C) hk4));have aF:=zh (show Below C.w.heap.size C.w w4 from hb4);have bD:match zks C.F t1 true r with
  | .gas=>True
  | .err x=>e=zlK x
  | .ok r=>(∃u,e=.returned u)/\RI (C.plus W.heap.size hi) w4 r:=fq
 have dU:=zh hk4;clear y0 y1 y2 y3 iT hk4 hb4 fq
 cases hy:zks C.F t1 true r with
 | gas=>exact absurd (by rw[<-HO.out,hy];rfl) dA.out
 | err x =>
  rw[hy]at bD;subst bD;refine⟨rfl,dM.out,aF.out,?_⟩;rw[<-HO.out,hy];rfl
 | ok r1 =>
  rw[hy]at bD;obtain⟨⟨u3,rfl⟩,hr1⟩:=bD;have HR4:=zh hr1;have jc:=zh (show zlJ C.F (zkt C.p.prs C.F g back) t1 t2 (blkL back (kid t 1)) (blkL back (kid t 2)) g r1=o by rw[<-HO.out,hy];rfl);clear hr1 hy;have hI1:(1:Int)<(t.ks.length:Int):=by have:=nH.out;omega
  have hI2:(2:Int)<(t.ks.length:Int):=by have:=nH.out;omega
  have hi1:1<t.ks.length:=by omega
  have hi2:2<t.ks.length:=by omega
  obtain⟨a,u,Au,cu,rfl,-,hu,⟨p0,p1,p2,p3⟩,hnu⟩:=af.out.nd hi1;obtain⟨a',u',Au',cu',e',-,hu',⟨p4,p5,p6,p7⟩,hnu'⟩:=af.out.nd hi2;injection e' with e';subst e';have gG:kid t 1=u:=by unfold kid;rw[List.getD_eq_getElem?_getD,List.getElem?_eq_getElem hi1];exact hu.out
  have sO:kid t 2=u':=by unfold kid;rw[List.getD_eq_getElem?_getD,List.getElem?_eq_getElem hi2];exact hu'.out
  rw[gG]at hG1;rw[sO]at hG2;rw[gG,sO]at jc;have zk:=zh hG1;have HG2:=zh hG2;have xM:=zh hnu;have HNU':=zh hnu';have ha:a.add (1*4)=⟨a.block,a.off+4,none⟩:=by unfold Addr.add;split<;>simp_all
  have ha':a.add (2*4)=⟨a.block,a.off+8,none⟩:=by unfold Addr.add;split<;>simp_all
  rw[ha]at p0 p1 p2 p3;rw[ha']at p4 p5 p6 p7;have vT:=zh (show ∀w',Below C.w.heap.size C.w w'->(w'.cell? ⟨a.block,a.off+4,none⟩=some (.int .u8 u.k)/\w'.cell? ⟨a.block,a.off+4+1,none⟩=some (.int .i64 u.n)/\w'.cell? ⟨a.block,a.off+4+2,none⟩=some (.string u.s)/\w'.cell? ⟨a.block,a.off+4+3,none⟩=some (.slice Au u.ks.length cu))/\(w'.cell? ⟨a.block,a.off+8,none⟩=some (.int .u8 u'.k)/\w'.cell? ⟨a.block,a.off+8+1,none⟩=some (.int .i64 u'.n)/\w'.cell? ⟨a.block,a.off+8+2,none⟩=some (.string u'.s)/\w'.cell? ⟨a.block,a.off+8+3,none⟩=some (.slice Au' u'.ks.length cu'))from fun w' hb=>⟨⟨zb hb p0,zb hb p1,zb hb p2,zb hb p3⟩,⟨zb hb p4,zb hb p5,zb hb p6,zb hb p7⟩⟩);clear gG sO hnu hnu' hu hu' p0 p1 p2 p3 p4 p5 p6 p7 ha ha' hG1 hG2;have hz0:W.heap.size<hi:=l0;go_wp2_with fail
  go_loopw [] (fun wr=>∃(m:Nat) (r1:RS),Hid (RI (C.plus W.heap.size hi) wr r1)/\Hid (Kpt C.n0 (C.plus W.heap.size hi).kb w3 wr)/\Hid (zlJ C.F (zkt C.p.prs C.F g back) t1 t2 (blkL back u) (blkL back u') m r1=o)) (fun wr=>C.F.toNat-stp C.rb wr)
  case atStart=>exact⟨g,r1,HR4,dU,jc⟩
  case round =>
   obtain⟨m,r3,HR,HK,HL⟩:=hrel;have j0:=HK.out.blk (.inr (.inr ⟨by omega,l0⟩)) K0.out;have j1:=HK.out.blk (.inr (.inr ⟨by omega,l1⟩)) K1.out;have j2:=HK.out.blk (.inr (.inr ⟨by omega,l2⟩)) K2.out;have z3:wr.cell? ⟨W.heap.size,3,none⟩=some (.slice (some a) t.ks.length c):=zc j0 rfl
   cases m with
   | zero=>exact absurd HL.out.symm dA.out
   | succ m =>
    have HL2:=zh (show(runO C.p.prs C.F g back u r3).bind (fun r=>zk0 C.F t2 r fun b r=>if b=true then .ok r else(runO C.p.prs C.F g back u' r).bind fun r=>(zks C.F t1 false r).bind (zlJ C.F (zkt C.p.prs C.F g back) t1 t2 (blkL back u) (blkL back u') m))=o from HL.out);have hgu:runO C.p.prs C.F g back u r3 ≠ .gas:=fun e=>dA.out (by rw[<-HL2.out,e];rfl);have aC:=zh (zlq HS.out iw.out HR.out u _ back xM.out zk.out hgu);obtain⟨⟨q0,q1,q2,q3⟩,-⟩:=vT.out wr HR.out.below;clear hgu j0 j1 j2;go_wp2_with fail;refine aC.out.mono ?_;rintro e w5 ⟨hk5,hb5,lD⟩;have iQ:=zh (HK.out.trans hk5);have aO:=zh (show Below C.w.heap.size C.w w5 from hb5);have cZ:match runO C.p.prs C.F g back u r3 with
     | .gas=>True
     | .err x=>e=zlK x
     | .ok r=>(∃u,e=.returned u)/\RI (C.plus W.heap.size hi) w5 r:=lD
    clear q0 q1 q2 q3 z3 hk5 hb5 lD aC
    cases hx:runO C.p.prs C.F g back u r3 with
    | gas=>exact absurd (by rw[<-HL2.out,hx];rfl) dA.out
    | err x =>
     rw[hx]at cZ;subst cZ;refine⟨rfl,bT.out.trans (Kpt.less (C:=C) iQ.out),aO.out,?_⟩
     try rw[bP.out]
     rw[<-HL2.out,hx];rfl
    | ok r4 =>
     rw[hx]at cZ;obtain⟨⟨u2,rfl⟩,hr4⟩:=cZ;have vN:=zh (zmS (fun t r=>zn3 g back t r) (blkL back u) r3 r4 hx);have HL3:=zh (show(zk0 C.F t2 r4 fun b r=>if b=true then .ok r else(runO C.p.prs C.F g back u' r).bind fun r=>(zks C.F t1 false r).bind (zlJ C.F (zkt C.p.prs C.F g back) t1 t2 (blkL back u) (blkL back u') m))=o by rw[<-HL2.out,hx];rfl);have HHO2:=zh (zou iw.out hr4 t2 _ aK.out);have j2:=iQ.out.blk (.inr (.inr ⟨by omega,l2⟩)) K2.out;have q0:w5.cell? ⟨w2.heap.size+1,0,none⟩=some (.int .u8 t2.k):=zc j2 rfl;have q1:w5.cell? ⟨w2.heap.size+1,1,none⟩=some (.int .i64 t2.n):=zc j2 rfl;have q2:w5.cell? ⟨w2.heap.size+1,2,none⟩=some (.string t2.s):=zc j2 rfl;have q3:w5.cell? ⟨w2.heap.size+1,3,none⟩=some (.slice A2 t2.ks.length c2):=zc j2 rfl;clear hx hr4 j2;go_wp2_with fail;refine HHO2.out.mono ?_;rintro e w6 ⟨bS,hb6,kC⟩;have dS:=zh (iQ.out.trans bS)
     have aU:=zh (show Below C.w.heap.size C.w w6 from hb6);clear q0 q1 q2 q3 bS hb6 HHO2;rcases kC with⟨x,rfl,hx⟩|⟨b,r5,rfl,ko,hx⟩
     ·refine⟨rfl,bT.out.trans (Kpt.less (C:=C) dS.out),aU.out,?_⟩
      try rw[bP.out]
      rw[<-HL3.out,show ∀f,zk0 C.F t2 r4 f=.err x from hx]
     ·have gL:=zh ko;have HL4:=zh (show(if b=true then .ok r5 else(runO C.p.prs C.F g back u' r5).bind fun r=>(zks C.F t1 false r).bind (zlJ C.F (zkt C.p.prs C.F g back) t1 t2 (blkL back u) (blkL back u') m))=o by rw[<-HL3.out,show ∀f,zk0 C.F t2 r4 f=f b r5 from hx]);have HUP2:=zh (zov (t:=t2) (F:=C.F) (r:=r4) (m:=r4.n+1) (f:=fun _ r=>.ok r) (fun b r' h r'' e=>by injection e with e;subst e;exact h) r5 (hx _));clear hx ko
      cases b
      ·have kX:=zh (show(runO C.p.prs C.F g back u' r5).bind (fun r=>(zks C.F t1 false r).bind (zlJ C.F (zkt C.p.prs C.F g back) t1 t2 (blkL back u) (blkL back u') m))=o from HL4.out);have hgu:runO C.p.prs C.F g back u' r5 ≠ .gas:=fun e=>dA.out (by rw[<-kX.out,e];rfl);have aC:=zh (zlq HS.out iw.out gL.out u' _ back HNU'.out HG2.out hgu);have j0:=dS.out.blk (.inr (.inr ⟨by omega,l0⟩)) K0.out;have z3:w6.cell? ⟨W.heap.size,3,none⟩=some (.slice (some a) t.ks.length c):=zc j0 rfl;obtain⟨-,q0,q1,q2,q3⟩:=vT.out w6 aU.out;clear hgu j0;go_wp2_with fail;refine aC.out.mono ?_;rintro e w7 ⟨pE,dR,ho7⟩;have rA:=zh (dS.out.trans pE);have Cz:=zh (show Below C.w.heap.size C.w w7 from dR);have oZ:match runO C.p.prs C.F g back u' r5 with
        | .gas=>True
        | .err x=>e=zlK x
        | .ok r=>(∃u,e=.returned u)/\RI (C.plus W.heap.size hi) w7 r:=ho7
       clear q0 q1 q2 q3 z3 pE dR ho7 aC
       cases hx:runO C.p.prs C.F g back u' r5 with
       | gas=>exact absurd (by rw[<-kX.out,hx];rfl) dA.out
       | err x =>
        rw[hx]at oZ;subst oZ;refine⟨rfl,bT.out.trans (Kpt.less (C:=C) rA.out),Cz.out,?_⟩
        try rw[bP.out]
        rw[<-kX.out,hx];rfl
       | ok r6 =>
        rw[hx]at oZ;obtain⟨⟨u2,rfl⟩,dO⟩:=oZ;have HUP3:=zh (zmS (fun t r=>zn3 g back t r) (blkL back u') r5 r6 hx);have Cg:=zh (show(zks C.F t1 false r6).bind (zlJ C.F (zkt C.p.prs C.F g back) t1 t2 (blkL back u) (blkL back u') m)=o by rw[<-kX.out,hx];rfl);have HAS:=zh (zmT iw.out dO t1 _ kV.out false);have j1:=rA.out.blk (.inr (.inr ⟨by omega,l1⟩)) K1.out;have q0:w7.cell? ⟨w2.heap.size,0,none⟩=some (.int .u8 t1.k):=zc j1 rfl;have q1:w7.cell? ⟨w2.heap.size,1,none⟩=some (.int .i64 t1.n):=zc j1 rfl;have q2:w7.cell? ⟨w2.heap.size,2,none⟩=some (.string t1.s):=zc j1 rfl;have q3:w7.cell? ⟨w2.heap.size,3,none⟩=some (.slice A1 t1.ks.length c1):=zc j1 rfl;clear hx dO j1;go_wp2_with fail;refine HAS.out.mono ?_;rintro e w8 ⟨jU,dh,qL⟩;have vZ:=zh (rA.out.trans jU);have eY:=zh (show Below C.w.heap.size C.w w8 from dh)
        have cz:match zks C.F t1 false r6 with
         | .gas=>True
         | .err x=>e=zlK x
         | .ok r=>(∃u,e=.returned u)/\RI (C.plus W.heap.size hi) w8 r:=qL
        clear q0 q1 q2 q3 jU dh qL HAS
        cases hy:zks C.F t1 false r6 with
        | gas=>exact absurd (by rw[<-Cg.out,hy];rfl) dA.out
        | err x =>
         rw[hy]at cz;subst cz;refine⟨rfl,bT.out.trans (Kpt.less (C:=C) vZ.out),eY.out,?_⟩
         try rw[bP.out]
         rw[<-Cg.out,hy];rfl
        | ok r7 =>
         rw[hy]at cz;obtain⟨⟨u3,rfl⟩,nW⟩:=cz;have oC:=zh nW;have HL7:=zh (show zlJ C.F (zkt C.p.prs C.F g back) t1 t2 (blkL back u) (blkL back u') m r7=o by rw[<-Cg.out,hy];rfl);have hmm:C.F.toNat-stp C.rb w8<C.F.toNat-stp C.rb wr:=by
          have e1:stp C.rb w8=r7.n:=zxN (C:=C.plus W.heap.size hi) oC.out;have e2:stp C.rb wr=r3.n:=zxN (C:=C.plus W.heap.size hi) HR.out;obtain⟨e3,e4⟩:=znK hy;have e5:=vN.out;have e6:=HUP2.out;have e7:=HUP3.out;have e8:r7.n=r6.n+1:=by rw[e3]
          omega
         have oF:=zh hmm;clear nW hy hmm;go_wp2_with fail
         go_roundw
         case rel=>exact⟨m,r7,oC,vZ,HL7⟩
         case measure=>exact oF.out
      ·have kX:=zh (show o=.ok r5 from HL4.out.symm);have ig:=zh gL.out.less;go_wp2_with fail;go_end0;refine⟨bT.out.trans (Kpt.less (C:=C) dS.out),aU.out,?_⟩
       try rw[bP.out]
       rw[kX.out];exact⟨⟨_,rfl⟩,ig.out⟩
section
variable {C:RC} {W W':World} {r:RS} {S':ST}
theorem RI.store(h:RI C W r)(hk:KS C.w C.n0 C.sb (fun b=>C.kb b\/b=C.rb\/C.ev.ownBlock=some b) W' S')(hp:Kpt C.n0 (fun b=>C.kb b\/b=C.rb\/C.ev.ownBlock=some b) W W')(hf:FB r.n S') :
  RI C W' { r with S:=S' }/\Kpt C.n0 C.kb W W' :=
 ⟨⟨hk,hp.blk (.inr (.inr (.inl rfl))) h.box,zmi h.ent fun b hb=>hp.kept b (h.ent.lt b hb).2 (.inr (.inr (.inr hb))),h.el,h.en,h.n,hf⟩,⟨hp.size,fun b hb hk=>hp.kept b hb (hk.imp id .inl)⟩⟩
end
theorem FB.fr{j:Nat}{S S':ST}(h:FB j S)(hf:FrK S S'):FB (j+1) S':=by
 obtain⟨h1,h2,_⟩:=hf;unfold FB;rw[h1,h2];exact h.mono (Nat.le_succ _)
theorem FB.cur{j:Nat}{S:ST}(h:FB j S):S.cur.vs.length<=1000+j:=by
 rcases Nat.eq_zero_or_pos S.calls.length with h0|h0
 ·rw[zmo h0];have:=h.1;omega
 ·rw[zmu h0];exact h.2 _ (List.getElem_mem _)
theorem FB.setCur{j:Nat}{S:ST}(h:FB j S)(f:FR)(hf:f.vs.length<=S.cur.vs.length+1):FB (j+1) (S.setCur f):=by
 unfold ST.setCur;by_cases h0:S.calls.length=0
 ·rw[if_pos h0];rw[zmo h0]at hf;exact⟨by have:=h.1;show f.vs.length<=_;omega,(h.mono (Nat.le_succ _)).2⟩
 ·rw[if_neg h0];refine⟨(h.mono (Nat.le_succ _)).1,fun g hg=>?_⟩;rw[zmu (by omega)]at hf;rcases List.mem_or_eq_of_mem_set hg with hg|rfl
  ·exact(h.mono (Nat.le_succ _)).2 g hg
  ·have:=h.2 _ (List.getElem_mem (l:=S.calls) (n:=S.calls.length-1) (by omega));omega
theorem FB.open_{j:Nat}{S:ST}(h:FB j S)(v:VD)(x:Int):FB (j+1) (zk4 S v x).2:=by
 unfold zk4
 repeat' split
 all_goals first|exact h.mono (Nat.le_succ _)|exact FB.setCur (S:=S.newCell _) h _ (by rw[zm0];simp[FR.push])
theorem FB.close_{j:Nat}{S:ST}(h:FB j S)(s:ByteArray)(x:Int):FB (j+1) (zkG S s x).2:=by
 unfold zkG
 repeat' split
 all_goals first|exact h.mono (Nat.le_succ _)|skip
 all_goals exact h.setCur _ (by simp[FR.pop];omega)
theorem FB.enter{j:Nat}{S:ST}(h:FB j S)(ps:List VD)(ss:List ByteArray)(hp:ps.length<=1000):FB (j+1) (zk1 S ps ss).2:=by
 unfold zk1
 split
 ·exact h.mono (Nat.le_succ _)
 ·rcases he:entL S.cur ⟨[],[],0⟩ (ps.zip ss)with e|f
  ·exact h.mono (Nat.le_succ _)
  ·unfold entR;dsimp only
   split
   ·exact h.mono (Nat.le_succ _)
   ·refine⟨(h.mono (Nat.le_succ _)).1,fun g hg=>?_⟩;rcases List.mem_append.1 hg with hg|hg
    ·exact(h.mono (Nat.le_succ _)).2 g hg
    ·simp at hg;subst hg;have:=zss _ _ _ he;simp at this;omega
theorem FB.leave{j:Nat}{S:ST}(h:FB j S):FB (j+1) (zk2 S).2:=by
 unfold zk2
 split
 ·exact h.mono (Nat.le_succ _)
 ·exact⟨(h.mono (Nat.le_succ _)).1,fun g hg=>(h.mono (Nat.le_succ _)).2 g (List.mem_of_mem_take hg)⟩
theorem FB.do_{j:Nat}{S:ST}(h:FB j S)(t:T):FB (j+1) (doE S t).2:=h.fr (zuY _ _)
theorem FB.undo{j:Nat}{S:ST}(h:FB j S)(t:T):FB (j+1) (zmf S t).2:=h.fr (zv3 _ _)
theorem zlc{P:Program}{ops:Array Oper}{o:Oper}{a:Act}{w:World}{K:Act->World->Prop}{Q:Exit->Act->World->Prop}{F:Prop}(hw:Region.wanted o (yielded ops a.tmps)=true)(x:Operand)(xs:List Operand)(ats:Array TypeId)
  (ho:o.op=.call { callee:=.value x,args:=xs.toArray,argTypes:=ats })(f:FuncId)(fn:Func)(hf:IsFn P f fn)(hv:a.eval x=.func (.func f) #[] #[])(l:List Value)(hargs:xs.map a.eval=l)(R:Value->World->Prop)
  (hc:Calls P f l.toArray w fun e w'=>(∃v,e=.returned v/\R v w')\/∃ch,e=.panicked ch/\Q (.panic ch) a w')(h:∀v w',R v w'->K (a.put o.dst v) w') :
  if Region.wanted o (yielded ops a.tmps)=true then Oper.wp P o a w K Q else F:=by
 rw[if_pos hw];subst hargs;have e:(execOp a.eval o).run P w=.ok (.enter f (xs.map a.eval).toArray) w:=by
  unfold execOp;simp only[ho,resolve,hv,Deferred.ofValue,Sem.run_bind,Sem.run_pure,Result.andThen_ok,invoke,zkQ hf,Array.empty_append,List.map_toArray,Array.append_empty]
 unfold Oper.wp;rw[e,Oper.upon_enter];refine hc.mono ?_;rintro e w' (⟨v,rfl,hR⟩|⟨ch,rfl,hq⟩)
 ·exact h v w' hR
 ·exact hq
theorem zuz:IsFn prog 200 f200:=⟨func200,by kernel_rfl,by kernel_rfl⟩
theorem zmm:IsFn prog 180 f180:=⟨func180,by kernel_rfl,by kernel_rfl⟩
theorem zuE:IsFn prog 181 f181:=⟨func181,by kernel_rfl,by kernel_rfl⟩
theorem zsn:IsFn prog 182 f182:=⟨func182,by kernel_rfl,by kernel_rfl⟩
def loR(prs:List PR)(F:Int)(g:Nat)(back:Bool)(t t2:T)(r:RS):Out :=
 (zkK (zkt prs F g back) (blkL back (kid t 1)) r).bind fun r=>(zkB F r).bind fun r=>valO t2 r fun x r=>zkj r (zkG r.S t.s x)
def loO(prs:List PR)(F:Int)(g:Nat)(back:Bool)(t:T)(r:RS):Out :=
 (zkB F r).bind fun r=>valO (fstT back t) r fun x r=>(zkj r (zk4 r.S ⟨t.s,1,0⟩ x)).bind (loR prs F g back t (lstT back t))
theorem zuj{G:List PR->T->Prop}{g:Nat}(hS:IStC G g){C:RC}(hC:C.Ok){W:World}{r:RS}(h:RI C W r)(t:T)(v:Value)(back:Bool)(hv:NV C.w Any t v)(hk:t.ks.length=3)(hG1:∀u∈(kid t 1).ks,G C.p.prs u)
  (aG:loO C.p.prs C.F g back t r ≠ .gas) :
  Calls prog 178 #[.pointer (some ⟨C.rb,0,none⟩),v,.bool back] W (RunP C W (loO C.p.prs C.F g back t r)):=by
 obtain⟨A,c,rfl,-,hlk,hlc,hrow⟩:=hv.open_;have af:=zh hrow;have HS:=zh hS;have HV:=zh hv;have hb0:=zkb (zs W) (.cells #[.int .u8 t.k,.int .i64 t.n,.string t.s,.slice A t.ks.length c] 41);obtain⟨x0,x1,x2,x3⟩:=box4 (heap_alloc_new W (.cells #[.int .u8 t.k,.int .i64 t.n,.string t.s,.slice A t.ks.length c] 41));have HB0:=zh hb0;have H:=zh h;have HC:=zh hC;have HX:=zh (heap_alloc_new W (.cells #[.int .u8 t.k,.int .i64 t.n,.string t.s,.slice A t.ks.length c] 41));have nM:=zh (fun w' (hb:Below W.heap.size W w')=>zpT t _ back C.w w' (zka h.below hb) hv (by omega));have nH:=zh hk;clear hrow hS hb0 h hv hk hC hlk;go_enter func178,ntmps178;go_wp2_with fail;refine(nM.out _ HB0.out).mono ?_;rintro e w2 ⟨v1,v2,rfl,n1,n2,b2⟩;obtain⟨t1,ht1⟩:=zX (fstT back t);obtain⟨t2,ht2⟩:=zX (lstT back t);have HT1:=zh ht1;have HT2:=zh ht2;rw[ht1]at n1;rw[ht2]at n2;obtain⟨A1,c1,rfl,-⟩:=n1.open_
 obtain⟨A2,c2,rfl,-⟩:=n2.open_;have kV:=zh n1;have aK:=zh n2;have b3:=zkb (zkb (zka HB0.out b2) (.cells #[.int .u8 t1.k,.int .i64 t1.n,.string t1.s,.slice A1 t1.ks.length c1] 41)) (.cells #[.int .u8 t2.k,.int .i64 t2.n,.string t2.s,.slice A2 t2.ks.length c2] 41);have k0:=zke (zke (zkc HX.out b2) (.cells #[.int .u8 t1.k,.int .i64 t1.n,.string t1.s,.slice A1 t1.ks.length c1] 41)) (.cells #[.int .u8 t2.k,.int .i64 t2.n,.string t2.s,.slice A2 t2.ks.length c2] 41);have k1:=zke (heap_alloc_new w2 (.cells #[.int .u8 t1.k,.int .i64 t1.n,.string t1.s,.slice A1 t1.ks.length c1] 41)) (.cells #[.int .u8 t2.k,.int .i64 t2.n,.string t2.s,.slice A2 t2.ks.length c2] 41);have k2:=heap_alloc_new (w2.alloc (.cells #[.int .u8 t1.k,.int .i64 t1.n,.string t1.s,.slice A1 t1.ks.length c1] 41)) (.cells #[.int .u8 t2.k,.int .i64 t2.n,.string t2.s,.slice A2 t2.ks.length c2] 41)
 simp only[World.size_alloc]at k2;obtain⟨w3,hw3⟩:=zX ((w2.alloc (.cells #[.int .u8 t1.k,.int .i64 t1.n,.string t1.s,.slice A1 t1.ks.length c1] 41)).alloc (.cells #[.int .u8 t2.k,.int .i64 t2.n,.string t2.s,.slice A2 t2.ks.length c2] 41));rw[hw3]at b3 k0 k1 k2;have hz2:=zka HB0.out b2;have hzz:=hz2.size;obtain⟨fu,h3⟩:=H.out.plus HC.out b3;have bT:=zh (Kpt.of_below (n0:=C.n0) (kb:=C.kb) b3);have l0:=zko k0;have l1:=zko k1;have l2:=zko k2;obtain⟨hi,hhi⟩:=zX (w3.heap.size);rw[hhi]at fu h3 l0 l1 l2;have iw:=zh fu;have H3:=zh h3;have K0:=zh k0;have K1:=zh k1;have K2:=zh k2;have iT:=zh (zl1 fu h3)
 obtain⟨p1,⟨y0,y1,y2,y3⟩⟩:True/\(w3.cell? ⟨w2.heap.size,0,none⟩=some (.int .u8 t1.k)/\w3.cell? ⟨w2.heap.size,1,none⟩=some (.int .i64 t1.n)/\w3.cell? ⟨w2.heap.size,2,none⟩=some (.string t1.s)/\w3.cell? ⟨w2.heap.size,3,none⟩=some (.slice A1 t1.ks.length c1)):=⟨trivial,zc k1 rfl,zc k1 rfl,zc k1 rfl,zc k1 rfl⟩
 clear n1 n2 b2 b3 k0 k1 k2 hz2 fu h3 x0 x1 x2 x3 HX HB0 nM p1 ht1 ht2;go_upto_region 2 with fail;clear hw3;obtain⟨o,ho⟩:=zX (loO C.p.prs C.F g back t r);have HO:=zh (show(zkB C.F r).bind (fun r=>valO t1 r fun x r=>(zkj r (zk4 r.S ⟨t.s,1,0⟩ x)).bind (loR C.p.prs C.F g back t t2))=o by rw[<-ho];unfold loO loR;rw[HT1.out,HT2.out]);rw[ho]at aG ⊢;have dA:=zh aG;have bP:=zh ho;clear aG ho;go_wp2_with fail;refine iT.out.mono ?_;rintro e w4 ⟨hk4,hb4,fq⟩;have dM:=zh (bT.out.trans (Kpt.less (C:=C) hk4));have aF:=zh (show Below C.w.heap.size C.w w4 from hb4);have bD:match zkB C.F r with
  | .gas=>True
  | .err x=>e=zlK x
  | .ok r=>(∃u,e=.returned u)/\RI (C.plus W.heap.size hi) w4 r:=fq
 have dU:=zh hk4;clear y0 y1 y2 y3 iT hk4 hb4 fq
 cases hy:zkB C.F r with
 | gas=>exact absurd (by rw[<-HO.out,hy];rfl) dA.out
 | err x =>
  rw[hy]at bD;subst bD;refine⟨rfl,dM.out,aF.out,?_⟩;rw[<-HO.out,hy];rfl
 | ok r1 =>
  rw[hy]at bD;obtain⟨⟨u3,rfl⟩,hr1⟩:=bD;have HR4:=zh hr1;have jc:=zh (show(valO t1 r1 fun x r=>(zkj r (zk4 r.S ⟨t.s,1,0⟩ x)).bind (loR C.p.prs C.F g back t t2))=o by rw[<-HO.out,hy];rfl);have bU:=zh (show FB r.n r1.S/\r1.n=r.n+1 by obtain⟨rfl,-⟩:=zkU hy;exact⟨H.out.fb,rfl⟩);have j0:=dU.out.blk (.inr (.inr ⟨by omega,l0⟩)) K0.out;have j1:=dU.out.blk (.inr (.inr ⟨by omega,l1⟩)) K1.out;have fM:=zh (fun w' (hb:Below w4.heap.size w4 w')=>zqa (hr1.later hb) t1 _ kV.out);have az:=zh (show ∀w',Below w4.heap.size w4 w'->(fun w':World=>zv w' C.rb 6 (.pointer (some ⟨C.sb,0,none⟩))/\zv w' W.heap.size 2 (.string t.s)/\zN4 w' w2.heap.size (.int .u8 t1.k) (.int .i64 t1.n) (.string t1.s) (.slice A1 t1.ks.length c1)) w' from fun w' hb=>⟨zb hb hr1.cells.1,zb hb (zc j0 rfl),zb hb (zc j1 rfl),zb hb (zc j1 rfl),zb hb (zc j1 rfl),zb hb (zc j1 rfl)⟩);have ik:=zh (az.out _ zr.drew)
  clear hr1 hy j0 j1;go_upto_region 3 with fail;have hSS:zW (fun w':World=>zv w' C.rb 6 (.pointer (some ⟨C.sb,0,none⟩))/\zv w' W.heap.size 2 (.string t.s)/\zN4 w' w2.heap.size (.int .u8 t1.k) (.int .i64 t1.n) (.string t1.s) (.slice A1 t1.ks.length c1)) zU w4.drew:=⟨ik.out,trivial⟩
  refine zG hSS 12 ?_;refine zT 0 hSS ?_;refine zT 1 hSS ?_;refine zT 2 hSS ?_;refine zT 3 hSS ?_;refine zT 4 hSS ?_;refine zT 5 hSS ?_;refine zT 6 hSS ?_;refine zT 7 hSS ?_;refine zT 8 hSS ?_;refine zT 9 hSS ?_;have had:Calls prog 200 [.pointer (some ⟨C.rb,0,none⟩),nv t1.k t1.n t1.s A1 t1.ks.length c1].toArray w4.drew (ValP (C.plus W.heap.size hi) w4.drew t1 r1):=fM.out _ zr.drew;refine zo 10 fun K hK=>?_;refine zlc (by rfl) (.func 200) [.tmp 24,.tmp 25] _ (by rfl) 200 _ zuz (by rfl) _ (by rfl) (fun v w'=>Below w4.heap.size w4 w'/\∃x,v=.int .i64 x/\I64 x/\∀f,valO t1 r1 f=f x r1) (had.mono ?_) ?_
  ·rintro e y1 ⟨dZ,hv1⟩;have b1:=zka (zs w4).drew dZ;rcases hv1 with⟨x,rfl,hx⟩|⟨x,rfl,oP,hx⟩
   ·refine .inr ⟨_,rfl,?_⟩;refine⟨rfl,dM.out.trans (Kpt.of_below b1),zka aF.out b1,?_⟩
    try rw[bP.out]
    rw[<-jc.out,hx]
   ·exact .inl ⟨_,rfl,b1,x,rfl,oP,hx⟩
  rintro v5 w5 ⟨b5,x,rfl,hx,wQ⟩;have aO:=zh b5;have ow:=zh hx;have iM:=zh (show(zkj r1 (zk4 r1.S ⟨t.s,1,0⟩ x)).bind (loR C.p.prs C.F g back t t2)=o by rw[<-jc.out,wQ]);refine hK.out _ _ ⟨az.out _ b5,trivial⟩ ?_;clear hK K had b5 hx wQ hSS fM;(try simp only[zQ]);obtain⟨R,hR⟩:=zX (zk4 r1.S ⟨t.s,1,0⟩ x);have HRR:=zh hR;have iE:=bU.out.1.cur;have wW:=H.out.n;have had:Calls prog 181 [.pointer (some ⟨C.sb,0,none⟩),.agg #[.string t.s,.int .u8 1,.int .i64 0],.int .i64 x].toArray w5 fun e w'=>∃v,e=.returned v/\(v=.int .i64 R.1/\RI (C.plus W.heap.size hi) w' { r1 with S:=R.2 }/\Kpt C.n0 (C.plus W.heap.size hi).kb w5 w') :=
   ((HR4.out.later aO.out).ks.open_ ⟨t.s,1,0⟩ (by obtain⟨_,_,_,hf,-⟩:=HV.out.open_;exact⟨hf.2.2,⟨by simp only;omega,by simp only;omega⟩,⟨by simp only;omega,by simp only;omega⟩⟩) x ow.out (by omega)).mono fun e w' ⟨h1,h2,h3⟩=>⟨_,h1,by rw[hR],(RI.store (C:=C.plus W.heap.size hi) (HR4.out.later aO.out) (hR▸h2) h3 (by rw[bU.out.2,<-hR];exact bU.out.1.open_ _ _))⟩
  refine zo 11 fun K hK=>?_;refine zlz (by rfl) (.func 181) [.tmp 20,.tmp 23,.tmp 26] _ (by rfl) 181 _ zuE (by rfl) _ (by rfl) _ had ?_;rintro v6 w6 ⟨rfl,dO,bS⟩;have fH:=zh (dU.out.trans ((Kpt.of_below aO.out).trans bS));have j0:=fH.out.blk (.inr (.inr ⟨by omega,l0⟩)) K0.out;have j1:=fH.out.blk (.inr (.inr ⟨by omega,l1⟩)) K1.out;have gL:=zh dO;have av:(fun w':World=>zv w' C.rb 6 (.pointer (some ⟨C.sb,0,none⟩))/\zv w' W.heap.size 2 (.string t.s)/\zN4 w' w2.heap.size (.int .u8 t1.k) (.int .i64 t1.n) (.string t1.s) (.slice A1 t1.ks.length c1)) w6:=⟨dO.cells.1,zc j0 rfl,zc j1 rfl,zc j1 rfl,zc j1 rfl,zc j1 rfl⟩
  refine hK.out _ _ ⟨av,trivial⟩ ?_;have mW:=zh av;have aU:=zh dO.below;clear hK K had dO bS j0 j1 av ik az;(try simp only[zQ]);have dS:=zh (bT.out.trans (Kpt.less (C:=C) fH.out));rw[hR]at iM;have had:=zlm ⟨C.rb,0,none⟩ R.1 w6;refine zp 12 fun K hK=>?_;refine zlc (by rfl) (.func 180) [.tmp 16,.tmp 27] _ (by rfl) 180 _ zmm (by rfl) _ (by rfl) (fun v w'=>w'=w6/\R.1=0) (had.mono ?_) ?_
  ·rintro e y1 ⟨rfl,hv1⟩;rcases hv1 with⟨h0,u0,rfl⟩|⟨h0,rfl⟩
   ·exact .inl ⟨_,rfl,rfl,h0⟩
   ·refine .inr ⟨_,rfl,?_⟩;refine⟨rfl,dS.out,aU.out,?_⟩
    try rw[bP.out]
    rw[<-iM.out,show zkj r1 R=.err R.1 by unfold zkj;rw[if_pos h0]];rfl
  rintro v7 w7 ⟨rfl,h0⟩;have qo:=zh (show loR C.p.prs C.F g back t t2 { r1 with S:=R.2 }=o by rw[<-iM.out,show zkj r1 R=.ok { r1 with S:=R.2 } by unfold zkj;rw[if_neg (by simpa using h0)]];rfl);refine hK.out _ _ mW.out ?_;clear hK K had h0;(try simp only[zQ]);refine zd ?_;obtain⟨r2,hr2⟩:=zX (({ r1 with S:=R.2 }:RS));rw[hr2]at gL qo;have hI:1<t.ks.length:=by have:=nH.out;omega
  have hI1:(1:Int)<(t.ks.length:Int):=by omega
  obtain⟨a,u,Au,cu,rfl,-,hu,⟨p0,p1,p2,p3⟩,hnu⟩:=af.out.nd hI;have gG:kid t 1=u:=by unfold kid;rw[List.getD_eq_getElem?_getD,List.getElem?_eq_getElem hI];exact hu.out
  have uL:=zh (show ∀x∈u.ks,G C.p.prs x by rw[<-gG];exact hG1);have kT:=zh (show(runO C.p.prs C.F g back u r2).bind (fun r=>(zkB C.F r).bind fun r=>valO t2 r fun x r=>zkj r (zkG r.S t.s x))=o by rw[<-qo.out,<-gG];rfl);have hgu:runO C.p.prs C.F g back u r2 ≠ .gas:=fun e=>dA.out (by rw[<-kT.out,e];rfl);have aC:=zh (zlq HS.out iw.out gL.out u _ back hnu uL.out hgu);have ha:a.add (1*4)=⟨a.block,a.off+4,none⟩:=by unfold Addr.add;split<;>simp_all
  rw[ha]at p0 p1 p2 p3;have q0:=zb aU.out p0;have q1:=zb aU.out p1;have q2:=zb aU.out p2;have q3:=zb aU.out p3;have j0:=fH.out.blk (.inr (.inr ⟨by omega,l0⟩)) K0.out;have q4:=zc (i:=3) j0 rfl;clear gG hnu hu p0 p1 p2 p3 hgu ha j0 iE wW;go_wp2_with fail;refine aC.out.mono ?_;rintro e w8 ⟨jU,dh,qL⟩;have nJ:=zh (fH.out.trans jU);have vZ:=zh (bT.out.trans (Kpt.less (C:=C) nJ.out));have eY:=zh (show Below C.w.heap.size C.w w8 from dh);have cz:match runO C.p.prs C.F g back u r2 with
   | .gas=>True
   | .err x=>e=zlK x
   | .ok r=>(∃u,e=.returned u)/\RI (C.plus W.heap.size hi) w8 r:=qL
  clear q0 q1 q2 q3 q4 jU dh qL aC
  cases hx:runO C.p.prs C.F g back u r2 with
  | gas=>exact absurd (by rw[<-kT.out,hx];rfl) dA.out
  | err x =>
   rw[hx]at cz;subst cz;refine⟨rfl,vZ.out,eY.out,?_⟩
   try rw[bP.out]
   rw[<-kT.out,hx];rfl
  | ok r3 =>
   rw[hx]at cz;obtain⟨⟨u9,rfl⟩,hr3⟩:=cz;have HST:=zh (zl1 iw.out hr3);have jX:=zh (show((zkB C.F r3).bind fun r=>valO t2 r fun x r=>zkj r (zkG r.S t.s x))=o by rw[<-kT.out,hx];rfl);have ig:=zh hr3;clear hx hr3;go_wp2_with fail;refine HST.out.mono ?_;rintro e w9 ⟨aI,aZ,dP⟩;have iR:=zh (nJ.out.trans aI);have iq:=zh (bT.out.trans (Kpt.less (C:=C) iR.out));have aH:=zh (show Below C.w.heap.size C.w w9 from aZ);have gy:match zkB C.F r3 with
    | .gas=>True
    | .err x=>e=zlK x
    | .ok r=>(∃u,e=.returned u)/\RI (C.plus W.heap.size hi) w9 r:=dP
   clear aI aZ dP HST
   cases hy:zkB C.F r3 with
   | gas=>exact absurd (by rw[<-jX.out,hy];rfl) dA.out
   | err x =>
    rw[hy]at gy;subst gy;refine⟨rfl,iq.out,aH.out,?_⟩
    try rw[bP.out]
    rw[<-jX.out,hy];rfl
   | ok r4 =>
    rw[hy]at gy;obtain⟨⟨u9,rfl⟩,hr4⟩:=gy;have bJ:=zh hr4;have fP:=zh (show(valO t2 r4 fun x r=>zkj r (zkG r.S t.s x))=o by rw[<-jX.out,hy];rfl);have iU:=zh (show FB r3.n r4.S/\r4.n=r3.n+1 by obtain⟨rfl,-⟩:=zkU hy;exact⟨ig.out.fb,rfl⟩);have j0:=iR.out.blk (.inr (.inr ⟨by omega,l0⟩)) K0.out;have j2:=iR.out.blk (.inr (.inr ⟨by omega,l2⟩)) K2.out;have fM:=zh (fun w' (hb:Below w9.heap.size w9 w')=>zqa (hr4.later hb) t2 _ aK.out);have az:=zh (show ∀w',Below w9.heap.size w9 w'->(fun w':World=>zv w' C.rb 6 (.pointer (some ⟨C.sb,0,none⟩))/\zv w' W.heap.size 2 (.string t.s)/\zN4 w' (w2.heap.size+1) (.int .u8 t2.k) (.int .i64 t2.n) (.string t2.s) (.slice A2 t2.ks.length c2)) w' from fun w' hb=>⟨zb hb hr4.cells.1,zb hb (zc j0 rfl),zb hb (zc j2 rfl),zb hb (zc j2 rfl),zb hb (zc j2 rfl),zb hb (zc j2 rfl)⟩);clear hr4 hy j0 j2;go_upto_region 6 with fail
    have hSS:zW (fun w':World=>zv w' C.rb 6 (.pointer (some ⟨C.sb,0,none⟩))/\zv w' W.heap.size 2 (.string t.s)/\zN4 w' (w2.heap.size+1) (.int .u8 t2.k) (.int .i64 t2.n) (.string t2.s) (.slice A2 t2.ks.length c2)) zU w9.drew:=⟨az.out _ zr.drew,trivial⟩
    refine zG hSS 11 ?_;refine zT 0 hSS ?_;refine zT 1 hSS ?_;refine zT 2 hSS ?_;refine zT 3 hSS ?_;refine zT 4 hSS ?_;refine zT 5 hSS ?_;refine zT 6 hSS ?_;refine zT 7 hSS ?_;refine zT 8 hSS ?_;have had:Calls prog 200 [.pointer (some ⟨C.rb,0,none⟩),nv t2.k t2.n t2.s A2 t2.ks.length c2].toArray w9.drew (ValP (C.plus W.heap.size hi) w9.drew t2 r4):=fM.out _ zr.drew;refine zo 9 fun K hK=>?_;refine zlc (by rfl) (.func 200) [.tmp 45,.tmp 46] _ (by rfl) 200 _ zuz (by rfl) _ (by rfl) (fun v w'=>Below w9.heap.size w9 w'/\∃x,v=.int .i64 x/\I64 x/\∀f,valO t2 r4 f=f x r4) (had.mono ?_) ?_
    ·rintro e y1 ⟨dZ,hv1⟩;have b1:=zka (zs w9).drew dZ;rcases hv1 with⟨x,rfl,hx⟩|⟨x,rfl,oP,hx⟩
     ·refine .inr ⟨_,rfl,?_⟩;refine⟨rfl,iq.out.trans (Kpt.of_below b1),zka aH.out b1,?_⟩
      try rw[bP.out]
      rw[<-fP.out,hx]
     ·exact .inl ⟨_,rfl,b1,x,rfl,oP,hx⟩
    rintro v10 aT ⟨b10,z,rfl,hx,wQ⟩;have dI:=zh b10;obtain⟨Rc,lH⟩:=zX (zkG r4.S t.s z);have iN:=zh (show zkj r4 Rc=o by rw[<-fP.out,wQ,lH]);refine hK.out _ _ ⟨az.out _ b10,trivial⟩ ?_;clear hK K had b10 hx wQ hSS fM;(try simp only[zQ]);have had:Calls prog 182 [.pointer (some ⟨C.sb,0,none⟩),.string t.s,.int .i64 z].toArray aT fun e w'=>∃v,e=.returned v/\(v=.int .i64 Rc.1/\RI (C.plus W.heap.size hi) w' { r4 with S:=Rc.2 }/\Kpt C.n0 (C.plus W.heap.size hi).kb aT w') :=
     ((bJ.out.later dI.out).ks.close t.s z).mono fun e w' ⟨h1,h2,h3⟩=>⟨_,h1,by rw[lH],(RI.store (C:=C.plus W.heap.size hi) (bJ.out.later dI.out) (lH▸h2) h3 (by rw[iU.out.2,<-lH];exact iU.out.1.close_ _ _))⟩
    refine zo 10 fun K hK=>?_;refine zlz (by rfl) (.func 182) [.tmp 42,.tmp 44,.tmp 47] _ (by rfl) 182 _ zsn (by rfl) _ (by rfl) _ had ?_;rintro v11 aQ ⟨rfl,gu,iC⟩;have fT:=zh (iR.out.trans ((Kpt.of_below dI.out).trans iC));have j0:=fT.out.blk (.inr (.inr ⟨by omega,l0⟩)) K0.out;have j2:=fT.out.blk (.inr (.inr ⟨by omega,l2⟩)) K2.out;have kR:=zh gu;have av:(fun w':World=>zv w' C.rb 6 (.pointer (some ⟨C.sb,0,none⟩))/\zv w' W.heap.size 2 (.string t.s)/\zN4 w' (w2.heap.size+1) (.int .u8 t2.k) (.int .i64 t2.n) (.string t2.s) (.slice A2 t2.ks.length c2)) aQ:=⟨gu.cells.1,zc j0 rfl,zc j2 rfl,zc j2 rfl,zc j2 rfl,zc j2 rfl⟩
    refine hK.out _ _ ⟨av,trivial⟩ ?_;have mW:=zh av;have bN:=zh gu.below;clear hK K had gu iC j0 j2 av az;(try simp only[zQ]);have dF:=zh (bT.out.trans (Kpt.less (C:=C) fT.out));have had:=zlm ⟨C.rb,0,none⟩ Rc.1 aQ;refine zp 11 fun K hK=>?_;refine zlc (by rfl) (.func 180) [.tmp 38,.tmp 48] _ (by rfl) 180 _ zmm (by rfl) _ (by rfl) (fun v w'=>w'=aQ/\Rc.1=0) (had.mono ?_) ?_
    ·rintro e y1 ⟨rfl,hv1⟩;rcases hv1 with⟨h0,u0,rfl⟩|⟨h0,rfl⟩
     ·exact .inl ⟨_,rfl,rfl,h0⟩
     ·refine .inr ⟨_,rfl,?_⟩;refine⟨rfl,dF.out,bN.out,?_⟩
      try rw[bP.out]
      rw[<-iN.out,show zkj r4 Rc=.err Rc.1 by unfold zkj;rw[if_pos h0]]
    rintro v12 iW ⟨rfl,h0⟩;have gQ:=zh (show o=.ok { r4 with S:=Rc.2 } by rw[<-iN.out];unfold zkj;rw[if_neg (by simpa using h0)]);refine hK.out _ _ mW.out ?_;clear hK K had h0;(try simp only[zQ]);refine zd ?_;have mX:=zh kR.out.less;go_wp2_with fail;go_end0;refine⟨dF.out,bN.out,?_⟩
    try rw[bP.out]
    rw[gQ.out];exact⟨⟨_,rfl⟩,mX.out⟩
theorem zyr{G:List PR->T->Prop}{g:Nat}(hS:IStC G g){C:RC}(hC:C.Ok){W:World}{r:RS}(h:RI C W r)(t:T)(v:Value)(back:Bool)(hv:NV C.w Any t v)(hk0:t.k=52)(hk:t.ks.length=4)(hG1:∀u∈(kid t 1).ks,G C.p.prs u)(hG2:∀u∈(kid t 2).ks,G C.p.prs u)
  (o:Out)(ho:brO C.p.prs C.F g back t r=o)(hog:o ≠ .gas) :
  Calls prog 137 #[.pointer (some ⟨C.rb,0,none⟩),v,.bool back] W (RunP C W o):=by
 have aG:=hog;obtain⟨k,n,s,ks⟩:=t;obtain rfl:k=52:=hk0;obtain⟨A,c,rfl,-,hlk,hlc,-⟩:=hv.open_;have hb0:=zkb (zs W) (.cells #[.int .u8 52,.int .i64 n,.string s,.slice A ks.length c] 41);obtain⟨x0,x1,x2,x3⟩:=box4 (heap_alloc_new W (.cells #[.int .u8 52,.int .i64 n,.string s,.slice A ks.length c] 41));have aD:=zh (Kpt.of_below (n0:=C.n0) (kb:=C.kb) hb0);have aW:=zh (show Calls prog 176 #[.pointer (some ⟨C.rb,0,none⟩),.agg #[.int .u8 52,.int .i64 n,.string s,.slice A ks.length c],.bool back] (W.alloc (.cells #[.int .u8 52,.int .i64 n,.string s,.slice A ks.length c] 41)) (RunP C _ o)from(ho▸(zte hS hC (h.later hb0) _ _ back hv hk hG1 hG2 (ho▸hog))));clear hv hb0 h aG hG1 ho hk;go_enter func137,ntmps137;go_wp2_with fail;refine aW.out.mono ?_;rintro e w1 ⟨hk1,hb1,ho1⟩
 cases o with
 | gas=>exact absurd rfl hog
 | err x =>
  subst ho1;exact⟨rfl,aD.out.trans hk1,hb1,rfl⟩
 | ok r1 =>
  obtain⟨⟨u,rfl⟩,hr1⟩:=ho1;have HR:=zh hr1;have aA:=zh (aD.out.trans hk1);have HB1:=zh hb1;clear x0 x1 x2 x3 hr1 hk1 hb1;go_wp2_with fail;go_end0;exact⟨aA.out,HB1.out,⟨_,rfl⟩,HR.out⟩
theorem ztM{G:List PR->T->Prop}{g:Nat}(hS:IStC G g){C:RC}(hC:C.Ok){W:World}{r:RS}(h:RI C W r)(t:T)(v:Value)(back:Bool)(hv:NV C.w Any t v)(hk0:t.k=53)(hk:t.ks.length=4)(hG1:∀u∈(kid t 1).ks,G C.p.prs u)(hG2:∀u∈(kid t 2).ks,G C.p.prs u)
  (o:Out)(ho:lpO C.p.prs C.F g back t r=o)(hog:o ≠ .gas) :
  Calls prog 137 #[.pointer (some ⟨C.rb,0,none⟩),v,.bool back] W (RunP C W o):=by
 have aG:=hog;obtain⟨k,n,s,ks⟩:=t;obtain rfl:k=53:=hk0;obtain⟨A,c,rfl,-,hlk,hlc,-⟩:=hv.open_;have hb0:=zkb (zs W) (.cells #[.int .u8 53,.int .i64 n,.string s,.slice A ks.length c] 41);obtain⟨x0,x1,x2,x3⟩:=box4 (heap_alloc_new W (.cells #[.int .u8 53,.int .i64 n,.string s,.slice A ks.length c] 41));have aD:=zh (Kpt.of_below (n0:=C.n0) (kb:=C.kb) hb0);have aW:=zh (show Calls prog 177 #[.pointer (some ⟨C.rb,0,none⟩),.agg #[.int .u8 53,.int .i64 n,.string s,.slice A ks.length c],.bool back] (W.alloc (.cells #[.int .u8 53,.int .i64 n,.string s,.slice A ks.length c] 41)) (RunP C _ o)from(ho▸(zwD hS hC (h.later hb0) _ _ back hv hk hG1 hG2 (ho▸hog))));clear hv hb0 h aG hG1 ho hk;go_enter func137,ntmps137;go_wp2_with fail;refine aW.out.mono ?_;rintro e w1 ⟨hk1,hb1,ho1⟩
 cases o with
 | gas=>exact absurd rfl hog
 | err x =>
  subst ho1;exact⟨rfl,aD.out.trans hk1,hb1,rfl⟩
 | ok r1 =>
  obtain⟨⟨u,rfl⟩,hr1⟩:=ho1;have HR:=zh hr1;have aA:=zh (aD.out.trans hk1);have HB1:=zh hb1;clear x0 x1 x2 x3 hr1 hk1 hb1;go_wp2_with fail;go_end0;exact⟨aA.out,HB1.out,⟨_,rfl⟩,HR.out⟩
theorem zsJ{G:List PR->T->Prop}{g:Nat}(hS:IStC G g){C:RC}(hC:C.Ok){W:World}{r:RS}(h:RI C W r)(t:T)(v:Value)(back:Bool)(hv:NV C.w Any t v)(hk0:t.k=54)(hk:t.ks.length=3)(hG1:∀u∈(kid t 1).ks,G C.p.prs u)
  (o:Out)(ho:loO C.p.prs C.F g back t r=o)(hog:o ≠ .gas) :
  Calls prog 137 #[.pointer (some ⟨C.rb,0,none⟩),v,.bool back] W (RunP C W o):=by
 have aG:=hog;obtain⟨k,n,s,ks⟩:=t;obtain rfl:k=54:=hk0;obtain⟨A,c,rfl,-,hlk,hlc,-⟩:=hv.open_;have hb0:=zkb (zs W) (.cells #[.int .u8 54,.int .i64 n,.string s,.slice A ks.length c] 41);obtain⟨x0,x1,x2,x3⟩:=box4 (heap_alloc_new W (.cells #[.int .u8 54,.int .i64 n,.string s,.slice A ks.length c] 41));have aD:=zh (Kpt.of_below (n0:=C.n0) (kb:=C.kb) hb0);have aW:=zh (show Calls prog 178 #[.pointer (some ⟨C.rb,0,none⟩),.agg #[.int .u8 54,.int .i64 n,.string s,.slice A ks.length c],.bool back] (W.alloc (.cells #[.int .u8 54,.int .i64 n,.string s,.slice A ks.length c] 41)) (RunP C _ o)from(ho▸(zuj hS hC (h.later hb0) _ _ back hv hk hG1 (ho▸hog))));clear hv hb0 h aG hG1 ho hk;go_enter func137,ntmps137;go_wp2_with fail;refine aW.out.mono ?_;rintro e w1 ⟨hk1,hb1,ho1⟩
 cases o with
 | gas=>exact absurd rfl hog
 | err x =>
  subst ho1;exact⟨rfl,aD.out.trans hk1,hb1,rfl⟩
 | ok r1 =>
  obtain⟨⟨u,rfl⟩,hr1⟩:=ho1;have HR:=zh hr1;have aA:=zh (aD.out.trans hk1);have HB1:=zh hb1;clear x0 x1 x2 x3 hr1 hk1 hb1;go_wp2_with fail;go_end0;exact⟨aA.out,HB1.out,⟨_,rfl⟩,HR.out⟩
theorem zK4:IsFn prog 123 f123:=⟨func123,by kernel_rfl,by kernel_rfl⟩
theorem zyX:IsFn prog 184 f184:=⟨func184,by kernel_rfl,by kernel_rfl⟩
def basO(F:Int)(back:Bool)(t:T)(r:RS):Out:=(zkB F r).bind fun r=>zkj r (if back=true then zmf r.S t else doE r.S t)
theorem zv9{C:RC}(hC:C.Ok){W:World}{r:RS}(h:RI C W r)(t:T)(v:Value)(back:Bool)(hv:NV C.w Any t v)(hk:t.k≠52/\t.k≠53/\t.k≠54/\t.k≠55/\t.k≠50/\t.k≠51) :
  Calls prog 137 #[.pointer (some ⟨C.rb,0,none⟩),v,.bool back] W (RunP C W (basO C.F back t r)):=by
 have HV:=zh hv;have H:=zh h;obtain⟨A,c,rfl,-,hlk,hlc,-⟩:=hv.open_;have e0:(t.k==52)=false:=by simpa using hk.1
 have e1:(t.k==53)=false:=by simpa using hk.2.1
 have e2:(t.k==54)=false:=by simpa using hk.2.2.1
 have e3:(t.k==55)=false:=by simpa using hk.2.2.2.1
 have e4:(t.k==50)=false:=by simpa using hk.2.2.2.2.1
 have e5:(t.k==51)=false:=by simpa using hk.2.2.2.2.2
 have hb0:=zkb (zs W) (.cells #[.int .u8 t.k,.int .i64 t.n,.string t.s,.slice A t.ks.length c] 41);obtain⟨di,h1⟩:=h.plus hC hb0;have k0:=heap_alloc_new W (.cells #[.int .u8 t.k,.int .i64 t.n,.string t.s,.slice A t.ks.length c] 41);obtain⟨x0,x1,x2,x3⟩:=box4 k0;have bT:=zh (Kpt.of_below (n0:=C.n0) (kb:=C.kb) hb0);obtain⟨w3,hw3⟩:=zX (W.alloc (.cells #[.int .u8 t.k,.int .i64 t.n,.string t.s,.slice A t.ks.length c] 41));rw[hw3]at di h1 k0 x0 x1 x2 x3 bT;have l0:=zko k0;have K0:=zh k0;obtain⟨hi,hhi⟩:=zX (w3.heap.size);rw[hhi]at di h1 l0;have iT:=zh (zl1 di h1);obtain⟨o,ho⟩:=zX (basO C.F back t r);have bP:=zh ho;have HO:=zh (show(zkB C.F r).bind (fun r=>zkj r (if back=true then zmf r.S t else doE r.S t))=o from ho);rw[ho];clear hv hb0 di h1 k0 h hk ho;go_enter func137,ntmps137;go_wp2_with fail;refine iT.out.mono ?_;rintro e w4 ⟨hk4,hb4,fq⟩
 have dM:=zh (bT.out.trans (Kpt.less (C:=C) hk4));have aF:=zh (show Below C.w.heap.size C.w w4 from hb4);have bD:match zkB C.F r with
  | .gas=>True
  | .err x=>e=zlK x
  | .ok r=>(∃u,e=.returned u)/\RI (C.plus W.heap.size hi) w4 r:=fq
 have dU:=zh hk4;clear x0 x1 x2 x3 iT hk4 hb4 fq hw3
 cases hy:zkB C.F r with
 | gas=>exact absurd hy (zkv _ _).1
 | err x =>
  rw[hy]at bD;subst bD;refine⟨rfl,dM.out,aF.out,?_⟩
  try rw[bP.out]
  rw[<-HO.out,hy];rfl
 | ok r1 =>
  rw[hy]at bD;obtain⟨⟨u3,rfl⟩,hr1⟩:=bD;have HR4:=zh hr1;have jc:=zh (show zkj r1 (if back=true then zmf r1.S t else doE r1.S t)=o by rw[<-HO.out,hy];rfl);have bU:=zh (show FB r.n r1.S/\r1.n=r.n+1 by obtain⟨rfl,-⟩:=zkU hy;exact⟨H.out.fb,rfl⟩);have j0:=dU.out.blk (.inr (.inr ⟨zl,l0⟩)) K0.out;have hSS:zW (fun w':World=>zv w' C.rb 6 (.pointer (some ⟨C.sb,0,none⟩))/\zN4 w' W.heap.size (.int .u8 t.k) (.int .i64 t.n) (.string t.s) (.slice A t.ks.length c)) zU w4.drew:=⟨⟨hr1.cells.1,zc j0 rfl,zc j0 rfl,zc j0 rfl,zc j0 rfl⟩,trivial⟩
  clear hr1 hy j0
  cases back
  ·skip
   go_upto_region 5 with fail;refine zG hSS 7 ?_;refine zT 0 hSS ?_;refine zT 1 hSS ?_;refine zT 2 hSS ?_;refine zT 3 hSS ?_;refine zT 4 hSS ?_;refine zT 5 hSS ?_;obtain⟨R,hR⟩:=zX (doE r1.S t);have iM:=zh (show zkj r1 R=o by rw[<-hR];exact jc.out);have hbd:Below w4.heap.size w4 w4.drew:=zr.drew;have had:Calls prog 123 [.pointer (some ⟨C.sb,0,none⟩),.agg #[.int .u8 t.k,.int .i64 t.n,.string t.s,.slice A t.ks.length c]].toArray w4.drew fun e w'=>∃v,e=.returned v/\(v=.int .i64 R.1/\RI (C.plus W.heap.size hi) w' { r1 with S:=R.2 }/\Kpt C.n0 (C.plus W.heap.size hi).kb w4 w') :=
    ((HR4.out.later hbd).ks.do_ t _ (HV.out.later (zka aF.out hbd))).mono fun e w' ⟨h1,h2,h3⟩=>by
     have hs:=RI.store (C:=C.plus W.heap.size hi) (HR4.out.later hbd) h2 h3 (by rw[bU.out.2];exact bU.out.1.do_ _);rw[hR]at h1 hs;exact⟨_,h1,rfl,hs.1,(Kpt.of_below hbd).trans hs.2⟩
   refine zo 6 fun K hK=>?_;refine zlz (by rfl) (.func 123) [.tmp 23,.tmp 24] _ (by rfl) 123 _ zK4 (by rfl) _ (by rfl) _ had ?_;rintro v6 w6 ⟨rfl,dO,bS⟩;have dS:=zh (dM.out.trans (Kpt.less (C:=C) bS));have j0:=(dU.out.trans bS).blk (.inr (.inr ⟨zl,l0⟩)) K0.out;have av:(fun w':World=>zv w' C.rb 6 (.pointer (some ⟨C.sb,0,none⟩))/\zN4 w' W.heap.size (.int .u8 t.k) (.int .i64 t.n) (.string t.s) (.slice A t.ks.length c)) w6:=⟨dO.cells.1,zc j0 rfl,zc j0 rfl,zc j0 rfl,zc j0 rfl⟩
   have gL:=zh dO.less;have aU:=zh dO.below;refine hK.out _ _ ⟨av,trivial⟩ ?_;have mW:=zh av;clear hK K had dO bS j0 av hSS;(try simp only[zQ]);have had:=zlm ⟨C.rb,0,none⟩ R.1 w6;refine zp 7 fun K hK=>?_;refine zlc (by rfl) (.func 180) [.tmp 19,.tmp 25] _ (by rfl) 180 _ zmm (by rfl) _ (by rfl) (fun v w'=>w'=w6/\R.1=0) (had.mono ?_) ?_
   ·rintro e y1 ⟨rfl,hv1⟩;rcases hv1 with⟨h0,u0,rfl⟩|⟨h0,rfl⟩
    ·exact .inl ⟨_,rfl,rfl,h0⟩
    ·refine .inr ⟨_,rfl,?_⟩;refine⟨rfl,dS.out,aU.out,?_⟩
     try rw[bP.out]
     rw[<-iM.out,show zkj r1 R=.err R.1 by unfold zkj;rw[if_pos h0]]
   rintro v12 iW ⟨rfl,h0⟩;have gQ:=zh (show o=.ok { r1 with S:=R.2 } by rw[<-iM.out];unfold zkj;rw[if_neg (by simpa using h0)]);refine hK.out _ _ mW.out ?_;clear hK K had h0;(try simp only[zQ]);refine zd ?_;go_wp2_with fail;go_end0;refine⟨dS.out,aU.out,?_⟩
   try rw[bP.out]
   rw[gQ.out];exact⟨⟨_,rfl⟩,gL.out⟩
  ·skip
   go_upto_region 4 with fail;refine zkl (fun w':World=>zv w' C.rb 6 (.pointer (some ⟨C.sb,0,none⟩))/\zN4 w' W.heap.size (.int .u8 t.k) (.int .i64 t.n) (.string t.s) (.slice A t.ks.length c)) zU 7 (by kernel_rfl) ?_;refine zT 0 hSS ?_;refine zT 1 hSS ?_;refine zT 2 hSS ?_;refine zT 3 hSS ?_;refine zT 4 hSS ?_;refine zT 5 hSS ?_;obtain⟨R,hR⟩:=zX (zmf r1.S t);have iM:=zh (show zkj r1 R=o by rw[<-hR];exact jc.out);have hbd:Below w4.heap.size w4 w4.drew:=zr.drew;have had:Calls prog 184 [.pointer (some ⟨C.sb,0,none⟩),.agg #[.int .u8 t.k,.int .i64 t.n,.string t.s,.slice A t.ks.length c]].toArray w4.drew fun e w'=>∃v,e=.returned v/\(v=.int .i64 R.1/\RI (C.plus W.heap.size hi) w' { r1 with S:=R.2 }/\Kpt C.n0 (C.plus W.heap.size hi).kb w4 w') :=
    ((HR4.out.later hbd).ks.undo t _ (HV.out.later (zka aF.out hbd))).mono fun e w' ⟨h1,h2,h3⟩=>by
     have hs:=RI.store (C:=C.plus W.heap.size hi) (HR4.out.later hbd) h2 h3 (by rw[bU.out.2];exact bU.out.1.undo _);rw[hR]at h1 hs;exact⟨_,h1,rfl,hs.1,(Kpt.of_below hbd).trans hs.2⟩
   refine zo 6 fun K hK=>?_;refine zlz (by rfl) (.func 184) [.tmp 15,.tmp 16] _ (by rfl) 184 _ zyX (by rfl) _ (by rfl) _ had ?_;rintro v6 w6 ⟨rfl,dO,bS⟩;have dS:=zh (dM.out.trans (Kpt.less (C:=C) bS));have j0:=(dU.out.trans bS).blk (.inr (.inr ⟨zl,l0⟩)) K0.out;have av:(fun w':World=>zv w' C.rb 6 (.pointer (some ⟨C.sb,0,none⟩))/\zN4 w' W.heap.size (.int .u8 t.k) (.int .i64 t.n) (.string t.s) (.slice A t.ks.length c)) w6:=⟨dO.cells.1,zc j0 rfl,zc j0 rfl,zc j0 rfl,zc j0 rfl⟩
   have gL:=zh dO.less;have aU:=zh dO.below;refine hK.out _ _ ⟨av,trivial⟩ ?_;have mW:=zh av;clear hK K had dO bS j0 av hSS;(try simp only[zQ]);have had:=zlm ⟨C.rb,0,none⟩ R.1 w6;refine zp 7 fun K hK=>?_;refine zlc (by rfl) (.func 180) [.tmp 11,.tmp 17] _ (by rfl) 180 _ zmm (by rfl) _ (by rfl) (fun v w'=>w'=w6/\R.1=0) (had.mono ?_) ?_
   ·rintro e y1 ⟨rfl,hv1⟩;rcases hv1 with⟨h0,u0,rfl⟩|⟨h0,rfl⟩
    ·exact .inl ⟨_,rfl,rfl,h0⟩
    ·refine .inr ⟨_,rfl,?_⟩;refine⟨rfl,dS.out,aU.out,?_⟩
     try rw[bP.out]
     rw[<-iM.out,show zkj r1 R=.err R.1 by unfold zkj;rw[if_pos h0]]
   rintro v12 iW ⟨rfl,h0⟩;have gQ:=zh (show o=.ok { r1 with S:=R.2 } by rw[<-iM.out];unfold zkj;rw[if_neg (by simpa using h0)]);refine hK.out _ _ mW.out ?_;clear hK K had h0;(try simp only[zQ]);refine zd ?_;go_wp2_with fail;go_end0;refine⟨dS.out,aU.out,?_⟩
   try rw[bP.out]
   rw[gQ.out];exact⟨⟨_,rfl⟩,gL.out⟩
end
end Go.Proofs.YtembgnhbpmfhpaaGreat
