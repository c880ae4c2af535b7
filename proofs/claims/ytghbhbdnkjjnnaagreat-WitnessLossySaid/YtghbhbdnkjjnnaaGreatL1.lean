/-
  Texts of the proof, put together without their remarks: Wfp, Pfi, Wpr, Lwl.
-/
import Derived.Test.YtghbhbdnkjjnnaaGreatC1
set_option linter.unusedSimpArgs false
set_option linter.unusedVariables false
set_option maxHeartbeats 8000000
set_option maxRecDepth 100000
namespace Go.Proofs.YtghbhbdnkjjnnaaGreat
open Go Go.RowKit
section
variable {S:ST}
theorem zyj (h:S.WF) {s:ByteArray} {id:Nat} (hn:S.num s=some id):id<S.nc:=by
 obtain⟨kd,hw⟩:=h.cur;unfold ST.num at hn;obtain⟨i,-,h2⟩:=Option.bind_eq_some_iff.1 hn;exact hw.num id (List.mem_of_getElem? h2)
theorem zyf (k x y:Int):I64 (updE k x y):=by
 unfold updE
 repeat' split
 all_goals first|exact zm1 _|exact zrx _
theorem zyi (h:S.WF) (k:Int) {id:Nat} (i:Nat) {ah:Nat} (hid:id<S.nc) (hs:CurK S ah 3):(znk S k id i ah).2.WF:=by
 have dN:=hs.lt h;have hc:=h.cells ah dN;unfold znk
 split
 ·split
  ·exact h
  ·refine zw7 (zw6 h ah hs _ (by simp;omega) fun x hx=>?_) hid i 0 zero_I64;rcases List.mem_append.1 hx with hx|hx
   ·exact hc.2 x hx
   ·obtain rfl:=List.mem_singleton.1 hx;exact zpu h hid i
 ·split
  ·exact h
  ·split
   ·exact h
   ·refine zw6 (S:=S.put id i _) (zw7 h hid i _ (zpu h dN _)) ah hs _ (by rw[List.length_take];omega) fun x hx=>hc.2 x (List.mem_of_mem_take hx)
theorem zx5 (h:S.WF) (l m:List Int) (h1:l.length<=4096/\∀ x∈l,I64 x) (h2:m.length<=4096/\∀ x∈m,I64 x):({ S with tin:=l,tout:=m }:ST).WF:=⟨h.ex,h.ncalls,h.cells,h1,h2⟩
theorem zx9 (h:S.WF) (k:Int) {id:Nat} (i:Nat) (hid:id<S.nc):(zlq S k id i).2.WF:=by
 unfold zlq;have h1:=h.tin;have h2:=h.tout
 split
 ·split
  ·exact h
  ·rename_i y r he
   split
   ·exact h
   ·rw[he] at h1;exact zw7 (S:={ S with tin:=r }) (zx5 h r S.tout ⟨by have:=h1.1;simp at this;omega,fun x hx=>h1.2 x (List.mem_cons_of_mem _ hx)⟩ h2) hid i y (h1.2 y (List.mem_cons_self ..))
 ·split
  ·split
   ·exact h
   ·split
    ·exact h
    ·refine zw7 (S:={ S with tout:=S.tout.dropLast }) (zx5 h S.tin S.tout.dropLast h1 ⟨by have:=h2.1;simp;omega,fun x hx=>h2.2 x (List.dropLast_subset _ hx)⟩) hid i _ ?_
     cases hl:S.tout.getLast? with
     | none=>exact zero_I64
     | some x=>exact h2.2 x (List.mem_of_getLast? hl)
  ·split
   ·split
    ·exact h
    ·refine zw7 (S:={ S with tin:=S.el id i::S.tin }) (zx5 h _ S.tout ⟨by simp;omega,fun x hx=>?_⟩ h2) hid i 0 zero_I64;rcases List.mem_cons.1 hx with rfl|hx
     ·exact zpu h hid i
     ·exact h1.2 x hx
   ·split
    ·exact h
    ·refine zw7 (S:={ S with tout:=S.tout++[S.el id i] }) (zx5 h S.tin _ h1 ⟨by simp;omega,fun x hx=>?_⟩) hid i 0 zero_I64;rcases List.mem_append.1 hx with hx|hx
     ·exact h2.2 x hx
     ·obtain rfl:=List.mem_singleton.1 hx;exact zpu h hid i
theorem zyl (h:S.WF) {k n:Int} {s:ByteArray} {ks:List T} (hf:fltE S.cur.vs (.nd k n s ks)=0) (hk:k=44\/k=45):∃ ah,S.num s=some ah/\CurK S ah 3:=by
 have hn:zoO k=3:=by rcases hk with rfl|rfl<;>rfl
 obtain⟨u,h4,h5⟩:=zoM (zp3 hf).1 (by rw[hn];decide);obtain⟨ah,h6,h7⟩:=zr3 h h4;exact⟨ah,h6,by rw[h5,hn] at h7;exact h7⟩
theorem zyp (h:S.WF) (t:T):(doE S t).2.WF:=by
 unfold doE
 split
 ·exact h
 split
 ·exact h
 split
 ·exact h
 split
 ·exact h
 rename_i h1 h2 h3 h4;have hf:fltE S.cur.vs t=0:=by simpa using h4
 obtain⟨k,n,s,ks⟩:=t
 show(zlh S k s (ks.getD 0 nil0) (ks.getD 1 nil0) (indE S.look (ks.getD 0 nil0)) (zmO S k (ks.getD 1 nil0))).2.WF
 unfold zlh
 split
 ·exact h
 unfold znn
 split
 ·exact h
 cases h5:S.num (ks.getD 0 nil0).s with
 | none=>exact h
 | some id =>
  have hid:=zyj h h5;dsimp only
  split
  ·unfold znm
   split
   ·exact zw7 h hid _ _ (zyf _ _ _)
   ·split
    ·cases h6:S.num (ks.getD 1 nil0).s with
     | none=>exact h
     | some jd =>
      have hjd:=zyj h h6;dsimp only
      split
      ·exact zw7 (zw7 h hid _ _ (zpu h hjd _)) hjd _ _ (zpu h hid _)
      ·exact h
    ·split
     ·rename_i hk;obtain⟨ah,h6,h7⟩:=zyl h hf hk;rw[h6];exact zyi h _ _ hid h7
     ·exact zx9 h _ _ hid
  ·exact h
end
section
variable {o:Out} {f:RS->Out} {r r':RS} {F:Int} {t:T}
end
structure Keep (r r':RS):Prop where
 base:r'.S.base=r.S.base
 calls:r'.S.calls=r.S.calls
 nc:r.S.nc<=r'.S.nc
section
variable {r r1 r':RS} {F:Int}
theorem zx7 {S:ST} (t:T):(doE S t).2.base=S.base/\(doE S t).2.calls=S.calls/\(doE S t).2.nc=S.nc:=by
 obtain⟨h1,h2,h3⟩:=zvo S t;exact⟨h1,h2,h3⟩
end
theorem zx6:∀ (vs:List VD) (ls:List (List Int)),(∀ i (h:i<vs.length) (h':i<ls.length),fit1 vs[i] ls[i]=true)->zlJ vs ls=true
 | [],_,_=>by simp[zlJ]
 | _::_,[],_=>by simp[zlJ]
 | v::vs,l::ls,h=>by
  rw[zlJ,Bool.and_eq_true];exact⟨h 0 (by simp) (by simp),zx6 vs ls fun i hi hi'=>h (i+1) (by simpa using hi) (by simpa using hi')⟩
section
variable {vs:List VD} {s:SS} {r':RS} {e:List Nat}
theorem zyc (hk:Keep ⟨newS vs s,0,e⟩ r'):r'.S.state.cells=(List.range vs.length).map r'.S.cell:=by
 unfold ST.state;rw[hk.base];simp[newS]
theorem zym (h0:fitB vs s=true) (hw:r'.S.WF) (hk:Keep ⟨newS vs s,0,e⟩ r'):fitB vs r'.S.state=true:=by
 have hs:=zyc hk;obtain⟨kd,hb,-,hc⟩:=hw.ex;have hsv:svB vs=true:=by
  unfold fitB at h0;simp only[Bool.and_eq_true] at h0;exact h0.1.1.1.1
 unfold fitB;simp only[Bool.and_eq_true,decide_eq_true_eq];refine⟨⟨⟨⟨hsv,by rw[hs];simp⟩,hw.tin.1⟩,hw.tout.1⟩,zx6 _ _ fun i hi hi'=>?_⟩;have hbase:r'.S.base=⟨vs,List.range vs.length,0⟩:=hk.base;rw[hbase] at hb;have hki:=hb.kind i hi (by simpa using hi);simp only[List.getElem_range] at hki;have hii:=hb.num i (List.mem_range.2 hi);have hci:=hc i hii;have uq:=(hw.cells i hii).1;have e1:r'.S.state.cells[i]=r'.S.cell i:=by
  have:r'.S.state.cells[i]?=some (r'.S.cell i):=by rw[hs,List.getElem?_map,List.getElem?_range hi];rfl
  exact(List.getElem?_eq_some_iff.1 this).2
 rw[e1];rw[hki] at hci;simp only at hci;unfold fit1 fixE;by_cases h3:vs[i].k=3
 ·rw[if_pos h3];simpa using uq
 ·rw[if_neg h3];by_cases h1:vs[i].k=1
  ·rw[if_pos h1];have:=hci.1 h1;simp[this]
  ·rw[if_neg h1];have h2:vs[i].k=2:=by omega
   have:=hci.2.1 h2;simpa using this
end
def gE (vs:List VD) (t:T) (s:SS):Option SS:=if (asgE vs t s).1=0 then some (asgE vs t s).2 else none
theorem zyb {vs:List VD} {x:SS} {i a:Nat} {v:Int} (h:fitB vs x=true):fitB vs (putC x i a v)=true:=by
 obtain⟨h1,h2,h3,h4,h5⟩:=zna h;have hall:=(zl6 h).2.2.2.2;unfold fitB;simp only[Bool.and_eq_true,decide_eq_true_eq];refine⟨⟨⟨⟨h1,by simp[putC,h2]⟩,h3⟩,h4⟩,zx6 _ _ fun j hj hj'=>?_⟩;have hj2:j<x.cells.length:=by omega
 have hf:=(hall j hj hj2).2;have hl:((putC x i a v).cells[j]).length=(x.cells[j]).length:=by
  show((x.cells.set i ((x.cells.getD i []).set a v))[j]'(by simpa using hj2)).length=_
  rw[List.getElem_set]
  split
  ·rename_i e;subst e;simp[List.getD_eq_getElem?_getD,List.getElem?_eq_getElem hj2]
  ·rfl
 unfold fit1 at hf ⊢;rw[hl];exact hf
theorem zyd {vs:List VD} {s:SS} {t:T} (h0:fitB vs s=true) (hf:∀ v∈vs,FldV v) (hI:s.I):fitB vs (doE (newS vs s) t).2.state=true:=by
 have hw:=zr5 h0 hf hI.1 hI.2.1 hI.2.2 vs.length (Nat.le_refl _);rw[List.take_of_length_le (Nat.le_refl _)] at hw;obtain⟨f1,f2,f3⟩:=zx7 (S:=newS vs s) t;exact zym (e:=[]) (r':=⟨(doE (newS vs s) t).2,0,[]⟩) h0 (zyp hw t) ⟨f1,f2,Nat.le_of_eq f3.symm⟩
theorem zye {vs:List VD} {s:SS} {t:T} (hf:∀ v∈vs,FldV v) (hI:s.I) (h:(asgE vs t s).1=0):fitB vs (asgE vs t s).2=true:=by
 unfold asgE at h ⊢
 split at h
 ·simp at h
 rename_i h1;rw[if_neg h1];have h0:fitB vs s=true:=by
  rcases hb:fitB vs s with _|_
  ·exact absurd (.inl hb) h1
  ·rfl
 split at h
 ·rename_i h2;rw[if_pos h2];obtain⟨k,n,nm,ks⟩:=t;unfold setE at h ⊢;simp only at h ⊢
  split at h
  ·rename_i h3;exact absurd h h3
  ·rename_i h3;rw[if_neg h3]
   split
   ·exact zyd h0 hf hI
   ·exact zyb (zyd h0 hf hI)
 ·rename_i h2;rw[if_neg h2]
  split at h
  ·rename_i h3;exact absurd h h3
  ·rename_i h3;rw[if_neg h3];exact zyd h0 hf hI
theorem zyq {vs:List VD} {s:SS} {t:T} (hf:∀ v∈vs,FldV v) (hI:s.I):cdE vs t s=gE vs t s:=by
 unfold cdE gE;by_cases h:(asgE vs t s).1=0
 ·rw[if_pos ⟨h,zye hf hI h⟩,if_pos h]
 ·rw[if_neg fun h'=>h h'.1,if_neg h]
theorem zx4 {f g:SS->Option SS}:∀ (l pre:List SS),(∀ x∈pre++l,f x=g x)->zmA f pre l=zmA g pre l
 | [],_,_=>rfl
 | s::l,pre,h=>by
  have hs:=h s (by simp);have ih:=zx4 l (pre++[s]) (by simpa using h);rw[zmA,zmA,hs]
  cases hx:g s with
  | none=>exact ih
  | some x =>
   have hh:∀ q∈pre,hitE f x q=hitE g x q:=fun q hq=>by unfold hitE;rw[h q (by simp[hq])]
   have hp:pre.find? (hitE f x)=pre.find? (hitE g x):=by
    clear ih h hs
    induction pre with
    | nil=>rfl
    | cons a p ihp =>
     rw[List.find?_cons,List.find?_cons,hh a (by simp),ihp fun q hq=>hh q (by simp[hq])]
   simp only[hp,ih]
def zyr (f:SS->Option SS) (l:List SS) (ri rk:Int):Prop:=(ri = -1/\rk = -1/\zmA f [] l=none)\/∃ (i k:Nat) (hi:i<l.length) (hk:k<l.length),ri=i/\rk=k/\zmA f [] l=some (l[i],l[k])
theorem zn7.step {f:SS->Option SS} {l:List SS} {k:Nat} (hk:k<l.length) (h:zn7 f (l.take k)) (h1:∀ x,f l[k]=some x->∀ i (hi:i<l.length),i<k->f l[i]≠some x):zn7 f (l.take (k+1)):=by
 rw[List.take_succ_eq_append_getElem hk];refine h.snoc fun x hx q hq=>?_;obtain⟨i,hi,rfl⟩:=List.mem_iff_getElem.1 hq;simp only[List.length_take] at hi;rw[List.getElem_take];exact h1 x hx i (by omega) (by omega)
theorem zyg {f:SS->Option SS} {l:List SS} {i k:Nat} {x:SS} (hk:k<l.length) (hik:i<k) (h:zn7 f (l.take k)) (hx:f l[k]=some x) (h0:∀ j (hj:j<l.length),j<i->f l[j]≠some x) (h1:f (l[i]'(by omega))=some x):zmA f [] l=some (l[i]'(by omega),l[k]):=by
 have hl:l=l.take k++l[k]::l.drop (k+1):=by rw[<-List.drop_eq_getElem_cons hk,List.take_append_drop]
 have hf:(l.take k).find? (hitE f x)=some (l[i]'(by omega)):=by
  rw[List.find?_eq_some_iff_getElem];refine⟨zpm.2 h1,i,by simp;omega,by simp,fun j hj=>?_⟩;rw[List.getElem_take];have:=h0 j (by omega) hj
  cases hb:hitE f x l[j]
  ·rfl
  ·exact absurd (zpm.1 hb) this
 have:=zmF (f:=f) (s:=l[k]) (b:=l.drop (k+1)) hx (l.take k) [] (by simpa using h) (by simpa using hf);rw[<-hl] at this;exact this
theorem zyn {W:World} {vs:List VD} {t:T} {A1 A3:Option Addr} {c1 c3 nb vb:Nat} {s:SS} {sv:Value} (hv:NV W Any t (nv t.k t.n t.s A3 t.ks.length c3)) (hn:W.heap[nb]?=some (.cells #[.int .u8 t.k,.int .i64 t.n,.string t.s,.slice A3 t.ks.length c3] 24 (0,0)))
  (hr:RowV W Any A1 vs) (hb:W.heap[vb]?=some (.cells #[.slice A1 vs.length c1] 25 (0,0))) (hl:vs.length<=LV) (hs:SV W Any s sv) :
  Calls Tryz.prog 15 #[sv,ptr0 nb,ptr0 vb] W (AsP (asgE vs t s) W):=by
 obtain⟨A,c,B,d,D,e,rfl,-⟩:=(show ∃ A c B d D e,sv=.agg #[.slice A s.cells.length c,.slice B s.tin.length d,.slice D s.tout.length e]/\True from by obtain⟨A,c,B,d,D,e,h,-⟩:=hs;exact⟨_,_,_,_,_,_,h,trivial⟩)
 have HAS:=zh (fun w' (hw:Below W.heap.size W w')=>zrw (W:=w') (A:=A1) (c:=c1) (hv.later hw) (hr.later hw) hl (hs.later hw));obtain⟨k,n,nm,ks⟩:=t;simp only[T.k_nd,T.n_nd,T.s_nd,T.ks_nd] at HAS hn;generalize asgE vs (.nd k n nm ks) s=R at HAS ⊢;obtain⟨R1,R2⟩:=R;have h0:=zkc (zkc (Below.refl W.heap.size W) (.cells #[.slice A s.cells.length c,.slice B s.tin.length d,.slice D s.tout.length e] 34)) (.cells #[.slice none 0 0,.slice none 0 0,.slice none 0 0] 34);have k0:=zkf (heap_alloc_new W (.cells #[.slice A s.cells.length c,.slice B s.tin.length d,.slice D s.tout.length e] 34)) (.cells #[.slice none 0 0,.slice none 0 0,.slice none 0 0] 34);have k1:=heap_alloc_new (W.alloc (.cells #[.slice A s.cells.length c,.slice B s.tin.length d,.slice D s.tout.length e] 34)) (.cells #[.slice none 0 0,.slice none 0 0,.slice none 0 0] 34);have HN:=zh hn;have HB:=zh hb;clear hv hr hl hs hn hb
 go_enter Tryz.func15,Tryz.ntmps15;go_upto_region 1 with fail;obtain⟨N,hN⟩:∃ N,W.heap.size=N:=⟨_,rfl⟩
 obtain⟨w1,hw1⟩:∃ x,(W.alloc (.cells #[.slice A s.cells.length c,.slice B s.tin.length d,.slice D s.tout.length e] 34)).alloc (.cells #[.slice none 0 0,.slice none 0 0,.slice none 0 0] 34)=x:=⟨_,rfl⟩
 have hz:w1.heap.size=N+2:=by rw[<-hw1,<-hN];simp
 rw[hw1] at h0 k0 k1 ⊢;rw[World.size_alloc] at k1;rw[hN] at k0 k1 ⊢;have HB1:=zh h0;have aB:=zh k1;have HZ:=zh (And.intro hz hN);obtain⟨y0,y1,y2⟩:=zkr k0;obtain⟨x0,x1,x2,x3⟩:=box4 (zkb HN.out h0);have z0:w1.cell? ⟨vb,0,none⟩=some (.slice A1 vs.length c1):=zc (zkb HB.out h0) rfl;clear hw1 h0 k0 k1 hz hN;go_wp2_with fail;refine(HAS.out _ HB1.out).mono ?_;rintro e2 w2 ⟨hb2,v,rfl,ho,hlim⟩;obtain⟨A6,l6,c6,B6,m6,d6,D6,k6,f6,rfl⟩:=ho.parts;have hk2:=zkb aB.out hb2;obtain⟨q0,q1,q2⟩:=zkr hk2;have cf:∀ o,w2.frozen? ⟨N+1,o,none⟩=false:=fun o=>zf hk2;obtain⟨w3,hw3,hc3,hh3⟩:=st3 (.slice A6 l6 c6) (.slice B6 m6 d6) (.slice D6 k6 f6) hk2;obtain⟨t0,t1,t2⟩:=zkr hh3;have HO:=zh ho;have HB2:=zh hb2;have kX:=zh hc3;clear ho hb2 hk2 hc3 hh3 x0 x1 x2 x3 y0 y1 y2 z0;go_wp2_with fail
 refine bodyPost_ret (v:=.tuple #[.agg #[.slice A6 l6 c6,.slice B6 m6 d6,.slice D6 k6 f6],.int .i64 R1]) (by simp[results,Tryz.results15,go_sem,t0,t1,t2]) rfl ⟨(zka HB1.out HB2.out).trans (kX.out.below (zka HB1.out HB2.out).size fun b (e:b=N+1)=>by have:=HZ.out;omega),_,rfl,HO.out.chgN kX.out (fun b (e:b=N+1)=>by have:=HZ.out;omega) HB1.out.size,hlim⟩
theorem zyh {W:World} {vs:List VD} {t:T} {A1 A3:Option Addr} {c1 c3 nb vb:Nat} {l:List SS} {v:Value} {n0:Nat} {S:Nat->Prop} (hv:NV W Any t (nv t.k t.n t.s A3 t.ks.length c3)) (hn:W.heap[nb]?=some (.cells #[.int .u8 t.k,.int .i64 t.n,.string t.s,.slice A3 t.ks.length c3] 24 (0,0)))
  (hr:RowV W Any A1 vs) (hb:W.heap[vb]?=some (.cells #[.slice A1 vs.length c1] 25 (0,0))) (hl:vs.length<=LV) (hrow:zxK W n0 S v l) (hll:l.length<=65536) (hsm:∀ s∈l,∀ x,gE vs t s=some x->x.Sm) :
  Calls Tryz.prog 14 #[v,.func (.func 15) #[] #[ptr0 nb,ptr0 vb]] W fun e w'=>Below W.heap.size W w'/\∃ ri rk,e=.returned (.tuple #[.int .i64 ri,.int .i64 rk])/\zyr (gE vs t) l ri rk:=by
 have HEF:=zh (fun w' s sv (hw:Below W.heap.size W w') (hs:SV w' Any s sv)=>zyn (c1:=c1) (hv.later hw) (zkb hn hw) (hr.later hw) (zkb hb hw) hl hs);have yN:=zh (fun w' (hb:Below W.heap.size W w')=>hrow.keep (S':=S) (fun q h _=>h) fun q _ hlt=>hb.block q hlt);have uT:=zh hsm;obtain⟨A,c,rfl⟩:=hrow.slice;obtain⟨n,hN⟩:∃ n,l.length=n:=⟨_,rfl⟩
 have HN:=zh hN;rw[hN] at hll ⊢;clear hv hn hr hb hl hrow hsm hN;go_enter Tryz.func14,Tryz.ntmps14;go_wp2_with fail
 go_loopw [6] (fun i wr=>∃ k:Nat,k<=n/\i=.int .i64 k/\Hid (Below W.heap.size W wr)/\Hid (zn7 (gE vs t) (l.take k))) (fun i _=>n-(intOf i).toNat)
 case atStart=>exact⟨0,by omega,rfl,zh (Below.refl _ _),zh fun a s b e=>by simp at e⟩
 case round =>
  obtain⟨k,hk,rfl,kF,zM⟩:=hrel;by_cases hlt:k<n
  ·have hk1:(k:Int)<(n:Int):=by omega
   have hk0:(0:Int)<=(k:Int):=by omega
   have hlk:k<l.length:=by rw[HN.out];exact hlt
   have hwk:IntKind.i64.wrap ((k:Int)+1)=(k:Int)+1:=IntWalk.i64_in _ (by omega);obtain⟨g,cap,As,cs,Bs,ds,Ds,es,yY,-,-,y0,y1,y2,hsv⟩:=(yN.out _ kF.out).nd hlk;injection yY with e1 e2 e3;subst e1;clear e2 e3;have jL:=zh (HEF.out wr _ _ kF.out hsv.any);have rq:=zh (uT.out _ (List.getElem_mem hlk));have zR:=zh (show gE vs t l[k]=if (asgE vs t l[k]).1=0 then some (asgE vs t l[k]).2 else none from rfl);obtain⟨⟨R1,R2⟩,hR⟩:∃ R,asgE vs t l[k]=R:=⟨_,rfl⟩
   rw[hR] at jL zR;simp only at zR;clear hR hsv;go_wp2_with fail;refine jL.out.mono ?_;rintro ea w2 ⟨hb2,v2,rfl,ho2,hl2⟩;simp only at hl2;have hs2:=ho2.svR hl2;obtain⟨A6,c6,B6,d6,D6,f6,rfl,-⟩:=(show ∃ A c B d D e,v2=.agg #[.slice A R2.cells.length c,.slice B R2.tin.length d,.slice D R2.tout.length e]/\True from by obtain⟨A,c,B,d,D,e,h,-⟩:=hs2;exact⟨_,_,_,_,_,_,h,trivial⟩)
   have HB2:=zh (zka kF.out hb2);have vX:=zkc (Below.refl w2.heap.size w2) (.cells #[.slice A6 R2.cells.length c6,.slice B6 R2.tin.length d6,.slice D6 R2.tout.length f6] 34);have hka:=heap_alloc_new w2 (.cells #[.slice A6 R2.cells.length c6,.slice B6 R2.tin.length d6,.slice D6 R2.tout.length f6] 34);have hs3:=hs2.any.later vX;have hb3:=zka HB2.out vX;obtain⟨xb,hxb⟩:∃ x,w2.heap.size=x:=⟨_,rfl⟩
   obtain⟨w3,hw3⟩:∃ x,w2.alloc (.cells #[.slice A6 R2.cells.length c6,.slice B6 R2.tin.length d6,.slice D6 R2.tout.length f6] 34)=x:=⟨_,rfl⟩
   rw[hw3] at hka hs3 hb3;rw[hxb] at hka;have HB3:=zh hb3;have fw:=zh hka;have xU:=zh hs3;clear hb2 ho2 hl2 hs2 vX hka hs3 hb3 y0 y1 y2 jL;by_cases h0:R1=0;rotate_left 1
   ·have e0:(R1 != 0)=true:=by simpa using h0
    have HG:=zh (show gE vs t l[k]=none by rw[zR.out,if_neg h0]);go_wp2_with fail
    go_roundw
    case rel=>exact⟨k+1,by omega,by go_num,HB3,zh (zM.out.step hlk fun x hx=>by rw[HG.out] at hx;cases hx)⟩
    case measure=>simp[intOf];omega
   subst h0;have HG:=zh (show gE vs t l[k]=some R2 by rw[zR.out,if_pos rfl]);have wC:=zh (rq.out _ HG.out);go_wp2_with fail
   go_loopw [9] (fun i wr=>∃ j:Nat,j<=k/\i=.int .i64 j/\Hid (Below w3.heap.size w3 wr)/\Hid (∀ i (hi:i<l.length),i<j->gE vs t l[i]≠some R2)) (fun i _=>k-(intOf i).toNat)
   case atStart=>exact⟨0,by omega,rfl,zh (Below.refl _ _),zh fun i hi h=>by omega⟩
   case round =>
    obtain⟨j,hj,rfl,HBJ,zV⟩:=hrel;have hbW:=zka HB3.out HBJ.out;by_cases hjk:j<k
    ·have hj1:(j:Int)<(k:Int):=by omega
     have hj0:(0:Int)<=(j:Int):=by omega
     have hj2:(j:Int)<(n:Int):=by omega
     have hlj:j<l.length:=by omega
     have sH:IntKind.i64.wrap ((j:Int)+1)=(j:Int)+1:=IntWalk.i64_in _ (by omega);obtain⟨g',cap',zH,cs',zG,ds',Ds',es',yY,-,-,y0,y1,y2,hsv⟩:=(yN.out _ hbW).nd hlj;injection yY with e1 e2 e3;injection e1 with e1;injection e1 with e1;subst e1;clear e2 e3;have jL:=zh (HEF.out _ _ _ hbW hsv.any);have HSJ:=zh (uT.out _ (List.getElem_mem hlj));have zU:=zh (show gE vs t l[j]=if (asgE vs t l[j]).1=0 then some (asgE vs t l[j]).2 else none from rfl);obtain⟨⟨Q1,Q2⟩,hQ⟩:∃ R,asgE vs t l[j]=R:=⟨_,rfl⟩
     rw[hQ] at jL zU;simp only at zU;clear hQ hsv;go_wp2_with fail;refine jL.out.mono ?_;rintro ea w4 ⟨hb4,v4,rfl,bU,hl4⟩;simp only at hl4;have hs4:=bU.svR hl4;obtain⟨A7,c7,B7,d7,D7,f7,rfl,-⟩:=(show ∃ A c B d D e,v4=.agg #[.slice A Q2.cells.length c,.slice B Q2.tin.length d,.slice D Q2.tout.length e]/\True from by obtain⟨A,c,B,d,D,e,h,-⟩:=hs4;exact⟨_,_,_,_,_,_,h,trivial⟩)
     have vX:=zkc (Below.refl w4.heap.size w4) (.cells #[.slice A7 Q2.cells.length c7,.slice B7 Q2.tin.length d7,.slice D7 Q2.tout.length f7] 34);have hka:=heap_alloc_new w4 (.cells #[.slice A7 Q2.cells.length c7,.slice B7 Q2.tin.length d7,.slice D7 Q2.tout.length f7] 34);have hs5:=hs4.any.later vX;have hb5:=zka (zka HBJ.out hb4) vX;obtain⟨yb,hyb⟩:∃ x,w4.heap.size=x:=⟨_,rfl⟩
     obtain⟨w5,eX⟩:∃ x,w4.alloc (.cells #[.slice A7 Q2.cells.length c7,.slice B7 Q2.tin.length d7,.slice D7 Q2.tout.length f7] 34)=x:=⟨_,rfl⟩
     rw[eX] at hka hs5 hb5;rw[hyb] at hka;have av:=zh hb5;have tF:=zh hs5;have HNX:=zh (fun(h:gE vs t l[j]≠some R2)=>show ∀ i (hi:i<l.length),i<j+1->gE vs t l[i]≠some R2 from fun i hi h2=>by
      by_cases e:i=j
      ·subst e;exact h
      ·exact zV.out i hi (by omega))
     obtain⟨q0,q1,q2⟩:=zkr hka;obtain⟨t0,t1,t2⟩:=zkr (zkb fw.out hb5);clear hb4 bU hl4 hs4 vX hka hs5 hb5 y0 y1 y2 jL hbW;by_cases h1:Q1=0;rotate_left 1
     ·have e0:(Q1==0)=false:=by simpa using h1
      have HG2:=zh (show gE vs t l[j]≠some R2 by rw[zU.out,if_neg h1];simp);clear q0 q1 q2 t0 t1 t2;go_wp2_with fail
      go_roundw
      case rel=>exact⟨j+1,by omega,by go_num,av,zh (HNX.out HG2.out)⟩
      case measure=>simp[intOf];omega
     subst h1;have HG2:=zh (show gE vs t l[j]=some Q2 by rw[zU.out,if_pos rfl]);have oM:=zh (zmJ R2 Q2 _ _ w5 (xU.out.later av.out) tF.out wC.out (HSJ.out _ HG2.out));obtain⟨be,hbe⟩:∃ x,eqS R2 Q2=x:=⟨_,rfl⟩
     rw[hbe] at oM;have vG:=zh hbe;clear hbe;go_wp2_with fail;refine oM.out.mono ?_;rintro ea w6 ⟨rfl,hb6⟩;have aO:=zh (zka av.out hb6);clear hb6 q0 q1 q2 t0 t1 t2 oM
     cases be
     ·have zN:=zh (show gE vs t l[j]≠some R2 from fun h=>by
       rw[HG2.out] at h;injection h with h;have:=vG.out;rw[h,show eqS R2 R2=true by simp[eqS]] at this
       cases this)
      go_wp2_with fail
      go_roundw
      case rel=>exact⟨j+1,by omega,by go_num,aO,zh (HNX.out zN.out)⟩
      case measure=>simp[intOf];omega
     ·have HF:=zh (zyg hlk hjk zM.out HG.out zV.out (by rw[HG2.out,zoZ.1 vG.out]));go_wp2_with fail;go_ret2;exact⟨zka HB3.out aO.out,_,_,rfl,.inr ⟨j,k,hlj,hlk,rfl,rfl,HF.out⟩⟩
    ·obtain rfl:j=k:=by omega
     go_wp2_with fail
     go_roundw
     case rel=>exact⟨j+1,by omega,by go_num,zh hbW,zh (zM.out.step hlk fun x hx i hi h=>by rw[HG.out] at hx;injection hx with hx;subst hx;exact zV.out i hi h)⟩
     case measure=>simp[intOf];omega
  ·obtain rfl:k=n:=by omega
   have HF:=zh (show zmA (gE vs t) [] l=none from zmG l [] (by have:=zM.out;rwa[<-HN.out,List.take_length] at this));go_wp2_with fail;go_ret2;exact⟨kF.out,_,_,rfl,.inl ⟨rfl,rfl,HF.out⟩⟩
theorem zyo {vs:List VD} {x:SS} (h:fitB vs x=true):x.Sm:=by
 obtain⟨h1,h2,h3,h4,h5⟩:=zl6 h;refine⟨by omega,fun l hl=>?_,by omega,by omega⟩;obtain⟨i,hi,rfl⟩:=List.mem_iff_getElem.1 hl;obtain⟨a,b⟩:=h5 i (by omega) hi;unfold fit1 fixE at b;unfold vdB at a
 split at b
 ·simp at b;omega
 ·simp only[decide_eq_true_eq] at b
  split at b
  ·omega
  ·split at a
   ·simp at a;omega
   ·split at a
    ·simp at a;omega
    ·cases a
theorem zyk {vs:List VD} {b:BX} (h:(b.ok&&svB vs)=true):∀ x∈allS b (lenE vs b),x.I:=by
 intro x hx;obtain⟨y,hy,rfl⟩:=List.mem_map.1 hx;have h1:=zuQ rfl y hy;have h2:=zmq h;have h3:=h1.len;have h4:∀ i (hi:i<y.length),∀ e∈y[i],I64 e:=fun i hi e he=>by
  have h5:=(h1.get i (by omega) hi).2.2 e he;have h6:=h2.2.2.2;exact⟨by omega,by omega⟩
 have h7:∀ l∈y,∀ e∈l,I64 e:=fun l hl=>by obtain⟨i,hi,rfl⟩:=List.mem_iff_getElem.1 hl;exact h4 i hi
 refine⟨fun l hl=>h7 l ((List.dropLast_sublist y).subset hl),?_,fun e he=>by cases he⟩
 show ∀ e∈y.getLastD [],I64 e
 rw[zpn (n:=y.length) rfl (by omega)];exact h4 _ (by omega)
theorem zya {vs:List VD} {b:BX} {t:T} (hs:smL vs b=true) (hf:∀ v∈vs,FldV v) :
  (stsL vs b 150=none/\losE t vs b=none)\/∃ l,stsL vs b 150=some l/\l=allS b (lenE vs b)/\(b.ok&&svB vs)=true/\l.length<=65536/\losE t vs b=zmA (gE vs t) [] l/\(∀ s∈l,∀ x,gE vs t s=some x->x.Sm):=by
 unfold smL at hs;simp only[Bool.and_eq_true,Bool.or_eq_true,decide_eq_true_eq] at hs;unfold stsL losE;by_cases h0:(cntR vs b).2=0/\(cntR vs b).1<=150
 ·have hsm:smlE vs b=true:=by
   unfold smlE;simp only[Bool.and_eq_true,decide_eq_true_eq];exact⟨h0.1,by omega⟩
  obtain⟨h1,h2⟩:=zrL hsm;rw[if_pos h0,if_pos hsm];refine .inr ⟨_,rfl,rfl,h1,zuP h1 h2,zx4 _ _ fun x hx=>zyq hf (zyk h1 x (by simpa using hx)),fun s hs x hx=>?_⟩;unfold gE at hx
  split at hx
  ·rename_i h3;injection hx with hx;rw[<-hx];exact zyo (zye hf (zyk h1 s hs) h3)
  ·cases hx
 ·rw[if_neg h0];have hsm:smlE vs b=false:=by
   unfold smlE;rcases hs.2 with h|h
   ·rw[h];rfl
   ·exact absurd h h0
  rw[if_neg (by rw[hsm];simp)];exact .inl ⟨rfl,rfl⟩
theorem zx8 (haw:AwP) {W:World} {vs:List VD} {b:BX} {t:T} {v:Value} {A1:Option Addr} {c1:Nat} (hv:NV W Any t v) (hr:RowV W Any A1 vs) (hl:vs.length<=LV) (hlc:vs.length<=c1) :
  Calls Tryz.prog 3 #[v,.slice A1 vs.length c1,.agg #[.int .i64 b.v,.int .i64 b.l,.int .i64 b.i]] W fun e w'=>e=.returned (.bool true)/\Below W.heap.size W w':=by
 have vH:=zh haw;have yK:=zh (fun w' (hb:Below W.heap.size W w')=>zvc t v w' (hv.later hb));have yL:=zh (fun w' (hb:Below W.heap.size W w')=>zxR vs b A1 c1 w' (hr.later hb) hl);have jo:=zh (fun w' (hb:Below W.heap.size W w')=>zpG (b:=b) (c1:=c1) (hv.later hb) (hr.later hb) hl);have ze:=zh (fun w' (hb:Below W.heap.size W w')=>zxQ (b:=b) (m:=150) (c1:=c1) (hr.later hb) hl (by decide));have zl:∀ x∈vs,FldV x:=fun x hx=>by
  obtain⟨i,hi,rfl⟩:=List.mem_iff_getElem.1 hx;obtain⟨a,v,-,-,Hv,-,hf⟩:=hr.nd hi;rw[Hv.out];exact hf
 have dV:=zh (fun h=>zya (vs:=vs) (b:=b) (t:=t) h zl);have zg:=zh (fun h=>zx2 (vs:=vs) (b:=b) h);have hv0:=hv.open_;obtain⟨A3,c3,rfl,-⟩:=hv0;have HPAI:=zh (fun w' (l:List SS) (v:Value) nb vb n0 S (hb:Below W.heap.size W w') hn hx hrow hll hsm=>zyh (W:=w') (l:=l) (v:=v) (nb:=nb) (vb:=vb) (n0:=n0) (S:=S) (c1:=c1) (hv.later hb) hn (hr.later hb) hx hl hrow hll hsm);obtain⟨k,n,nm,ks⟩:=t;obtain⟨bv,bl,bi⟩:=b;simp only[T.k_nd,T.n_nd,T.s_nd,T.ks_nd] at yK jo HPAI ⊢;obtain⟨N,hN⟩:∃ N,W.heap.size=N:=⟨_,rfl⟩
 obtain⟨hb1,-,k0,kv,k1⟩:=al3 W (.cells #[.int .u8 k,.int .i64 n,.string nm,.slice A3 ks.length c3] 24) (.cells #[.slice A1 vs.length c1] 25) (.cells #[.int .i64 bv,.int .i64 bl,.int .i64 bi] 27);obtain⟨w1,hw1⟩:∃ x,((W.alloc (.cells #[.int .u8 k,.int .i64 n,.string nm,.slice A3 ks.length c3] 24)).alloc (.cells #[.slice A1 vs.length c1] 25)).alloc (.cells #[.int .i64 bv,.int .i64 bl,.int .i64 bi] 27)=x:=⟨_,rfl⟩
 rw[hw1] at hb1 k0 kv k1;rw[hN] at k0 kv k1;have HB1:=zh hb1;have aP:=zh k0;have zO:=zh kv;have aB:=zh k1;have HN:=zh hN
 show Calls Tryz.prog 3 #[.agg #[.int .u8 k,.int .i64 n,.string nm,.slice A3 ks.length c3],.slice A1 vs.length c1,.agg #[.int .i64 bv,.int .i64 bl,.int .i64 bi]] W _
 clear hv hr hl hlc hb1 k0 kv k1 haw zl;go_enter Tryz.func3,Tryz.ntmps3;go_wp2_with fail;clear hw1;refine(vH.out _).mono ?_;rintro e2 w2 ⟨rfl,hb2⟩;have HB2:=zh (zka HB1.out hb2);have eT:=zh (zkb aP.out hb2);have HKV2:=zh (zkb zO.out hb2);have eQ:=zh (zkb aB.out hb2);obtain⟨x0,x1,x2,x3⟩:=box4 eT.out;clear hb2;go_wp2_with fail;refine(yK.out _ HB2.out).mono ?_;rintro e3 w3 ⟨bg,rfl,hb3⟩;have HB3:=zh (zka HB2.out hb3);have rQ:=zh (zkb eT.out hb3);have HKV3:=zh (zkb HKV2.out hb3);have oF:=zh (zkb eQ.out hb3);obtain⟨y0,y1,y2⟩:=zkr oF.out;have yv:w3.cell? ⟨N+1,0,none⟩=some (.slice A1 vs.length c1):=zc HKV3.out rfl;clear hb3 x0 x1 x2 x3
 cases bg
 rotate_left 1
 ·go_wp2_with fail;go_ret;exact⟨rfl,HB3.out⟩
 go_wp2_with fail;refine(yL.out _ HB3.out).mono ?_;obtain⟨sm,hsm⟩:∃ x,smL vs ⟨bv,bl,bi⟩=x:=⟨_,rfl⟩
 rw[hsm];have HS:=zh hsm;clear hsm;rintro e4 w4 ⟨rfl,hb4⟩;have ak:=zh (zka HB3.out hb4);have oG:=zh (zkb rQ.out hb4);have HKV4:=zh (zkb HKV3.out hb4);have oD:=zh (zkb oF.out hb4);obtain⟨x0,x1,x2,x3⟩:=box4 oG.out;obtain⟨z0,z1,z2⟩:=zkr oD.out;have zv:w4.cell? ⟨N+1,0,none⟩=some (.slice A1 vs.length c1):=zc HKV4.out rfl;clear hb4 y0 y1 y2 yv
 cases sm
 ·go_wp2_with fail;go_ret;exact⟨rfl,ak.out⟩
 have yJ:=zh (dV.out HS.out);go_wp2_with fail;refine(jo.out _ ak.out).mono ?_;obtain⟨RC,zJ⟩:∃ RC,losE (.nd k n nm ks) vs ⟨bv,bl,bi⟩=RC:=⟨_,rfl⟩
 rw[zJ] at yJ ⊢;obtain⟨RS,zI⟩:∃ RS,stsL vs ⟨bv,bl,bi⟩ 150=RS:=⟨_,rfl⟩
 rw[zI] at yJ ze;clear zJ zI dV;rintro e5 w5 ⟨hb5,a0,a1,a2,a3,a4,a5,ok,rfl,h5⟩;obtain⟨A5,la,c5,B5,lb,d5,D5,ld,f5,A6,ma,c6,B6,mb,d6,D6,md,f6,rfl,rfl,rfl,rfl,rfl,rfl⟩:∃ A5 la c5 B5 lb d5 D5 ld f5 A6 ma c6 B6 mb d6 D6 md f6,a0=.slice A5 la c5/\a1=.slice B5 lb d5/\a2=.slice D5 ld f5/\a3=.slice A6 ma c6/\a4=.slice B6 mb d6/\a5=.slice D6 md f6:=by
  rcases h5 with⟨-,-,h⟩|⟨q,s,-,-,hq,hs⟩
  ·simp only[Array.mk.injEq,List.cons.injEq,and_true] at h;obtain⟨rfl,rfl,rfl,rfl,rfl,rfl⟩:=h;exact⟨_,_,_,_,_,_,_,_,_,_,_,_,_,_,_,_,_,_,rfl,rfl,rfl,rfl,rfl,rfl⟩
  ·obtain⟨A,c,B,d,D,e,h,-⟩:=hq;obtain⟨A',c',B',d',D',e',h',-⟩:=hs;injection h with h;injection h' with h';simp only[Array.mk.injEq,List.cons.injEq,and_true] at h h';obtain⟨rfl,rfl,rfl⟩:=h;obtain⟨rfl,rfl,rfl⟩:=h';exact⟨_,_,_,_,_,_,_,_,_,_,_,_,_,_,_,_,_,_,rfl,rfl,rfl,rfl,rfl,rfl⟩
 have zi:=zh (show RC=none->ok=false/\(A5=none/\la=0/\c5=0)/\(B5=none/\lb=0/\d5=0)/\(D5=none/\ld=0/\f5=0)/\(A6=none/\ma=0/\c6=0)/\(B6=none/\mb=0/\d6=0)/\(D6=none/\md=0/\f6=0) from fun hn=>by
  rcases h5 with⟨-,h1,h2⟩|⟨q,s,h,-⟩
  ·simp only[Array.mk.injEq,List.cons.injEq,and_true,Value.slice.injEq] at h2;exact⟨h1,h2⟩
  ·rw[hn] at h;cases h)
 have zw:=zh (show ∀ q s,RC=some (q,s)->ok=true/\SV w5 Any q (.agg #[.slice A5 la c5,.slice B5 lb d5,.slice D5 ld f5])/\SV w5 Any s (.agg #[.slice A6 ma c6,.slice B6 mb d6,.slice D6 md f6]) from fun q s hs=>by
  rcases h5 with⟨h,-⟩|⟨q',s',h,h1,h2⟩
  ·rw[hs] at h;cases h
  ·rw[hs] at h;injection h with h;injection h with ha hb;subst ha hb;exact⟨h1,h2.1.any,h2.2.any⟩)
 have kz:=heap_alloc_new w5 (.cells #[.slice none 0 0,.slice none 0 0,.slice none 0 0,.slice none 0 0,.slice none 0 0,.slice none 0 0] 36);have hbz:=zkc (Below.refl w5.heap.size w5) (.cells #[.slice none 0 0,.slice none 0 0,.slice none 0 0,.slice none 0 0,.slice none 0 0,.slice none 0 0] 36);obtain⟨wz,hwz⟩:∃ x,w5.alloc (.cells #[.slice none 0 0,.slice none 0 0,.slice none 0 0,.slice none 0 0,.slice none 0 0,.slice none 0 0] 36)=x:=⟨_,rfl⟩
 rw[hwz] at kz hbz;obtain⟨q0,q1,q2,q3,q4,q5⟩:=box6 kz;have cfz:∀ o,wz.frozen? ⟨w5.heap.size,o,none⟩=false:=fun o=>zf kz;obtain⟨w6,sI,hc6,mP⟩:=st6 (.slice A5 la c5) (.slice B5 lb d5) (.slice D5 ld f5) (.slice A6 ma c6) (.slice B6 mb d6) (.slice D6 md f6) kz;have dD:Below w5.heap.size w5 w6:=hbz.trans (hc6.below hbz.size fun b (e:b=w5.heap.size)=>by omega);clear kz hbz hc6;go_upto_region 6 with fail;obtain⟨sb,hsb⟩:∃ x,w5.heap.size=x:=⟨_,rfl⟩
 have zn:=zh dD;have aO:=zh (zka (zka ak.out hb5) dD);rw[hsb] at mP ⊢;have ek:=zh mP;have rP:=zh (zkb (zkb oG.out hb5) dD);have HKV6:=zh (zkb (zkb HKV4.out hb5) dD);have rM:=zh (zkb (zkb oD.out hb5) dD);clear x0 x1 x2 x3 z0 z1 z2 zv hb5 dD mP sI hwz cfz q0 q1 q2 q3 q4 q5 hsb h5;obtain⟨z0,z1,z2⟩:=zkr rM.out;have zv:w6.cell? ⟨N+1,0,none⟩=some (.slice A1 vs.length c1):=zc HKV6.out rfl;have hbz:=bStZ;go_wp2_with fail;refine(ze.out _ aO.out).mono ?_;rintro e7 w7 ⟨bF,h7⟩;have zk:=zh bF;have sD:=zh (zka aO.out bF);have zx:=zh (zkb rP.out bF);have HKV7:=zh (zkb HKV6.out bF);have yQ:=zh (zkb ek.out bF);clear z0 z1 z2 zv bF;rcases h7 with⟨hn,rfl⟩|⟨l,v7,hs,rfl,hrt⟩
 ·have jJ:=zh (show RC=none by
   rcases yJ.out with⟨-,h⟩|⟨l,h,-⟩
   ·exact h
   ·rw[hn] at h;cases h)
  clear hn;obtain⟨rfl,⟨rfl,rfl,rfl⟩,⟨rfl,rfl,rfl⟩,⟨rfl,rfl,rfl⟩,⟨rfl,rfl,rfl⟩,⟨rfl,rfl,rfl⟩,⟨rfl,rfl,rfl⟩⟩:=zi.out jJ.out;have zq:=zh yQ.out;obtain⟨q0,q1,q2,q3,q4,q5⟩:=box6 zq.out;have oM:=zh (fun w=>zmJ ⟨[],[],[]⟩ ⟨[],[],[]⟩ _ _ w (zxO w Any) (zxO w Any) zxX zxX);rw[show eqS ⟨[],[],[]⟩ ⟨[],[],[]⟩=true from by decide] at oM;go_wp2_with fail;refine(oM.out _).mono ?_;rintro e9 w9 ⟨rfl,aH⟩;have aW:=zh (zka sD.out aH);have iq:=zh (zkb zq.out aH);clear aH q0 q1 q2 q3 q4 q5;obtain⟨q0,q1,q2,q3,q4,q5⟩:=box6 iq.out;go_wp2_with fail;refine(oM.out _).mono ?_;rintro e9 wf ⟨rfl,aH⟩;have yH:=zh (zka aW.out aH);clear aH q0 q1 q2 q3 q4 q5;go_wp2_with fail;go_ret;exact⟨rfl,yH.out⟩
 ·obtain⟨hle,hok,hln,xu,hsg⟩:l=allS ⟨bv,bl,bi⟩ (lenE vs ⟨bv,bl,bi⟩)/\(BX.ok ⟨bv,bl,bi⟩&&svB vs)=true/\l.length<=65536/\RC=zmA (gE vs (.nd k n nm ks)) [] l/\(∀ s∈l,∀ x,gE vs (.nd k n nm ks) s=some x->x.Sm):=by
   rcases yJ.out with⟨h,-⟩|⟨l',h,h2⟩
   ·rw[hs] at h;cases h
   ·rw[hs] at h;injection h with h;subst h;exact h2
  have hsx:=zg.out hok;rw[<-hle] at hsx;have yV:=zh hsx;have ve:=zh hln;have HSG:=zh hsg;have vB:=zh xu;have yN:=zh hrt;have HPA:=zh (HPAI.out w7 l v7 N (N+1) _ _ sD.out zx.out HKV7.out hrt hln hsg);clear hsx hln xu hok hle hs zg yJ hsg;obtain⟨Al,cl,rfl⟩:=hrt.slice;clear hrt;have vT:∀ (fn:Fn) (first cap:Array Value) (w:World),(Instr.makeFunc fn first cap).run Tryz.prog w=.ok (.func fn first cap) w:=fun _ _ _ _=>rfl;go_wp2_with fail;refine HPA.out.mono ?_;rintro ea wa ⟨vX,ri,rk,rfl,hix⟩;have gL:=zh (zka sD.out vX);have yM:=zh vX;clear vX;rcases hix with⟨rfl,rfl,hno⟩|⟨i,m,hi,hm,rfl,rfl,za⟩
  ·have jJ:=zh (show RC=none from vB.out.trans hno);clear hno;obtain⟨rfl,⟨rfl,rfl,rfl⟩,⟨rfl,rfl,rfl⟩,⟨rfl,rfl,rfl⟩,⟨rfl,rfl,rfl⟩,⟨rfl,rfl,rfl⟩,⟨rfl,rfl,rfl⟩⟩:=zi.out jJ.out;have zq:=zh (zkb yQ.out yM.out);obtain⟨q0,q1,q2,q3,q4,q5⟩:=box6 zq.out;have oM:=zh (fun w=>zmJ ⟨[],[],[]⟩ ⟨[],[],[]⟩ _ _ w (zxO w Any) (zxO w Any) zxX zxX);rw[show eqS ⟨[],[],[]⟩ ⟨[],[],[]⟩=true from by decide] at oM;go_wp2_with fail;refine(oM.out _).mono ?_;rintro e9 w9 ⟨rfl,aH⟩;have aW:=zh (zka gL.out aH);have iq:=zh (zkb zq.out aH);clear aH q0 q1 q2 q3 q4 q5;obtain⟨q0,q1,q2,q3,q4,q5⟩:=box6 iq.out;go_wp2_with fail;refine(oM.out _).mono ?_;rintro e9 wf ⟨rfl,aH⟩;have yH:=zh (zka aW.out aH);clear aH q0 q1 q2 q3 q4 q5;go_wp2_with fail;go_ret;exact⟨rfl,yH.out⟩
  ·obtain⟨rfl,hsv,hsw⟩:=zw.out _ _ (vB.out.trans za);have hi0:¬ (m:Int)<0:=by omega
   have hi1:(0:Int)<=(i:Int):=by omega
   have hi2:(i:Int)<(l.length:Int):=by omega
   have hm1:(0:Int)<=(m:Int):=by omega
   have hm2:(m:Int)<(l.length:Int):=by omega
   have zt:=(yN.out.keep (S':=fun q=>W.heap.size<=q) (fun q h _=>Nat.le_trans aO.out.size h) fun q _ hlt=>yM.out.block q hlt)
   obtain⟨g,cap,As,cs,Bs,ds,Ds,es,yY,-,-,y0,y1,y2,hsl⟩:=zt.nd hi;obtain⟨g',cap',zH,cs',zG,ds',Ds',es',hve',-,-,z0,z1,z2,hsl'⟩:=zt.nd hm;injection yY with e1 e2 e3;subst e1;injection hve' with e1 e4 e5;injection e1 with e1;injection e1 with e1;subst e1;clear e2 e3 e4 e5 zt;obtain⟨q0,q1,q2,q3,q4,q5⟩:=box6 (zkb yQ.out yM.out);have hxm:=(yV.out _ (List.getElem_mem hi)).1;have hxn:=(yV.out _ (List.getElem_mem hm)).1;have nW:=zh (And.intro (hsv.later (zka zn.out (zka zk.out yM.out))) (And.intro hsl.any hxm));have zK:=zh (And.intro (hsw.later (zka zn.out (zka zk.out yM.out))) (And.intro hsl'.any hxn));clear hsv hsl za hxm vB yN hsw hsl' hxn;generalize l[i]=X at nW y0 y1 y2;generalize l[m]=Y at zK z0 z1 z2;go_upto_region 12 with fail;have hcd:=Below.drew (Below.refl wa.heap.size wa)
   have hcell:∀ w',Below wa.heap.size wa w'->(fun w':World=>(w'.cell? ⟨sb,0,none⟩=some (.slice A5 la c5)/\w'.cell? ⟨sb,1,none⟩=some (.slice B5 lb d5)/\w'.cell? ⟨sb,2,none⟩=some (.slice D5 ld f5)/\w'.cell? ⟨sb,3,none⟩=some (.slice A6 ma c6)/\w'.cell? ⟨sb,4,none⟩=some (.slice B6 mb d6)/\w'.cell? ⟨sb,5,none⟩=some (.slice D6 md f6))/\(w'.cell? ⟨g,i*3,none⟩=some (.slice As X.cells.length cs)/\w'.cell? ⟨g,i*3+1,none⟩=some (.slice Bs X.tin.length ds)/\w'.cell? ⟨g,i*3+2,none⟩=some (.slice Ds X.tout.length es))/\w'.cell? ⟨g,m*3,none⟩=some (.slice zH Y.cells.length cs')/\w'.cell? ⟨g,m*3+1,none⟩=some (.slice zG Y.tin.length ds')/\w'.cell? ⟨g,m*3+2,none⟩=some (.slice Ds' Y.tout.length es')) w':=fun w' hb=>⟨⟨zb hb q0,zb hb q1,zb hb q2,zb hb q3,zb hb q4,zb hb q5⟩,⟨zb hb y0,zb hb y1,zb hb y2⟩,zb hb z0,zb hb z1,zb hb z2⟩
   have yI:=zh hcell;have had:Calls Tryz.prog 17 [.agg #[.slice A5 la c5,.slice B5 lb d5,.slice D5 ld f5],.agg #[.slice As X.cells.length cs,.slice Bs X.tin.length ds,.slice Ds X.tout.length es]].toArray wa.drew fun e w'=>∃ v,e=.returned v/\(v=.bool true/\Below wa.heap.size wa w') :=
    (zmJ X X _ _ wa.drew (nW.out.1.later hcd) (nW.out.2.1.later hcd) nW.out.2.2 nW.out.2.2).mono fun e w' ⟨h1,h2⟩=>⟨_,h1,by rw[show eqS X X=true by simp[eqS]],zka hcd h2⟩
   have HAE:=zh (fun w9 (hb:Below wa.heap.size wa w9)=>show Calls Tryz.prog 17 [.agg #[.slice A6 ma c6,.slice B6 mb d6,.slice D6 md f6],.agg #[.slice zH Y.cells.length cs',.slice zG Y.tin.length ds',.slice Ds' Y.tout.length es']].toArray w9 fun e w'=>∃ v,e=.returned v/\(v=.bool true/\Below w9.heap.size w9 w') from
    (zmJ Y Y _ _ w9 (zK.out.1.later hb) (zK.out.2.1.later hb) zK.out.2.2 zK.out.2.2).mono fun e w' ⟨h1,h2⟩=>⟨_,h1,by rw[show eqS Y Y=true by simp[eqS]],h2⟩)
   have hSS:(fun w':World=>(w'.cell? ⟨sb,0,none⟩=some (.slice A5 la c5)/\w'.cell? ⟨sb,1,none⟩=some (.slice B5 lb d5)/\w'.cell? ⟨sb,2,none⟩=some (.slice D5 ld f5)/\w'.cell? ⟨sb,3,none⟩=some (.slice A6 ma c6)/\w'.cell? ⟨sb,4,none⟩=some (.slice B6 mb d6)/\w'.cell? ⟨sb,5,none⟩=some (.slice D6 md f6))/\(w'.cell? ⟨g,i*3,none⟩=some (.slice As X.cells.length cs)/\w'.cell? ⟨g,i*3+1,none⟩=some (.slice Bs X.tin.length ds)/\w'.cell? ⟨g,i*3+2,none⟩=some (.slice Ds X.tout.length es))/\w'.cell? ⟨g,m*3,none⟩=some (.slice zH Y.cells.length cs')/\w'.cell? ⟨g,m*3+1,none⟩=some (.slice zG Y.tin.length ds')/\w'.cell? ⟨g,m*3+2,none⟩=some (.slice Ds' Y.tout.length es')) wa.drew/\(fun _:World=>True) wa.drew:=⟨yI.out _ hcd,trivial⟩
   clear q0 q1 q2 q3 q4 q5 y0 y1 y2 z0 z1 z2 hcell hcd;refine wp_region_noPanic ?_;refine zkd (fun w':World=>(w'.cell? ⟨sb,0,none⟩=some (.slice A5 la c5)/\w'.cell? ⟨sb,1,none⟩=some (.slice B5 lb d5)/\w'.cell? ⟨sb,2,none⟩=some (.slice D5 ld f5)/\w'.cell? ⟨sb,3,none⟩=some (.slice A6 ma c6)/\w'.cell? ⟨sb,4,none⟩=some (.slice B6 mb d6)/\w'.cell? ⟨sb,5,none⟩=some (.slice D6 md f6))/\(w'.cell? ⟨g,i*3,none⟩=some (.slice As X.cells.length cs)/\w'.cell? ⟨g,i*3+1,none⟩=some (.slice Bs X.tin.length ds)/\w'.cell? ⟨g,i*3+2,none⟩=some (.slice Ds X.tout.length es))/\w'.cell? ⟨g,m*3,none⟩=some (.slice zH Y.cells.length cs')/\w'.cell? ⟨g,m*3+1,none⟩=some (.slice zG Y.tin.length ds')/\w'.cell? ⟨g,m*3+2,none⟩=some (.slice Ds' Y.tout.length es')) (fun _:World=>True) 30 (by kernel_rfl) ?_;refine zT 0 hSS ?_;(try simp only[zQ]);refine zT 1 hSS ?_;(try simp only[zQ]);refine zT 2 hSS ?_
   (try simp only[zQ]);refine zT 3 hSS ?_;(try simp only[zQ]);refine zT 4 hSS ?_;(try simp only[zQ]);refine zT 5 hSS ?_;(try simp only[zQ]);refine zT 6 hSS ?_;(try simp only[zQ]);refine zT 7 hSS ?_;(try simp only[zQ]);refine zo 8 fun K hK=>?_;refine zlj (by rfl) (.func 17) [.tmp 62,.tmp 66] _ (by rfl) 17 _ zxY (by rfl) _ (by rfl) _ had ?_;rintro v9 w9 ⟨rfl,aH⟩
   have yS:(fun w':World=>(w'.cell? ⟨sb,0,none⟩=some (.slice A5 la c5)/\w'.cell? ⟨sb,1,none⟩=some (.slice B5 lb d5)/\w'.cell? ⟨sb,2,none⟩=some (.slice D5 ld f5)/\w'.cell? ⟨sb,3,none⟩=some (.slice A6 ma c6)/\w'.cell? ⟨sb,4,none⟩=some (.slice B6 mb d6)/\w'.cell? ⟨sb,5,none⟩=some (.slice D6 md f6))/\(w'.cell? ⟨g,i*3,none⟩=some (.slice As X.cells.length cs)/\w'.cell? ⟨g,i*3+1,none⟩=some (.slice Bs X.tin.length ds)/\w'.cell? ⟨g,i*3+2,none⟩=some (.slice Ds X.tout.length es))/\w'.cell? ⟨g,m*3,none⟩=some (.slice zH Y.cells.length cs')/\w'.cell? ⟨g,m*3+1,none⟩=some (.slice zG Y.tin.length ds')/\w'.cell? ⟨g,m*3+2,none⟩=some (.slice Ds' Y.tout.length es')) w9/\(fun _:World=>True) w9:=⟨yI.out _ aH,trivial⟩
   refine hK.out _ _ yS ?_;have aW:=zh aH;have had:=HAE.out _ aH;clear hK K hSS aH;(try simp only[zQ]);refine zT 9 yS ?_;(try simp only[zQ]);refine zT 10 yS ?_;(try simp only[zQ]);refine zT 11 yS ?_;(try simp only[zQ]);refine zT 12 yS ?_;(try simp only[zQ]);refine zT 13 yS ?_;(try simp only[zQ]);refine zT 14 yS ?_;(try simp only[zQ]);refine zT 15 yS ?_;(try simp only[zQ]);refine zT 16 yS ?_;(try simp only[zQ]);refine zo 17 fun K hK=>?_;refine zlj (by rfl) (.func 17) [.tmp 71,.tmp 75] _ (by rfl) 17 _ zxY (by rfl) _ (by rfl) _ had ?_;rintro vf wf ⟨rfl,hbf⟩;have zu:=zka aW.out hbf
   have zL:(fun w':World=>(w'.cell? ⟨sb,0,none⟩=some (.slice A5 la c5)/\w'.cell? ⟨sb,1,none⟩=some (.slice B5 lb d5)/\w'.cell? ⟨sb,2,none⟩=some (.slice D5 ld f5)/\w'.cell? ⟨sb,3,none⟩=some (.slice A6 ma c6)/\w'.cell? ⟨sb,4,none⟩=some (.slice B6 mb d6)/\w'.cell? ⟨sb,5,none⟩=some (.slice D6 md f6))/\(w'.cell? ⟨g,i*3,none⟩=some (.slice As X.cells.length cs)/\w'.cell? ⟨g,i*3+1,none⟩=some (.slice Bs X.tin.length ds)/\w'.cell? ⟨g,i*3+2,none⟩=some (.slice Ds X.tout.length es))/\w'.cell? ⟨g,m*3,none⟩=some (.slice zH Y.cells.length cs')/\w'.cell? ⟨g,m*3+1,none⟩=some (.slice zG Y.tin.length ds')/\w'.cell? ⟨g,m*3+2,none⟩=some (.slice Ds' Y.tout.length es')) wf/\(fun _:World=>True) wf:=⟨yI.out _ zu,trivial⟩
   refine hK.out _ _ zL ?_;have yH:=zh (zka gL.out zu);clear hK K yS had hbf zu yI;(try simp only[zQ]);refine zT 18 zL ?_;(try simp only[zQ]);refine zT 19 zL ?_;(try simp only[zQ]);refine zd ?_;refine NoPanic.normal ?_;clear zL;go_wp2_with fail;go_ret;exact⟨rfl,yH.out⟩
end Go.Proofs.YtghbhbdnkjjnnaaGreat
