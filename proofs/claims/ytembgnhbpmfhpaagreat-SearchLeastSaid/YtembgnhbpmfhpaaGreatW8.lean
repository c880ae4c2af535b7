/-
  Texts of the proof, put together without their remarks: Rpi, Apr, Wgo, Ssp, Sfi, Ie, Is, Ic, Iu, Iw, Ix, Iy, Il.
-/
import Derived.Test.YtembgnhbpmfhpaaGreatW7
set_option linter.unusedSimpArgs false
set_option linter.unusedVariables false
set_option maxHeartbeats 8000000
set_option maxRecDepth 100000
namespace Go.Proofs.YtembgnhbpmfhpaaGreat
open Tryz
section
open Go Go.RowKit
def GdL(l:List Int):Prop:=l.length<=1000/\∀e∈l,-1000<=e/\e<=1000
def GdS(k:Nat)(s:SS):Prop:=s.cells.length<=k/\(∀l∈s.cells,GdL l)/\GdL s.tin/\s.tout=[]
theorem zwe{v x:Int}(h:x∈rngZ v) : -v<=x/\x<=v:=by
 unfold rngZ at h;obtain⟨i,hi,rfl⟩:=List.mem_map.1 h;rw[List.mem_range]at hi;omega
theorem zrM{v x:Int}:∀ {n:Nat} {l:List Int},l∈tupE v n->x∈l -> -v<=x/\x<=v
 | 0,l,h,hx=>by
  rw[tupE,List.mem_singleton]at h;subst h;simp at hx
 | n+1,l,h,hx=>by
  rw[tupE]at h;obtain⟨t,ht,h⟩:=List.mem_flatMap.1 h;obtain⟨y,hy,rfl⟩:=List.mem_map.1 h;rcases List.mem_append.1 hx with hx|hx
  ·exact zrM ht hx
  ·rw[List.mem_singleton]at hx;subst hx;exact zwe hy
theorem zpZ{v:Int}{a m:Nat}(hv:0<=v/\v<=1000)(hm:m<=1000){l:List Int}(h:l∈betE v a m):GdL l:=by
 unfold betE at h;obtain⟨i,hi,h⟩:=List.mem_flatMap.1 h;rw[List.mem_range]at hi;exact⟨by rw[zoa h];omega,fun e he=>by have:=zrM h he;omega⟩
theorem zyx{b:BX}{v:VD}(hb:b.ok=true)(hv:vdB v=true){l:List Int}(h:l∈lstE b v):GdL l:=by
 have hk:=zlm hb;unfold lstE at h
 split at h
 ·exact zpZ hk.1 (by omega) h
 ·split at h
  ·have:=ztA hv;exact zpZ hk.1 (by omega) h
  ·exact zpZ hk.1 (by omega) h
def nwS(n j:Nat)(s:SS)(x:List Int):SS:=if j=n then⟨s.cells,x,[]⟩else⟨s.cells++[x],[],[]⟩
def lsJ(vs:List VD)(b:BX)(j:Nat):List (List Int):=if h:j<vs.length then lstE b vs[j]else betE b.v 0 b.i.toNat
def stJ(vs:List VD)(b:BX)(j:Nat):List SS:=if j<=vs.length then stgF b (vs.take j)else allU vs b
theorem zrV{vs:List VD}{b:BX}{j:Nat}(h:j<=vs.length):stJ vs b (j+1)=(stJ vs b j).flatMap fun s=>(lsJ vs b j).map (nwS vs.length j s):=by
 unfold stJ lsJ;rw[if_pos h];by_cases hj:j<vs.length
 ·rw[if_pos (by omega),dif_pos hj,zqk hj];unfold stg nwS;simp only[show ¬ j=vs.length by omega,if_false]
 ·obtain rfl:j=vs.length:=by omega
  rw[if_neg (by omega),dif_neg hj,List.take_length];unfold allU nwS;simp only[if_true]
theorem zv8(vs:List VD)(b:BX):stJ vs b (vs.length+1)=allU vs b:=by
 unfold stJ;rw[if_neg (by omega)]
theorem zyi{vs:List VD}{b:BX}(h:RefB vs b)(j:Nat):(stJ vs b j).length<=60:=by
 unfold stJ
 split
 ·exact(h.st j ‹_›).2
 ·exact h.all.2
theorem zyy{vs:List VD}{b:BX}(h:RefB vs b)(j:Nat):(lsJ vs b j).length<=60:=by
 unfold lsJ
 split
 ·exact(h.one j ‹_›).2
 ·exact h.inp.2
theorem zxL{vs:List VD}{b:BX}(hb:b.ok=true)(hv:svB vs=true){j:Nat}{l:List Int}(h:l∈lsJ vs b j):GdL l:=by
 unfold lsJ at h
 split at h
 ·exact zyx hb ((zsG hv).2 _ (List.getElem_mem _)) h
 ·have hk:=zlm hb;exact zpZ hk.1 (by omega) h
theorem zxK{n j k:Nat}{s:SS}{x:List Int}(hs:GdS k s)(hx:GdL x):GdS (k+1) (nwS n j s x):=by
 unfold nwS
 split
 ·exact⟨Nat.le_succ_of_le hs.1,hs.2.1,hx,rfl⟩
 ·refine⟨by simp;exact hs.1,fun l hl=>?_,⟨by simp,fun e he=>by simp at he⟩,rfl⟩;rcases List.mem_append.1 hl with hl|hl
  ·exact hs.2.1 l hl
  ·rw[List.mem_singleton]at hl;subst hl;exact hx
theorem zxI{vs:List VD}{b:BX}(hb:b.ok=true)(hv:svB vs=true):∀ {j:Nat},j<=vs.length+1->∀s∈stJ vs b j,GdS j s
 | 0,_,s,h=>by
  unfold stJ at h;rw[if_pos (Nat.zero_le _)]at h;simp[stgF]at h;subst h;exact⟨by simp[nilS],by simp[nilS],⟨by simp[nilS],by simp[nilS]⟩,rfl⟩
 | j+1,hj,s,h=>by
  rw[zrV (by omega)]at h;obtain⟨t,ht,h⟩:=List.mem_flatMap.1 h;obtain⟨x,hx,rfl⟩:=List.mem_map.1 h;exact zxK (zxI hb hv (by omega) t ht) (zxL hb hv hx)
theorem GdS.sm{k:Nat}{s:SS}(h:GdS k s)(hk:k<=98):SmC s :=
 ⟨by have:=h.1;omega,fun l hl=>by
  simp only[lisS,List.mem_append,List.mem_cons,List.not_mem_nil,or_false]at hl;have hg:GdL l:=by
   rcases hl with hl|rfl|rfl
   ·exact h.2.1 l hl
   ·exact h.2.2.1
   ·rw[h.2.2.2];exact⟨by simp,fun e he=>by simp at he⟩
  exact⟨hg.1,fun e he=>by have:=hg.2 e he;omega⟩⟩
theorem GdS.lim{k:Nat}{s:SS}(h:GdS k s)(hk:k<=98):s.Lim :=
 ⟨by have:=h.1;unfold LI;omega,fun l hl=>by have:=(h.2.1 l hl).1;unfold LI;omega,by have:=h.2.2.1.1;unfold LI;omega,by rw[h.2.2.2];unfold LI;simp⟩
theorem zlj.vals{w:World}{S:Nat->Prop}{A:Option Addr}{ls:List (List Int)}(h:zlj w S A ls):∃us:List Value,us.length=ls.length/\(A=none->ls.length=0)/\(∀ad,A=some ad->∀j u,us[j]?=some u->w.cell? (ad.add j)=some u)/\(∀u∈us,u.oneCell'=true) /\
  ∀k (hk:k<ls.length) (hv:k<us.length),∃A c,us[k]=.slice A ls[k].length c/\ls[k].length<=c/\RowI w S A ls[k]:=by
 have h0:∀i:Nat,∃u:Value,i<ls.length->∃(hi:i<ls.length) (a:Addr) (A':Option Addr) (c':Nat),A=some a/\u=.slice A' ls[i].length c'/\w.cell? (a.add i)=some u/\ls[i].length<=c'/\RowI w S A' ls[i]:=fun i=>by
  by_cases hi:i<ls.length
  ·obtain⟨a,A',c',h1,h2,h3,h4,h5⟩:=h i hi;exact⟨_,fun _=>⟨hi,a,A',c',h1,rfl,h3,h4,h5⟩⟩
  ·exact⟨undef,fun h=>absurd h hi⟩
 obtain⟨f,hf⟩:=Classical.skolem.1 h0;refine⟨(List.range ls.length).map f,by simp,fun e=>?_,fun ad e j u hj=>?_,fun u hu=>?_,fun k hk hv=>?_⟩
 ·rcases Nat.eq_zero_or_pos ls.length with h0|h0
  ·exact h0
  ·obtain⟨a,A',c',h1,-⟩:=h 0 h0;rw[e]at h1
   cases h1
 ·have hj2:j<ls.length:=by
   obtain⟨h1,-⟩:=List.getElem?_eq_some_iff.1 hj;simpa using h1
  obtain⟨_,a,A',c',h1,h2,h3,-⟩:=hf j hj2;simp[hj2]at hj;rw[e]at h1;injection h1 with h1;subst h1 hj;exact h3
 ·obtain⟨i,hi,rfl⟩:=List.mem_map.1 hu;rw[List.mem_range]at hi;obtain⟨_,a,A',c',h1,h2,-⟩:=hf i hi;rw[h2];rfl
 ·obtain⟨_,a,A',c',h1,h2,h3,h4,h5⟩:=hf k hk;refine⟨A',c',?_,h4,h5⟩;simp only[List.getElem_map,List.getElem_range];exact h2
theorem zk7.manyA{W0 wr we:World}{n0 e co:Nat}{Ao:Option Addr}{acc ys:List SS}{us:List (Value×Value×Value)}(h:zk7 wr n0 Any (.slice Ao e co) acc)(he:acc.length=e)(hb:Below n0 W0 wr)(hn:n0<=W0.heap.size)
  (kN:us.length=ys.length)(hw:Below wr.heap.size wr we)(hy:∀k (hk:k<ys.length) (hv:k<us.length),SV we (fun q=>q<n0\/wr.heap.size<=q) ys[k] (.agg #[us[k].1,us[k].2.1,us[k].2.2])){m:Nat}(hm:ys.length=m) :
  ∃xs,we.ownsRow n0 32 3 (.slice Ao e co) e xs/\n0<=we.heap.size/\∀v' w',w'.ownsRow n0 32 3 v' (e+m) (xs++zk1 us)->we.grownBy w' (Value.slice Ao e co).ownBlock->(v'.ownBlock=(Value.slice Ao e co).ownBlock\/v'.ownBlock=some we.heap.size) ->
   ∃A' c',v'=.slice A' (e+m) c'/\e+m<=c'/\Hid (Below n0 W0 w')/\Hid (zk7 w' n0 Any (.slice A' (e+m) c') (acc++ys)):=by
 subst he hm;obtain⟨vs,h1,hl,h2⟩:=h;refine⟨zk1 vs,zkp h1 hw,Nat.le_trans (Nat.le_trans hn hb.size) hw.size,fun v' w' g1 g2 g3=>?_⟩;obtain⟨A',c',rfl,hc,-⟩:=zkf g1;have hs:=hb.size;have hbe:Below n0 W0 we:=hb.trans (hw.mono (by omega));refine⟨A',c',rfl,hc,zh (hbe.grown g2 (Nat.le_trans hn hbe.size) fun k hk=>(h1.lt k hk).1),zh ?_⟩;exact zk7.app (W:=we) (S:=Any) (S':=Any) hl kN (fun k hk hv=>(h2 k hk hv).later hw) (fun q h _=>h)
  (fun k hk hv=>(hy k hk hv).keep (fun q h _=>⟨trivial,fun e=>by have:=h1.lt q e;omega⟩) fun _ _ _=>rfl) g1 g2 g3
theorem zmX{ops:Array Oper}{o:Oper}{a:Act}{W:World}{K:Act->World->Prop}{Q:Exit->Act->World->Prop}{F:Prop}{tS E:TypeId}{z:Value}{sz fU:Nat}(hgd:o.guard=none)(s x:Operand)
  (ho:o.op=.call { callee:=.builtin .append,args := #[s,x],argTypes := #[tS,tS] })(hu:prog.underlying tS=some (.slice E))(hin:(prog.info? E).map (fun i=>(i.zero,i.size,i.bytes))=some (some z,sz,fU))(hzc:z.cells.size=sz)(hsz:0<sz)(hby:fU<=100)
  (base:Nat)(v:Value)(n:Nat)(xs:List Value)(hs:a.eval s=v)(hrow:W.ownsRow base E sz v n xs)
  (ad:Addr)(m c:Nat)(news:List Value)(hx:a.eval x=.slice (some ad) m c)(hl:news.length=m*sz)(hc:∀j u,news[j]?=some u->W.cell? (ad.add j)=some u)(h1c:∀u∈news,u.oneCell'=true)(hm:n+m<=1000000)(hb:base<=W.heap.size)
  (h:∀v' w',w'.ownsRow base E sz v' (n+m) (xs++news)->W.grownBy w' v.ownBlock->(v'.ownBlock=v.ownBlock\/v'.ownBlock=some W.heap.size)->K (a.put o.dst v') w') :
  if Region.wanted o (yielded ops a.tmps)=true then Oper.wp prog o a W K Q else F:=by
 obtain⟨i,hi,hz0,hz1,hz2⟩:=info_parts hin;have h9:(n+m)*fU<=1000000*100:=Nat.mul_le_mul hm hby;exact zkP hgd s x tS ho base E i z sz fU hu hi hz0 hz1 hz2 hzc hsz v n xs hs hrow ad m c news hx hl hc h1c (by unfold maxLen;omega) (by omega) hb h
theorem zkr.copy{wr w2:World}{B2:Nat}{v':Value}{ls:List (List Int)}{us:List Value}(hl:us.length=ls.length)(hB:B2<=wr.heap.size)
  (hs:∀k (hk:k<ls.length) (hv:k<us.length),∃A c,us[k]=.slice A ls[k].length c/\ls[k].length<=c/\RowI wr (fun q=>q<B2) A ls[k])
  (ho:w2.ownsRow wr.heap.size 30 1 v' (0+ls.length) ([]++us))(hg:(wr.alloc (.cells #[] 30)).grownBy w2 (some wr.heap.size))(aj:v'.ownBlock=some wr.heap.size\/v'.ownBlock=some (wr.alloc (.cells #[] 30)).heap.size) :
  Below wr.heap.size wr w2/\zkr w2 wr.heap.size (fun q=>q<B2) v' ls:=by
 have bB:=zkb (zs wr) (.cells #[] 30);refine⟨bB.grown hg bB.size fun k hk=>by injection hk with hk;omega,?_⟩;have:=zkr.app (W:=wr.alloc (.cells #[] 30)) (W5:=w2) (n0:=wr.heap.size) (S:=fun q=>q<B2) (S':=fun q=>q<B2) (v:=.slice (some ⟨wr.heap.size,0,none⟩) 0 0) (v':=v') (ls:=[]) (ys:=ls) (vs:=[]) (us:=us) rfl hl
  (fun k hk=>by simp at hk) (fun _ h _=>h) (fun k hk hv=>by
   obtain⟨A,c,e1,e2,e3⟩:=hs k hk hv;exact⟨A,c,e1,e2,(e3.later bB).keep (fun q h _=>⟨h,fun e=>by injection e with e;have e:wr.heap.size=q:=e;omega⟩) fun _ _ _=>rfl⟩) ho hg aj
 simpa using this
theorem zkr.copy2{wr:World}{B2 l5:Nat}{ls:List (List Int)}{us:List Value}(hl:us.length=ls.length)(hl5:ls.length=l5)(hB:B2<=wr.heap.size)
  (hs:∀k (hk:k<ls.length) (hv:k<us.length),∃A c,us[k]=.slice A ls[k].length c/\ls[k].length<=c/\RowI wr (fun q=>q<B2) A ls[k])(v':Value)(w2:World)
  (ho:w2.ownsRow wr.heap.size 30 1 v' (0+l5) ([]++us))(hg:(wr.alloc (.cells #[] 30)).grownBy w2 (Value.slice (some ⟨wr.heap.size,0,none⟩) 0 0).ownBlock)(aj:v'.ownBlock=(Value.slice (some ⟨wr.heap.size,0,none⟩) 0 0).ownBlock\/v'.ownBlock=some (wr.alloc (.cells #[] 30)).heap.size) :
  ∃A' c',v'=.slice A' l5 c'/\Hid (Below wr.heap.size wr w2)/\Hid (zkr w2 wr.heap.size (fun q=>q<B2) (.slice A' l5 c') ls):=by
 obtain⟨A',c',rfl,-⟩:=zkf ho;subst hl5;obtain⟨h1,h2⟩:=zkr.copy hl hB hs ho hg aj;rw[Nat.zero_add]at h2;exact⟨A',c',by rw[Nat.zero_add],zh h1,zh h2⟩
theorem zkr.more{W:World}{n0 B2 l c Nb lx cx:Nat}{A Ax:Option Addr}{ls:List (List Int)}{x:List Int}(h:zkr W n0 (fun q=>q<B2) (.slice A l c) ls)(hl:ls.length=l)(hB:B2<=n0)(hx:RowI W (fun q=>q<B2) Ax x)(hlx:x.length=lx)(hcx:lx<=cx)(hN:Nb<W.heap.size)(hne:(Value.slice A l c).ownBlock≠some Nb)(hn0:n0<=W.heap.size) :
  ∃vs,W.ownsRow n0 30 1 (.slice A l c) l vs/\∀v' w',w'.ownsRow n0 30 1 v' (l+1) (vs++[.slice Ax lx cx])->W.grownBy w' (Value.slice A l c).ownBlock->(v'.ownBlock=(Value.slice A l c).ownBlock\/v'.ownBlock=some W.heap.size) ->
   ∃A' c',v'=.slice A' (l+1) c'/\Hid (Below n0 W w')/\Hid (zkr w' n0 (fun q=>q<B2) (.slice A' (l+1) c') (ls++[x]))/\Hid (w'.heap[Nb]?=W.heap[Nb]?)/\Hid ((Value.slice A' (l+1) c').ownBlock≠some Nb):=by
 subst hl hlx;obtain⟨vs,h1,h2,h3⟩:=h;refine⟨vs,h1,fun v' w' g1 g2 g3=>?_⟩;obtain⟨A',c',rfl,-⟩:=zkf g1;refine⟨A',c',rfl,zh ((Below.refl n0 W).grown g2 hn0 fun k hk=>(h1.lt k hk).1),zh ?_,zh (g2.block Nb hN fun e=>hne e.symm),zh fun e=>?_⟩
 ·exact zkr.app (W:=W) (W5:=w') (S:=fun q=>q<B2) (S':=fun q=>q<B2) (ys:=[x]) (us:=[.slice Ax x.length cx]) h2 rfl h3 (fun _ h _=>h) (fun k hk hv=>by
   obtain rfl:k=0:=by simpa using hk
   exact⟨Ax,cx,rfl,hcx,hx.keep (fun q h _=>⟨h,fun e=>by have:=(h1.lt q e).1;omega⟩) fun _ _ _=>rfl⟩) g1 g2 g3
 ·rcases g3 with g3|g3
  ·exact hne (g3▸e)
  ·rw[g3]at e;injection e with e;omega
theorem zzK{w':World}{n0 B2 n j l5 c9 lx cx:Nat}{A9 Ax:Option Addr}{s:SS}{x:List Int}(hj:j=n)(h:zkr w' n0 (fun q=>q<B2) (.slice A9 l5 c9) s.cells)(hl:s.cells.length=l5)(hx:RowI w' (fun q=>q<B2) Ax x)(hlx:x.length=lx)(hcx:lx<=cx)(hlim:(nwS n j s x).Lim) :
  SV w' (fun q=>q<B2\/n0<=q) (nwS n j s x) (.agg #[.slice A9 l5 c9,.slice Ax lx cx,.slice none 0 0]):=by
 subst hl hlx;have e:nwS n j s x=⟨s.cells,x,[]⟩:=by unfold nwS;rw[if_pos hj]
 rw[e]at hlim ⊢;obtain⟨A,c,e1,hc,h2⟩:=(h.keep (S':=fun q=>q<B2\/n0<=q) (fun q h _=>.inl h) fun _ _ _=>rfl).ii fun q h _=>.inr h;injection e1 with e1 e2 e3;subst e1 e3;exact⟨A9,c9,Ax,cx,none,0,rfl,h2,hx.keep (fun q h _=>.inl h) fun _ _ _=>rfl,fun i hi=>by simp at hi,hc,hcx,Nat.zero_le _,hlim⟩
theorem zzJ{w':World}{n0 B2 n j l5 c9:Nat}{A9:Option Addr}{s:SS}{x:List Int}(hj:¬ j=n)(h:zkr w' n0 (fun q=>q<B2) (.slice A9 (l5+1) c9) (s.cells++[x]))(hl:s.cells.length=l5)(hlim:(nwS n j s x).Lim) :
  SV w' (fun q=>q<B2\/n0<=q) (nwS n j s x) (.agg #[.slice A9 (l5+1) c9,.slice none 0 0,.slice none 0 0]):=by
 subst hl;have e:nwS n j s x=⟨s.cells++[x],[],[]⟩:=by unfold nwS;rw[if_neg hj]
 rw[e]at hlim ⊢;obtain⟨A,c,e1,hc,h2⟩:=(h.keep (S':=fun q=>q<B2\/n0<=q) (fun q h _=>.inl h) fun _ _ _=>rfl).ii fun q h _=>.inr h;have hll:(s.cells++[x]).length=s.cells.length+1:=by simp
 rw[hll]at e1 hc;injection e1 with e1 e2 e3;subst e1 e3;exact⟨A9,c9,none,0,none,0,by simp,h2,fun i hi=>by simp at hi,fun i hi=>by simp at hi,by simpa using hc,Nat.zero_le _,Nat.zero_le _,hlim⟩
theorem bRA0(w:World):(Instr.buildSlice 29 0 #[]).run prog w=.ok (.slice (some ⟨w.heap.size,0,none⟩) 0 0) (w.alloc (.cells #[] 30)):=by kernel_rfl
theorem bRA1(A:Option Addr)(l c:Nat)(w:World):(Instr.buildSlice 29 1 #[(0,.slice A l c)]).run prog w=.ok (.slice (some ⟨w.heap.size,0,none⟩) 1 1) (w.alloc (.cells #[.slice A l c] 30)):=by kernel_rfl
theorem ztV:(prog.info? 30).map (fun i=>(i.zero,i.size,i.bytes))=some (some (.slice none 0 0),1,24):=by kernel_rfl
theorem zsQ{W:World}{n0 n c:Nat}{E:TypeId}{A:Option Addr}{xs:List Value}(h:W.ownsRow n0 E 1 (.slice A n c) n xs):(A=none->n=0)/\∀ad,A=some ad->∀j u,xs[j]?=some u->W.cell? (ad.add j)=some u:=by
 have hl:=h.1;rcases h.2 with⟨e,h0⟩|⟨g,cap,cur,e,-⟩
 ·simp only[Value.slice.injEq]at e;obtain⟨rfl,rfl,rfl⟩:=e;exact⟨fun _=>rfl,nofun⟩
 ·simp only[Value.slice.injEq]at e;obtain⟨rfl,-,rfl⟩:=e;refine⟨nofun,fun ad had j u hj=>?_⟩;injection had with had;subst had;have hj':=(List.getElem?_eq_some_iff.1 hj).1;rw[Addr.add_lit,Nat.zero_add,h.cellAt j (by omega)];exact hj
def OthL(W:World)(S:Nat->Prop)(u:Value)(ys:List (List Int)):Prop :=
 ∃(A:Option Addr) (c:Nat) (us:List Value),u=.slice A ys.length c/\us.length=ys.length/\(A=none->ys.length=0)/\(∀ad,A=some ad->∀j z,us[j]?=some z->W.cell? (ad.add j)=some z)/\(∀z∈us,z.oneCell'=true)/\∀k (hk:k<ys.length) (hv:k<us.length),∃A c,us[k]=.slice A ys[k].length c/\ys[k].length<=c/\RowI W S A ys[k]
theorem zlj.oth{w:World}{S:Nat->Prop}{A:Option Addr}{ls:List (List Int)}(h:zlj w S A ls)(c:Nat):OthL w S (.slice A ls.length c) ls:=by
 obtain⟨us,h1,h2,h3,h4,h5⟩:=h.vals;exact⟨A,c,us,rfl,h1,h2,h3,h4,h5⟩
theorem zkr.oth{w:World}{n0:Nat}{S:Nat->Prop}{v:Value}{ls:List (List Int)}(h:zkr w n0 S v ls):OthL w S v ls:=by
 obtain⟨us,h1,h2,h3⟩:=h;obtain⟨A,c,rfl,-⟩:=zkf h1;obtain⟨r1,r2⟩:=zsQ h1;refine⟨A,c,us,rfl,h2,r1,r2,fun z hz=>?_,fun k hk hv=>?_⟩
 ·obtain⟨k,hk,rfl⟩:=List.mem_iff_getElem.1 hz;obtain⟨A',c',e,-⟩:=h3 k (by omega) hk;rw[e];rfl
 ·obtain⟨A',c',e,hc,hr⟩:=h3 k hk hv;exact⟨A',c',e,hc,hr.keep (fun q h _=>h.1) fun _ _ _=>rfl⟩
theorem zkr.built{w:World}{N0 n:Nat}{S:Nat->Prop}{ls:List (List Int)}{us:List Value}(hN:N0<=w.heap.size)(hl:us.length=n)(hn:ls.length=n)(hS:∀q,S q->q<w.heap.size)
  (hs:∀k (hk:k<ls.length) (hv:k<us.length),∃A c,us[k]=.slice A ls[k].length c/\ls[k].length<=c/\RowI w S A ls[k])(hm:n<=1000000):zkr (w.alloc (.cells us.toArray 30)) N0 S (.slice (some ⟨w.heap.size,0,none⟩) n n) ls:=by
 subst hn;refine⟨us,⟨by omega,.inr ⟨w.heap.size,ls.length,us.toArray,rfl,hN,heap_alloc_new w _,zl,by unfold maxLen;omega,by simp[hl],by simp[<-hl]⟩⟩,hl,fun k hk hv=>?_⟩;obtain⟨A,c,e,hc,hr⟩:=hs k hk hv;exact⟨A,c,e,hc,(hr.later (zkb (zs w) _)).keep (fun q h _=>⟨h,fun e=>by injection e with e;have e:w.heap.size=q:=e;have:=hS q h;omega⟩) fun _ _ _=>rfl⟩
theorem zql{ops:Array Oper}{o:Oper}{i:Nat}{a:Act}{W:World}{K:Act->World->Prop}{Q:Exit->Act->World->Prop}{F:Prop}{N0:Nat}{S:Nat->Prop}(hoi:ops[i]?=some o)(s x:Operand)(hgd:(ops[i]?).map (fun o=>o.guard)=some none)
  (ho:(ops[i]?).map (fun o=>o.op)=some (.call { callee:=.builtin .append,args := #[s,x],argTypes := #[29,29] }))(hN:N0<=W.heap.size)(hS:∀q,S q->q<N0){v u:Value}{ls ys:List (List Int)}(hs:a.eval s=v)(hr:zkr W N0 S v ls)(hx:a.eval x=u)(hu:OthL W S u ys)(hm:ls.length+ys.length<=1000000)
  (h:∀v' w',Chg (fun b=>v.ownBlock=some b) W w'->(∀b,v'.ownBlock=some b->(W.heap.size<=b\/v.ownBlock=some b)/\b<w'.heap.size)->zkr w' N0 S v' (ls++ys)->K (a.put o.dst v') w') :
  if Region.wanted o (yielded ops a.tmps)=true then Oper.wp prog o a W K Q else F:=by
 have hgd:=opF hoi (fun o=>o.guard) hgd;have ho:=opF hoi (fun o=>o.op) ho;obtain⟨vs,h1,h2,h3⟩:=hr;obtain⟨A,c,us,rfl,u1,u2,u3,u4,u5⟩:=hu;have hfin:∀v' w',w'.ownsRow N0 30 1 v' (ls.length+ys.length) (vs++us)->W.grownBy w' v.ownBlock->(v'.ownBlock=v.ownBlock\/v'.ownBlock=some W.heap.size)->K (a.put o.dst v') w':=fun v' w' g1 g2 g3=>by
  refine h v' w' (Chg.row g2) (fun b hb=>⟨?_,(g1.lt b hb).2⟩) (zkr.app h2 u1 h3 (fun q h _=>h) (fun k hk hv=>?_) g1 g2 g3)
  ·rcases g3 with e|e
   ·exact .inr (e▸hb)
   ·rw[e]at hb;injection hb with hb;exact .inl (by omega)
  ·obtain⟨A,c,e,hc,hr⟩:=u5 k hk hv;exact⟨A,c,e,hc,hr.keep (fun q h _=>⟨h,fun e=>by have:=(h1.lt q e).1;have:=hS q h;omega⟩) fun _ _ _=>rfl⟩
 rcases A with _|ad
 ·have h0:=u2 rfl;have hnil:us=[]:=List.eq_nil_of_length_eq_zero (by omega);have hw:Region.wanted o (yielded ops a.tmps)=true:=by simp[Region.wanted,hgd]
  rw[if_pos hw];obtain⟨j,hj,hz0,hz1,hz2⟩:=info_parts ztV;have hrun:(Builtin.append_ #[29,29] o.type #[v,.slice none 0 c]).run prog W=.ok v W:=by
   rcases h1.2 with⟨rfl,h0⟩|⟨g,cap,cur,rfl,_,_,hnc,_⟩
   ·simp[Builtin.append_,run_underlying underlying29,sizeOf,typeInfo,hj,Builtin.lenOf,Builtin.firstCells]
   ·simp[Builtin.append_,run_underlying underlying29,sizeOf,typeInfo,hj,Builtin.lenOf,Builtin.firstCells,hnc,storeCells]
  rw[h0]at hx;unfold Oper.wp execOp;simp only[ho,resolve,invoke,builtin,Sem.run_bind,Sem.run_pure,Result.andThen_ok,List.map_toArray,List.map_cons,List.map_nil,hs,hx,hrun];exact hfin v W (by rw[hnil,h0];simpa using h1) (zoi _ _) (.inl rfl)
 ·exact zmX hgd s x ho underlying29 ztV rfl (by decide) (by decide) N0 v ls.length vs hs h1 ad ys.length c us hx (by omega) (u3 ad rfl) u4 hm hN hfin
theorem zkr.chg{w w':World}{N0:Nat}{S:Nat->Prop}{C:Nat->Prop}{v:Value}{ls:List (List Int)}(h:zkr w N0 S v ls)(hS:∀q,S q->q<N0)(hc:Chg C w w')(hC:∀b,C b->N0<=b)(ho:∀b,v.ownBlock=some b->¬ C b):zkr w' N0 S v ls :=
 h.keep (fun _ h _=>h) fun q hq hlt=>hc.block q hlt fun hcq=>by
  rcases hq with hq|hq
  ·have:=hS q hq;have:=hC q hcq;omega
  ·exact ho q hq hcq
theorem zrt{a b:Int}:cmpI a b<0↔a<b:=by
 unfold cmpI;by_cases h1:a<b
 ·rw[if_pos h1];exact⟨fun _=>h1,fun _=>by decide⟩
 ·rw[if_neg h1];by_cases h2:b<a
  ·rw[if_pos h2];exact⟨fun h=>by simp at h,fun h=>absurd h h1⟩
  ·rw[if_neg h2];exact⟨fun h=>by simp at h,fun h=>absurd h h1⟩
theorem zpW{a b:Int}:cmpI a b=0↔a=b:=by
 unfold cmpI;by_cases h1:a<b
 ·rw[if_pos h1];exact⟨fun h=>by simp at h,fun h=>by omega⟩
 ·rw[if_neg h1];by_cases h2:b<a
  ·rw[if_pos h2];exact⟨fun h=>by simp at h,fun h=>by omega⟩
  ·rw[if_neg h2];exact⟨fun _=>by omega,fun _=>rfl⟩
theorem zuY:∀ {a b:List Int},cmpR a b<0->lexR a b
 | x::a,y::b,h=>by
  rw[cmpR]at h;by_cases h0:cmpI (rnk x) (rnk y)=0
  ·rw[if_neg (by rw[h0];simp)]at h;exact Or.inr ⟨ztX (zpW.1 h0),zuY h⟩
  ·rw[if_pos h0]at h;exact Or.inl (zrt.1 h)
 | [],_,h=>by simp[cmpR]at h
 | _::_,[],h=>by simp[cmpR]at h
theorem zuZ:∀ {a b:List Int},a.length=b.length->cmpR a b=0->a=b
 | x::a,y::b,hl,h=>by
  rw[cmpR]at h;by_cases h0:cmpI (rnk x) (rnk y)=0
  ·rw[if_neg (by rw[h0];simp)]at h;rw[ztX (zpW.1 h0),zuZ (by simpa using hl) h]
  ·rw[if_pos h0]at h;exact absurd h h0
 | [],[],_,_=>rfl
 | [],_::_,hl,_=>by simp at hl
 | _::_,[],hl,_=>by simp at hl
theorem zu0{a b:List Int}(h:cmpL a b<0):ltL a b:=by
 unfold cmpL at h;by_cases hl:a.length=b.length
 ·rw[if_neg (by simpa using hl)]at h;exact Or.inr ⟨hl,zuY h⟩
 ·rw[if_pos hl]at h;exact Or.inl (by have:=zrt.1 h;omega)
theorem zu1{a b:List Int}(h:cmpL a b=0):a=b:=by
 unfold cmpL at h;by_cases hl:a.length=b.length
 ·rw[if_neg (by simpa using hl)]at h;exact zuZ hl h
 ·rw[if_pos hl]at h;exact absurd (zpW.1 h) (by omega)
theorem zst:∀ {a b:List (List Int)} (c d:List (List Int)),zmh a b<0->ltLL (a++c) (b++d)
 | x::a,y::b,c,d,h=>by
  rw[zmh]at h;by_cases h0:cmpL x y=0
  ·rw[if_neg (by rw[h0];simp)]at h;exact Or.inr ⟨zu1 h0,zst c d h⟩
  ·rw[if_pos h0]at h;exact Or.inl (zu0 h)
 | [],_,_,_,h=>by simp[zmh]at h
 | _::_,[],_,_,h=>by simp[zmh]at h
theorem zsu:∀ {a b:List (List Int)},a.length=b.length->zmh a b=0->a=b
 | x::a,y::b,hl,h=>by
  rw[zmh]at h;by_cases h0:cmpL x y=0
  ·rw[if_neg (by rw[h0];simp)]at h;rw[zu1 h0,zsu (by simpa using hl) h]
  ·rw[if_pos h0]at h;exact absurd h h0
 | [],[],_,_=>rfl
 | [],_::_,hl,_=>by simp at hl
 | _::_,[],hl,_=>by simp at hl
theorem zse:∀(a:List (List Int)) {u v:List Int},ltL u v->ltLL (a++[u]) (a++[v])
 | [],_,_,h=>Or.inl h
 | x::a,_,_,h=>Or.inr ⟨rfl,zse a h⟩
theorem zzu(a b:List (List Int)):wt (a++b)=wt a+wt b:=by simp[wt]
theorem zm2{x:List (List Int)}(hx:x≠[]):x=(stOf x).cells++[(stOf x).tin]:=by
 show x=x.dropLast++[x.getLastD []]
 rw[List.getLastD_eq_getLast?,List.getLast?_eq_some_getLast hx];simp[List.dropLast_concat_getLast hx]
theorem zxD{x:List (List Int)}(hx:x≠[]):wtS (stOf x)=wt x:=by
 have h:=congrArg wt (zm2 hx);rw[h,zzu];unfold wtS
 show lw (stOf x).tin+lw []+wt (stOf x).cells=_
 simp only[zn6,lw,wt,List.map_nil,List.sum_nil,List.map_cons,List.sum_cons];omega
theorem zyB{x y:List (List Int)}(hx:x≠[])(hy:y≠[])(hl:x.length=y.length)(h:znN (stOf x) (stOf y)=true):ltB x y:=by
 unfold znN at h;rw[zxD hx,zxD hy]at h;by_cases h0:cmpI (wt x) (wt y)=0
 ·rw[if_neg (by rw[h0];simp)]at h;refine Or.inr ⟨zpW.1 h0,?_⟩;have hc:(stOf x).cells.length=(stOf y).cells.length:=by simp[stOf,hl]
  rw[zm2 hx,zm2 hy];by_cases h1:zmh (stOf x).cells (stOf y).cells=0
  ·rw[if_neg (by rw[h1];simp)]at h;rw[zsu hc h1];refine zse _ (zu0 ?_);have ho:orI (cmpL (stOf x).tin (stOf y).tin) (cmpL (stOf x).tout (stOf y).tout)=cmpL (stOf x).tin (stOf y).tin:=by
    show orI _ (cmpL [] [])=_
    unfold orI
    split
    ·rfl
    ·rename_i h2;simp only[Decidable.not_not]at h2;rw[h2];rfl
   rw[ho]at h;exact of_decide_eq_true h
  ·rw[if_pos h1]at h;exact zst _ _ (of_decide_eq_true h)
 ·rw[if_pos h0]at h;exact Or.inl (zrt.1 (of_decide_eq_true h))
def RSt(n:Nat)(s t:SS):Prop:=∃x y,s=stOf x/\t=stOf y/\x.length=n+1/\y.length=n+1/\ltB x y
theorem zqm{x y:List (List Int)}(hx:x≠[])(hy:y≠[])(h:stOf x=stOf y):x=y:=by rw[zm2 hx,zm2 hy,h]
theorem zlL{α:Type}{x:List α}{n:Nat}(h:x.length=n+1):x≠[]:=by rintro rfl;simp at h
theorem RSt.asymm{n:Nat}{s t:SS}(h:RSt n s t):¬ RSt n t s:=fun h'=>by
 obtain⟨x,y,rfl,rfl,hx,hy,hlt⟩:=h;obtain⟨x',y',h1,h2,hx',hy',hlt'⟩:=h';rw[zqm (zlL hy) (zlL hx') h1,zqm (zlL hx) (zlL hy') h2]at hlt;exact zuf hlt hlt'
structure InB(vs:List VD)(x:SS):Prop where
 st:∃y,x=stOf y/\y.length=vs.length+1
 sm:SmS x
 n:x.cells.length=vs.length
theorem zrw{vs:List VD}{b:BX}(h:(b.ok&&svB vs)=true):(allS b (lenE vs b)).Pairwise (RSt vs.length):=by
 have h2:=zl2 h;unfold allS;rw[List.pairwise_map];refine List.Pairwise.imp_of_mem (fun {x y} hx hy hxy=>⟨x,y,rfl,rfl,?_,?_,hxy⟩) (zrx (h:=2*b.v+1) (by omega) (lenE vs b))
 ·rw[(zn4 rfl x hx).len,h2.1]
 ·rw[(zn4 rfl y hy).len,h2.1]
theorem zp2{vs:List VD}{b:BX}(h:(b.ok&&svB vs)=true):∀x∈allS b (lenE vs b),InB vs x:=by
 intro x hx;obtain⟨y,hy,rfl⟩:=List.mem_map.1 hx;have h1:=zn4 rfl y hy;have h2:=zl2 h;have h3:=h1.len;rw[h2.1]at h3;have hc:(stOf y).cells.length=vs.length:=by simp[stOf,h3]
 have h4:∀i (hi:i<y.length),SmI y[i]:=fun i hi=>by
  have h5:=h1.get i (by rw[h2.1];omega) hi;have h6:=(h2.2.2.1 _ (List.getElem_mem (show i<(lenE vs b).length by rw[h2.1];omega))).2.2;have h7:=h2.2.2.2;exact⟨by omega,fun e he=>by have:=h5.2.2 e he;omega⟩
 have h7:∀l∈y,SmI l:=fun l hl=>by obtain⟨i,hi,rfl⟩:=List.mem_iff_getElem.1 hl;exact h4 i hi
 refine⟨⟨y,rfl,h3⟩,⟨by omega,fun l hl=>h7 l ((List.dropLast_sublist y).subset hl),?_,⟨Nat.zero_le _,fun e he=>by cases he⟩⟩,hc⟩
 show SmI (y.getLastD [])
 rw[znJ (n:=y.length) rfl (by omega)];exact h4 _ (by omega)
theorem zxJ{v e:Int}:(-v<=e/\e<=v)->rnk e<2*v+1:=fun h=>by unfold rnk;split<;>omega
theorem zwq{n:Nat}{vs:List VD}{s s':SS}(hn:vs.length=n)(hs:InB vs s)(hs':InB vs s')(h:s'=s\/RSt n s' s):znN s s'=false:=by
 cases hb:znN s s' with
 | false=>rfl
 | true =>
  obtain⟨x,rfl,hx⟩:=hs.st;obtain⟨y,rfl,hy⟩:=hs'.st;have hlt:=zyB (zlL hx) (zlL hy) (by omega) hb;have hr:RSt n (stOf x) (stOf y):=⟨x,y,rfl,rfl,by omega,by omega,hlt⟩
  rcases h with h|h
  ·rw[h]at hr;exact absurd hr hr.asymm
  ·exact absurd hr h.asymm
def firE(f:Nat->SS->Bool):Nat->List SS->SS×Nat×Bool
 | n,[]=>(nilS,n,false)
 | n,s::l=>if f n s=true then(s,n+1,true)else firE f (n+1) l
theorem zqJ(f:Nat->SS->Bool):∀(l:List SS) (n:Nat),
  (∃a s b,l=a++s::b/\(∀i (h:i<a.length),f (n+i) a[i]=false)/\f (n+a.length) s=true/\firE f n l=(s,n+a.length+1,true)) \/
  ((∀i (h:i<l.length),f (n+i) l[i]=false)/\firE f n l=(nilS,n+l.length,false))
 | [],n=>.inr ⟨fun i h=>by simp at h,rfl⟩
 | s::l,n=>by
  by_cases h:f n s=true
  ·exact .inl ⟨[],s,l,rfl,fun i h=>by simp at h,h,by rw[firE,if_pos h];rfl⟩
  ·have h':f n s=false:=by simpa using h
   rw[firE,if_neg h];rcases zqJ f l (n+1)with⟨a,t,b,h1,h2,h3,h4⟩|⟨h2,h4⟩
   ·refine .inl ⟨s::a,t,b,by rw[h1];rfl,fun i hi=>?_,?_,?_⟩
    ·cases i with
     | zero=>exact h'
     | succ i=>have:=h2 i (by simpa using hi);rw[show n+(i+1)=n+1+i by omega];exact this
    ·rw[List.length_cons,show n+(a.length+1)=n+1+a.length by omega];exact h3
    ·rw[h4,List.length_cons,show n+(a.length+1)+1=n+1+a.length+1 by omega]
   ·refine .inr ⟨fun i hi=>?_,?_⟩
    ·cases i with
     | zero=>exact h'
     | succ i=>have:=h2 i (by simpa using hi);rw[show n+(i+1)=n+1+i by omega];exact this
    ·rw[h4,List.length_cons,show n+(l.length+1)=n+1+l.length by omega]
def fndE(f:SS->Bool)(l:List SS):SS×Nat×Bool:=firE (fun _=>f) 0 l
theorem zuy(f:SS->Bool)(l:List SS) :
  (∃a s b,l=a++s::b/\(∀x∈a,f x=false)/\f s=true/\fndE f l=(s,a.length+1,true))\/((∀x∈l,f x=false)/\fndE f l=(nilS,l.length,false)):=by
 rcases zqJ (fun _=>f) l 0 with⟨a,s,b,h1,h2,h3,h4⟩|⟨h2,h4⟩
 ·exact .inl ⟨a,s,b,h1,fun x hx=>by obtain⟨i,hi,rfl⟩:=List.mem_iff_getElem.1 hx;exact h2 i hi,h3,by unfold fndE;rw[h4];simp⟩
 ·exact .inr ⟨fun x hx=>by obtain⟨i,hi,rfl⟩:=List.mem_iff_getElem.1 hx;exact h2 i hi,by unfold fndE;rw[h4];simp⟩
def cntS(e:SS->Int)(l:List SS)(k:Int):Nat:=(l.filter fun s=>e s==k).length
theorem zwr{vs:List VD}{b:BX}(h:(b.ok&&svB vs)=true){f:SS->Bool}{s:SS}(hs:s∈allS b (lenE vs b))(hf:f s=true) :
  ∃t n,fndE f (allS b (lenE vs b))=(t,n,true)/\InB vs t/\znN s t=false:=by
 have hso:=zrw h;have hin:=zp2 h;obtain⟨l,hl⟩:=zX (allS b (lenE vs b));rw[hl]at hso hin hs ⊢;rcases zuy f l with⟨a,t,c,rfl,h2,h3,h4⟩|⟨h2,h4⟩
 ·refine⟨t,_,h4,hin t (by simp),zwq rfl (hin s hs) (hin t (by simp)) ?_⟩;rcases List.mem_append.1 hs with hm|hm
  ·rw[h2 s hm]at hf;cases hf
  ·rcases List.mem_cons.1 hm with rfl|hm
   ·exact .inl rfl
   ·rw[List.pairwise_append]at hso;exact .inr ((List.pairwise_cons.1 hso.2.1).1 s hm)
 ·rw[h2 s hs]at hf;cases hf
theorem zxg{vs:List VD}{b:BX}(h:(b.ok&&svB vs)=true){s:SS}(hf:fitB vs s=true)(ho:s.tout=[])(hi:(s.tin.length:Int)<=b.i)
  (hst:∀i (hv:i<vs.length) (hs:i<s.cells.length),(len1 b vs[i]).1<=s.cells[i].length/\s.cells[i].length<=(len1 b vs[i]).2)(hv:(∀l∈s.cells,∀x∈l,-b.v<=x/\x<=b.v)/\∀x∈s.tin,-b.v<=x/\x<=b.v):s∈allS b (lenE vs b):=by
 have h2:=zl2 h;have hl:s.cells.length=vs.length:=(zm8 hf).2.1;have key:∀(bs:List Bn) (x:List (List Int)),bs.length=x.length->(∀i (h1:i<bs.length) (h2:i<x.length),bs[i].1<=x[i].length/\x[i].length<=bs[i].2/\∀e∈x[i],rnk e<2*b.v+1)->FitH (2*b.v+1) bs x:=by
  intro bs
  induction bs with
  | nil=>intro x hx _;cases x with
   | nil=>trivial
   | cons _ _=>simp at hx
  | cons q bs ih=>intro x hx hh;cases x with
   | nil=>simp at hx
   | cons y x=>exact⟨(hh 0 (by simp) (by simp)).1,(hh 0 (by simp) (by simp)).2.1,(hh 0 (by simp) (by simp)).2.2,ih x (by simpa using hx) fun i h1 h2=>by have:=hh (i+1) (by simpa using h1) (by simpa using h2);simpa using this⟩
 refine List.mem_map.2 ⟨s.cells++[s.tin],(zxh (by omega) _).2 (key _ _ (by rw[h2.1];simp[hl]) fun i q1 q2=>?_),?_⟩
 ·by_cases bT:i<vs.length
  ·simp only[lenE];rw[List.getElem_append_left (by simpa using bT),List.getElem_append_left (by omega),List.getElem_map];have:=hst i bT (by omega);exact⟨this.1,this.2,fun e he=>zxJ (hv.1 _ (List.getElem_mem _) e he)⟩
  ·have e:i=vs.length:=by rw[h2.1]at q1;omega
   subst e;simp only[lenE];rw[List.getElem_append_right (by simp),List.getElem_append_right (by omega)];simp only[List.length_map,Nat.sub_self,List.getElem_cons_zero,hl];exact⟨Nat.zero_le _,by omega,fun e he=>zxJ (hv.2 e he)⟩
 ·obtain⟨c,i,o⟩:=s;simp only at ho;subst ho;simp[stOf]
theorem zup{vs:List VD}{b:BX}(h:(b.ok&&svB vs)=true){s:SS}(hf:fitB vs s=true)(ho:s.tout=[])(hi:(s.tin.length:Int)<=b.i)
  (hst:∀i (hv:i<vs.length) (hs:i<s.cells.length),vs[i].k=3->(s.cells[i].length:Int)<=b.l)(hv:(∀l∈s.cells,∀x∈l,-b.v<=x/\x<=b.v)/\∀x∈s.tin,-b.v<=x/\x<=b.v):s∈allS b (lenE vs b):=by
 refine zxg h hf ho hi (fun i hv hs=>?_) hv;obtain⟨h1,h2⟩:=(zm8 hf).2.2.2.2 i hv hs;have h3:=hst i hv hs;unfold len1;unfold fit1 at h2;by_cases hk:vs[i].k=3
 ·rw[if_pos hk];have:=h3 hk;exact⟨Nat.zero_le _,by simp only;omega⟩
 ·rw[if_neg hk]at h2 ⊢;have:=of_decide_eq_true h2;exact⟨by simp only;omega,by simp only;omega⟩
attribute [local go_sem] Oper.semAt_some
theorem al5F(W:World)(o0 o1 o2 o3 o4:Obj):Below W.heap.size W (((((W.alloc o0).alloc o1).alloc o2).alloc o3).alloc o4)/\(((((W.alloc o0).alloc o1).alloc o2).alloc o3).alloc o4).heap.size=W.heap.size+5/\(((((W.alloc o0).alloc o1).alloc o2).alloc o3).alloc o4).heap[W.heap.size]?=some o0/\(((((W.alloc o0).alloc o1).alloc o2).alloc o3).alloc o4).heap[W.heap.size+1]?=some o1/\(((((W.alloc o0).alloc o1).alloc o2).alloc o3).alloc o4).heap[W.heap.size+2]?=some o2/\(((((W.alloc o0).alloc o1).alloc o2).alloc o3).alloc o4).heap[W.heap.size+3]?=some o3/\(((((W.alloc o0).alloc o1).alloc o2).alloc o3).alloc o4).heap[W.heap.size+4]?=some o4 :=
 ⟨zkb (zkb (zkb (zkb (zkb zr _) _) _) _) _,by simp,zke (zke (zke (zke (zln _ rfl _) _) _) _) _,zke (zke (zke (zln _ (by simp) _) _) _) _,zke (zke (zln _ (by simp) _) _) _,zke (zln _ (by simp) _) _,zln _ (by simp) _⟩
structure ztc(fid:FuncId)(lb:Array Value)(f:Nat->SS->Bool)(xs:List SS)(B0:Nat)(Inv:Nat->World->Prop):Prop where
 keep:∀n W W',Inv n W->W.heap.size<=W'.heap.size->(∀b,b<B0->W'.heap[b]?=W.heap[b]?)->Inv n W'
 size:∀n W,Inv n W->B0<=W.heap.size
 call:∀n s v W g,Inv n W->B0<=g->g<=W.heap.size->OwnS W g s v->xs[n]?=some s->Calls prog fid (#[v]++lb) W fun e W'=>e=.returned (.bool (f n s))/\Inv (n+1) W'/\Chg (fun b=>b<B0\/g<=b) W W'
theorem zpQ{f:Nat->SS->Bool}:∀ {a b:List SS} {n:Nat},(∀i (h:i<a.length),f (n+i) a[i]=false)->firE f n (a++b)=firE f (n+a.length) b
 | [],_,_,_=>rfl
 | x::a,b,n,h=>by
  have h0:f n x=false:=h 0 (by simp);rw[List.cons_append,firE,if_neg (by rw[h0];simp),zpQ (a:=a) (n:=n+1) fun i hi=>by have:=h (i+1) (by simpa using hi);simpa[Nat.add_assoc,Nat.add_comm 1 i]using this];congr 1;simp;omega
theorem zqK{f:Nat->SS->Bool}{l:List SS}(h:∀i (h:i<l.length),f i l[i]=false):firE f 0 l=(nilS,l.length,false):=by
 have:=zpQ (f:=f) (a:=l) (b:=[]) (n:=0) fun i hi=>by simpa using h i hi
 rw[List.append_nil]at this;rw[this,Nat.zero_add];rfl
theorem zuK{f:Nat->SS->Bool}{l bH:List SS}{s:SS}(hp:(bH++[s]) <+: l)(h:∀i (h:i<bH.length),f i bH[i]=false)(hs:f bH.length s=true):firE f 0 l=(s,bH.length+1,true):=by
 obtain⟨t,rfl⟩:=hp;rw[List.append_assoc,zpQ (n:=0) fun i hi=>by simpa using h i hi,Nat.zero_add]
 show firE f bH.length (s::t)=_
 rw[firE,if_pos hs]
theorem SV.nilF(w:World)(S:Nat->Prop):SV w S nilS (.agg #[.slice none 0 0,.slice none 0 0,.slice none 0 0]) :=
 ⟨none,0,none,0,none,0,rfl,fun i hi=>by simp[nilS]at hi,fun i hi=>by simp[nilS]at hi,fun i hi=>by simp[nilS]at hi,by simp[nilS],by simp[nilS],by simp[nilS],by simp[nilS,LI],by intro l hl;simp[nilS]at hl,by simp[nilS,LI],by simp[nilS,LI]⟩
theorem zz4:IsFn prog 93 f93:=⟨func93,by kernel_rfl,by kernel_rfl⟩
theorem zs1:IsFn prog 47 f47:=⟨func47,by kernel_rfl,by kernel_rfl⟩
abbrev stC(w':World)(b:Nat)(A:Option Addr)(l c:Nat)(B:Option Addr)(m d:Nat)(D:Option Addr)(n e:Nat):Prop:=w'.cell? ⟨b,0,none⟩=some (.slice A l c)/\w'.cell? ⟨b,1,none⟩=some (.slice B m d)/\w'.cell? ⟨b,2,none⟩=some (.slice D n e)
def FstP(r:SS×Nat×Bool)(Inv:Nat->World->Prop)(W:World)(e:Ending)(W':World):Prop :=
 ∃v,e=.returned (.tuple #[v,.int .i64 (r.2.1:Int),.bool r.2.2])/\SV W' (fun q=>W.heap.size<=q) r.1 v/\Inv r.2.1 W'/\Chg (fun b=>b<W.heap.size) W W'
def FiI(N:Nat)(w5:World)(f:Nat->SS->Bool)(Inv:Nat->World->Prop)(pre:List SS)(C:Nat->Prop)(W:World):Prop :=
 (∀b,C b↔b<N+6)/\(∀b,N<=b->b<N+5->W.heap[b]?=w5.heap[b]?)/\W.heap[N+5]?=some (.cells #[.int .i64 (pre.length:Int)] 3 (0,0))/\Inv pre.length W/\(∀i (h:i<pre.length),f i pre[i]=false)/\N+6<=W.heap.size
def FiX(N:Nat)(w5:World)(f:Nat->SS->Bool)(Inv:Nat->World->Prop)(xs pre:List SS)(C:Nat->Prop)(W:World):Prop:=∃bH s g X A l c B1 m d D k e,pre=bH++[s]/\pre <+: xs/\(∀i (h:i<bH.length),f i bH[i]=false)/\f bH.length s=true/\(∀b,C b↔b<N+6\/(g<=b/\b<X))/\w5.heap.size<g/\X<=W.heap.size/\N+6<=W.heap.size /\
 Inv pre.length W/\W.heap[N+2]?=some (.cells #[.slice A l c,.slice B1 m d,.slice D k e] 32 (0,0))/\W.heap[N+3]?=some (.cells #[.int .i64 (pre.length:Int)] 3 (0,0))/\W.heap[N+4]?=some (.cells #[.bool true] 4 (0,0)) /\
 SV W (fun q=>g<=q/\q<X) s (.agg #[.slice A l c,.slice B1 m d,.slice D k e])
theorem FiI.chg{N:Nat}{w5 W W':World}{fid:FuncId}{lb:Array Value}{xs:List SS}{f:Nat->SS->Bool}{Inv:Nat->World->Prop}{pre:List SS}{C D:Nat->Prop}(h:FiI N w5 f Inv pre C W)(hT:ztc fid lb f xs N Inv)(hc:Chg D W W')(hD:∀b,C b->¬ D b):FiI N w5 f Inv pre C W':=by
 obtain⟨h1,h2,h3,h4,h5,h6⟩:=h;have hk:∀b,b<N+6->W'.heap[b]?=W.heap[b]?:=fun b hb=>hc.block b (Nat.lt_of_lt_of_le hb h6) (hD b ((h1 b).2 hb));exact⟨h1,fun b hb hb5=>(hk b (by omega)).trans (h2 b hb hb5),(hk _ (by omega)).trans h3,hT.keep _ _ _ h4 hc.size fun b hb=>hk b (by omega),h5,Nat.le_trans h6 hc.size⟩
theorem FiX.chg{N:Nat}{w5 W W':World}{fid:FuncId}{lb:Array Value}{xs:List SS}{f:Nat->SS->Bool}{Inv:Nat->World->Prop}{pre:List SS}{C D:Nat->Prop}(h:FiX N w5 f Inv xs pre C W)(hT:ztc fid lb f xs N Inv)(hc:Chg D W W')(hD:∀b,C b->¬ D b):FiX N w5 f Inv xs pre C W':=by
 obtain⟨bH,s,g,X,A,l,c,B1,m,d,E,k,e,h1,h2,h3,h4,h5,h6,h7,h8,h9,h10,h11,h12,lV⟩:=h;have hk:∀b,b<N+6->W'.heap[b]?=W.heap[b]?:=fun b hb=>hc.block b (Nat.lt_of_lt_of_le hb h8) (hD b ((h5 b).2 (.inl hb)));exact⟨bH,s,g,X,A,l,c,B1,m,d,E,k,e,h1,h2,h3,h4,h5,h6,Nat.le_trans h7 hc.size,Nat.le_trans h8 hc.size,hT.keep _ _ _ h9 hc.size fun b hb=>hk b (by omega),(hk _ (by omega)).trans h10,(hk _ (by omega)).trans h11,(hk _ (by omega)).trans h12,lV.keep (fun _ h _=>h) fun b hb _=>hc.block b (by omega) (hD b ((h5 b).2 (.inr hb)))⟩
theorem zoH{W:World}{vs:List VD}{b:BX}{A1:Option Addr}{c1:Nat}{fid:FuncId}{lb:Array Value}{f:Nat->SS->Bool}{Inv:Nat->World->Prop}(hr:RowV W Any A1 vs)(hl:vs.length<=LV)(hok:(b.ok&&svB vs)=true)
  (hm:(allS b (lenE vs b)).length<=1000000){ftn:Func}(hfn:IsFn prog fid ftn)(hT:ztc fid lb f (allS b (lenE vs b)) W.heap.size Inv)(h0:Inv 0 W) :
  Calls prog 12 #[.slice A1 vs.length c1,.agg #[.int .i64 b.v,.int .i64 b.l,.int .i64 b.i],.func (.func fid) #[] lb] W (FstP (firE f 0 (allS b (lenE vs b))) Inv W):=by
 have lH:=zh (fun w' (hb:Below W.heap.size W w')=>zzt vs b A1 c1 w' (hr.later hb) hl hok);have bZ:=zh hok;have HT:=zh hT;have H0:=zh h0;have HMX:=zh hm;have dH:=zh hfn;obtain⟨bv,bl,bi⟩:=b;obtain⟨N,hN⟩:=zX (W.heap.size);have HN:=zh hN;obtain⟨hb1,hz1,k0,k1,k2,k3,k4⟩:=al5F W (.cells #[.int .i64 bv,.int .i64 bl,.int .i64 bi] 24) (.cells #[.func (.func fid) #[] lb] 35) (.cells #[.slice none 0 0,.slice none 0 0,.slice none 0 0] 32) (.cells #[.int .i64 0] 3) (.cells #[.bool false] 4);obtain⟨w1,hw1⟩:=zX (((((W.alloc (.cells #[.int .i64 bv,.int .i64 bl,.int .i64 bi] 24)).alloc (.cells #[.func (.func fid) #[] lb] 35)).alloc (.cells #[.slice none 0 0,.slice none 0 0,.slice none 0 0] 32)).alloc (.cells #[.int .i64 0] 3)).alloc (.cells #[.bool false] 4));rw[hw1]at hb1 hz1 k0 k1 k2 k3 k4;rw[hN]at hz1 k0 k1 k2 k3 k4;have HB1:=zh hb1;have HZ1:=zh hz1;have aG:=zh k0;have aB:=zh k1
 have aT:=zh k2;have ik:=zh k3;have dR:=zh k4;obtain⟨y0,y1,y2⟩:=zkz k0;have t0:w1.cell? ⟨N+1,0,none⟩=some (.func (.func fid) #[] lb):=zc k1 rfl;clear hr hl hok hT h0 hm hfn hb1 hz1 k0 k1 k2 k3 k4
 show Calls prog 12 #[.slice A1 vs.length c1,.agg #[.int .i64 bv,.int .i64 bl,.int .i64 bi],.func (.func fid) #[] lb] W _
 refine(callsIn_wide (n:=3)).1 (callsIn_of_wp_marks func12 rfl trivial ((wpIn_wide (n:=3)).2 ?_));simp only[ntmps12,List.size_toArray,List.length_cons,List.length_nil,Nat.reduceAdd,Nat.reduceSub,Array.replicate_succ,Array.replicate_zero,List.push_toArray,List.append_toArray,List.nil_append,List.cons_append];have hbf:∀w,(binOp BinOp.eql 35 (.func (.func fid) #[] lb) .nilFunc).run prog w=.ok (.bool false) w:=fun w=>by first|rfl|simp[go_sem]
 clear y0 y1 y2;go_upto_region 4 with fail;simp only[Nat.add_assoc,Nat.reduceAdd];have hk5:=heap_alloc_new w1 (.cells #[.int .i64 0] 3);have hb2:=zkb (zs w1) (.cells #[.int .i64 0] 3);obtain⟨w2,hw2⟩:=zX (w1.alloc (.cells #[.int .i64 0] 3));have hz2:w2.heap.size=N+6:=by rw[<-hw2];simp[HZ1.out]
 rw[hw2]at hk5 hb2 ⊢;rw[HZ1.out]at hk5 ⊢;have qH:=zh (zkc aG.out hb2);have jP:=zh (zkc aB.out hb2);have qG:=zh (zkc aT.out hb2);have qF:=zh (zkc ik.out hb2);have jO:=zh (zkc dR.out hb2);have HK52:=zh hk5;have HB2:=zh (zka HB1.out hb2);have HZ2:=zh hz2;clear hk5 hb2 hz2 hw2 t0;obtain⟨y0,y1,y2⟩:=zkz qH.out;have jW:=zh (lH.out _ HB2.out);go_wp2_with fail;refine jW.out.mono ?_;rintro e5 w5 ⟨kH,xb,lb',A9,c9,rfl,hb5,g1,g2,g3,hM5⟩;have aQ:=zh hb5;have HG5:=zh (And.intro g1 (And.intro g2 g3));have uM:=zh hM5;clear hb5 g1 g2 g3 hM5 y0 y1 y2 jW;go_wp2_with fail;have hlb:=zl2 bZ.out
 have qQ:=zh (zvP (nf:=3-1) (S:=fun q=>w2.heap.size<=q/\q<w5.heap.size) ⟨uM.out.ok,uM.out.bx,uM.out.ls,uM.out.row.keep (fun b h hlt=>⟨h,hlt⟩) fun _ _ _=>rfl⟩ ⟨hlb.2.2.2.1,hlb.2.2.2.2⟩ ⟨by rw[hlb.1];omega,by rw[hlb.1];have:=hlb.2.1;omega⟩ fun q hq=>(hlb.2.2.1 q hq).2);clear hlb;have qf:=zh (show N+6<=w5.heap.size by have:=aQ.out.size;have:=HZ2.out;omega);have HI0:=zh (HT.out.keep _ _ _ H0.out (zka HB2.out aQ.out).size fun b hb=>(zka HB2.out aQ.out).block b hb);rw[HN.out]at HT;refine(wpIn_wide (n:=3)).1 ?_;refine zsR (n:=3) (gf:=93) (lb := #[ptr0 kH,ptr0 xb,ptr0 lb']) rfl (zkN zz4) qQ.out (fun l x vs' g W' h=>by obtain⟨v9,rfl,-,h2,-⟩:=h;exact⟨rfl,h2⟩)
  (FiI N w5 f Inv) (FiX N w5 f Inv (allS ⟨bv,bl,bi⟩ (lenE vs ⟨bv,bl,bi⟩))) (fun b=>b<N+6)
  (fun pre C W' W'' h hc=>h.chg HT.out hc fun b hb h=>h hb) (fun pre C W' W'' h hc=>h.chg HT.out hc fun b hb h=>h hb) (fun pre C W' h b hb=>Nat.lt_of_lt_of_le ((h.1 b).1 hb) h.2.2.2.2.2) (fun pre C W' h b hb=>by obtain⟨_,_,g,X,_,_,_,_,_,_,_,_,_,_,_,_,_,h5,h6,h7,h8,_⟩:=h;rcases(h5 b).1 hb with h|h<;>omega)
  (fun b h1 h2=>by
   have:=HG5.out;have:=HZ2.out;rcases h2 with h|h|h|h<;>omega) (fun b h=>by
   rcases h with rfl|rfl|rfl|h
   ·exact zko uM.out.ok
   ·exact zko uM.out.bx
   ·exact zko uM.out.ls
   ·exact h.2) ⟨fun _=>Iff.rfl,fun _ _ _=>rfl,zkc HK52.out aQ.out,HI0.out,fun i h=>by simp at h,qf.out⟩ ?_ ?_ ?_
 ·rintro l pre x C W3 vs' g hI vQ Bo hl hlW hpre ⟨sv,rfl,hsv,Ak⟩;clear vQ;have hxm:x∈allS ⟨bv,bl,bi⟩ (lenE vs ⟨bv,bl,bi⟩):=hpre.subset (by simp);have hpl:pre.length<1000000:=by have h1:=hpre.length_le;have h2:=HMX.out;simp only[List.length_append,List.length_cons,List.length_nil]at h1;omega
  have hxc:x.cells.length<=100:=by
   obtain⟨y,hy,rfl⟩:=List.mem_map.1 hxm;have h1:=(zn4 rfl y hy).len;have h2:=zl2 bZ.out;simp only[stOf,List.length_dropLast];omega
  obtain⟨As,cs,Bs,ds,Ds,es,rfl⟩:∃A c B d D e,sv=.agg #[.slice A x.cells.length c,.slice B x.tin.length d,.slice D x.tout.length e]:=by
   obtain⟨A,c,B,d,D,e,rfl,-⟩:=hsv;exact⟨_,_,_,_,_,_,rfl⟩
  change Code.wpIn (Fence.wide.inRound l) (3-1-1) prog _ _ _ _
  gi_wp2
  refine⟨(Chg.refl _ _).alloc _,fun W4 uf=>?_⟩;have hbx:=uf.keep (heap_alloc_new W3 (.cells #[.slice As x.cells.length cs,.slice Bs x.tin.length ds,.slice Ds x.tout.length es] 32)) (show ¬ W3.heap.size=l by omega);have tX:=zkb (zs W3) (.cells #[.slice As x.cells.length cs,.slice Bs x.tin.length ds,.slice Ds x.tout.length es] 32);have vN:=(hI.chg HT.out (Chg.of_below tX) (fun b hb h=>h)).chg HT.out uf (fun b hb h=>Bo (by have h:b=l:=h;rwa[h]at hb));have hsv4:SV W4 (fun q=>g<=q) x (.agg #[.slice As x.cells.length cs,.slice Bs x.tin.length ds,.slice Ds x.tout.length es]):=(hsv.later tX).keep (fun _ h _=>h) fun q h hlt=>uf.block q hlt (fun e:q=l=>by have h:g<=q:=h;omega);obtain⟨xp,hxp⟩:=zX (W3.heap.size);rw[hxp]at hbx ⊢;have hg6:N+6<=g:=by have:=qf.out;omega
  have hxp6:g<=xp:=by omega
  have z5:W4.cell? ⟨N+5,0,none⟩=some (.int .i64 (pre.length:Int)):=zc vN.2.2.1 rfl;have cf5:∀o,W4.frozen? ⟨N+5,o,none⟩=false:=fun o=>zf vN.2.2.1;obtain⟨W5,iH,bW,jF⟩:=setU (o:=0) (.int .i64 ((pre.length:Int)+1)) vN.2.2.1;have HI4:=zh vN;have HSV4:=zh hsv4;have aX:=zh hbx;have HXC:=zh hxc;have HCLL:=zh Bo;have HXM:=zh (show(allS ⟨bv,bl,bi⟩ (lenE vs ⟨bv,bl,bi⟩))[pre.length]?=some x by obtain⟨t,ht⟩:=hpre;rw[<-ht];simp);have oO:=zh (And.intro hl (And.intro hlW (And.intro Ak (And.intro hg6 hxp6))));have gY:=zh hpre;have eH:=zh bW;have yY:=zh jF;clear hI hpre hbx vN hsv4 uf hsv hxc Bo hl hlW Ak tX hxm bW jF hg6 hxp6;change Code.wpIn (Fence.wide.inRound l) (3-1-1) prog _ _ _ _
  gi_upto_region 7 with fail
  have hk15:=eH.out.keep ((HI4.out.2.1 (N+1) (by omega) (by omega)).trans (zkc jP.out aQ.out)) (fun e:N+1=N+5=>by omega);have hx5:=eH.out.keep aX.out (fun e:xp=N+5=>by have:=oO.out;omega);have HSV5:=zh (HSV4.out.keep (S':=Any) (fun _ _ _=>trivial) fun q h hlt=>eH.out.block q hlt (fun e:q=N+5=>by have h:g<=q:=h;have:=oO.out;omega));have oH:=zh hx5;have hSS:(fun w':World=>zv w' (N+1) 0 (.func (.func fid) #[] lb)/\stC w' xp As x.cells.length cs Bs x.tin.length ds Ds x.tout.length es) W5.drew:=⟨zc hk15 rfl,zkz hx5⟩
  refine zmb (ro:=some l) (fun w':World=>zv w' (N+1) 0 (.func (.func fid) #[] lb)/\stC w' xp As x.cells.length cs Bs x.tin.length ds Ds x.tout.length es) (by kernel_rfl) ?_;clear hk15 hx5 z5 cf5 iH;refine zI 0 hSS ?_;refine zI 1 hSS ?_;have hcl:=zp8 x _ W5.drew (HSV5.out.later zr.drew) (by have:=HXC.out;omega);have had:Calls prog 47 [.agg #[.slice As x.cells.length cs,.slice Bs x.tin.length ds,.slice Ds x.tout.length es]].toArray W5.drew fun e w'=>∃u,e=.returned u/\(OwnS w' W5.heap.size x u/\Below W5.heap.size W5 w') :=
   hcl.mono fun e w' ⟨v,h1,h2,h3⟩=>⟨v,h1,h2,zka (zs W5).drew h3⟩
  refine znm (i:=2) (by kernel_rfl) rfl (by kernel_rfl) (by rfl) (fun K hK=>?_);refine zkd (by rfl) (.func 47) [.tmp 21] _ (by rfl) 47 _ zs1 (by rfl) _ (by rfl) _ had ?_;rintro u w6 ⟨kL,hb6⟩;have wY:(fun w':World=>zv w' (N+1) 0 (.func (.func fid) #[] lb)/\stC w' xp As x.cells.length cs Bs x.tin.length ds Ds x.tout.length es) w6:=⟨zb hb6 hSS.1,zb hb6 hSS.2.1,zb hb6 hSS.2.2.1,zb hb6 hSS.2.2.2⟩
  refine hK.out _ _ wY ?_;clear hK K had hcl hSS;(try simp only[zQ]);have oW:W4.heap.size<=W5.heap.size:=eH.out.size;have hN4:N+6<=W4.heap.size:=HI4.out.2.2.2.2.2;have iM:Chg (fun q=>q=N+5) W4 w6:=eH.out.trans2 (Chg.of_below (C:=fun _=>False) hb6) fun b _ h=>h.elim;have bM:Inv pre.length w6:=HT.out.keep _ _ _ HI4.out.2.2.2.1 iM.size fun b hb=>iM.block b (by omega) (fun e=>by have e:b=N+5:=e;omega);have iO:Calls prog fid ([u].toArray++lb) w6 fun e w'=>∃z,e=.returned z/\(z=.bool (f pre.length x)/\Inv (pre.length+1) w'/\Chg (fun b=>b<N\/W5.heap.size<=b) w6 w') :=
   (HT.out.call pre.length x u w6 W5.heap.size bM (by omega) hb6.size kL HXM.out).mono fun e w' ⟨h1,h2,h3⟩=>⟨_,h1,rfl,h2,h3⟩
  refine znm (i:=3) (by kernel_rfl) rfl (by kernel_rfl) (by rfl) (fun K hK=>?_);refine zk5 (by rfl) (.tmp 20) [.tmp 22] _ (by rfl) fid _ dH.out lb (by rfl) _ (by rfl) _ iO ?_;rintro z w7 ⟨rfl,bK,oD⟩;have tQ:=oD.keep (zkc oH.out hb6) (fun e=>by have:=oO.out;have:=zko oH.out;rcases e with e|e<;>omega);have hk17:=oD.keep (zkc (eH.out.keep ((HI4.out.2.1 (N+1) (by omega) (by omega)).trans (zkc jP.out aQ.out)) (fun e:N+1=N+5=>by omega)) hb6) (fun e=>by rcases e with e|e<;>omega);refine hK.out _ _ ⟨zc hk17 rfl,zkz tQ⟩ ?_;clear hK K iO wY bM;(try simp only[zQ]);refine zpu (by kernel_rfl) ?_;have hch:Chg C W4 w7:=(iM.mono fun q _ (e:q=N+5)=>(HI4.out.1 q).2 (by omega)).trans2 oD fun q hlt e=>(HI4.out.1 q).2 (by rcases e with e|e<;>omega)
  have hlow:∀b,N<=b->b<N+5->w7.heap[b]?=w5.heap[b]?:=fun b h1 h2=>((oD.block b (by have:=iM.size;omega) (fun e=>by rcases e with e|e<;>omega)).trans (iM.block b (by omega) (fun e=>by have e:b=N+5:=e;omega))).trans (HI4.out.2.1 b h1 h2);have oC:w7.heap[N+5]?=some (.cells #[.int .i64 ((pre.length:Int)+1)] 3 (0,0)):=by
   refine oD.keep (zkc ?_ hb6) (fun e=>by rcases e with e|e<;>omega);have:=yY.out;simpa using this
  have hsv7:SV w7 (fun q=>g<=q/\q<w7.heap.size) x (.agg #[.slice As x.cells.length cs,.slice Bs x.tin.length ds,.slice Ds x.tout.length es]) :=
   HSV4.out.keep (fun q h hlt=>⟨h,Nat.lt_of_lt_of_le hlt hch.size⟩) fun q h hlt=>(oD.block q (by have:=iM.size;omega) (fun e=>by have h:g<=q:=h;have:=oO.out;rcases e with e|e<;>omega)).trans (iM.block q hlt (fun e=>by have h:g<=q:=h;have e:q=N+5:=e;have:=oO.out;omega))
  have dN:=zh hch;have qD:=zh hlow;have oN:=zh oC;have HSV7:=zh hsv7;have jm:=zh bK;have xu:=zh tQ;have jw:N+6<=w7.heap.size:=by have:=hch.size;omega
  have BA:=zh jw;clear hch hlow oC hsv7 bK tQ hk17 oD hb6 kL iM oW hN4 jw;obtain⟨ft,hft⟩:=zX (f pre.length x);rw[hft];have lZ:=zh hft;clear hft
  cases ft
  ·gi_wp2
   refine⟨C,⟨HI4.out.1,qD.out,by rw[oN.out];simp,by simpa using jm.out,fun i hi=>?_,BA.out⟩,fun b hb=>.inl hb,dN.out⟩;by_cases h9:i<pre.length
   ·rw[List.getElem_append_left h9];exact HI4.out.2.2.2.2.1 i h9
   ·obtain rfl:i=pre.length:=by simp at hi;omega
    rw[List.getElem_append_right zl];simp only[Nat.sub_self,List.getElem_cons_zero];exact lZ.out
  ·gi_upto_region 8 with fail
   have hk2:=(qD.out (N+2) (by omega) (by omega)).trans (zkc qG.out aQ.out);have hk3:=(qD.out (N+3) (by omega) (by omega)).trans (zkc qF.out aQ.out);have hk4:=(qD.out (N+4) (by omega) (by omega)).trans (zkc jO.out aQ.out);have oF:(fun w':World=>zv w' (N+5) 0 (.int .i64 ((pre.length:Int)+1))/\stC w' xp As x.cells.length cs Bs x.tin.length ds Ds x.tout.length es) w7.drew:=⟨zc oN.out rfl,zkz xu.out⟩
   refine zmb (ro:=some l) (fun w':World=>zv w' (N+5) 0 (.int .i64 ((pre.length:Int)+1))/\stC w' xp As x.cells.length cs Bs x.tin.length ds Ds x.tout.length es) (by kernel_rfl) ?_;refine zI 0 oF ?_;refine zI 1 oF ?_;have hdw:Below w7.heap.size w7 w7.drew:=zr.drew;obtain⟨w8,hw8⟩:=zX (w7.drew);rw[hw8]at hdw oF ⊢;have hxb:=zkc xu.out hdw;have hnb:=zkc oN.out hdw
   replace hk2:=zkc hk2 hdw
   replace hk3:=zkc hk3 hdw
   replace hk4:=zkc hk4 hdw
   obtain⟨q0,q1,q2⟩:=zkz hk2;have cf:∀o,w8.frozen? ⟨N+2,o,none⟩=false:=fun o=>zf hk2;obtain⟨w9,dJ,bI,fT⟩:=st3 (.slice As x.cells.length cs) (.slice Bs x.tin.length ds) (.slice Ds x.tout.length es) hk2;refine znm (i:=2) (by kernel_rfl) rfl (by kernel_rfl) (by rfl) (fun K hK=>?_);(try simp only[zA,zB,zC]);go_simp;refine hK.out _ _ ⟨zc (bI.keep hnb (fun(e:N+5=N+2)=>by omega)) rfl,zkz (bI.keep hxb (fun e:xp=N+2=>by have:=oO.out;omega))⟩ ?_;clear hK K q0 q1 q2 cf;(try simp only[zQ]);have gT:=bI.keep hk3 (fun e:N+3=N+2=>by omega);have q0:w9.cell? ⟨N+3,0,none⟩=some (.int .i64 0):=zc gT rfl;have cf:∀o,w9.frozen? ⟨N+3,o,none⟩=false:=fun o=>zf gT;obtain⟨aV,df,jG,mM⟩:=setU (o:=0) (.int .i64 ((pre.length:Int)+1)) gT;refine znm (i:=3) (by kernel_rfl) rfl (by kernel_rfl) (by rfl) (fun K hK=>?_);(try simp only[zA,zB,zC]);go_simp
   have hc:Chg (fun q=>q=N+2\/q=N+3) w8 aV:=(bI.mono fun q _ e=>.inl e).trans2 jG fun q _ e=>.inr e;refine hK.out _ _ ⟨zc (hc.keep hnb (fun e=>by rcases e with e|e<;>omega)) rfl,zkz (hc.keep hxb (fun e=>by have:=oO.out;rcases e with e|e<;>omega))⟩ ?_;clear hK K q0 cf;(try simp only[zQ]);have dw:=hc.keep hk4 (fun e=>by rcases e with e|e<;>omega);have q0:aV.cell? ⟨N+4,0,none⟩=some (.bool false):=zc dw rfl;have cf:∀o,aV.frozen? ⟨N+4,o,none⟩=false:=fun o=>zf dw;obtain⟨aR,gJ,dW,mK⟩:=setU (o:=0) (.bool true) dw;refine znm (i:=4) (by kernel_rfl) rfl (by kernel_rfl) (by rfl) (fun K hK=>?_);(try simp only[zA,zB,zC]);go_simp;have hcx:Chg (fun q=>q=N+2\/q=N+3\/q=N+4) w7 aR:=(Chg.of_below hdw).trans2 ((hc.mono fun q _ e=>e.elim .inl fun e=>.inr (.inl e)).trans2 dW fun q _ e=>.inr (.inr e)) fun q _ e=>e
   have hx11:=hcx.keep xu.out (fun e=>by have:=oO.out;rcases e with e|e|e<;>omega);have mF:=hcx.keep oN.out (fun e=>by rcases e with e|e|e<;>omega);have hk2':=dW.keep (jG.keep fT (fun e:N+2=N+3=>by omega)) (fun e:N+2=N+4=>by omega);have hk3':=dW.keep mM (fun e:N+3=N+4=>by omega);have jR:=zh (show FiX N w5 f Inv (allS ⟨bv,bl,bi⟩ (lenE vs ⟨bv,bl,bi⟩)) (pre++[x]) (fun b=>b<N+6\/(g<=b/\b<aR.heap.size)) aR from
    ⟨pre,x,g,aR.heap.size,As,_,cs,Bs,_,ds,Ds,_,es,rfl,gY.out,HI4.out.2.2.2.2.1,lZ.out,fun b=>Iff.rfl,(by have:=oO.out;omega),zl,Nat.le_trans BA.out hcx.size,
     by simpa using HT.out.keep _ _ _ jm.out hcx.size fun b hb=>hcx.block b (by have:=BA.out;omega) (fun e=>by rcases e with e|e|e<;>omega),hk2',by rw[hk3'];simp,mK,
     HSV7.out.keep (fun q h hlt=>⟨h.1,Nat.lt_of_lt_of_le hlt hcx.size⟩) fun q h hlt=>hcx.block q hlt fun e=>by have h:g<=q:=h.1;have:=oO.out;rcases e with e|e|e<;>omega⟩)
   have qL:=zh (dN.out.trans2 hcx fun q _ e=>(HI4.out.1 q).2 (by rcases e with e|e|e<;>omega));refine hK.out _ _ ⟨zc mF rfl,zkz hx11⟩ ?_;clear hK K q0 cf hcx hx11 mF hk2' hk3' dW mK jG mM bI fT hc dw gT hk2 hk3 hk4 hxb hnb hdw oF;(try simp only[zQ]);refine zpu (by kernel_rfl) ?_
   gi_wp2
   exact⟨_,jR.out,(fun b hb=>by rcases hb with h|h;exact .inl ((HI4.out.1 b).2 h);exact .inr h.1),qL.out⟩
 ·intro D C W' hD hI hch hK;have mO:Chg (fun b=>b<N+6) w5 W':=hch;have hk2:=(hI.2.1 (N+2) (by omega) (by omega)).trans (zkc qG.out aQ.out);have hk3:=(hI.2.1 (N+3) (by omega) (by omega)).trans (zkc qF.out aQ.out);have hk4:=(hI.2.1 (N+4) (by omega) (by omega)).trans (zkc jO.out aQ.out);have Aj:=hI.2.2.1;have uT:=zh hI;have dN:=zh mO;have HK:=zh hK;have HD:=zh (show w5.heap.size=D from hD.symm);have aT:=zh hk2;have ik:=zh hk3;have dR:=zh hk4;have xK:=zh Aj;clear hI hch mO hK hD hk2 hk3 hk4 Aj;go_upto_region 9 with fail;have oF:zW (fun w':World=>zv w' (N+5) 0 (.int .i64 ((allS ⟨bv,bl,bi⟩ (lenE vs ⟨bv,bl,bi⟩)).length:Int))) zU W'.drew:=⟨zc xK.out rfl,trivial⟩
  refine wp_region_noPanic ?_;refine zG oF 4 ?_;refine zT 0 oF ?_;refine zT 1 oF ?_;have hdw:Below W'.heap.size W' W'.drew:=zr.drew;obtain⟨w8,hw8⟩:=zX (W'.drew);rw[hw8]at hdw oF ⊢;have hnb:=zkc xK.out hdw;have hk2:=zkc aT.out hdw;have hk3:=zkc ik.out hdw;have hk4:=zkc dR.out hdw;obtain⟨q0,q1,q2⟩:=zkz hk2;have cf:∀o,w8.frozen? ⟨N+2,o,none⟩=false:=fun o=>zf hk2;obtain⟨w9,dJ,bI,fT⟩:=st3 (.slice none 0 0) (.slice none 0 0) (.slice none 0 0) hk2;refine zo 2 fun K hK=>?_;(try simp only[zA,zB,zC]);go_simp;refine hK.out _ _ ⟨zc (bI.keep hnb (fun(e:N+5=N+2)=>by omega)) rfl,trivial⟩ ?_;clear hK K q0 q1 q2 cf;(try simp only[zQ]);have gT:=bI.keep hk3 (fun e:N+3=N+2=>by omega);have q0:w9.cell? ⟨N+3,0,none⟩=some (.int .i64 0):=zc gT rfl;have cf:∀o,w9.frozen? ⟨N+3,o,none⟩=false:=fun o=>zf gT
  obtain⟨aV,df,jG,mM⟩:=setU (o:=0) (.int .i64 ((allS ⟨bv,bl,bi⟩ (lenE vs ⟨bv,bl,bi⟩)).length:Int)) gT;refine zo 3 fun K hK=>?_;(try simp only[zA,zB,zC]);go_simp;have hc:Chg (fun q=>q=N+2\/q=N+3) w8 aV:=(bI.mono fun q _ e=>.inl e).trans2 jG fun q _ e=>.inr e;refine hK.out _ _ ⟨zc (hc.keep hnb (fun e=>by rcases e with e|e<;>omega)) rfl,trivial⟩ ?_;clear hK K q0 cf;(try simp only[zQ]);have dw:=hc.keep hk4 (fun e=>by rcases e with e|e<;>omega);have q0:aV.cell? ⟨N+4,0,none⟩=some (.bool false):=zc dw rfl;have cf:∀o,aV.frozen? ⟨N+4,o,none⟩=false:=fun o=>zf dw;obtain⟨aR,gJ,dW,mK⟩:=setU (o:=0) (.bool false) dw;refine zp 4 fun K hK=>?_;(try simp only[zA,zB,zC]);go_simp;have hcx:Chg (fun q=>q=N+2\/q=N+3\/q=N+4) W' aR:=(Chg.of_below hdw).trans2 ((hc.mono fun q _ e=>e.elim .inl fun e=>.inr (.inl e)).trans2 dW fun q _ e=>.inr (.inr e)) fun q _ e=>e
  have aK:=zh (dW.keep (jG.keep fT (fun e:N+2=N+3=>by omega)) (fun e:N+2=N+4=>by omega));have bX:=zh (dW.keep mM (fun e:N+3=N+4=>by omega));have BZ:=zh mK;have rM:=zh (hcx.keep HK.out (fun e=>by have:=qf.out;have:=HD.out;rcases e with e|e|e<;>omega));have qL:=zh hcx;have mF:=hcx.keep xK.out (fun e=>by rcases e with e|e|e<;>omega);refine hK.out _ _ (zc mF rfl) ?_;clear hK K q0 cf hcx mF dW mK jG mM bI fT hc dw gT hk2 hk3 hk4 hnb hdw oF;(try simp only[zQ]);refine zd ?_;refine NoPanic.normal ?_;go_wp2_with fail;refine⟨by simp,.inl ⟨_,_,rfl,run_takeDeferred rM.out,?_⟩⟩;have hcd:=Chg.putObj aR D (.deferred none);have hND:N+5<D:=by have:=qf.out;have:=HD.out;omega
  have hn2:=hcd.keep aK.out (fun(e:N+2=D)=>by omega);have dn:=hcd.keep bX.out (fun(e:N+3=D)=>by omega);have qW:=hcd.keep BZ.out (fun(e:N+4=D)=>by omega);obtain⟨t0,t1,t2⟩:=zkz hn2;have t3:(aR.putObj D (.deferred none)).cell? ⟨N+3,0,none⟩=some (.int .i64 ((allS ⟨bv,bl,bi⟩ (lenE vs ⟨bv,bl,bi⟩)).length:Int)):=zc dn rfl;have t4:(aR.putObj D (.deferred none)).cell? ⟨N+4,0,none⟩=some (.bool false):=zc qW rfl;have hbb:=zka HB2.out aQ.out;have tN:Chg (fun q=>q=N+2\/q=N+3\/q=N+4\/q=D) W' (aR.putObj D (.deferred none)):=(qL.out.mono fun q _ e=>by rcases e with e|e|e;exact .inl e;exact .inr (.inl e);exact .inr (.inr (.inl e))).trans2 hcd fun q _ e=>.inr (.inr (.inr e))
  have hcw:Chg (fun b=>b<N+6\/b=D) w5 (aR.putObj D (.deferred none)):=(dN.out.mono fun b _ h=>.inl h).trans2 tN fun q _ e=>by rcases e with e|e|e|e;exact .inl (by omega);exact .inl (by omega);exact .inl (by omega);exact .inr e
  rw[zqK uT.out.2.2.2.2.1];refine⟨.tuple #[.agg #[.slice none 0 0,.slice none 0 0,.slice none 0 0],.int .i64 ((allS ⟨bv,bl,bi⟩ (lenE vs ⟨bv,bl,bi⟩)).length:Int),.bool false],by simp[results,results12,go_sem,t0,t1,t2,t3,t4],_,rfl,SV.nilF _ _,HT.out.keep _ _ _ uT.out.2.2.2.1 tN.size fun b hb=>tN.block b (by have:=uT.out.2.2.2.2.2;omega) (fun e=>by rcases e with e|e|e|e<;>omega),?_⟩;exact(Chg.of_below hbb).trans2 hcw fun b hlt e=>hlt
 ·intro D pre C W' hD hX hch hK;obtain⟨bH,s,g,X,As,ls,cs,Bs,ms,ds,Ds,ks',es,rfl,h2,h3,h4,h5,h6,h7,h8,h9,h10,h11,h12,lV⟩:=hX;have mO:Chg (fun b=>b<N+6) w5 W':=hch;have HF:=zh (zuK h2 h3 h4);have dN:=zh mO;have HK:=zh hK;have HD:=zh (show w5.heap.size=D from hD.symm);have HS:=zh lV;have aK:=zh h10;have bX:=zh h11;have BZ:=zh h12;have HG:=zh (And.intro h6 (And.intro h7 h8));have xP:=zh h9;clear h2 h3 h4 h5 h6 h7 h8 h9 h10 h11 h12 lV hch mO hK hD;refine wpIn_ret ?_;simp only[Exit.inBlock,Exit.then];refine⟨by simp,.inl ⟨_,_,rfl,run_takeDeferred HK.out,?_⟩⟩;have hcd:=Chg.putObj W' D (.deferred none);have hND:N+5<D:=by have:=qf.out;have:=HD.out;omega
  have hn2:=hcd.keep aK.out (fun(e:N+2=D)=>by omega);have dn:=hcd.keep bX.out (fun(e:N+3=D)=>by omega);have qW:=hcd.keep BZ.out (fun(e:N+4=D)=>by omega);obtain⟨t0,t1,t2⟩:=zkz hn2;have t3:(W'.putObj D (.deferred none)).cell? ⟨N+3,0,none⟩=some (.int .i64 ((bH++[s]).length:Int)):=zc dn rfl;have t4:(W'.putObj D (.deferred none)).cell? ⟨N+4,0,none⟩=some (.bool true):=zc qW rfl;have hbb:=zka HB2.out aQ.out;have hcw:Chg (fun b=>b<N+6\/b=D) w5 (W'.putObj D (.deferred none)):=(dN.out.mono fun b _ h=>.inl h).trans2 hcd fun q _ e=>.inr e;rw[HF.out];have hpl:(((bH++[s]).length:Nat):Int)=((bH.length+1:Nat):Int):=by simp
  refine⟨.tuple #[.agg #[.slice As ls cs,.slice Bs ms ds,.slice Ds ks' es],.int .i64 ((bH.length+1:Nat):Int),.bool true],by simp[results,results12,go_sem,t0,t1,t2,t3,t4],_,rfl,HS.out.keep (fun q h _=>by have:=HG.out;have:=hbb.size;show W.heap.size<=q;omega) fun q h hlt=>hcd.block q hlt fun e=>by have h:g<=q:=h.1;have e:q=D:=e;have:=HG.out;have:=HD.out;omega,by simpa using HT.out.keep _ _ _ xP.out hcd.size fun b hb=>hcd.block b (by have:=HG.out;omega) (fun(e:b=D)=>by omega),?_⟩;exact(Chg.of_below hbb).trans2 hcw fun b hlt e=>hlt
end
section
open Go Go.RowKit
section
variable {P:Program} {ops:Array Oper} {Q:Exit->Act->World->Prop} {md:Region.Mode} {S1 S2:World->Prop} {k:Nat}
theorem zvT{i j:Nat}{o o':Oper}{fuel:Nat}{listed:Array Bool}{a:Act}{w:World}(hr:Region.ready md ops listed=[i,j])(ho:ops[i]?=some o)(ho':ops[j]?=some o')
  (h:∀K':Act->World->Prop,Shut (∀a w,S1 w/\S2 w->wpG P md ops Q S1 S2 k fuel (listed.setIfInBounds i true) a w->K' a w)->if Region.wanted o (yielded ops a.tmps)=true then Oper.wp P o a w K' Q else K' (a.put o.dst undef) w)
  (h':∀K':Act->World->Prop,Shut (∀a w,S1 w/\S2 w->wpG P md ops Q S1 S2 k fuel (listed.setIfInBounds j true) a w->K' a w)->if Region.wanted o' (yielded ops a.tmps)=true then Oper.wp P o' a w K' Q else K' (a.put o'.dst undef) w) :
  wpG P md ops Q S1 S2 k (fuel+1) listed a w:=by
 refine⟨(fun h0=>by rw[hr]at h0;cases h0),fun x hx=>?_⟩;rw[hr]at hx;simp only[List.mem_cons,List.not_mem_nil,or_false]at hx;rcases hx with rfl|rfl
 ·exact wpOp_step ho fun K' hK=>h K' fun a w hS hW=>hK a w ⟨⟨hS.1,fun _=>hS.2⟩,hW⟩
 ·exact wpOp_step ho' fun K' hK=>h' K' fun a w hS hW=>hK a w ⟨⟨hS.1,fun _=>hS.2⟩,hW⟩
end
theorem set4{W:World}{b:Nat}{x0 x1 x2 x3 u0 u1 u2 u3:Value}{E:TypeId}(h:W.heap[b]?=some (.cells #[x0,x1,x2,x3] E (0,0))) :
  ((((W.setCell ⟨b,0,none⟩ u0).setCell ⟨b,1,none⟩ u1).setCell ⟨b,2,none⟩ u2).setCell ⟨b,3,none⟩ u3).heap[b]?=some (.cells #[u0,u1,u2,u3] E (0,0)) /\
   Chg (fun q=>q=b) W ((((W.setCell ⟨b,0,none⟩ u0).setCell ⟨b,1,none⟩ u1).setCell ⟨b,2,none⟩ u2).setCell ⟨b,3,none⟩ u3):=by
 refine⟨?_,((((Chg.refl (fun q=>q=b) W).setCell (p:=⟨b,0,none⟩) (.inl rfl) _).setCell (p:=⟨b,1,none⟩) (.inl rfl) _).setCell (p:=⟨b,2,none⟩) (.inl rfl) _).setCell (p:=⟨b,3,none⟩) (.inl rfl) _⟩;rw[heap_setCell_same _ b 3 _ _ u3 (heap_setCell_same _ b 2 _ _ u2 (heap_setCell_same _ b 1 _ _ u1 (heap_setCell_same W b 0 _ _ u0 h)))];simp
theorem zpU(t:T)(v:Value)(back:Bool)(w0 w:World)(hB0:Below w0.heap.size w0 w)(hv:NV w0 Any t v)(hk:0<t.ks.length):Calls prog 197 #[v,.bool back] w fun e W'=>∃v1 v2,e=.returned (.tuple #[v1,v2])/\NV w0 Any (fstT back t) v1/\NV w0 Any (lstT back t) v2/\Below w.heap.size w W':=by
 have HV:=zh hv;obtain⟨A,c,rfl,hf,hlk,hlc,hrow⟩:=hv.open_;obtain⟨m,hm⟩:∃m,t.ks.length=m+1:=⟨t.ks.length-1,by omega⟩
 obtain⟨a,a0,a1,a2,a3,rfl,-,ha,hna⟩:=hrow 0 (by omega);obtain⟨a',b0,b1,b2,b3,e',-,hb,hnb⟩:=hrow m (by omega);injection e' with e';subst e';obtain⟨t6,zY⟩:=zX (t.ks[0]'(by omega));obtain⟨t7,zR⟩:=zX (t.ks[m]'(by omega));rw[zY]at hna;rw[zR]at hnb;have lu:=zh hna;have oN:=zh hnb;have BN:=zh (show kid t 0=t6 by simp[kid,show 0<t.ks.length by omega,zY]);have BM:=zh (show kid t (t.ks.length-1)=t7 by simp[kid,hm,show m<t.ks.length by omega,zR]);obtain⟨A6,c6,e6,-⟩:=hna.open_;obtain⟨A7,c7,e7,-⟩:=hnb.open_;simp only[nv,Value.agg.injEq,Array.mk.injEq,List.cons.injEq,and_true]at e6 e7;obtain⟨rfl,rfl,rfl,rfl⟩:=e6;obtain⟨rfl,rfl,rfl,rfl⟩:=e7;clear hna hnb zY zR;obtain⟨ha0,ha1,ha2,wV⟩:=ha;obtain⟨hb0,hb1,hb2,hb3⟩:=hb;simp only[Nat.zero_mul,Addr.add_zero']at ha0 ha1 ha2 wV
 replace ha0:=zb hB0 ha0
 replace ha1:=zb hB0 ha1
 replace ha2:=zb hB0 ha2
 replace wV:=zb hB0 wV
 replace hb0:=zb hB0 hb0
 replace hb1:=zb hB0 hb1
 replace hb2:=zb hB0 hb2
 replace hb3:=zb hB0 hb3
 clear hB0;have yo:IntKind.i64.wrap (m:Int)=(m:Int):=IntWalk.i64_in _ (by unfold LK at hlk;omega);have hm0:(0:Int)<=(m:Int):=by omega
 have hm1:(m:Int)<((m:Int)+1):=by omega
 have hbl:Below w.heap.size w (((w.alloc (.cells #[.int .u8 t.k,.int .i64 t.n,.string t.s,.slice (some a) (m+1) c] 41)).alloc (.cells #[.int .u8 0,.int .i64 0,.string ⟨#[]⟩,.slice none 0 0] 41)).alloc (.cells #[.int .u8 0,.int .i64 0,.string ⟨#[]⟩,.slice none 0 0] 41)):=zkb (zkb (zkb zr _) _) _;have hk0:=zke (zke (heap_alloc_new w (.cells #[.int .u8 t.k,.int .i64 t.n,.string t.s,.slice (some a) (m+1) c] 41)) (.cells #[.int .u8 0,.int .i64 0,.string ⟨#[]⟩,.slice none 0 0] 41)) (.cells #[.int .u8 0,.int .i64 0,.string ⟨#[]⟩,.slice none 0 0] 41);have hk4:=zke (heap_alloc_new (w.alloc (.cells #[.int .u8 t.k,.int .i64 t.n,.string t.s,.slice (some a) (m+1) c] 41)) (.cells #[.int .u8 0,.int .i64 0,.string ⟨#[]⟩,.slice none 0 0] 41)) (.cells #[.int .u8 0,.int .i64 0,.string ⟨#[]⟩,.slice none 0 0] 41)
 have hk5:=heap_alloc_new ((w.alloc (.cells #[.int .u8 t.k,.int .i64 t.n,.string t.s,.slice (some a) (m+1) c] 41)).alloc (.cells #[.int .u8 0,.int .i64 0,.string ⟨#[]⟩,.slice none 0 0] 41)) (.cells #[.int .u8 0,.int .i64 0,.string ⟨#[]⟩,.slice none 0 0] 41);simp only[World.size_alloc]at hk4 hk5;go_enter func197,ntmps197;go_upto_region 1 with fail;obtain⟨w1,hw1⟩:=zX (((w.alloc (.cells #[.int .u8 t.k,.int .i64 t.n,.string t.s,.slice (some a) (m+1) c] 41)).alloc (.cells #[.int .u8 0,.int .i64 0,.string ⟨#[]⟩,.slice none 0 0] 41)).alloc (.cells #[.int .u8 0,.int .i64 0,.string ⟨#[]⟩,.slice none 0 0] 41));rw[hw1]at hbl hk0 hk4 hk5 ⊢
 have hSS:zW (fun w':World=>zv w' w.heap.size 3 (.slice (some a) (m+1) c)/\(w'.cell? a=some (.int .u8 t6.k)/\zv w' a.block (a.off+1) (.int .i64 t6.n)/\zv w' a.block (a.off+2) (.string t6.s)/\zv w' a.block (a.off+3) (.slice A6 t6.ks.length c6))/\(w'.cell? (a.add (m*4))=some (.int .u8 t7.k)/\zv w' ((a.add (m*4)).block) ((a.add (m*4)).off+1) (.int .i64 t7.n)/\zv w' ((a.add (m*4)).block) ((a.add (m*4)).off+2) (.string t7.s)/\zv w' ((a.add (m*4)).block) ((a.add (m*4)).off+3) (.slice A7 t7.ks.length c7))) zU w1.drew:=⟨⟨zc hk0 rfl,⟨zb hbl.drew ha0,zb hbl.drew ha1,zb hbl.drew ha2,zb hbl.drew wV⟩,⟨zb hbl.drew hb0,zb hbl.drew hb1,zb hbl.drew hb2,zb hbl.drew hb3⟩⟩,trivial⟩
 have dR:=zh (show w1.heap[w.heap.size+1]?=some (.cells #[.int .u8 0,.int .i64 0,.string ⟨#[]⟩,.slice none 0 0] 41 (0,0))from hk4);have iX:=zh (show w1.heap[w.heap.size+1+1]?=some (.cells #[.int .u8 0,.int .i64 0,.string ⟨#[]⟩,.slice none 0 0] 41 (0,0))from hk5);have ag:=zh hbl;clear hw1 hbl hk0 hk4 hk5 ha0 ha1 ha2 wV hb0 hb1 hb2 hb3 hrow HV;refine wp_region_noPanic ?_;refine zG hSS 15 ?_;refine zT 0 hSS ?_;refine zT 1 hSS ?_;refine zT 2 hSS ?_;refine zT 3 hSS ?_;refine zT 4 hSS ?_;refine zT 5 hSS ?_;refine zT 6 hSS ?_;refine zT 7 hSS ?_;refine zT 8 hSS ?_;refine zT 9 hSS ?_;refine zT 10 hSS ?_;refine zT 11 hSS ?_
 have uE:=zh (show ∀w',Below w1.heap.size w1 w'->(fun w':World=>zv w' w.heap.size 3 (.slice (some a) (m+1) c)/\(w'.cell? a=some (.int .u8 t6.k)/\zv w' a.block (a.off+1) (.int .i64 t6.n)/\zv w' a.block (a.off+2) (.string t6.s)/\zv w' a.block (a.off+3) (.slice A6 t6.ks.length c6))/\(w'.cell? (a.add (m*4))=some (.int .u8 t7.k)/\zv w' ((a.add (m*4)).block) ((a.add (m*4)).off+1) (.int .i64 t7.n)/\zv w' ((a.add (m*4)).block) ((a.add (m*4)).off+2) (.string t7.s)/\zv w' ((a.add (m*4)).block) ((a.add (m*4)).off+3) (.slice A7 t7.ks.length c7))) w' from fun w' hb=>by
  obtain⟨⟨q0,⟨q1,q2,q3,q4⟩,q5,q6,q7,q8⟩,-⟩:=hSS;exact⟨zb hb q0,⟨zb hb q1,zb hb q2,zb hb q3,zb hb q4⟩,zb hb q5,zb hb q6,zb hb q7,zb hb q8⟩)
 clear hSS;refine zvT (i:=12) (j:=13) (by kernel_rfl) rfl rfl (fun K hK=>?_) (fun K hK=>?_);(try simp only[zA,zB,zC]);go_simp;have hb2:=zkb (zs w1) (.cells #[.int .u8 0,.int .i64 0,.string ⟨#[]⟩,.slice none 0 0] 41);refine hK.out _ _ ⟨uE.out _ hb2.drew,trivial⟩ ?_;clear hK K;(try simp only[zQ]);refine zo 13 fun K hK=>?_;(try simp only[zA,zB,zC]);go_simp;have hb3:Below w1.heap.size w1 ((w1.alloc (.cells #[.int .u8 0,.int .i64 0,.string ⟨#[]⟩,.slice none 0 0] 41)).alloc (.cells #[.int .u8 0,.int .i64 0,.string ⟨#[]⟩,.slice none 0 0] 41)):=zkb hb2 (.cells #[.int .u8 0,.int .i64 0,.string ⟨#[]⟩,.slice none 0 0] 41);have fG:=zke (heap_alloc_new w1 (.cells #[.int .u8 0,.int .i64 0,.string ⟨#[]⟩,.slice none 0 0] 41)) (.cells #[.int .u8 0,.int .i64 0,.string ⟨#[]⟩,.slice none 0 0] 41)
 have jw:=heap_alloc_new (w1.alloc (.cells #[.int .u8 0,.int .i64 0,.string ⟨#[]⟩,.slice none 0 0] 41)) (.cells #[.int .u8 0,.int .i64 0,.string ⟨#[]⟩,.slice none 0 0] 41);rw[World.size_alloc]at jw;refine hK.out _ _ ⟨uE.out _ hb3.drew,trivial⟩ ?_;clear hK K;(try simp only[zQ]);obtain⟨w3,hw3⟩:=zX ((w1.alloc (.cells #[.int .u8 0,.int .i64 0,.string ⟨#[]⟩,.slice none 0 0] 41)).alloc (.cells #[.int .u8 0,.int .i64 0,.string ⟨#[]⟩,.slice none 0 0] 41));rw[hw3]at hb3 fG jw ⊢;clear hw3 hb2;generalize GE7:w1.heap.size+1=b7 at jw ⊢;generalize GE6:w1.heap.size=b6 at fG ⊢;rotate_left 1;(try simp only[zA,zB,zC]);go_simp;have hb2:=zkb (zs w1) (.cells #[.int .u8 0,.int .i64 0,.string ⟨#[]⟩,.slice none 0 0] 41);refine hK.out _ _ ⟨uE.out _ hb2.drew,trivial⟩ ?_;clear hK K;(try simp only[zQ]);refine zo 12 fun K hK=>?_;(try simp only[zA,zB,zC]);go_simp
 have hb3:Below w1.heap.size w1 ((w1.alloc (.cells #[.int .u8 0,.int .i64 0,.string ⟨#[]⟩,.slice none 0 0] 41)).alloc (.cells #[.int .u8 0,.int .i64 0,.string ⟨#[]⟩,.slice none 0 0] 41)):=zkb hb2 (.cells #[.int .u8 0,.int .i64 0,.string ⟨#[]⟩,.slice none 0 0] 41);have jw:=zke (heap_alloc_new w1 (.cells #[.int .u8 0,.int .i64 0,.string ⟨#[]⟩,.slice none 0 0] 41)) (.cells #[.int .u8 0,.int .i64 0,.string ⟨#[]⟩,.slice none 0 0] 41);have fG:=heap_alloc_new (w1.alloc (.cells #[.int .u8 0,.int .i64 0,.string ⟨#[]⟩,.slice none 0 0] 41)) (.cells #[.int .u8 0,.int .i64 0,.string ⟨#[]⟩,.slice none 0 0] 41);rw[World.size_alloc]at fG;refine hK.out _ _ ⟨uE.out _ hb3.drew,trivial⟩ ?_;clear hK K;(try simp only[zQ]);obtain⟨w3,hw3⟩:=zX ((w1.alloc (.cells #[.int .u8 0,.int .i64 0,.string ⟨#[]⟩,.slice none 0 0] 41)).alloc (.cells #[.int .u8 0,.int .i64 0,.string ⟨#[]⟩,.slice none 0 0] 41))
 rw[hw3]at hb3 jw fG ⊢;clear hw3 hb2;generalize GE7:w1.heap.size+1=b6 at fG ⊢;generalize GE6:w1.heap.size=b7 at jw ⊢
 all_goals
  have gE:w1.heap.size<=b6/\w1.heap.size<=b7/\b6≠b7:=by omega
  obtain⟨g6,g7,gN⟩:=gE;clear GE6 GE7;have HB3:=zh hb3;have c0:w3.cell? ⟨b6,0,none⟩=some (.int .u8 0):=zc fG rfl;have c1:w3.cell? ⟨b6,1,none⟩=some (.int .i64 0):=zc fG rfl;have c2:w3.cell? ⟨b6,2,none⟩=some (.string ⟨#[]⟩):=zc fG rfl;have c3:w3.cell? ⟨b6,3,none⟩=some (.slice none 0 0):=zc fG rfl;have cf:∀o,w3.frozen? ⟨b6,o,none⟩=false:=fun _=>zf fG;refine zo 14 fun K hK=>?_;(try simp only[zA,zB,zC]);go_simp;obtain⟨hh,hch⟩:=set4 (u0:=(.int .u8 t6.k)) (u1:=(.int .i64 t6.n)) (u2:=(.string t6.s)) (u3:=(.slice A6 t6.ks.length c6)) fG;obtain⟨w4,hwn⟩:=zX ((((w3.setCell ⟨b6,0,none⟩ (.int .u8 t6.k)).setCell ⟨b6,1,none⟩ (.int .i64 t6.n)).setCell ⟨b6,2,none⟩ (.string t6.s)).setCell ⟨b6,3,none⟩ (.slice A6 t6.ks.length c6));rw[hwn]at hh hch ⊢;have hb4:Below w1.heap.size w1 w4:=HB3.out.trans (hch.below HB3.out.size fun b e=>by omega);refine hK.out _ _ ⟨uE.out _ hb4.drew,trivial⟩ ?_
  clear hK K c0 c1 c2 c3 cf hwn;(try simp only[zQ]);have aF:=zh hb4;have jr:=hch.keep jw (by omega);have c0:w4.cell? ⟨b7,0,none⟩=some (.int .u8 0):=zc jr rfl;have c1:w4.cell? ⟨b7,1,none⟩=some (.int .i64 0):=zc jr rfl;have c2:w4.cell? ⟨b7,2,none⟩=some (.string ⟨#[]⟩):=zc jr rfl;have c3:w4.cell? ⟨b7,3,none⟩=some (.slice none 0 0):=zc jr rfl;have cf:∀o,w4.frozen? ⟨b7,o,none⟩=false:=fun _=>zf jr;refine zp 15 fun K hK=>?_;(try simp only[zA,zB,zC]);go_simp;obtain⟨pO,pW⟩:=set4 (u0:=(.int .u8 t7.k)) (u1:=(.int .i64 t7.n)) (u2:=(.string t7.s)) (u3:=(.slice A7 t7.ks.length c7)) jr;obtain⟨w5,hwn⟩:=zX ((((w4.setCell ⟨b7,0,none⟩ (.int .u8 t7.k)).setCell ⟨b7,1,none⟩ (.int .i64 t7.n)).setCell ⟨b7,2,none⟩ (.string t7.s)).setCell ⟨b7,3,none⟩ (.slice A7 t7.ks.length c7));rw[hwn]at pO pW ⊢;have hb5:Below w1.heap.size w1 w5:=aF.out.trans (pW.below aF.out.size fun b e=>by omega)
  refine hK.out _ _ (uE.out _ hb5.drew) ?_;clear hK K c0 c1 c2 c3 cf hwn;(try simp only[zQ]);have xU:=zh (pW.keep hh (by omega));have Cq:=zh pO;have aQ:=zh (show Below w1.heap.size w1 w5 from hb5);clear hb3 fG jw jr hh pO hch pW hb4 hb5 aF HB3 uE;refine zd ?_;refine NoPanic.normal ?_;have ru:=zh (zkc dR.out aQ.out);have qf:=zh (zkc iX.out aQ.out);obtain⟨P,Q,X,Y,AX,AY,CX,CY,hE⟩:∃P Q X Y AX AY CX CY,cond back (P=b7/\Q=b6/\X=t7/\Y=t6/\AX=A7/\AY=A6/\CX=c7/\CY=c6) (P=b6/\Q=b7/\X=t6/\Y=t7/\AX=A6/\AY=A7/\CX=c6/\CY=c7):=by cases back<;>exact⟨_,_,_,_,_,_,_,_,rfl,rfl,rfl,rfl,rfl,rfl,rfl,rfl⟩
  cases back
  obtain⟨rfl,rfl,rfl,rfl,rfl,rfl,rfl,rfl⟩:=hE;have HX:=xU;have HY:=Cq;have NX:=lu;have NY:=oN;have EX:=BN;have EY:=BM;go_upto_region 4 with fail;rotate_left 1;obtain⟨rfl,rfl,rfl,rfl,rfl,rfl,rfl,rfl⟩:=hE;have HX:=Cq;have HY:=xU;have NX:=oN;have NY:=lu;have EX:=BM;have EY:=BN;go_upto_region 3 with fail
  all_goals
   clear xU Cq lu oN BN BM;have hS5:(fun w':World=>(zN4 w' P (.int .u8 X.k) (.int .i64 X.n) (.string X.s) (.slice AX X.ks.length CX))/\zN4 w' Q (.int .u8 Y.k) (.int .i64 Y.n) (.string Y.s) (.slice AY Y.ks.length CY)) w5.drew:=⟨⟨zc HX.out rfl,zc HX.out rfl,zc HX.out rfl,zc HX.out rfl⟩,⟨zc HY.out rfl,zc HY.out rfl,zc HY.out rfl,zc HY.out rfl⟩⟩
   refine wp_region_noPanic ?_;refine zkk (fun w':World=>(zN4 w' P (.int .u8 X.k) (.int .i64 X.n) (.string X.s) (.slice AX X.ks.length CX))/\zN4 w' Q (.int .u8 Y.k) (.int .i64 Y.n) (.string Y.s) (.slice AY Y.ks.length CY)) zU 3 (by kernel_rfl) ?_;refine zkQ (i:=0) (v:=?_) rfl (by kernel_rfl) (by kernel_rfl) (by kernel_rfl) (by decide) (fun _ _ _ h=>h) (Or.inl ⟨by rfl,?_⟩) ⟨hS5,trivial⟩ ?_;rotate_left 1
   ·(intro w hSw;(try dsimp only at hSw);(try simp only[zA,zC]);go_simp;(try with_reducible rfl))
   (try simp only[zQ]);refine zkQ (i:=1) (v:=?_) rfl (by kernel_rfl) (by kernel_rfl) (by kernel_rfl) (by decide) (fun _ _ _ h=>h) (Or.inl ⟨by rfl,?_⟩) ⟨hS5,trivial⟩ ?_;rotate_left 1
   ·(intro w hSw;(try dsimp only at hSw);(try simp only[zA,zB,zC]);go_simp;(try with_reducible rfl))
   (try simp only[zQ]);have hsz:w.heap.size+1+1<w1.heap.size:=(Array.getElem?_eq_some_iff.mp iX.out).1;have iF:=zh (ag.out.trans (aQ.out.mono (by omega)));have HC:=zh (show ∀W':World,W'.heap[P]?=w5.heap[P]?->W'.heap[Q]?=w5.heap[Q]?->(fun w':World=>(zN4 w' P (.int .u8 X.k) (.int .i64 X.n) (.string X.s) (.slice AX X.ks.length CX)/\zN4 w' Q (.int .u8 Y.k) (.int .i64 Y.n) (.string Y.s) (.slice AY Y.ks.length CY))) W'.drew from fun W' h6 h7=>⟨⟨zc (h6.trans HX.out) rfl,zc (h6.trans HX.out) rfl,zc (h6.trans HX.out) rfl,zc (h6.trans HX.out) rfl⟩,⟨zc (h7.trans HY.out) rfl,zc (h7.trans HY.out) rfl,zc (h7.trans HY.out) rfl,zc (h7.trans HY.out) rfl⟩⟩);have HZQ:=zh ru.out;have kU:=ru.out;have HZ5K:=qf.out;have c0:w5.cell? ⟨(w.heap.size+1),0,none⟩=some (.int .u8 0):=zc kU rfl;have c1:w5.cell? ⟨(w.heap.size+1),1,none⟩=some (.int .i64 0):=zc kU rfl
   have c2:w5.cell? ⟨(w.heap.size+1),2,none⟩=some (.string ⟨#[]⟩):=zc kU rfl;have c3:w5.cell? ⟨(w.heap.size+1),3,none⟩=some (.slice none 0 0):=zc kU rfl;have cf:∀o,w5.frozen? ⟨(w.heap.size+1),o,none⟩=false:=fun _=>zf kU;refine zo 2 fun K hK=>?_;(try simp only[zA,zB,zC]);go_simp;obtain⟨hh,hch⟩:=set4 (u0:=(.int .u8 X.k)) (u1:=(.int .i64 X.n)) (u2:=(.string X.s)) (u3:=(.slice AX X.ks.length CX)) kU;obtain⟨w6,hwn⟩:=zX ((((w5.setCell ⟨(w.heap.size+1),0,none⟩ (.int .u8 X.k)).setCell ⟨(w.heap.size+1),1,none⟩ (.int .i64 X.n)).setCell ⟨(w.heap.size+1),2,none⟩ (.string X.s)).setCell ⟨(w.heap.size+1),3,none⟩ (.slice AX X.ks.length CX));rw[hwn]at hh hch ⊢;clear c0 c1 c2 c3 cf hwn;have HBW6:=zh (iF.out.trans (hch.below iF.out.size fun b e=>by omega));have k6:=hch.block (P) (Array.getElem?_eq_some_iff.mp HX.out).1 (by omega)
   have k7:=hch.block (Q) (Array.getElem?_eq_some_iff.mp HY.out).1 (by omega);have kT:=hch.keep HZ5K (by omega);refine hK.out _ _ ⟨HC.out _ k6 k7,trivial⟩ ?_;have HF4:=zh hh;have K6:=zh k6;have K7:=zh k7;have dN:=zh hch;clear hK K k6 k7 hh hch;(try simp only[zQ]);have c0:w6.cell? ⟨(w.heap.size+1+1),0,none⟩=some (.int .u8 0):=zc kT rfl;have c1:w6.cell? ⟨(w.heap.size+1+1),1,none⟩=some (.int .i64 0):=zc kT rfl;have c2:w6.cell? ⟨(w.heap.size+1+1),2,none⟩=some (.string ⟨#[]⟩):=zc kT rfl;have c3:w6.cell? ⟨(w.heap.size+1+1),3,none⟩=some (.slice none 0 0):=zc kT rfl;have cf:∀o,w6.frozen? ⟨(w.heap.size+1+1),o,none⟩=false:=fun _=>zf kT;refine zp 3 fun K hK=>?_;(try simp only[zA,zB,zC]);go_simp;obtain⟨hh,hch⟩:=set4 (u0:=(.int .u8 Y.k)) (u1:=(.int .i64 Y.n)) (u2:=(.string Y.s)) (u3:=(.slice AY Y.ks.length CY)) kT
   obtain⟨w7,hwn⟩:=zX ((((w6.setCell ⟨(w.heap.size+1+1),0,none⟩ (.int .u8 Y.k)).setCell ⟨(w.heap.size+1+1),1,none⟩ (.int .i64 Y.n)).setCell ⟨(w.heap.size+1+1),2,none⟩ (.string Y.s)).setCell ⟨(w.heap.size+1+1),3,none⟩ (.slice AY Y.ks.length CY));rw[hwn]at hh hch ⊢;clear c0 c1 c2 c3 cf hwn;have HBW7:=zh (HBW6.out.trans (hch.below HBW6.out.size fun b e=>by omega));have k6:=hch.block (P) (by have:=(Array.getElem?_eq_some_iff.mp HX.out).1;have:=dN.out.size;omega) (by omega);have k7:=hch.block (Q) (by have:=(Array.getElem?_eq_some_iff.mp HY.out).1;have:=dN.out.size;omega) (by omega);have HF4':=zh (hch.keep HF4.out (by omega));refine hK.out _ _ (HC.out _ (k6.trans K6.out) (k7.trans K7.out)) ?_;have HF5:=zh hh;clear hK K k6 k7 hh hch;(try simp only[zQ]);refine zd ?_;refine NoPanic.normal ?_;have d4:=HF4'.out;have d5:=HF5.out
   have g0:w7.drew.cell? ⟨w.heap.size+1,0,none⟩=some (.int .u8 X.k):=zc d4 rfl;have g1:w7.drew.cell? ⟨w.heap.size+1,1,none⟩=some (.int .i64 X.n):=zc d4 rfl;have g2:w7.drew.cell? ⟨w.heap.size+1,2,none⟩=some (.string X.s):=zc d4 rfl;have g3:w7.drew.cell? ⟨w.heap.size+1,3,none⟩=some (.slice AX X.ks.length CX):=zc d4 rfl;have g4:w7.drew.cell? ⟨w.heap.size+1+1,0,none⟩=some (.int .u8 Y.k):=zc d5 rfl;have g5:w7.drew.cell? ⟨w.heap.size+1+1,1,none⟩=some (.int .i64 Y.n):=zc d5 rfl;have g6:w7.drew.cell? ⟨w.heap.size+1+1,2,none⟩=some (.string Y.s):=zc d5 rfl;have g7:w7.drew.cell? ⟨w.heap.size+1+1,3,none⟩=some (.slice AY Y.ks.length CY):=zc d5 rfl;go_wp2_with fail
   refine bodyPost_ret (v:=.tuple #[.agg #[.int .u8 X.k,.int .i64 X.n,.string X.s,.slice AX X.ks.length CX],.agg #[.int .u8 Y.k,.int .i64 Y.n,.string Y.s,.slice AY Y.ks.length CY]]) (by simp[results,results197,go_sem,g0,g1,g2,g3,g4,g5,g6,g7]) rfl ⟨_,_,rfl,?_,?_,HBW7.out.drew.drew⟩
   ·simp only[fstT,lstT,if_true,if_false,Bool.false_eq_true,EX.out,EY.out];exact NX.out
   ·simp only[fstT,lstT,if_true,if_false,Bool.false_eq_true,EX.out,EY.out];exact NY.out
def IStC(G:List PR->T->Prop)(g:Nat):Prop:=∀C:RC,C.Ok->∀(W:World) (r:RS),RI C W r->∀(t:T) (v:Value) (back:Bool),NV C.w Any t v->G C.p.prs t->zkB C.p.prs C.F g back t r ≠ .gas ->
 Calls prog 137 #[.pointer (some ⟨C.rb,0,none⟩),v,.bool back] W (RunP C W (zkB C.p.prs C.F g back t r))
theorem zlf{G:List PR->T->Prop}{g:Nat}(hS:IStC G g){C:RC}(hC:C.Ok){W:World}{r:RS}(h:RI C W r)(t:T)(v:Value)(back:Bool)(hv:NV C.w Any t v)(hG:∀u∈t.ks,G C.p.prs u)(aI:runO C.p.prs C.F g back t r ≠ .gas) :
  Calls prog 101 #[.pointer (some ⟨C.rb,0,none⟩),v,.bool back] W (RunP C W (runO C.p.prs C.F g back t r)):=by
 obtain⟨A,c,rfl,-,hlk,hlc,hrow⟩:=hv.open_;have af:=zh hrow;have HS:=zh hS;have HG:=zh hG;have hb0:=zkb (zs W) (.cells #[.int .u8 t.k,.int .i64 t.n,.string t.s,.slice A t.ks.length c] 41);obtain⟨dz,h1⟩:=h.plus hC hb0;have hz1:(W.alloc (.cells #[.int .u8 t.k,.int .i64 t.n,.string t.s,.slice A t.ks.length c] 41)).heap.size=W.heap.size+1:=by simp
 have hbx:=box4 (heap_alloc_new W (.cells #[.int .u8 t.k,.int .i64 t.n,.string t.s,.slice A t.ks.length c] 41));have aG:=zh (Kpt.of_below (n0:=C.n0) (kb:=C.kb) hb0);obtain⟨W1,hW1⟩:=zX (W.alloc (.cells #[.int .u8 t.k,.int .i64 t.n,.string t.s,.slice A t.ks.length c] 41));rw[hW1]at dz h1 hz1 hbx aG;obtain⟨hi,hhi⟩:=zX (W1.heap.size);rw[hhi]at dz h1 hz1;have mf:=zh dz;have H1:=zh h1;have aX:=zh hbx;have hz2:W.heap.size<hi:=by omega
 have hwn:IntKind.i64.wrap ((t.ks.length:Int)-1)=(t.ks.length:Int)-1:=IntWalk.i64_in _ (by unfold LK at hlk;omega);have hwq:∀j:Nat,j<t.ks.length->IntKind.i64.wrap ((t.ks.length:Int)-1-(j:Int))=((t.ks.length-1-j:Nat):Int):=fun j hj=>by rw[IntWalk.i64_in _ (by unfold LK at hlk;omega)];omega
 obtain⟨o,ho⟩:=zX (runO C.p.prs C.F g back t r);have HO:=zh (show zld (zkB C.p.prs C.F g back) ((blkL back t).drop 0) r=o by rw[List.drop_zero];exact ho);have qK:=zh (show o ≠ .gas from ho▸aI);have lS:(blkL back t).length=t.ks.length:=by unfold blkL;split<;>simp
 rw[ho];have bO:=zh lS;have hlk2:t.ks.length<=17592186044416:=by unfold LK at hlk;omega
 clear lS hlk;clear hv dz h1 hbx hb0 h hz1 hS hG hrow ho aI;obtain⟨x0,x1,x2,x3⟩:=aX.out;go_enter func101,ntmps101;go_wp2_with fail;clear x0 x1 x2 x3 hW1
 go_loopw [15] (fun i wr=>∃(j:Nat) (r1:RS),j<=t.ks.length/\i=.int .i64 j/\Hid (RI (C.plus W.heap.size hi) wr r1)/\Hid (Kpt C.n0 (C.plus W.heap.size hi).kb W1 wr)/\Hid (zld (zkB C.p.prs C.F g back) ((blkL back t).drop j) r1=o)) (fun i _=>t.ks.length-(intOf i).toNat)
 case atStart=>exact⟨0,r,Nat.zero_le _,rfl,H1,zh (Kpt.refl _ _ _),HO⟩
 case round =>
  obtain⟨j,r1,hj,rfl,HR,HK,HB⟩:=hrel;by_cases hlt:j<t.ks.length
  ·cases back
   ·skip
    have hj1:(j:Int)<(t.ks.length:Int):=by omega
    have hj0:(0:Int)<=(j:Int):=by omega
    have Ah:j<t.ks.length:=by omega
    have hqs1:(j:Int)<(t.ks.length:Int):=by omega
    have hqs0:(0:Int)<=(j:Int):=by omega
    have eU:=HR.out.below;obtain⟨a,u,A1,c1,rfl,-,hu,⟨p0,p1,p2,p3⟩,hnu⟩:=af.out.nd Ah;have hgu:=HG.out u (by rw[<-hu.out];exact List.getElem_mem _);have hbs:zld (zkB C.p.prs C.F g false) ((blkL false t).drop j) r1=(zkB C.p.prs C.F g false u r1).bind (zld (zkB C.p.prs C.F g false) ((blkL false t).drop (j+1))):=by
     rw[show(blkL false t).drop j=u::(blkL false t).drop (j+1) by rw[List.drop_eq_getElem_cons (by rw[bO.out];exact hlt),<-hu.out];congr 1;all_goals simp[blkL,hlt]];rfl
    rw[HB.out]at hbs;have og:=zh hbs;have xA:=zh (HS.out (C.plus W.heap.size hi) mf.out wr r1 HR.out u _ false hnu hgu (fun e=>qK.out (by rw[hbs,show zkB C.p.prs C.F g false u r1=.gas from e];rfl)));have q0:=zb eU p0;have q1:=zb eU p1;have q2:=zb eU p2;have q3:=zb eU p3;have x3:wr.cell? ⟨W.heap.size,3,none⟩=some (.slice (some a) t.ks.length c):=HK.out.cell (.inr (.inr ⟨zl,hz2⟩)) aX.out.2.2.2;clear hbs eU hnu hgu p0 p1 p2 p3 hu;go_wp2_with fail;refine xA.out.mono ?_;rintro e w2 ⟨hk2,hb2,ho2⟩;have gP:match zkB C.p.prs C.F g false u r1 with
     | .gas=>True
     | .err x=>e=zlF x
     | .ok r=>(∃u,e=.returned u)/\RI (C.plus W.heap.size hi) w2 r:=ho2
    have aT:=zh (HK.out.trans hk2);clear ho2 hk2 xA q0 q1 q2 q3 x3
    cases hx:zkB C.p.prs C.F g false u r1 with
    | gas=>exact absurd (by rw[og.out,hx];rfl) qK.out
    | err x =>
     rw[hx]at gP;subst gP;have ho3:o=.err x:=by rw[og.out,hx];rfl
     dsimp only;refine⟨rfl,aG.out.trans (Kpt.less aT.out),hb2,?_⟩;rw[ho3]
    | ok r2 =>
     rw[hx]at gP;obtain⟨⟨u2,rfl⟩,hr2⟩:=gP;have HR2:=zh hr2;have HB2:=zh (show zld (zkB C.p.prs C.F g false) ((blkL false t).drop (j+1)) r2=o by rw[og.out,hx];rfl);clear hr2 hx;go_wp2_with fail
     go_roundw
     case rel=>exact⟨j+1,r2,by omega,by go_num,HR2,aT,HB2⟩
     case measure=>simp[intOf];omega
   ·skip
    have hwq1:=hwq j hlt;obtain⟨q,hq⟩:=zX (t.ks.length-1-j);rw[hq]at hwq1;have hj1:(j:Int)<(t.ks.length:Int):=by omega
    have hj0:(0:Int)<=(j:Int):=by omega
    have Ah:q<t.ks.length:=by omega
    have hqs1:(q:Int)<(t.ks.length:Int):=by omega
    have hqs0:(0:Int)<=(q:Int):=by omega
    have eU:=HR.out.below;obtain⟨a,u,A1,c1,rfl,-,hu,⟨p0,p1,p2,p3⟩,hnu⟩:=af.out.nd Ah;have hgu:=HG.out u (by rw[<-hu.out];exact List.getElem_mem _);have hbs:zld (zkB C.p.prs C.F g true) ((blkL true t).drop j) r1=(zkB C.p.prs C.F g true u r1).bind (zld (zkB C.p.prs C.F g true) ((blkL true t).drop (j+1))):=by
     rw[show(blkL true t).drop j=u::(blkL true t).drop (j+1) by rw[List.drop_eq_getElem_cons (by rw[bO.out];exact hlt),<-hu.out];congr 1;all_goals simp[blkL,hq]];rfl
    rw[HB.out]at hbs;have og:=zh hbs;have xA:=zh (HS.out (C.plus W.heap.size hi) mf.out wr r1 HR.out u _ true hnu hgu (fun e=>qK.out (by rw[hbs,show zkB C.p.prs C.F g true u r1=.gas from e];rfl)));have q0:=zb eU p0;have q1:=zb eU p1;have q2:=zb eU p2;have q3:=zb eU p3;have x3:wr.cell? ⟨W.heap.size,3,none⟩=some (.slice (some a) t.ks.length c):=HK.out.cell (.inr (.inr ⟨zl,hz2⟩)) aX.out.2.2.2;clear hbs eU hnu hgu p0 p1 p2 p3 hu;go_wp2_with fail;refine xA.out.mono ?_;rintro e w2 ⟨hk2,hb2,ho2⟩;have gP:match zkB C.p.prs C.F g true u r1 with
     | .gas=>True
     | .err x=>e=zlF x
     | .ok r=>(∃u,e=.returned u)/\RI (C.plus W.heap.size hi) w2 r:=ho2
    have aT:=zh (HK.out.trans hk2);clear ho2 hk2 xA q0 q1 q2 q3 x3
    cases hx:zkB C.p.prs C.F g true u r1 with
    | gas=>exact absurd (by rw[og.out,hx];rfl) qK.out
    | err x =>
     rw[hx]at gP;subst gP;have ho3:o=.err x:=by rw[og.out,hx];rfl
     dsimp only;refine⟨rfl,aG.out.trans (Kpt.less aT.out),hb2,?_⟩;rw[ho3]
    | ok r2 =>
     rw[hx]at gP;obtain⟨⟨u2,rfl⟩,hr2⟩:=gP;have HR2:=zh hr2;have HB2:=zh (show zld (zkB C.p.prs C.F g true) ((blkL true t).drop (j+1)) r2=o by rw[og.out,hx];rfl);clear hr2 hx;go_wp2_with fail
     go_roundw
     case rel=>exact⟨j+1,r2,by omega,by go_num,HR2,aT,HB2⟩
     case measure=>simp[intOf];omega
  ·have ho3:o=.ok r1:=by
    rw[<-HB.out,show(blkL back t).drop j=[] by rw[List.drop_eq_nil_iff,bO.out];omega];rfl
   have hbr:=HR.out.below;have hj1:¬ (j:Int)<(t.ks.length:Int):=by omega
   go_wp2_with fail;go_end0;refine⟨aG.out.trans (Kpt.less HK.out),hbr,?_⟩
   try rw[ho3]
   exact⟨⟨_,rfl⟩,HR.out.less⟩
def brO(prs:List PR)(F:Int)(g:Nat)(back:Bool)(t:T)(r:RS):Out :=
 zlg F (fstT back t) r fun yes r=>(zld (zkB prs F g back) (blkL back (if yes=true then kid t 1 else kid t 2)) r).bind (zku F (lstT back t) yes)
theorem zs9{G:List PR->T->Prop}{g:Nat}(hS:IStC G g){C:RC}(hC:C.Ok){W:World}{r:RS}(h:RI C W r)(t:T)(v:Value)(back:Bool)(hv:NV C.w Any t v)(hk:t.ks.length=4)(hG1:∀u∈(kid t 1).ks,G C.p.prs u)(hG2:∀u∈(kid t 2).ks,G C.p.prs u)
  (aI:brO C.p.prs C.F g back t r ≠ .gas) :
  Calls prog 176 #[.pointer (some ⟨C.rb,0,none⟩),v,.bool back] W (RunP C W (brO C.p.prs C.F g back t r)):=by
 obtain⟨A,c,rfl,-,hlk,hlc,hrow⟩:=hv.open_;have af:=zh hrow;have HS:=zh hS;have HV:=zh hv;have hb0:=zkb (zs W) (.cells #[.int .u8 t.k,.int .i64 t.n,.string t.s,.slice A t.ks.length c] 41);obtain⟨x0,x1,x2,x3⟩:=box4 (heap_alloc_new W (.cells #[.int .u8 t.k,.int .i64 t.n,.string t.s,.slice A t.ks.length c] 41));have HB0:=zh hb0;have H:=zh h;have HC:=zh hC;have HX:=zh (heap_alloc_new W (.cells #[.int .u8 t.k,.int .i64 t.n,.string t.s,.slice A t.ks.length c] 41));have nW:=zh (fun w' (hb:Below W.heap.size W w')=>zpU t _ back C.w w' (zka h.below hb) hv (by omega));have nS:=zh hk;clear hrow hS hb0 h hv hk hC hlk;go_enter func176,ntmps176;go_wp2_with fail;refine(nW.out _ HB0.out).mono ?_;rintro e w2 ⟨v1,v2,rfl,n1,n2,b2⟩;obtain⟨t1,ht1⟩:=zX (fstT back t);obtain⟨t2,ht2⟩:=zX (lstT back t);have HT1:=zh ht1;have HT2:=zh ht2;rw[ht1]at n1;rw[ht2]at n2;obtain⟨A1,c1,rfl,-⟩:=n1.open_
 obtain⟨A2,c2,rfl,-⟩:=n2.open_;have nO:=zh n1;have aK:=zh n2;have b3:=zkb (zkb (zka HB0.out b2) (.cells #[.int .u8 t1.k,.int .i64 t1.n,.string t1.s,.slice A1 t1.ks.length c1] 41)) (.cells #[.int .u8 t2.k,.int .i64 t2.n,.string t2.s,.slice A2 t2.ks.length c2] 41);have k0:=zke (zke (zkc HX.out b2) (.cells #[.int .u8 t1.k,.int .i64 t1.n,.string t1.s,.slice A1 t1.ks.length c1] 41)) (.cells #[.int .u8 t2.k,.int .i64 t2.n,.string t2.s,.slice A2 t2.ks.length c2] 41);have k1:=zke (heap_alloc_new w2 (.cells #[.int .u8 t1.k,.int .i64 t1.n,.string t1.s,.slice A1 t1.ks.length c1] 41)) (.cells #[.int .u8 t2.k,.int .i64 t2.n,.string t2.s,.slice A2 t2.ks.length c2] 41);have k2:=heap_alloc_new (w2.alloc (.cells #[.int .u8 t1.k,.int .i64 t1.n,.string t1.s,.slice A1 t1.ks.length c1] 41)) (.cells #[.int .u8 t2.k,.int .i64 t2.n,.string t2.s,.slice A2 t2.ks.length c2] 41)
 simp only[World.size_alloc]at k2;obtain⟨w3,hw3⟩:=zX ((w2.alloc (.cells #[.int .u8 t1.k,.int .i64 t1.n,.string t1.s,.slice A1 t1.ks.length c1] 41)).alloc (.cells #[.int .u8 t2.k,.int .i64 t2.n,.string t2.s,.slice A2 t2.ks.length c2] 41));rw[hw3]at b3 k0 k1 k2;have hz2:=zka HB0.out b2;have hzz:=hz2.size;obtain⟨fJ,h3⟩:=H.out.plus HC.out b3;have bY:=zh (Kpt.of_below (n0:=C.n0) (kb:=C.kb) b3);have l0:=zko k0;have l1:=zko k1;have l2:=zko k2;obtain⟨hi,hhi⟩:=zX (w3.heap.size);rw[hhi]at fJ h3 l0 l1 l2;have fF:=zh fJ;have H3:=zh h3;have K0:=zh k0;have K1:=zh k1;have K2:=zh k2;have iZ:=zh (zor fJ h3 t1 _ n1)
 obtain⟨p1,⟨y0,y1,y2,y3⟩⟩:True/\(w3.cell? ⟨w2.heap.size,0,none⟩=some (.int .u8 t1.k)/\w3.cell? ⟨w2.heap.size,1,none⟩=some (.int .i64 t1.n)/\w3.cell? ⟨w2.heap.size,2,none⟩=some (.string t1.s)/\w3.cell? ⟨w2.heap.size,3,none⟩=some (.slice A1 t1.ks.length c1)):=⟨trivial,zc k1 rfl,zc k1 rfl,zc k1 rfl,zc k1 rfl⟩
 clear n1 n2 b2 b3 k0 k1 k2 hz2 fJ h3 x0 x1 x2 x3 HX HB0 nW p1 ht1 ht2;go_upto_region 2 with fail;clear hw3;go_wp2_with fail;refine iZ.out.mono ?_;rintro e w4 ⟨hk4,hb4,fI⟩;have dR:=zh (bY.out.trans (Kpt.less (C:=C) hk4));have aF:=zh (show Below C.w.heap.size C.w w4 from hb4);clear y0 y1 y2 y3 iZ;rcases fI with⟨x,rfl,hx⟩|⟨b,r1,rfl,hr1,hx⟩
 ·refine⟨rfl,dR.out,aF.out,?_⟩;rw[show brO C.p.prs C.F g back t r=.err x by unfold brO;rw[HT1.out];exact hx _]
 ·have k0:=hk4.blk (.inr (.inr ⟨by omega,l0⟩)) K0.out;have k2:=hk4.blk (.inr (.inr ⟨by omega,l2⟩)) K2.out;have HR4:=zh hr1;have fQ:=zh (show brO C.p.prs C.F g back t r=(runO C.p.prs C.F g back (if b=true then kid t 1 else kid t 2) r1).bind (zku C.F t2 b) by unfold brO;rw[HT1.out,HT2.out];exact hx _);have K4:=zh k0;have K5:=zh k2;have z3:w4.cell? ⟨W.heap.size,3,none⟩=some (.slice A t.ks.length c):=zc k0 rfl;have dG:=zh aI;clear hk4 hb4 hr1 hx k0 k2 aI
  cases b
  ·skip
   have hI:2<t.ks.length:=by have:=nS.out;omega
   have hI1:(2:Int)<(t.ks.length:Int):=by omega
   obtain⟨a,u,Au,cu,rfl,-,hu,⟨p0,p1,p2,p3⟩,hnu⟩:=af.out.nd hI;have gQ:kid t 2=u:=by unfold kid;rw[List.getD_eq_getElem?_getD,List.getElem?_eq_getElem hI];exact hu.out
   have uV:=zh (show ∀x∈u.ks,G C.p.prs x by rw[<-gQ];exact hG2);have iq:=zh (show brO C.p.prs C.F g back t r=(runO C.p.prs C.F g back u r1).bind (zku C.F t2 false) by rw[fQ.out];simp only[Bool.false_eq_true,if_false,if_true,gQ]);have hgu:runO C.p.prs C.F g back u r1 ≠ .gas:=fun e=>dG.out (by rw[iq.out,e];rfl);have aD:=zh (zlf HS.out fF.out HR4.out u _ back hnu uV.out hgu);have ha:a.add (2*4)=⟨a.block,a.off+8,none⟩:=by unfold Addr.add;split<;>simp_all
   rw[ha]at p0 p1 p2 p3;have q0:w4.cell? ⟨a.block,a.off+8,none⟩=some (.int .u8 u.k):=zb aF.out p0;have q1:w4.cell? ⟨a.block,a.off+8+1,none⟩=some (.int .i64 u.n):=zb aF.out p1;have q2:w4.cell? ⟨a.block,a.off+8+2,none⟩=some (.string u.s):=zb aF.out p2;have q3:w4.cell? ⟨a.block,a.off+8+3,none⟩=some (.slice Au u.ks.length cu):=zb aF.out p3;clear gQ hnu hu p0 p1 p2 p3 hgu;go_wp2_with fail;refine aD.out.mono ?_;rintro e w5 ⟨hk5,hb5,lM⟩;have iX:=zh (dR.out.trans (Kpt.less (C:=C) hk5));have aQ:=zh (show Below C.w.heap.size C.w w5 from hb5);have dm:match runO C.p.prs C.F g back u r1 with
    | .gas=>True
    | .err x=>e=zlF x
    | .ok r=>(∃u,e=.returned u)/\RI (C.plus W.heap.size hi) w5 r:=lM
   have k5:=hk5.blk (.inr (.inr ⟨by omega,l2⟩)) K5.out;have K6:=zh k5;clear q0 q1 q2 q3 z3 hk5 hb5 lM k5
   cases hx:runO C.p.prs C.F g back u r1 with
   | gas=>exact absurd (by rw[iq.out,hx];rfl) dG.out
   | err x =>
    rw[hx]at dm;subst dm;refine⟨rfl,iX.out,aQ.out,?_⟩;rw[iq.out,hx];rfl
   | ok r2 =>
    rw[hx]at dm;obtain⟨⟨u2,rfl⟩,hr2⟩:=dm;have HAS:=zh (zmK fF.out hr2 t2 _ aK.out false);have jV:=zh (show brO C.p.prs C.F g back t r=zku C.F t2 false r2 by rw[iq.out,hx];rfl);have q0:w5.cell? ⟨w2.heap.size+1,0,none⟩=some (.int .u8 t2.k):=zc K6.out rfl;have q1:w5.cell? ⟨w2.heap.size+1,1,none⟩=some (.int .i64 t2.n):=zc K6.out rfl;have q2:w5.cell? ⟨w2.heap.size+1,2,none⟩=some (.string t2.s):=zc K6.out rfl;have q3:w5.cell? ⟨w2.heap.size+1,3,none⟩=some (.slice A2 t2.ks.length c2):=zc K6.out rfl;clear hx hr2;go_wp2_with fail;refine HAS.out.mono ?_;rintro e w6 ⟨bE,hb6,kL⟩;have dX:=zh (iX.out.trans (Kpt.less (C:=C) bE));have aW:=zh (show Below C.w.heap.size C.w w6 from hb6);have di:match zku C.F t2 false r2 with
     | .gas=>True
     | .err x=>e=zlF x
     | .ok r=>(∃u,e=.returned u)/\RI (C.plus W.heap.size hi) w6 r:=kL
    clear q0 q1 q2 q3 bE hb6 kL
    cases hy:zku C.F t2 false r2 with
    | gas=>exact absurd (by rw[jV.out,hy]) dG.out
    | err x =>
     rw[hy]at di;subst di;refine⟨rfl,dX.out,aW.out,?_⟩;rw[jV.out,hy]
    | ok r3 =>
     rw[hy]at di;obtain⟨⟨u3,rfl⟩,hr3⟩:=di;have gX:=zh hr3.less;have u6:=zh (show brO C.p.prs C.F g back t r=.ok r3 by rw[jV.out,hy]);clear hr3 hy;go_wp2_with fail;go_end0;refine⟨dX.out,aW.out,?_⟩;rw[u6.out];exact⟨⟨_,rfl⟩,gX.out⟩
  ·skip
   have hI:1<t.ks.length:=by have:=nS.out;omega
   have hI1:(1:Int)<(t.ks.length:Int):=by omega
   obtain⟨a,u,Au,cu,rfl,-,hu,⟨p0,p1,p2,p3⟩,hnu⟩:=af.out.nd hI;have gQ:kid t 1=u:=by unfold kid;rw[List.getD_eq_getElem?_getD,List.getElem?_eq_getElem hI];exact hu.out
   have uV:=zh (show ∀x∈u.ks,G C.p.prs x by rw[<-gQ];exact hG1);have iq:=zh (show brO C.p.prs C.F g back t r=(runO C.p.prs C.F g back u r1).bind (zku C.F t2 true) by rw[fQ.out];simp only[Bool.false_eq_true,if_false,if_true,gQ]);have hgu:runO C.p.prs C.F g back u r1 ≠ .gas:=fun e=>dG.out (by rw[iq.out,e];rfl);have aD:=zh (zlf HS.out fF.out HR4.out u _ back hnu uV.out hgu);have ha:a.add (1*4)=⟨a.block,a.off+4,none⟩:=by unfold Addr.add;split<;>simp_all
   rw[ha]at p0 p1 p2 p3;have q0:w4.cell? ⟨a.block,a.off+4,none⟩=some (.int .u8 u.k):=zb aF.out p0;have q1:w4.cell? ⟨a.block,a.off+4+1,none⟩=some (.int .i64 u.n):=zb aF.out p1;have q2:w4.cell? ⟨a.block,a.off+4+2,none⟩=some (.string u.s):=zb aF.out p2;have q3:w4.cell? ⟨a.block,a.off+4+3,none⟩=some (.slice Au u.ks.length cu):=zb aF.out p3;clear gQ hnu hu p0 p1 p2 p3 hgu;go_wp2_with fail;refine aD.out.mono ?_;rintro e w5 ⟨hk5,hb5,lM⟩;have iX:=zh (dR.out.trans (Kpt.less (C:=C) hk5));have aQ:=zh (show Below C.w.heap.size C.w w5 from hb5);have dm:match runO C.p.prs C.F g back u r1 with
    | .gas=>True
    | .err x=>e=zlF x
    | .ok r=>(∃u,e=.returned u)/\RI (C.plus W.heap.size hi) w5 r:=lM
   have k5:=hk5.blk (.inr (.inr ⟨by omega,l2⟩)) K5.out;have K6:=zh k5;clear q0 q1 q2 q3 z3 hk5 hb5 lM k5
   cases hx:runO C.p.prs C.F g back u r1 with
   | gas=>exact absurd (by rw[iq.out,hx];rfl) dG.out
   | err x =>
    rw[hx]at dm;subst dm;refine⟨rfl,iX.out,aQ.out,?_⟩;rw[iq.out,hx];rfl
   | ok r2 =>
    rw[hx]at dm;obtain⟨⟨u2,rfl⟩,hr2⟩:=dm;have HAS:=zh (zmK fF.out hr2 t2 _ aK.out true);have jV:=zh (show brO C.p.prs C.F g back t r=zku C.F t2 true r2 by rw[iq.out,hx];rfl);have q0:w5.cell? ⟨w2.heap.size+1,0,none⟩=some (.int .u8 t2.k):=zc K6.out rfl;have q1:w5.cell? ⟨w2.heap.size+1,1,none⟩=some (.int .i64 t2.n):=zc K6.out rfl;have q2:w5.cell? ⟨w2.heap.size+1,2,none⟩=some (.string t2.s):=zc K6.out rfl;have q3:w5.cell? ⟨w2.heap.size+1,3,none⟩=some (.slice A2 t2.ks.length c2):=zc K6.out rfl;clear hx hr2;go_wp2_with fail;refine HAS.out.mono ?_;rintro e w6 ⟨bE,hb6,kL⟩;have dX:=zh (iX.out.trans (Kpt.less (C:=C) bE));have aW:=zh (show Below C.w.heap.size C.w w6 from hb6);have di:match zku C.F t2 true r2 with
     | .gas=>True
     | .err x=>e=zlF x
     | .ok r=>(∃u,e=.returned u)/\RI (C.plus W.heap.size hi) w6 r:=kL
    clear q0 q1 q2 q3 bE hb6 kL
    cases hy:zku C.F t2 true r2 with
    | gas=>exact absurd (by rw[jV.out,hy]) dG.out
    | err x =>
     rw[hy]at di;subst di;refine⟨rfl,dX.out,aW.out,?_⟩;rw[jV.out,hy]
    | ok r3 =>
     rw[hy]at di;obtain⟨⟨u3,rfl⟩,hr3⟩:=di;have gX:=zh hr3.less;have u6:=zh (show brO C.p.prs C.F g back t r=.ok r3 by rw[jV.out,hy]);clear hr3 hy;go_wp2_with fail;go_end0;refine⟨dX.out,aW.out,?_⟩;rw[u6.out];exact⟨⟨_,rfl⟩,gX.out⟩
def Up(n:Nat)(o:Out):Prop:=∀r,o=.ok r->n<=r.n
section
variable {m n:Nat} {o:Out} {F:Int} {t:T} {r:RS}
theorem Up.of(h:Good n o):Up n o:=h.2
theorem Up.mono(h:Up n o)(hm:m<=n):Up m o:=fun r e=>Nat.le_trans hm (h r e)
theorem Up.bind{f:RS->Out}(h:Up n o)(hf:∀r,n<=r.n->Up m (f r)):Up m (o.bind f):=by
 cases o with
 | gas=>intro r e;cases e
 | err x=>intro r e;cases e
 | ok r=>exact hf r (h r rfl)
theorem zq4{f:Int->RS->Out}(hf:∀x,Up m (f x r)):Up m (valO t r f):=by
 unfold valO
 split
 ·intro r e;cases e
 ·exact hf _
theorem zos{f:Bool->RS->Out}(hf:∀b r',r.n+1<=r'.n->Up m (f b r')):Up m (zlg F t r f):=by
 unfold zlg;exact(Up.of (zkt F r)).bind fun r' h=>zq4 fun x=>hf _ _ h
theorem zmJ{f:T->RS->Out}(hf:∀t r,Up r.n (f t r)):∀(l:List T) (r:RS),Up r.n (zld f l r)
 | [],r=>fun r' e=>by injection e with e;subst e;exact zl
 | t::ts,r=>by
  rw[zld];exact(hf t r).bind fun r1 h1=>(zmJ hf ts r1).mono h1
theorem zsf{f:T->RS->Out}(hf:∀t r,Up r.n (f t r)){entry test:T}{l1 l2:List T}:∀(m:Nat) (r:RS),Up r.n (zl7 F f entry test l1 l2 m r)
 | 0,_=>fun r' e=>by cases e
 | m+1,r=>by
  rw[zl7];refine(zmJ hf l1 r).bind fun r1 h1=>zos fun b r2 h2=>?_
  split
  ·intro r' e;injection e with e;subst e;omega
  ·refine(zmJ hf l2 r2).bind fun r3 h3=>(Up.of (zlh F entry false r3)).bind fun r4 h4=>?_;exact(zsf hf m r4).mono (by omega)
end
theorem znX{prs:List PR}{F:Int}:∀(g:Nat) (back:Bool) (t:T) (r:RS),Up r.n (zkB prs F g back t r)
 | 0,_,_,_=>fun r' e=>by cases e
 | g+1,back,t,r=>by
  have hb:∀(back:Bool) l r1,Up r1.n (zld (zkB prs F g back) l r1):=fun back l r1=>zmJ (fun u r2=>znX g back u r2) l r1;rw[zkB]
  split
  ·exact zos fun b r1 h1=>(hb _ _ r1).bind fun r2 h2=>(Up.of (zlh _ _ _ _)).mono (by omega)
  ·split
   ·refine(Up.of (zlh _ _ _ _)).bind fun r1 h1=>?_;exact(zsf (fun u r2=>znX g back u r2) g r1).mono (by omega)
   ·split
    ·refine(Up.of (zkt F r)).bind fun r1 h1=>zq4 fun x=>?_;refine(Up.of (zkD r1 _)).bind fun r2 h2=>(hb _ _ r2).bind fun r3 h3=>(Up.of (zkt F r3)).bind fun r4 h4=>zq4 fun x=>?_;exact(Up.of (zkD r4 _)).mono (by omega)
    ·split
     ·refine(Up.of (zkt F r)).bind fun r1 h1=>?_;refine(Up.of (zkD r1 _)).bind fun r2 h2=>(hb _ _ r2).bind fun r3 h3=>(Up.of (zkt F r3)).bind fun r4 h4=>?_;exact(Up.of (zkD r4 _)).mono (by omega)
     ·split
      ·split
       ·intro r' e;cases e
       ·refine(Up.of (zkt F r)).bind fun r1 h1=>?_;refine(Up.of (zkD r1 _)).bind fun r2 h2=>(hb _ _ _).bind fun r3 h3=>(Up.of (zkt F r3)).bind fun r4 h4=>?_;exact(Up.of (zkD r4 _)).mono (by simp only at h3;omega)
      ·refine(Up.of (zkt F r)).bind fun r1 h1=>?_;exact(Up.of (zkD r1 _)).mono (by omega)
def lpO(prs:List PR)(F:Int)(g:Nat)(back:Bool)(t:T)(r:RS):Out :=
 (zku F (fstT back t) true r).bind (zl7 F (zkB prs F g back) (fstT back t) (lstT back t) (blkL back (kid t 1)) (blkL back (kid t 2)) g)
def stp(rb:Nat)(W:World):Nat:=match W.cell? ⟨rb,7,none⟩with
 | some (.int _ n)=>n.toNat
 | _=>0
theorem zxH{C:RC}{W:World}{r:RS}(h:RI C W r):stp C.rb W=r.n:=by
 unfold stp;rw[h.cells.2.1];simp
theorem zwv{G:List PR->T->Prop}{g:Nat}(hS:IStC G g){C:RC}(hC:C.Ok){W:World}{r:RS}(h:RI C W r)(t:T)(v:Value)(back:Bool)(hv:NV C.w Any t v)(hk:t.ks.length=4)(hG1:∀u∈(kid t 1).ks,G C.p.prs u)(hG2:∀u∈(kid t 2).ks,G C.p.prs u)
  (aI:lpO C.p.prs C.F g back t r ≠ .gas) :
  Calls prog 177 #[.pointer (some ⟨C.rb,0,none⟩),v,.bool back] W (RunP C W (lpO C.p.prs C.F g back t r)):=by
 obtain⟨A,c,rfl,-,hlk,hlc,hrow⟩:=hv.open_;have af:=zh hrow;have HS:=zh hS;have HV:=zh hv;have hb0:=zkb (zs W) (.cells #[.int .u8 t.k,.int .i64 t.n,.string t.s,.slice A t.ks.length c] 41);obtain⟨x0,x1,x2,x3⟩:=box4 (heap_alloc_new W (.cells #[.int .u8 t.k,.int .i64 t.n,.string t.s,.slice A t.ks.length c] 41));have HB0:=zh hb0;have H:=zh h;have HC:=zh hC;have HX:=zh (heap_alloc_new W (.cells #[.int .u8 t.k,.int .i64 t.n,.string t.s,.slice A t.ks.length c] 41));have nW:=zh (fun w' (hb:Below W.heap.size W w')=>zpU t _ back C.w w' (zka h.below hb) hv (by omega));have nS:=zh hk;clear hrow hS hb0 h hv hk hC hlk;go_enter func177,ntmps177;go_wp2_with fail;refine(nW.out _ HB0.out).mono ?_;rintro e w2 ⟨v1,v2,rfl,n1,n2,b2⟩;obtain⟨t1,ht1⟩:=zX (fstT back t);obtain⟨t2,ht2⟩:=zX (lstT back t);have HT1:=zh ht1;have HT2:=zh ht2;rw[ht1]at n1;rw[ht2]at n2;obtain⟨A1,c1,rfl,-⟩:=n1.open_
 obtain⟨A2,c2,rfl,-⟩:=n2.open_;have nO:=zh n1;have aK:=zh n2;have b3:=zkb (zkb (zka HB0.out b2) (.cells #[.int .u8 t1.k,.int .i64 t1.n,.string t1.s,.slice A1 t1.ks.length c1] 41)) (.cells #[.int .u8 t2.k,.int .i64 t2.n,.string t2.s,.slice A2 t2.ks.length c2] 41);have k0:=zke (zke (zkc HX.out b2) (.cells #[.int .u8 t1.k,.int .i64 t1.n,.string t1.s,.slice A1 t1.ks.length c1] 41)) (.cells #[.int .u8 t2.k,.int .i64 t2.n,.string t2.s,.slice A2 t2.ks.length c2] 41);have k1:=zke (heap_alloc_new w2 (.cells #[.int .u8 t1.k,.int .i64 t1.n,.string t1.s,.slice A1 t1.ks.length c1] 41)) (.cells #[.int .u8 t2.k,.int .i64 t2.n,.string t2.s,.slice A2 t2.ks.length c2] 41);have k2:=heap_alloc_new (w2.alloc (.cells #[.int .u8 t1.k,.int .i64 t1.n,.string t1.s,.slice A1 t1.ks.length c1] 41)) (.cells #[.int .u8 t2.k,.int .i64 t2.n,.string t2.s,.slice A2 t2.ks.length c2] 41)
 simp only[World.size_alloc]at k2;obtain⟨w3,hw3⟩:=zX ((w2.alloc (.cells #[.int .u8 t1.k,.int .i64 t1.n,.string t1.s,.slice A1 t1.ks.length c1] 41)).alloc (.cells #[.int .u8 t2.k,.int .i64 t2.n,.string t2.s,.slice A2 t2.ks.length c2] 41));rw[hw3]at b3 k0 k1 k2;have hz2:=zka HB0.out b2;have hzz:=hz2.size;obtain⟨fJ,h3⟩:=H.out.plus HC.out b3;have bY:=zh (Kpt.of_below (n0:=C.n0) (kb:=C.kb) b3);have l0:=zko k0;have l1:=zko k1;have l2:=zko k2;obtain⟨hi,hhi⟩:=zX (w3.heap.size);rw[hhi]at fJ h3 l0 l1 l2;have fF:=zh fJ;have H3:=zh h3;have K0:=zh k0;have K1:=zh k1;have K2:=zh k2;have iZ:=zh (zmK fJ h3 t1 _ n1 true)
 obtain⟨p1,⟨y0,y1,y2,y3⟩⟩:True/\(w3.cell? ⟨w2.heap.size,0,none⟩=some (.int .u8 t1.k)/\w3.cell? ⟨w2.heap.size,1,none⟩=some (.int .i64 t1.n)/\w3.cell? ⟨w2.heap.size,2,none⟩=some (.string t1.s)/\w3.cell? ⟨w2.heap.size,3,none⟩=some (.slice A1 t1.ks.length c1)):=⟨trivial,zc k1 rfl,zc k1 rfl,zc k1 rfl,zc k1 rfl⟩
 clear n1 n2 b2 b3 k0 k1 k2 hz2 fJ h3 x0 x1 x2 x3 HX HB0 nW p1 ht1 ht2;go_upto_region 2 with fail;clear hw3;obtain⟨o,ho⟩:=zX (lpO C.p.prs C.F g back t r);have HO:=zh (show(zku C.F t1 true r).bind (zl7 C.F (zkB C.p.prs C.F g back) t1 t2 (blkL back (kid t 1)) (blkL back (kid t 2)) g)=o by rw[<-ho];unfold lpO;rw[HT1.out,HT2.out]);rw[ho]at aI ⊢;have dG:=zh aI;have bV:=zh ho;clear aI ho;go_wp2_with fail;refine iZ.out.mono ?_;rintro e w4 ⟨hk4,hb4,fI⟩;have dR:=zh (bY.out.trans (Kpt.less (C:=C) hk4));have aF:=zh (show Below C.w.heap.size C.w w4 from hb4);have bD:match zku C.F t1 true r with
  | .gas=>True
  | .err x=>e=zlF x
  | .ok r=>(∃u,e=.returned u)/\RI (C.plus W.heap.size hi) w4 r:=fI
 have dY:=zh hk4;clear y0 y1 y2 y3 iZ hk4 hb4 fI
 cases hy:zku C.F t1 true r with
 | gas=>exact absurd (by rw[<-HO.out,hy];rfl) dG.out
 | err x =>
  rw[hy]at bD;subst bD;refine⟨rfl,dR.out,aF.out,?_⟩;rw[<-HO.out,hy];rfl
 | ok r1 =>
  rw[hy]at bD;obtain⟨⟨u3,rfl⟩,hr1⟩:=bD;have HR4:=zh hr1;have jk:=zh (show zl7 C.F (zkB C.p.prs C.F g back) t1 t2 (blkL back (kid t 1)) (blkL back (kid t 2)) g r1=o by rw[<-HO.out,hy];rfl);clear hr1 hy;have hI1:(1:Int)<(t.ks.length:Int):=by have:=nS.out;omega
  have hI2:(2:Int)<(t.ks.length:Int):=by have:=nS.out;omega
  have hi1:1<t.ks.length:=by omega
  have hi2:2<t.ks.length:=by omega
  obtain⟨a,u,Au,cu,rfl,-,hu,⟨p0,p1,p2,p3⟩,hnu⟩:=af.out.nd hi1;obtain⟨a',u',Au',cu',e',-,hu',⟨p4,p5,p6,p7⟩,hnu'⟩:=af.out.nd hi2;injection e' with e';subst e';have gQ:kid t 1=u:=by unfold kid;rw[List.getD_eq_getElem?_getD,List.getElem?_eq_getElem hi1];exact hu.out
  have tu:kid t 2=u':=by unfold kid;rw[List.getD_eq_getElem?_getD,List.getElem?_eq_getElem hi2];exact hu'.out
  rw[gQ]at hG1;rw[tu]at hG2;rw[gQ,tu]at jk;have y9:=zh hG1;have HG2:=zh hG2;have xJ:=zh hnu;have HNU':=zh hnu';have ha:a.add (1*4)=⟨a.block,a.off+4,none⟩:=by unfold Addr.add;split<;>simp_all
  have ha':a.add (2*4)=⟨a.block,a.off+8,none⟩:=by unfold Addr.add;split<;>simp_all
  rw[ha]at p0 p1 p2 p3;rw[ha']at p4 p5 p6 p7;have vU:=zh (show ∀w',Below C.w.heap.size C.w w'->(w'.cell? ⟨a.block,a.off+4,none⟩=some (.int .u8 u.k)/\w'.cell? ⟨a.block,a.off+4+1,none⟩=some (.int .i64 u.n)/\w'.cell? ⟨a.block,a.off+4+2,none⟩=some (.string u.s)/\w'.cell? ⟨a.block,a.off+4+3,none⟩=some (.slice Au u.ks.length cu))/\(w'.cell? ⟨a.block,a.off+8,none⟩=some (.int .u8 u'.k)/\w'.cell? ⟨a.block,a.off+8+1,none⟩=some (.int .i64 u'.n)/\w'.cell? ⟨a.block,a.off+8+2,none⟩=some (.string u'.s)/\w'.cell? ⟨a.block,a.off+8+3,none⟩=some (.slice Au' u'.ks.length cu'))from fun w' hb=>⟨⟨zb hb p0,zb hb p1,zb hb p2,zb hb p3⟩,⟨zb hb p4,zb hb p5,zb hb p6,zb hb p7⟩⟩);clear gQ tu hnu hnu' hu hu' p0 p1 p2 p3 p4 p5 p6 p7 ha ha' hG1 hG2;have hz0:W.heap.size<hi:=l0;go_wp2_with fail
  go_loopw [] (fun wr=>∃(m:Nat) (r1:RS),Hid (RI (C.plus W.heap.size hi) wr r1)/\Hid (Kpt C.n0 (C.plus W.heap.size hi).kb w3 wr)/\Hid (zl7 C.F (zkB C.p.prs C.F g back) t1 t2 (blkL back u) (blkL back u') m r1=o)) (fun wr=>C.F.toNat-stp C.rb wr)
  case atStart=>exact⟨g,r1,HR4,dY,jk⟩
  case round =>
   obtain⟨m,r3,HR,HK,HL⟩:=hrel;have j0:=HK.out.blk (.inr (.inr ⟨by omega,l0⟩)) K0.out;have j1:=HK.out.blk (.inr (.inr ⟨by omega,l1⟩)) K1.out;have j2:=HK.out.blk (.inr (.inr ⟨by omega,l2⟩)) K2.out;have z3:wr.cell? ⟨W.heap.size,3,none⟩=some (.slice (some a) t.ks.length c):=zc j0 rfl
   cases m with
   | zero=>exact absurd HL.out.symm dG.out
   | succ m =>
    have HL2:=zh (show(runO C.p.prs C.F g back u r3).bind (fun r=>zlg C.F t2 r fun b r=>if b=true then .ok r else(runO C.p.prs C.F g back u' r).bind fun r=>(zku C.F t1 false r).bind (zl7 C.F (zkB C.p.prs C.F g back) t1 t2 (blkL back u) (blkL back u') m))=o from HL.out);have hgu:runO C.p.prs C.F g back u r3 ≠ .gas:=fun e=>dG.out (by rw[<-HL2.out,e];rfl);have aD:=zh (zlf HS.out fF.out HR.out u _ back xJ.out y9.out hgu);obtain⟨⟨q0,q1,q2,q3⟩,-⟩:=vU.out wr HR.out.below;clear hgu j0 j1 j2;go_wp2_with fail;refine aD.out.mono ?_;rintro e w5 ⟨hk5,hb5,lM⟩;have iX:=zh (HK.out.trans hk5);have aQ:=zh (show Below C.w.heap.size C.w w5 from hb5);have dm:match runO C.p.prs C.F g back u r3 with
     | .gas=>True
     | .err x=>e=zlF x
     | .ok r=>(∃u,e=.returned u)/\RI (C.plus W.heap.size hi) w5 r:=lM
    clear q0 q1 q2 q3 z3 hk5 hb5 lM aD
    cases hx:runO C.p.prs C.F g back u r3 with
    | gas=>exact absurd (by rw[<-HL2.out,hx];rfl) dG.out
    | err x =>
     rw[hx]at dm;subst dm;refine⟨rfl,bY.out.trans (Kpt.less (C:=C) iX.out),aQ.out,?_⟩
     try rw[bV.out]
     rw[<-HL2.out,hx];rfl
    | ok r4 =>
     rw[hx]at dm;obtain⟨⟨u2,rfl⟩,hr4⟩:=dm;have vR:=zh (zmJ (fun t r=>znX g back t r) (blkL back u) r3 r4 hx);have xN:=zh (show(zlg C.F t2 r4 fun b r=>if b=true then .ok r else(runO C.p.prs C.F g back u' r).bind fun r=>(zku C.F t1 false r).bind (zl7 C.F (zkB C.p.prs C.F g back) t1 t2 (blkL back u) (blkL back u') m))=o by rw[<-HL2.out,hx];rfl);have HHO2:=zh (zor fF.out hr4 t2 _ aK.out);have j2:=iX.out.blk (.inr (.inr ⟨by omega,l2⟩)) K2.out;have q0:w5.cell? ⟨w2.heap.size+1,0,none⟩=some (.int .u8 t2.k):=zc j2 rfl;have q1:w5.cell? ⟨w2.heap.size+1,1,none⟩=some (.int .i64 t2.n):=zc j2 rfl;have q2:w5.cell? ⟨w2.heap.size+1,2,none⟩=some (.string t2.s):=zc j2 rfl;have q3:w5.cell? ⟨w2.heap.size+1,3,none⟩=some (.slice A2 t2.ks.length c2):=zc j2 rfl;clear hx hr4 j2;go_wp2_with fail;refine HHO2.out.mono ?_;rintro e w6 ⟨bE,hb6,kL⟩;have dX:=zh (iX.out.trans bE)
     have aW:=zh (show Below C.w.heap.size C.w w6 from hb6);clear q0 q1 q2 q3 bE hb6 HHO2;rcases kL with⟨x,rfl,hx⟩|⟨b,r5,rfl,kI,hx⟩
     ·refine⟨rfl,bY.out.trans (Kpt.less (C:=C) dX.out),aW.out,?_⟩
      try rw[bV.out]
      rw[<-xN.out,show ∀f,zlg C.F t2 r4 f=.err x from hx]
     ·have gX:=zh kI;have HL4:=zh (show(if b=true then .ok r5 else(runO C.p.prs C.F g back u' r5).bind fun r=>(zku C.F t1 false r).bind (zl7 C.F (zkB C.p.prs C.F g back) t1 t2 (blkL back u) (blkL back u') m))=o by rw[<-xN.out,show ∀f,zlg C.F t2 r4 f=f b r5 from hx]);have HUP2:=zh (zos (t:=t2) (F:=C.F) (r:=r4) (m:=r4.n+1) (f:=fun _ r=>.ok r) (fun b r' h r'' e=>by injection e with e;subst e;exact h) r5 (hx _));clear hx kI
      cases b
      ·have lC:=zh (show(runO C.p.prs C.F g back u' r5).bind (fun r=>(zku C.F t1 false r).bind (zl7 C.F (zkB C.p.prs C.F g back) t1 t2 (blkL back u) (blkL back u') m))=o from HL4.out);have hgu:runO C.p.prs C.F g back u' r5 ≠ .gas:=fun e=>dG.out (by rw[<-lC.out,e];rfl);have aD:=zh (zlf HS.out fF.out gX.out u' _ back HNU'.out HG2.out hgu);have j0:=dX.out.blk (.inr (.inr ⟨by omega,l0⟩)) K0.out;have z3:w6.cell? ⟨W.heap.size,3,none⟩=some (.slice (some a) t.ks.length c):=zc j0 rfl;obtain⟨-,q0,q1,q2,q3⟩:=vU.out w6 aW.out;clear hgu j0;go_wp2_with fail;refine aD.out.mono ?_;rintro e w7 ⟨wS,dx,ho7⟩;have xO:=zh (dX.out.trans wS);have u7:=zh (show Below C.w.heap.size C.w w7 from dx);have pF:match runO C.p.prs C.F g back u' r5 with
        | .gas=>True
        | .err x=>e=zlF x
        | .ok r=>(∃u,e=.returned u)/\RI (C.plus W.heap.size hi) w7 r:=ho7
       clear q0 q1 q2 q3 z3 wS dx ho7 aD
       cases hx:runO C.p.prs C.F g back u' r5 with
       | gas=>exact absurd (by rw[<-lC.out,hx];rfl) dG.out
       | err x =>
        rw[hx]at pF;subst pF;refine⟨rfl,bY.out.trans (Kpt.less (C:=C) xO.out),u7.out,?_⟩
        try rw[bV.out]
        rw[<-lC.out,hx];rfl
       | ok r6 =>
        rw[hx]at pF;obtain⟨⟨u2,rfl⟩,dU⟩:=pF;have HUP3:=zh (zmJ (fun t r=>znX g back t r) (blkL back u') r5 r6 hx);have Cg:=zh (show(zku C.F t1 false r6).bind (zl7 C.F (zkB C.p.prs C.F g back) t1 t2 (blkL back u) (blkL back u') m)=o by rw[<-lC.out,hx];rfl);have HAS:=zh (zmK fF.out dU t1 _ nO.out false);have j1:=xO.out.blk (.inr (.inr ⟨by omega,l1⟩)) K1.out;have q0:w7.cell? ⟨w2.heap.size,0,none⟩=some (.int .u8 t1.k):=zc j1 rfl;have q1:w7.cell? ⟨w2.heap.size,1,none⟩=some (.int .i64 t1.n):=zc j1 rfl;have q2:w7.cell? ⟨w2.heap.size,2,none⟩=some (.string t1.s):=zc j1 rfl;have q3:w7.cell? ⟨w2.heap.size,3,none⟩=some (.slice A1 t1.ks.length c1):=zc j1 rfl;clear hx dU j1;go_wp2_with fail;refine HAS.out.mono ?_;rintro e w8 ⟨j3,bu,qV⟩;have qE:=zh (xO.out.trans j3);have dZ:=zh (show Below C.w.heap.size C.w w8 from bu)
        have dh:match zku C.F t1 false r6 with
         | .gas=>True
         | .err x=>e=zlF x
         | .ok r=>(∃u,e=.returned u)/\RI (C.plus W.heap.size hi) w8 r:=qV
        clear q0 q1 q2 q3 j3 bu qV HAS
        cases hy:zku C.F t1 false r6 with
        | gas=>exact absurd (by rw[<-Cg.out,hy];rfl) dG.out
        | err x =>
         rw[hy]at dh;subst dh;refine⟨rfl,bY.out.trans (Kpt.less (C:=C) qE.out),dZ.out,?_⟩
         try rw[bV.out]
         rw[<-Cg.out,hy];rfl
        | ok r7 =>
         rw[hy]at dh;obtain⟨⟨u3,rfl⟩,ow⟩:=dh;have oK:=zh ow;have HL7:=zh (show zl7 C.F (zkB C.p.prs C.F g back) t1 t2 (blkL back u) (blkL back u') m r7=o by rw[<-Cg.out,hy];rfl);have hmm:C.F.toNat-stp C.rb w8<C.F.toNat-stp C.rb wr:=by
          have e1:stp C.rb w8=r7.n:=zxH (C:=C.plus W.heap.size hi) oK.out;have e2:stp C.rb wr=r3.n:=zxH (C:=C.plus W.heap.size hi) HR.out;obtain⟨e3,e4⟩:=znA hy;have e5:=vR.out;have e6:=HUP2.out;have e7:=HUP3.out;have e8:r7.n=r6.n+1:=by rw[e3]
          omega
         have iW:=zh hmm;clear ow hy hmm;go_wp2_with fail
         go_roundw
         case rel=>exact⟨m,r7,oK,qE,HL7⟩
         case measure=>exact iW.out
      ·have lC:=zh (show o=.ok r5 from HL4.out.symm);have iB:=zh gX.out.less;go_wp2_with fail;go_end0;refine⟨bY.out.trans (Kpt.less (C:=C) dX.out),aW.out,?_⟩
       try rw[bV.out]
       rw[lC.out];exact⟨⟨_,rfl⟩,iB.out⟩
section
variable {C:RC} {W W':World} {r:RS} {S':ST}
theorem RI.store(h:RI C W r)(hk:KS C.w C.n0 C.sb (fun b=>C.kb b\/b=C.rb\/C.ev.ownBlock=some b) W' S')(hp:Kpt C.n0 (fun b=>C.kb b\/b=C.rb\/C.ev.ownBlock=some b) W W')(hf:FB r.n S') :
  RI C W' { r with S:=S' }/\Kpt C.n0 C.kb W W' :=
 ⟨⟨hk,hp.blk (.inr (.inr (.inl rfl))) h.box,zms h.ent fun b hb=>hp.kept b (h.ent.lt b hb).2 (.inr (.inr (.inr hb))),h.el,h.en,h.n,hf⟩,⟨hp.size,fun b hb hk=>hp.kept b hb (hk.imp id .inl)⟩⟩
end
theorem FB.fr{j:Nat}{S S':ST}(h:FB j S)(hf:FrK S S'):FB (j+1) S':=by
 obtain⟨h1,h2,_⟩:=hf;unfold FB;rw[h1,h2];exact h.mono (Nat.le_succ _)
theorem FB.cur{j:Nat}{S:ST}(h:FB j S):S.cur.vs.length<=1000+j:=by
 rcases Nat.eq_zero_or_pos S.calls.length with h0|h0
 ·rw[znc h0];have:=h.1;omega
 ·rw[znb h0];exact h.2 _ (List.getElem_mem _)
theorem FB.setCur{j:Nat}{S:ST}(h:FB j S)(f:FR)(hf:f.vs.length<=S.cur.vs.length+1):FB (j+1) (S.setCur f):=by
 unfold ST.setCur;by_cases h0:S.calls.length=0
 ·rw[if_pos h0];rw[znc h0]at hf;exact⟨by have:=h.1;show f.vs.length<=_;omega,(h.mono (Nat.le_succ _)).2⟩
 ·rw[if_neg h0];refine⟨(h.mono (Nat.le_succ _)).1,fun g hg=>?_⟩;rw[znb (by omega)]at hf;rcases List.mem_or_eq_of_mem_set hg with hg|rfl
  ·exact(h.mono (Nat.le_succ _)).2 g hg
  ·have:=h.2 _ (List.getElem_mem (l:=S.calls) (n:=S.calls.length-1) (by omega));omega
theorem FB.open_{j:Nat}{S:ST}(h:FB j S)(v:VD)(x:Int):FB (j+1) (zlW S v x).2:=by
 unfold zlW
 repeat' split
 all_goals first|exact h.mono (Nat.le_succ _)|exact FB.setCur (S:=S.newCell _) h _ (by rw[zmR];simp[FR.push])
theorem FB.close_{j:Nat}{S:ST}(h:FB j S)(s:ByteArray)(x:Int):FB (j+1) (zk9 S s x).2:=by
 unfold zk9
 repeat' split
 all_goals first|exact h.mono (Nat.le_succ _)|skip
 all_goals exact h.setCur _ (by simp[FR.pop];omega)
theorem FB.enter{j:Nat}{S:ST}(h:FB j S)(ps:List VD)(ss:List ByteArray)(hp:ps.length<=1000):FB (j+1) (zlR S ps ss).2:=by
 unfold zlR
 split
 ·exact h.mono (Nat.le_succ _)
 ·rcases he:entL S.cur ⟨[],[],0⟩ (ps.zip ss)with e|f
  ·exact h.mono (Nat.le_succ _)
  ·unfold entR;dsimp only
   split
   ·exact h.mono (Nat.le_succ _)
   ·refine⟨(h.mono (Nat.le_succ _)).1,fun g hg=>?_⟩;rcases List.mem_append.1 hg with hg|hg
    ·exact(h.mono (Nat.le_succ _)).2 g hg
    ·simp at hg;subst hg;have:=zsr _ _ _ he;simp at this;omega
theorem FB.leave{j:Nat}{S:ST}(h:FB j S):FB (j+1) (zl3 S).2:=by
 unfold zl3
 split
 ·exact h.mono (Nat.le_succ _)
 ·exact⟨(h.mono (Nat.le_succ _)).1,fun g hg=>(h.mono (Nat.le_succ _)).2 g (List.mem_of_mem_take hg)⟩
theorem FB.do_{j:Nat}{S:ST}(h:FB j S)(t:T):FB (j+1) (doE S t).2:=h.fr (zxY _ _)
theorem FB.undo{j:Nat}{S:ST}(h:FB j S)(t:T):FB (j+1) (zn9 S t).2:=h.fr (zv0 _ _)
theorem zk4{P:Program}{ops:Array Oper}{o:Oper}{a:Act}{w:World}{K:Act->World->Prop}{Q:Exit->Act->World->Prop}{F:Prop}(hw:Region.wanted o (yielded ops a.tmps)=true)(x:Operand)(xs:List Operand)(ats:Array TypeId)
  (ho:o.op=.call { callee:=.value x,args:=xs.toArray,argTypes:=ats })(f:FuncId)(fn:Func)(hf:IsFn P f fn)(hv:a.eval x=.func (.func f) #[] #[])(l:List Value)(hargs:xs.map a.eval=l)(R:Value->World->Prop)
  (hc:Calls P f l.toArray w fun e w'=>(∃v,e=.returned v/\R v w')\/∃ch,e=.panicked ch/\Q (.panic ch) a w')(h:∀v w',R v w'->K (a.put o.dst v) w') :
  if Region.wanted o (yielded ops a.tmps)=true then Oper.wp P o a w K Q else F:=by
 rw[if_pos hw];subst hargs;have e:(execOp a.eval o).run P w=.ok (.enter f (xs.map a.eval).toArray) w:=by
  unfold execOp;simp only[ho,resolve,hv,Deferred.ofValue,Sem.run_bind,Sem.run_pure,Result.andThen_ok,invoke,zkN hf,Array.empty_append,List.map_toArray,Array.append_empty]
 unfold Oper.wp;rw[e,Oper.upon_enter];refine hc.mono ?_;rintro e w' (⟨v,rfl,hR⟩|⟨ch,rfl,hq⟩)
 ·exact h v w' hR
 ·exact hq
theorem zuz:IsFn prog 200 f200:=⟨func200,by kernel_rfl,by kernel_rfl⟩
theorem zmf:IsFn prog 180 f180:=⟨func180,by kernel_rfl,by kernel_rfl⟩
theorem zuE:IsFn prog 181 f181:=⟨func181,by kernel_rfl,by kernel_rfl⟩
theorem zsn:IsFn prog 182 f182:=⟨func182,by kernel_rfl,by kernel_rfl⟩
def loR(prs:List PR)(F:Int)(g:Nat)(back:Bool)(t t2:T)(r:RS):Out :=
 (zld (zkB prs F g back) (blkL back (kid t 1)) r).bind fun r=>(zkE F r).bind fun r=>valO t2 r fun x r=>zkl r (zk9 r.S t.s x)
def loO(prs:List PR)(F:Int)(g:Nat)(back:Bool)(t:T)(r:RS):Out :=
 (zkE F r).bind fun r=>valO (fstT back t) r fun x r=>(zkl r (zlW r.S ⟨t.s,1,0⟩ x)).bind (loR prs F g back t (lstT back t))
theorem zui{G:List PR->T->Prop}{g:Nat}(hS:IStC G g){C:RC}(hC:C.Ok){W:World}{r:RS}(h:RI C W r)(t:T)(v:Value)(back:Bool)(hv:NV C.w Any t v)(hk:t.ks.length=3)(hG1:∀u∈(kid t 1).ks,G C.p.prs u)
  (aI:loO C.p.prs C.F g back t r ≠ .gas) :
  Calls prog 178 #[.pointer (some ⟨C.rb,0,none⟩),v,.bool back] W (RunP C W (loO C.p.prs C.F g back t r)):=by
 obtain⟨A,c,rfl,-,hlk,hlc,hrow⟩:=hv.open_;have af:=zh hrow;have HS:=zh hS;have HV:=zh hv;have hb0:=zkb (zs W) (.cells #[.int .u8 t.k,.int .i64 t.n,.string t.s,.slice A t.ks.length c] 41);obtain⟨x0,x1,x2,x3⟩:=box4 (heap_alloc_new W (.cells #[.int .u8 t.k,.int .i64 t.n,.string t.s,.slice A t.ks.length c] 41));have HB0:=zh hb0;have H:=zh h;have HC:=zh hC;have HX:=zh (heap_alloc_new W (.cells #[.int .u8 t.k,.int .i64 t.n,.string t.s,.slice A t.ks.length c] 41));have nW:=zh (fun w' (hb:Below W.heap.size W w')=>zpU t _ back C.w w' (zka h.below hb) hv (by omega));have nS:=zh hk;clear hrow hS hb0 h hv hk hC hlk;go_enter func178,ntmps178;go_wp2_with fail;refine(nW.out _ HB0.out).mono ?_;rintro e w2 ⟨v1,v2,rfl,n1,n2,b2⟩;obtain⟨t1,ht1⟩:=zX (fstT back t);obtain⟨t2,ht2⟩:=zX (lstT back t);have HT1:=zh ht1;have HT2:=zh ht2;rw[ht1]at n1;rw[ht2]at n2;obtain⟨A1,c1,rfl,-⟩:=n1.open_
 obtain⟨A2,c2,rfl,-⟩:=n2.open_;have nO:=zh n1;have aK:=zh n2;have b3:=zkb (zkb (zka HB0.out b2) (.cells #[.int .u8 t1.k,.int .i64 t1.n,.string t1.s,.slice A1 t1.ks.length c1] 41)) (.cells #[.int .u8 t2.k,.int .i64 t2.n,.string t2.s,.slice A2 t2.ks.length c2] 41);have k0:=zke (zke (zkc HX.out b2) (.cells #[.int .u8 t1.k,.int .i64 t1.n,.string t1.s,.slice A1 t1.ks.length c1] 41)) (.cells #[.int .u8 t2.k,.int .i64 t2.n,.string t2.s,.slice A2 t2.ks.length c2] 41);have k1:=zke (heap_alloc_new w2 (.cells #[.int .u8 t1.k,.int .i64 t1.n,.string t1.s,.slice A1 t1.ks.length c1] 41)) (.cells #[.int .u8 t2.k,.int .i64 t2.n,.string t2.s,.slice A2 t2.ks.length c2] 41);have k2:=heap_alloc_new (w2.alloc (.cells #[.int .u8 t1.k,.int .i64 t1.n,.string t1.s,.slice A1 t1.ks.length c1] 41)) (.cells #[.int .u8 t2.k,.int .i64 t2.n,.string t2.s,.slice A2 t2.ks.length c2] 41)
 simp only[World.size_alloc]at k2;obtain⟨w3,hw3⟩:=zX ((w2.alloc (.cells #[.int .u8 t1.k,.int .i64 t1.n,.string t1.s,.slice A1 t1.ks.length c1] 41)).alloc (.cells #[.int .u8 t2.k,.int .i64 t2.n,.string t2.s,.slice A2 t2.ks.length c2] 41));rw[hw3]at b3 k0 k1 k2;have hz2:=zka HB0.out b2;have hzz:=hz2.size;obtain⟨fJ,h3⟩:=H.out.plus HC.out b3;have bY:=zh (Kpt.of_below (n0:=C.n0) (kb:=C.kb) b3);have l0:=zko k0;have l1:=zko k1;have l2:=zko k2;obtain⟨hi,hhi⟩:=zX (w3.heap.size);rw[hhi]at fJ h3 l0 l1 l2;have fF:=zh fJ;have H3:=zh h3;have K0:=zh k0;have K1:=zh k1;have K2:=zh k2;have iZ:=zh (zlY fJ h3)
 obtain⟨p1,⟨y0,y1,y2,y3⟩⟩:True/\(w3.cell? ⟨w2.heap.size,0,none⟩=some (.int .u8 t1.k)/\w3.cell? ⟨w2.heap.size,1,none⟩=some (.int .i64 t1.n)/\w3.cell? ⟨w2.heap.size,2,none⟩=some (.string t1.s)/\w3.cell? ⟨w2.heap.size,3,none⟩=some (.slice A1 t1.ks.length c1)):=⟨trivial,zc k1 rfl,zc k1 rfl,zc k1 rfl,zc k1 rfl⟩
 clear n1 n2 b2 b3 k0 k1 k2 hz2 fJ h3 x0 x1 x2 x3 HX HB0 nW p1 ht1 ht2;go_upto_region 2 with fail;clear hw3;obtain⟨o,ho⟩:=zX (loO C.p.prs C.F g back t r);have HO:=zh (show(zkE C.F r).bind (fun r=>valO t1 r fun x r=>(zkl r (zlW r.S ⟨t.s,1,0⟩ x)).bind (loR C.p.prs C.F g back t t2))=o by rw[<-ho];unfold loO loR;rw[HT1.out,HT2.out]);rw[ho]at aI ⊢;have dG:=zh aI;have bV:=zh ho;clear aI ho;go_wp2_with fail;refine iZ.out.mono ?_;rintro e w4 ⟨hk4,hb4,fI⟩;have dR:=zh (bY.out.trans (Kpt.less (C:=C) hk4));have aF:=zh (show Below C.w.heap.size C.w w4 from hb4);have bD:match zkE C.F r with
  | .gas=>True
  | .err x=>e=zlF x
  | .ok r=>(∃u,e=.returned u)/\RI (C.plus W.heap.size hi) w4 r:=fI
 have dY:=zh hk4;clear y0 y1 y2 y3 iZ hk4 hb4 fI
 cases hy:zkE C.F r with
 | gas=>exact absurd (by rw[<-HO.out,hy];rfl) dG.out
 | err x =>
  rw[hy]at bD;subst bD;refine⟨rfl,dR.out,aF.out,?_⟩;rw[<-HO.out,hy];rfl
 | ok r1 =>
  rw[hy]at bD;obtain⟨⟨u3,rfl⟩,hr1⟩:=bD;have HR4:=zh hr1;have jk:=zh (show(valO t1 r1 fun x r=>(zkl r (zlW r.S ⟨t.s,1,0⟩ x)).bind (loR C.p.prs C.F g back t t2))=o by rw[<-HO.out,hy];rfl);have bS:=zh (show FB r.n r1.S/\r1.n=r.n+1 by obtain⟨rfl,-⟩:=zlA hy;exact⟨H.out.fb,rfl⟩);have j0:=dY.out.blk (.inr (.inr ⟨by omega,l0⟩)) K0.out;have j1:=dY.out.blk (.inr (.inr ⟨by omega,l1⟩)) K1.out;have gV:=zh (fun w' (hb:Below w4.heap.size w4 w')=>zqc (hr1.later hb) t1 _ nO.out);have az:=zh (show ∀w',Below w4.heap.size w4 w'->(fun w':World=>zv w' C.rb 6 (.pointer (some ⟨C.sb,0,none⟩))/\zv w' W.heap.size 2 (.string t.s)/\zN4 w' w2.heap.size (.int .u8 t1.k) (.int .i64 t1.n) (.string t1.s) (.slice A1 t1.ks.length c1)) w' from fun w' hb=>⟨zb hb hr1.cells.1,zb hb (zc j0 rfl),zb hb (zc j1 rfl),zb hb (zc j1 rfl),zb hb (zc j1 rfl),zb hb (zc j1 rfl)⟩);have iC:=zh (az.out _ zr.drew)
  clear hr1 hy j0 j1;go_upto_region 3 with fail;have hSS:zW (fun w':World=>zv w' C.rb 6 (.pointer (some ⟨C.sb,0,none⟩))/\zv w' W.heap.size 2 (.string t.s)/\zN4 w' w2.heap.size (.int .u8 t1.k) (.int .i64 t1.n) (.string t1.s) (.slice A1 t1.ks.length c1)) zU w4.drew:=⟨iC.out,trivial⟩
  refine zG hSS 12 ?_;refine zT 0 hSS ?_;refine zT 1 hSS ?_;refine zT 2 hSS ?_;refine zT 3 hSS ?_;refine zT 4 hSS ?_;refine zT 5 hSS ?_;refine zT 6 hSS ?_;refine zT 7 hSS ?_;refine zT 8 hSS ?_;refine zT 9 hSS ?_;have had:Calls prog 200 [.pointer (some ⟨C.rb,0,none⟩),nv t1.k t1.n t1.s A1 t1.ks.length c1].toArray w4.drew (ValP (C.plus W.heap.size hi) w4.drew t1 r1):=gV.out _ zr.drew;refine zo 10 fun K hK=>?_;refine zk4 (by rfl) (.func 200) [.tmp 24,.tmp 25] _ (by rfl) 200 _ zuz (by rfl) _ (by rfl) (fun v w'=>Below w4.heap.size w4 w'/\∃x,v=.int .i64 x/\I64 x/\∀f,valO t1 r1 f=f x r1) (had.mono ?_) ?_
  ·rintro e y1 ⟨eB,hv1⟩;have b1:=zka (zs w4).drew eB;rcases hv1 with⟨x,rfl,hx⟩|⟨x,rfl,oZ,hx⟩
   ·refine .inr ⟨_,rfl,?_⟩;refine⟨rfl,dR.out.trans (Kpt.of_below b1),zka aF.out b1,?_⟩
    try rw[bV.out]
    rw[<-jk.out,hx]
   ·exact .inl ⟨_,rfl,b1,x,rfl,oZ,hx⟩
  rintro v5 w5 ⟨b5,x,rfl,hx,wL⟩;have aQ:=zh b5;have oH:=zh hx;have iT:=zh (show(zkl r1 (zlW r1.S ⟨t.s,1,0⟩ x)).bind (loR C.p.prs C.F g back t t2)=o by rw[<-jk.out,wL]);refine hK.out _ _ ⟨az.out _ b5,trivial⟩ ?_;clear hK K had b5 hx wL hSS gV;(try simp only[zQ]);obtain⟨R,hR⟩:=zX (zlW r1.S ⟨t.s,1,0⟩ x);have HRR:=zh hR;have kP:=bS.out.1.cur;have vz:=H.out.n;have had:Calls prog 181 [.pointer (some ⟨C.sb,0,none⟩),.agg #[.string t.s,.int .u8 1,.int .i64 0],.int .i64 x].toArray w5 fun e w'=>∃v,e=.returned v/\(v=.int .i64 R.1/\RI (C.plus W.heap.size hi) w' { r1 with S:=R.2 }/\Kpt C.n0 (C.plus W.heap.size hi).kb w5 w') :=
   ((HR4.out.later aQ.out).ks.open_ ⟨t.s,1,0⟩ (by obtain⟨_,_,_,hf,-⟩:=HV.out.open_;exact⟨hf.2.2,⟨by simp only;omega,by simp only;omega⟩,⟨by simp only;omega,by simp only;omega⟩⟩) x oH.out (by omega)).mono fun e w' ⟨h1,h2,h3⟩=>⟨_,h1,by rw[hR],(RI.store (C:=C.plus W.heap.size hi) (HR4.out.later aQ.out) (hR▸h2) h3 (by rw[bS.out.2,<-hR];exact bS.out.1.open_ _ _))⟩
  refine zo 11 fun K hK=>?_;refine zlt (by rfl) (.func 181) [.tmp 20,.tmp 23,.tmp 26] _ (by rfl) 181 _ zuE (by rfl) _ (by rfl) _ had ?_;rintro v6 w6 ⟨rfl,dU,bE⟩;have fP:=zh (dY.out.trans ((Kpt.of_below aQ.out).trans bE));have j0:=fP.out.blk (.inr (.inr ⟨by omega,l0⟩)) K0.out;have j1:=fP.out.blk (.inr (.inr ⟨by omega,l1⟩)) K1.out;have gX:=zh dU;have aA:(fun w':World=>zv w' C.rb 6 (.pointer (some ⟨C.sb,0,none⟩))/\zv w' W.heap.size 2 (.string t.s)/\zN4 w' w2.heap.size (.int .u8 t1.k) (.int .i64 t1.n) (.string t1.s) (.slice A1 t1.ks.length c1)) w6:=⟨dU.cells.1,zc j0 rfl,zc j1 rfl,zc j1 rfl,zc j1 rfl,zc j1 rfl⟩
  refine hK.out _ _ ⟨aA,trivial⟩ ?_;have nG:=zh aA;have aW:=zh dU.below;clear hK K had dU bE j0 j1 aA iC az;(try simp only[zQ]);have dX:=zh (bY.out.trans (Kpt.less (C:=C) fP.out));rw[hR]at iT;have had:=zlc ⟨C.rb,0,none⟩ R.1 w6;refine zp 12 fun K hK=>?_;refine zk4 (by rfl) (.func 180) [.tmp 16,.tmp 27] _ (by rfl) 180 _ zmf (by rfl) _ (by rfl) (fun v w'=>w'=w6/\R.1=0) (had.mono ?_) ?_
  ·rintro e y1 ⟨rfl,hv1⟩;rcases hv1 with⟨h0,u0,rfl⟩|⟨h0,rfl⟩
   ·exact .inl ⟨_,rfl,rfl,h0⟩
   ·refine .inr ⟨_,rfl,?_⟩;refine⟨rfl,dX.out,aW.out,?_⟩
    try rw[bV.out]
    rw[<-iT.out,show zkl r1 R=.err R.1 by unfold zkl;rw[if_pos h0]];rfl
  rintro v7 w7 ⟨rfl,h0⟩;have qA:=zh (show loR C.p.prs C.F g back t t2 { r1 with S:=R.2 }=o by rw[<-iT.out,show zkl r1 R=.ok { r1 with S:=R.2 } by unfold zkl;rw[if_neg (by simpa using h0)]];rfl);refine hK.out _ _ nG.out ?_;clear hK K had h0;(try simp only[zQ]);refine zd ?_;obtain⟨r2,hr2⟩:=zX (({ r1 with S:=R.2 }:RS));rw[hr2]at gX qA;have hI:1<t.ks.length:=by have:=nS.out;omega
  have hI1:(1:Int)<(t.ks.length:Int):=by omega
  obtain⟨a,u,Au,cu,rfl,-,hu,⟨p0,p1,p2,p3⟩,hnu⟩:=af.out.nd hI;have gQ:kid t 1=u:=by unfold kid;rw[List.getD_eq_getElem?_getD,List.getElem?_eq_getElem hI];exact hu.out
  have uV:=zh (show ∀x∈u.ks,G C.p.prs x by rw[<-gQ];exact hG1);have lh:=zh (show(runO C.p.prs C.F g back u r2).bind (fun r=>(zkE C.F r).bind fun r=>valO t2 r fun x r=>zkl r (zk9 r.S t.s x))=o by rw[<-qA.out,<-gQ];rfl);have hgu:runO C.p.prs C.F g back u r2 ≠ .gas:=fun e=>dG.out (by rw[<-lh.out,e];rfl);have aD:=zh (zlf HS.out fF.out gX.out u _ back hnu uV.out hgu);have ha:a.add (1*4)=⟨a.block,a.off+4,none⟩:=by unfold Addr.add;split<;>simp_all
  rw[ha]at p0 p1 p2 p3;have q0:=zb aW.out p0;have q1:=zb aW.out p1;have q2:=zb aW.out p2;have q3:=zb aW.out p3;have j0:=fP.out.blk (.inr (.inr ⟨by omega,l0⟩)) K0.out;have q4:=zc (i:=3) j0 rfl;clear gQ hnu hu p0 p1 p2 p3 hgu ha j0 kP vz;go_wp2_with fail;refine aD.out.mono ?_;rintro e w8 ⟨j3,bu,qV⟩;have nT:=zh (fP.out.trans j3);have qE:=zh (bY.out.trans (Kpt.less (C:=C) nT.out));have dZ:=zh (show Below C.w.heap.size C.w w8 from bu);have dh:match runO C.p.prs C.F g back u r2 with
   | .gas=>True
   | .err x=>e=zlF x
   | .ok r=>(∃u,e=.returned u)/\RI (C.plus W.heap.size hi) w8 r:=qV
  clear q0 q1 q2 q3 q4 j3 bu qV aD
  cases hx:runO C.p.prs C.F g back u r2 with
  | gas=>exact absurd (by rw[<-lh.out,hx];rfl) dG.out
  | err x =>
   rw[hx]at dh;subst dh;refine⟨rfl,qE.out,dZ.out,?_⟩
   try rw[bV.out]
   rw[<-lh.out,hx];rfl
  | ok r3 =>
   rw[hx]at dh;obtain⟨⟨u9,rfl⟩,hr3⟩:=dh;have HST:=zh (zlY fF.out hr3);have ky:=zh (show((zkE C.F r3).bind fun r=>valO t2 r fun x r=>zkl r (zk9 r.S t.s x))=o by rw[<-lh.out,hx];rfl);have iB:=zh hr3;clear hx hr3;go_wp2_with fail;refine HST.out.mono ?_;rintro e w9 ⟨aL,aS,dV⟩;have iY:=zh (nT.out.trans aL);have gy:=zh (bY.out.trans (Kpt.less (C:=C) iY.out));have aH:=zh (show Below C.w.heap.size C.w w9 from aS);have gM:match zkE C.F r3 with
    | .gas=>True
    | .err x=>e=zlF x
    | .ok r=>(∃u,e=.returned u)/\RI (C.plus W.heap.size hi) w9 r:=dV
   clear aL aS dV HST
   cases hy:zkE C.F r3 with
   | gas=>exact absurd (by rw[<-ky.out,hy];rfl) dG.out
   | err x =>
    rw[hy]at gM;subst gM;refine⟨rfl,gy.out,aH.out,?_⟩
    try rw[bV.out]
    rw[<-ky.out,hy];rfl
   | ok r4 =>
    rw[hy]at gM;obtain⟨⟨u9,rfl⟩,hr4⟩:=gM;have bL:=zh hr4;have gu:=zh (show(valO t2 r4 fun x r=>zkl r (zk9 r.S t.s x))=o by rw[<-ky.out,hy];rfl);have ja:=zh (show FB r3.n r4.S/\r4.n=r3.n+1 by obtain⟨rfl,-⟩:=zlA hy;exact⟨iB.out.fb,rfl⟩);have j0:=iY.out.blk (.inr (.inr ⟨by omega,l0⟩)) K0.out;have j2:=iY.out.blk (.inr (.inr ⟨by omega,l2⟩)) K2.out;have gV:=zh (fun w' (hb:Below w9.heap.size w9 w')=>zqc (hr4.later hb) t2 _ aK.out);have az:=zh (show ∀w',Below w9.heap.size w9 w'->(fun w':World=>zv w' C.rb 6 (.pointer (some ⟨C.sb,0,none⟩))/\zv w' W.heap.size 2 (.string t.s)/\zN4 w' (w2.heap.size+1) (.int .u8 t2.k) (.int .i64 t2.n) (.string t2.s) (.slice A2 t2.ks.length c2)) w' from fun w' hb=>⟨zb hb hr4.cells.1,zb hb (zc j0 rfl),zb hb (zc j2 rfl),zb hb (zc j2 rfl),zb hb (zc j2 rfl),zb hb (zc j2 rfl)⟩);clear hr4 hy j0 j2;go_upto_region 6 with fail
    have hSS:zW (fun w':World=>zv w' C.rb 6 (.pointer (some ⟨C.sb,0,none⟩))/\zv w' W.heap.size 2 (.string t.s)/\zN4 w' (w2.heap.size+1) (.int .u8 t2.k) (.int .i64 t2.n) (.string t2.s) (.slice A2 t2.ks.length c2)) zU w9.drew:=⟨az.out _ zr.drew,trivial⟩
    refine zG hSS 11 ?_;refine zT 0 hSS ?_;refine zT 1 hSS ?_;refine zT 2 hSS ?_;refine zT 3 hSS ?_;refine zT 4 hSS ?_;refine zT 5 hSS ?_;refine zT 6 hSS ?_;refine zT 7 hSS ?_;refine zT 8 hSS ?_;have had:Calls prog 200 [.pointer (some ⟨C.rb,0,none⟩),nv t2.k t2.n t2.s A2 t2.ks.length c2].toArray w9.drew (ValP (C.plus W.heap.size hi) w9.drew t2 r4):=gV.out _ zr.drew;refine zo 9 fun K hK=>?_;refine zk4 (by rfl) (.func 200) [.tmp 45,.tmp 46] _ (by rfl) 200 _ zuz (by rfl) _ (by rfl) (fun v w'=>Below w9.heap.size w9 w'/\∃x,v=.int .i64 x/\I64 x/\∀f,valO t2 r4 f=f x r4) (had.mono ?_) ?_
    ·rintro e y1 ⟨eB,hv1⟩;have b1:=zka (zs w9).drew eB;rcases hv1 with⟨x,rfl,hx⟩|⟨x,rfl,oZ,hx⟩
     ·refine .inr ⟨_,rfl,?_⟩;refine⟨rfl,gy.out.trans (Kpt.of_below b1),zka aH.out b1,?_⟩
      try rw[bV.out]
      rw[<-gu.out,hx]
     ·exact .inl ⟨_,rfl,b1,x,rfl,oZ,hx⟩
    rintro v10 aV ⟨b10,z,rfl,hx,wL⟩;have dO:=zh b10;obtain⟨Rc,lQ⟩:=zX (zk9 r4.S t.s z);have iU:=zh (show zkl r4 Rc=o by rw[<-gu.out,wL,lQ]);refine hK.out _ _ ⟨az.out _ b10,trivial⟩ ?_;clear hK K had b10 hx wL hSS gV;(try simp only[zQ]);have had:Calls prog 182 [.pointer (some ⟨C.sb,0,none⟩),.string t.s,.int .i64 z].toArray aV fun e w'=>∃v,e=.returned v/\(v=.int .i64 Rc.1/\RI (C.plus W.heap.size hi) w' { r4 with S:=Rc.2 }/\Kpt C.n0 (C.plus W.heap.size hi).kb aV w') :=
     ((bL.out.later dO.out).ks.close t.s z).mono fun e w' ⟨h1,h2,h3⟩=>⟨_,h1,by rw[lQ],(RI.store (C:=C.plus W.heap.size hi) (bL.out.later dO.out) (lQ▸h2) h3 (by rw[ja.out.2,<-lQ];exact ja.out.1.close_ _ _))⟩
    refine zo 10 fun K hK=>?_;refine zlt (by rfl) (.func 182) [.tmp 42,.tmp 44,.tmp 47] _ (by rfl) 182 _ zsn (by rfl) _ (by rfl) _ had ?_;rintro v11 aR ⟨rfl,gL,iK⟩;have gz:=zh (iY.out.trans ((Kpt.of_below dO.out).trans iK));have j0:=gz.out.blk (.inr (.inr ⟨by omega,l0⟩)) K0.out;have j2:=gz.out.blk (.inr (.inr ⟨by omega,l2⟩)) K2.out;have kY:=zh gL;have aA:(fun w':World=>zv w' C.rb 6 (.pointer (some ⟨C.sb,0,none⟩))/\zv w' W.heap.size 2 (.string t.s)/\zN4 w' (w2.heap.size+1) (.int .u8 t2.k) (.int .i64 t2.n) (.string t2.s) (.slice A2 t2.ks.length c2)) aR:=⟨gL.cells.1,zc j0 rfl,zc j2 rfl,zc j2 rfl,zc j2 rfl,zc j2 rfl⟩
    refine hK.out _ _ ⟨aA,trivial⟩ ?_;have nG:=zh aA;have bQ:=zh gL.below;clear hK K had gL iK j0 j2 aA az;(try simp only[zQ]);have dM:=zh (bY.out.trans (Kpt.less (C:=C) gz.out));have had:=zlc ⟨C.rb,0,none⟩ Rc.1 aR;refine zp 11 fun K hK=>?_;refine zk4 (by rfl) (.func 180) [.tmp 38,.tmp 48] _ (by rfl) 180 _ zmf (by rfl) _ (by rfl) (fun v w'=>w'=aR/\Rc.1=0) (had.mono ?_) ?_
    ·rintro e y1 ⟨rfl,hv1⟩;rcases hv1 with⟨h0,u0,rfl⟩|⟨h0,rfl⟩
     ·exact .inl ⟨_,rfl,rfl,h0⟩
     ·refine .inr ⟨_,rfl,?_⟩;refine⟨rfl,dM.out,bQ.out,?_⟩
      try rw[bV.out]
      rw[<-iU.out,show zkl r4 Rc=.err Rc.1 by unfold zkl;rw[if_pos h0]]
    rintro v12 jc ⟨rfl,h0⟩;have gZ:=zh (show o=.ok { r4 with S:=Rc.2 } by rw[<-iU.out];unfold zkl;rw[if_neg (by simpa using h0)]);refine hK.out _ _ nG.out ?_;clear hK K had h0;(try simp only[zQ]);refine zd ?_;have nH:=zh kY.out.less;go_wp2_with fail;go_end0;refine⟨dM.out,bQ.out,?_⟩
    try rw[bV.out]
    rw[gZ.out];exact⟨⟨_,rfl⟩,nH.out⟩
end
end Go.Proofs.YtembgnhbpmfhpaaGreat
