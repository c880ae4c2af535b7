/-
  Texts of the proof, put together without their remarks: Lift, LiftV, LiftS, LiftW, LiftB.
-/
import Derived.Test.YtghbhbdnkjjnnaaGreatN12
import Derived.Test.YtghbhbdnkjjnnaaGreatRows
import Derived.ProofKit
import Derived.SizedLaws
import Derived.Deep.Slices
import Derived.Deep.Fields
import Derived.Lib.SmallJoins
import Derived.ChangeSlices
set_option linter.unusedSimpArgs false
set_option linter.unusedVariables false
set_option maxHeartbeats 8000000
set_option maxRecDepth 100000
namespace Go.Proofs.YtghbhbdnkjjnnaaGreat
open Go.RowKit Go.ChangeShapes Go.WideShapes Go.ChangeAt Go.Deep
theorem zpz:Tryz.prog.cellsOf 24=4:=by kernel_rfl
theorem zsN:Tryz.prog.bytesOf 24=56:=by kernel_rfl
theorem zv8:Tryz.prog.cellsOf 5=1:=by kernel_rfl
theorem zuy:Tryz.prog.cellsOf 3=1:=by kernel_rfl
theorem zux:Tryz.prog.cellsOf 9=1:=by kernel_rfl
theorem zsM:Tryz.prog.cellsOf 22=1:=by kernel_rfl
theorem zlU {H:Type} {P:Program} {e:TypeId}:∀ {l:List (DataW H)} {d:DataW H},d∈l->∀ n∈d.weights P e,n∈DataW.weightsAll P e l
 | d0::l,d,hd,n,hn=>by
  simp only[DataW.weightsAll,List.mem_append];rcases List.mem_cons.1 hd with rfl|hd
  ·exact .inl hn
  ·exact .inr (zlU hd n hn)
theorem zmN {H:Type}:∀ (ks:List T) (ds:List (DataW H)),ks.length=ds.length->(∀ i (h:i<ks.length) (h':i<ds.length),size ks[i]<=Rows.uptoBulk ds[i])->zkX ks<=Rows.uptoBulkAll ds
 | [],[],_,_=>by simp[zkX]
 | t::ts,d::ds,hl,h=>by
  have h0:=h 0 (Nat.zero_lt_succ _) (Nat.zero_lt_succ _);have h1:=zmN ts ds (by simpa using hl) (fun i hi hi'=>h (i+1) (Nat.succ_lt_succ hi) (Nat.succ_lt_succ hi'));simp only[List.getElem_cons_zero] at h0;simp only[zkX,Rows.uptoBulkAll];omega
 | [],_::_,hl,_=>by simp at hl
 | _::_,[],hl,_=>by simp at hl
section
variable {H:Type} {enc:TypeId×Value->H} {w:World} {held:Bool}
def zeroT':T:=.nd 0 0 ⟨#[]⟩ []
theorem zr0:∀ (fuel:Nat) (cs:List Value) (x:DataW H×List MemPlace),DataW.trod enc Tryz.prog w 0 (fun _=>true) held fuel 24 cs=some x ->
  (∀ n∈x.1.weights Tryz.prog 24,n<=reachBytes) ->
  ∃ t u0 u1 u2 u3,cs=[u0,u1,u2,u3]/\NV w Any t (.agg #[u0,u1,u2,u3])/\t.ks.length*56<=reachBytes/\size t<=Rows.uptoBulk x.1:=by
 intro fuel
 induction fuel using Nat.strongRecOn with
 | _ fuel ih =>
 intro cs x h hw;have hts:=DataW.trod_struct Tryz.underlying24 h;obtain⟨xs,n,hfu,hx,hcl,hxl,hg⟩:=hts;subst hx;rw[zpz] at hcl
 match cs,hcl with
 | [c0,c1,c2,c3],_ =>
 match xs,hxl with
 | [y0,y1,y2,y3],_ =>
 have g0:=hg 0 _ rfl;have g1:=hg 1 _ rfl;have g2:=hg 2 _ rfl;have g3:=hg 3 _ rfl;simp only[zv8,zuy,zux,zsM,List.drop_zero,List.take_succ_cons,List.take_zero,List.drop_succ_cons,List.getElem?_cons_zero,List.getElem?_cons_succ] at g0 g1 g2 g3;obtain⟨k,e0,e0',wk⟩:=DataW.trod_int Tryz.underlying5 g0;obtain⟨m,e1,e1',wm⟩:=DataW.trod_int Tryz.underlying3 g1;obtain⟨s,e2,e2',ws⟩:=DataW.trod_string Tryz.underlying9 g2;injection e0 with e0;injection e1 with e1;injection e2 with e2;subst e0 e1 e2 e0' e1' e2';have hf:Fld k m s:=by
  refine⟨?_,?_,ws⟩
  ·have:=wk;simp[Lit.wf,IntKind.min,IntKind.max,IntKind.signed,IntKind.bits] at this;omega
  ·have:=wm;simp[Lit.wf,IntKind.min,IntKind.max,IntKind.signed,IntKind.bits] at this;omega
 have hsl:=DataW.trod_slice Tryz.underlying22 g3;rcases hsl with⟨e3,e3'⟩|⟨a,len,cap,elems,rest,n',hn',e3,e3',_,hl,hm,hel,hat,hsp,_⟩
 ·injection e3 with e3;subst e3 e3';refine⟨.nd k m s [],_,_,_,_,rfl,NV.shut (ks:=[]) hf (Nat.zero_le _) (Nat.zero_le _) zl1.nil,by simp,?_⟩;simp only[size,zkX,List.map_cons,List.map_nil,Rows.uptoBulk];omega
 ·injection e3 with e3;subst e3 e3';obtain⟨hrl,_⟩:=hsp rfl;rw[zpz] at hat
  -- what the reach says of this slice,and of its elements
  have hws:∀ q∈DataW.weights Tryz.prog 22 (.slice (elems.map (·.1)) (rest.map (·.1)):DataW H),q<=reachBytes:=by
   intro q hq;refine hw q ?_;simp only[List.map_cons,List.map_nil,DataW.weights,Tryz.underlying24];simp only[DataW.weightsEach,List.map_cons,List.map_nil,List.mem_append];exact .inr (.inr (.inr (.inl hq)))
  simp only[DataW.weights,Tryz.underlying22,zsN] at hws;have hcap:cap*56<=reachBytes:=by
   have:=hws _ (List.mem_cons_self ..);simp only[List.length_map] at this;rw[hel,hrl] at this;rw[show cap=len+(cap-len) by omega];exact this
  have vN:∀ y∈elems,∀ q∈y.1.weights Tryz.prog 24,q<=reachBytes:=fun y hy q hq =>
   hws q (List.mem_cons_of_mem _ (List.mem_append_left _ (zlU (List.mem_map_of_mem hy) q hq)))
  have key:∀ i (hi:i<elems.length),∃ t u0 u1 u2 u3,w.cells? 0 (a.add (i*4)) 4=some [u0,u1,u2,u3]/\NV w Any t (.agg #[u0,u1,u2,u3])/\size t<=Rows.uptoBulk elems[i].1:=by
   intro i hi;have h1:=hat i (by omega);rw[List.getElem?_eq_getElem hi] at h1;obtain⟨cs',hcs,ht⟩:=Option.bind_eq_some_iff.1 h1;obtain⟨t,u0,u1,u2,u3,rfl,hn,_,hb⟩:=ih n' (by omega) cs' elems[i] ht (vN _ (List.getElem_mem hi));exact⟨t,u0,u1,u2,u3,hcs,hn,hb⟩
  have hex:∃ ks:List T,ks.length=elems.length/\∀ i (h:i<ks.length) (h':i<elems.length),(∃ u0 u1 u2 u3,w.cells? 0 (a.add (i*4)) 4=some [u0,u1,u2,u3]/\NV w Any ks[i] (.agg #[u0,u1,u2,u3]))/\size ks[i]<=Rows.uptoBulk elems[i].1:=by
   classical
   refine⟨(List.range elems.length).map fun i=>if h:i<elems.length then (key i h).choose else zeroT',by simp,fun i h h'=>?_⟩;simp only[List.getElem_map,List.getElem_range,h',dif_pos];obtain⟨u0,u1,u2,u3,h1,h2,h3⟩:=(key i h').choose_spec;exact⟨⟨u0,u1,u2,u3,h1,h2⟩,h3⟩
  obtain⟨ks,hkl,hks⟩:=hex;have hlen:ks.length=len:=by omega
  have hLK:ks.length<=LK:=by unfold LK;unfold reachBytes at hcap;omega
  refine⟨.nd k m s ks,_,_,_,_,rfl,?_,?_,?_⟩
  ·rw[<-hlen];refine NV.shut hf hLK (by omega) fun i hi=>?_;obtain⟨⟨u0,u1,u2,u3,hc,hn⟩,_⟩:=hks i hi (by omega);obtain⟨_,_,hcell⟩:=World.cells?_some hc;refine⟨a,u0,u1,u2,u3,rfl,trivial,⟨?_,?_,?_,?_⟩,hn⟩
   ·have:=hcell 0 (by omega);simpa[Addr.add] using this
   ·have:=hcell 1 (by omega);simpa[Addr.add] using this
   ·have:=hcell 2 (by omega);simpa[Addr.add] using this
   ·have:=hcell 3 (by omega);simpa[Addr.add] using this
  ·simp only[T.ks_nd];omega
  ·have hb:=zmN ks (elems.map (·.1)) (by simp[hkl]) (fun i h h'=>by
    have:=(hks i h (by simpa using h')).2;simpa using this)
   simp only[size,List.map_cons,List.map_nil,Rows.uptoBulk,Rows.uptoBulkAll];omega
end
theorem Tryz.own:ownKnob Tryz.prog.godebug=none:=by kernel_rfl
theorem Tryz.laidOut:laidOutB Tryz.prog=true:=by kernel_rfl
theorem zvJ {H:Type} {enc:TypeId×Value->H} {W:World} {base:Nat} {v:Value} {d:DataW H} {p:List MemPlace} (hok:Value.okWide Tryz.prog W .any base 24 v)
  (h:DataW.Trod enc Tryz.prog W 0 (fun _=>true) true 24 v d p) (hw:∀ n∈d.weights Tryz.prog 24,n<=reachBytes) :
  ∃ t,NV W Any t v/\t.ks.length*56<=reachBytes/\size t<=Rows.uptoBulk d:=by
 obtain⟨cs,rfl,hcs⟩:=okWide_struct Tryz.underlying24 hok;obtain⟨fuel,hf⟩:=h;obtain⟨t,u0,u1,u2,u3,e,hn,h1,h2⟩:=zr0 fuel _ _ hf hw;refine⟨t,?_,h1,h2⟩;have:cs = #[u0,u1,u2,u3]:=by
  apply Array.ext';simpa[Value.cells] using e
 rw[this];exact hn
theorem zsL:Tryz.prog.cellsOf 76=3:=by kernel_rfl
theorem zv9:Tryz.prog.bytesOf 76=32:=by kernel_rfl
section
variable {H:Type} {enc:TypeId×Value->H} {w:World} {held:Bool}
theorem ztR {ty E:TypeId} {n b:Nat} (ht:Tryz.prog.underlying ty=some (.slice E)) (hc:Tryz.prog.cellsOf E=n) (hb:Tryz.prog.bytesOf E=b) {fuel:Nat} {cs:List Value} {x:DataW H×List MemPlace}
  (h:DataW.trod enc Tryz.prog w 0 (fun _=>true) held fuel ty cs=some x) (hw:∀ q∈x.1.weights Tryz.prog ty,q<=reachBytes) :
  cs=[.slice none 0 0]\/∃ a len cap,cs=[.slice (some a) len cap]/\len<=cap/\cap*b<=reachBytes/\∀ i,i<len->∃ cs' y n',w.cells? 0 (a.add (i*n)) n=some cs'/\DataW.trod enc Tryz.prog w 0 (fun _=>true) held n' E cs'=some y/\∀ q∈y.1.weights Tryz.prog E,q<=reachBytes:=by
 have hsl:=DataW.trod_slice ht h;rcases hsl with⟨e3,e3'⟩|⟨a,len,cap,elems,rest,n',hn',e3,e3',_,hl,hm,hel,hat,hsp,_⟩
 ·exact .inl e3
 ·refine .inr ⟨a,len,cap,e3,hl,?_,?_⟩
  ·obtain⟨hrl,_⟩:=hsp rfl;subst e3';simp only[DataW.weights,ht,hb] at hw;have:=hw _ (List.mem_cons_self ..);simp only[List.length_map] at this;rw[hel,hrl] at this;rw[show cap=len+(cap-len) by omega];exact this
  ·intro i hi;subst e3';simp only[DataW.weights,ht,hb] at hw;have hi':i<elems.length:=by omega
   have h1:=hat i (by omega);rw[List.getElem?_eq_getElem hi',hc] at h1;obtain⟨cs',hcs,ht'⟩:=Option.bind_eq_some_iff.1 h1;exact⟨cs',elems[i],n',hcs,ht',fun q hq=>hw q (List.mem_cons_of_mem _ (List.mem_append_left _ (zlU (List.mem_map_of_mem (List.getElem_mem hi')) q hq)))⟩
theorem zvH {fuel:Nat} {cs:List Value} {x:DataW H×List MemPlace} (h:DataW.trod enc Tryz.prog w 0 (fun _=>true) held fuel 76 cs=some x) :
  ∃ v:VD,cs=[.string v.s,.int .u8 v.k,.int .i64 v.n]/\FldV v:=by
 have hts:=DataW.trod_struct Tryz.underlying76 h;obtain⟨xs,n,hfu,hx,hcl,hxl,hg⟩:=hts;rw[zsL] at hcl
 match cs,hcl with
 | [c0,c1,c2],_ =>
 match xs,hxl with
 | [y0,y1,y2],_ =>
 have g0:=hg 0 _ rfl;have g1:=hg 1 _ rfl;have g2:=hg 2 _ rfl;obtain⟨s,e2,e2',ws⟩:=DataW.trod_string Tryz.underlying9 g0;obtain⟨k,e0,e0',wk⟩:=DataW.trod_int Tryz.underlying5 g1;obtain⟨m,e1,e1',wm⟩:=DataW.trod_int Tryz.underlying3 g2;injection e0 with e0;injection e1 with e1;injection e2 with e2;subst e0 e1 e2;refine⟨⟨s,k,m⟩,rfl,ws,?_,?_⟩
 ·have:=wk;simp[Lit.wf,IntKind.min,IntKind.max,IntKind.signed,IntKind.bits] at this;constructor<;>simp only<;>omega
 ·have:=wm;simp[Lit.wf,IntKind.min,IntKind.max,IntKind.signed,IntKind.bits] at this;constructor<;>simp only<;>omega
theorem zqa {α:Type} [Inhabited α] {n:Nat} {P:Nat->α->Prop} (h:∀ i,i<n->∃ x,P i x):∃ l:List α,l.length=n/\∀ i (hi:i<l.length),P i l[i]:=by
 obtain⟨f,hf⟩:=choose_lt h;exact⟨(List.range n).map f,by simp,fun i hi=>by simp only[List.getElem_map,List.getElem_range];exact hf i (by simpa using hi)⟩
instance:Inhabited VD:=⟨⟨⟨#[]⟩,0,0⟩⟩
theorem zq6 {fuel:Nat} {cs:List Value} {x:DataW H×List MemPlace} (h:DataW.trod enc Tryz.prog w 0 (fun _=>true) held fuel 25 cs=some x) (hw:∀ q∈x.1.weights Tryz.prog 25,q<=reachBytes) :
  ∃ (A:Option Addr) (vs:List VD) (c:Nat),cs=[.slice A vs.length c]/\RowV w Any A vs/\vs.length<=4398046510976/\vs.length<=c:=by
 rcases ztR Tryz.underlying25 zsL zv9 h hw with rfl|⟨a,len,cap,rfl,hl,hcap,hat⟩
 ·exact⟨none,[],0,rfl,fun i hi=>absurd hi (by simp),Nat.zero_le _,Nat.zero_le _⟩
 ·obtain⟨vs,hvl,hvs⟩:=zqa (n:=len) (P:=fun i (v:VD)=>w.cells? 0 (a.add (i*3)) 3=some [.string v.s,.int .u8 v.k,.int .i64 v.n]/\FldV v) fun i hi=>by
   obtain⟨cs',y,n',hcs,ht,_⟩:=hat i hi;obtain⟨v,rfl,hf⟩:=zvH ht;exact⟨v,hcs,hf⟩
  refine⟨some a,vs,cap,by rw[hvl],fun i hi=>?_,by unfold reachBytes at hcap;omega,by omega⟩;obtain⟨hc,hf⟩:=hvs i hi;obtain⟨_,_,hcell⟩:=World.cells?_some hc;refine⟨a,rfl,trivial,⟨?_,?_,?_⟩,hf⟩
  ·have:=hcell 0 (by omega);simpa[Addr.add] using this
  ·have:=hcell 1 (by omega);simpa[Addr.add] using this
  ·have:=hcell 2 (by omega);simpa[Addr.add] using this
theorem zrZ {fuel:Nat} {cs:List Value} {x:DataW H×List MemPlace} (h:DataW.trod enc Tryz.prog w 0 (fun _=>true) held fuel 25 cs=some x) (hw:∀ q∈x.1.weights Tryz.prog 25,q<=reachBytes) :
  ∃ (A:Option Addr) (vs:List VD) (c:Nat),cs=[.slice A vs.length c]/\RowV w Any A vs/\vs.length<=LV/\vs.length<=c:=by
 obtain⟨A,vs,c,h1,h2,h3,h4⟩:=zq6 h hw;exact⟨A,vs,c,h1,h2,by unfold LV;omega,h4⟩
instance:Inhabited T:=⟨zeroT'⟩
end
section
variable {H:Type} {enc:TypeId×Value->H} {w:World} {held:Bool}
instance:Inhabited (List Int):=⟨[]⟩
end
theorem zty {H:Type} {enc:TypeId×Value->H} {W:World} {base:Nat} {v:Value} {d:DataW H} {p:List MemPlace} (hok:Value.okWide Tryz.prog W .any base 25 v)
  (h:DataW.Trod enc Tryz.prog W 0 (fun _=>true) true 25 v d p) (hw:∀ n∈d.weights Tryz.prog 25,n<=reachBytes):∃ (A:Option Addr) (vs:List VD) (c:Nat),v=.slice A vs.length c/\RowV W Any A vs/\vs.length<=LV/\vs.length<=c:=by
 obtain⟨a,len,cap,rfl⟩:=okWide_slice Tryz.underlying25 hok;obtain⟨fuel,hf⟩:=h;obtain⟨A,vs,c,e,hr,h1,h2⟩:=zrZ hf hw;refine⟨A,vs,c,?_,hr,h1,h2⟩;simpa[Value.cells] using e
theorem zuz:Tryz.prog.cellsOf 27=3:=by kernel_rfl
theorem zwZ {H:Type} {enc:TypeId×Value->H} {W:World} {base:Nat} {v:Value} {d:DataW H} {p:List MemPlace} (hok:Value.okWide Tryz.prog W .any base 27 v)
  (h:DataW.Trod enc Tryz.prog W 0 (fun _=>true) true 27 v d p):∃ x:BX,v=.agg #[.int .i64 x.v,.int .i64 x.l,.int .i64 x.i]/\(-9223372036854775808<=x.v/\x.v<=9223372036854775807)/\(-9223372036854775808<=x.l/\x.l<=9223372036854775807)/\(-9223372036854775808<=x.i/\x.i<=9223372036854775807):=by
 obtain⟨cs,rfl,hcs⟩:=okWide_struct Tryz.underlying27 hok;obtain⟨fuel,hf⟩:=h;have hts:=DataW.trod_struct Tryz.underlying27 hf;obtain⟨xs,n,hfu,hx,hcl,hxl,hg⟩:=hts;rw[zuz] at hcl;obtain⟨cs⟩:=cs;simp only[Value.cells] at hcl hg
 match cs,hcl with
 | [c0,c1,c2],_ =>
 match xs,hxl with
 | [y0,y1,y2],_ =>
 have g0:=hg 0 _ rfl;have g1:=hg 1 _ rfl;have g2:=hg 2 _ rfl;obtain⟨m0,e0,_,w0⟩:=DataW.trod_int Tryz.underlying3 g0;obtain⟨m1,e1,_,w1⟩:=DataW.trod_int Tryz.underlying3 g1;obtain⟨m2,e2,_,w2⟩:=DataW.trod_int Tryz.underlying3 g2;injection e0 with e0;injection e1 with e1;injection e2 with e2;subst e0 e1 e2;simp[Lit.wf,IntKind.min,IntKind.max,IntKind.signed,IntKind.bits] at w0 w1 w2;exact⟨⟨m0,m1,m2⟩,rfl,⟨by simp only;omega,by simp only;omega⟩,⟨by simp only;omega,by simp only;omega⟩,⟨by simp only;omega,by simp only;omega⟩⟩
end Go.Proofs.YtghbhbdnkjjnnaaGreat
