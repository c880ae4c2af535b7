/-
  Texts of the proof, put together without their remarks: LiftS.
-/
import Derived.Test.YthjinpodhacleaaGreatR12
import Derived.ChangeSlices
set_option linter.unusedSimpArgs false
set_option linter.unusedVariables false
set_option maxHeartbeats 8000000
set_option maxRecDepth 100000
namespace Go.Proofs.YthjinpodhacleaaGreat
open Go.Proofs.Tryz
section
open Go.RowKit Go.ChangeShapes Go.WideShapes Go.ChangeAt Go.Deep
theorem zzP:prog.cellsOf 42=1:=by kernel_rfl
theorem zwV:prog.bytesOf 3=8:=by kernel_rfl
theorem zzS:prog.bytesOf 42=24:=by kernel_rfl
theorem zsY:prog.cellsOf 44=3:=by kernel_rfl
section
variable {H:Type} {enc:TypeId×Value->H} {w:World} {held:Bool}
theorem zzR{a:Addr}{u:Value}(h:w.cells? 0 a 1=some [u]):w.cell? a=some u:=by
 obtain⟨_,_,hcell⟩:=World.cells?_some h;have:=hcell 0 (by omega);have e:a.add 0=a:=by
  obtain⟨b,o,l⟩:=a;rcases l with _|⟨l1,l2⟩<;>simp[Addr.add]
 rw[e]at this;simpa using this
theorem zog{fuel:Nat}{cs:List Value}{x:DataW H×List MemPlace}(h:DataW.trod enc prog w 0 (fun _=>true) held fuel 42 cs=some x)(hw:∀q∈x.1.weights prog 42,q<=reachBytes) :
  ∃(A:Option Addr) (l:List Int) (c:Nat),cs=[.slice A l.length c]/\RowI w Any A l/\l.length<=LI/\l.length<=c:=by
 rcases znS underlying42 zsh zwV h hw with rfl|⟨a,len,cap,rfl,hl,hcap,hat⟩
 ·exact⟨none,[],0,rfl,fun i hi=>absurd hi (by simp),Nat.zero_le _,Nat.zero_le _⟩
 ·obtain⟨l,hvl,hvs⟩:=zmj (n:=len) (P:=fun i (x:Int)=>w.cells? 0 (a.add (i*1)) 1=some [.int .i64 x]/\I64 x) fun i hi=>by
   obtain⟨cs',y,n',hcs,ht,_⟩:=hat i hi;obtain⟨m,e1,BO,wm⟩:=DataW.trod_int underlying3 ht;refine⟨m,by rw[hcs,e1],?_⟩;have:=wm;simp[Lit.wf,IntKind.min,IntKind.max,IntKind.signed,IntKind.bits]at this
   constructor<;>omega
  refine⟨some a,l,cap,by rw[hvl],fun i hi=>?_,by unfold LI;unfold reachBytes at hcap;omega,by omega⟩;obtain⟨hc,hf⟩:=hvs i hi;rw[Nat.mul_one]at hc;exact⟨a,rfl,trivial,zzR hc,hf⟩
instance:Inhabited (List Int):=⟨[]⟩
theorem zsG{fuel:Nat}{cs:List Value}{x:DataW H×List MemPlace}(h:DataW.trod enc prog w 0 (fun _=>true) held fuel 41 cs=some x)(hw:∀q∈x.1.weights prog 41,q<=reachBytes) :
  ∃(A:Option Addr) (ls:List (List Int)) (c:Nat),cs=[.slice A ls.length c]/\znh w Any A ls/\ls.length<=LI/\(∀l∈ls,l.length<=LI)/\ls.length<=c:=by
 rcases znS underlying41 zzP zzS h hw with rfl|⟨a,len,cap,rfl,hl,hcap,hat⟩
 ·exact⟨none,[],0,rfl,fun i hi=>absurd hi (by simp),Nat.zero_le _,by simp,Nat.zero_le _⟩
 ·obtain⟨ls,hvl,hvs⟩:=zmj (n:=len) (P:=fun i (l:List Int)=>∃A' c',w.cells? 0 (a.add (i*1)) 1=some [.slice A' l.length c']/\RowI w Any A' l/\l.length<=LI/\l.length<=c') fun i hi=>by
   obtain⟨cs',y,n',hcs,ht,rP⟩:=hat i hi;obtain⟨A',l,c',e,hr,h1,h2⟩:=zog ht rP;exact⟨l,A',c',by rw[hcs,e],hr,h1,h2⟩
  refine⟨some a,ls,cap,by rw[hvl],fun i hi=>?_,by unfold LI;unfold reachBytes at hcap;omega,fun l hl=>?_,by omega⟩
  ·obtain⟨A',c',hc,hr,h1,h2⟩:=hvs i hi;rw[Nat.mul_one]at hc;exact⟨a,A',c',rfl,trivial,zzR hc,h2,hr⟩
  ·obtain⟨i,hi,rfl⟩:=List.mem_iff_getElem.1 hl;obtain⟨A',c',hc,hr,h1,h2⟩:=hvs i hi;exact h1
theorem zsF{fuel:Nat}{cs:List Value}{x:DataW H×List MemPlace}(h:DataW.trod enc prog w 0 (fun _=>true) held fuel 44 cs=some x)(hw:∀q∈x.1.weights prog 44,q<=reachBytes) :
  ∃(s:SS) (u0 u1 u2:Value),cs=[u0,u1,u2]/\SV w Any s (.agg #[u0,u1,u2]):=by
 have hts:=DataW.trod_struct underlying44 h;obtain⟨xs,n,hfu,hx,hcl,hxl,hg⟩:=hts;subst hx;rw[zsY]at hcl
 match cs,hcl with
 | [c0,c1,c2],_ =>
 match xs,hxl with
 | [y0,y1,y2],_ =>
 have g0:=hg 0 _ rfl;have g1:=hg 1 _ rfl;have g2:=hg 2 _ rfl;have hw0:∀q∈y0.1.weights prog 41,q<=reachBytes:=fun q hq=>by
  refine hw q ?_;simp only[List.map_cons,List.map_nil,DataW.weights,underlying44];simp only[DataW.weightsEach,List.mem_append];exact .inl hq
 have hw1:∀q∈y1.1.weights prog 42,q<=reachBytes:=fun q hq=>by
  refine hw q ?_;simp only[List.map_cons,List.map_nil,DataW.weights,underlying44];simp only[DataW.weightsEach,List.mem_append];exact .inr (.inl hq)
 have hw2:∀q∈y2.1.weights prog 42,q<=reachBytes:=fun q hq=>by
  refine hw q ?_;simp only[List.map_cons,List.map_nil,DataW.weights,underlying44];simp only[DataW.weightsEach,List.mem_append];exact .inr (.inr (.inl hq))
 obtain⟨A0,ls,k0,e0,hr0,hl0,hl0',hc0⟩:=zsG g0 hw0;obtain⟨A1,l1,k1,e1,hr1,hl1,hc1⟩:=zog g1 hw1;obtain⟨A2,l2,k2,e2,hr2,hl2,hc2⟩:=zog g2 hw2;injection e0 with e0;injection e1 with e1;injection e2 with e2;subst e0 e1 e2;exact⟨⟨ls,l1,l2⟩,_,_,_,rfl,A0,k0,A1,k1,A2,k2,rfl,hr0,hr1,hr2,hc0,hc1,hc2,hl0,hl0',hl1,hl2⟩
theorem zvT{W:World}{base:Nat}{v:Value}{d:DataW H}{p:List MemPlace}(hok:Value.okWide prog W .any base 44 v)
  (h:DataW.Trod enc prog W 0 (fun _=>true) true 44 v d p)(hw:∀n∈d.weights prog 44,n<=reachBytes):∃s,SV W Any s v:=by
 obtain⟨cs,rfl,hcs⟩:=okWide_struct underlying44 hok;obtain⟨fuel,hf⟩:=h;obtain⟨s,u0,u1,u2,e,hs⟩:=zsF hf hw;refine⟨s,?_⟩;have:cs = #[u0,u1,u2]:=by
  apply Array.ext';simpa[Value.cells]using e
 rw[this];exact hs
end
end
end Go.Proofs.YthjinpodhacleaaGreat
