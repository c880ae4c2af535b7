/-
  Texts of the proof, put together without their remarks: Els, Wgp, Lwg, Alt, Wak, Lift, LiftV, LiftS, LiftW, LiftB, Lift5.
-/
import Derived.Test.YtghbhbdnkjjnnaaGreatG10
import Derived.Test.YtghbhbdnkjjnnaaGreatRows
import Derived.ProofKit
import Derived.SizedLaws
import Derived.Deep.Slices
import Derived.Deep.Fields
import Derived.Lib.SmallJoins
import Derived.ChangeSlices
import Derived.OpenShut
import Derived.Carry
set_option linter.unusedSimpArgs false
set_option linter.unusedVariables false
set_option maxHeartbeats 8000000
set_option maxRecDepth 100000
namespace Go.Proofs.YtghbhbdnkjjnnaaGreat
section
open Go Go.RowKit
def SmI(l:List Int):Prop:=l.length<=1000000/\∀e∈l,-1000000<=e/\e<=1000000
def cmpI(a b:Int):Int:=if a<b then -1 else if b<a then 1 else 0
def cmpR:List Int->List Int->Int
 | x::a,y::b=>if cmpI (rnk x) (rnk y)≠0 then cmpI (rnk x) (rnk y)else cmpR a b
 | _,_=>0
def cmpL(a b:List Int):Int:=if a.length≠b.length then cmpI a.length b.length else cmpR a b
def orI(x y:Int):Int:=if x≠0 then x else y
def zmc:List (List Int)->List (List Int)->Int
 | a::p,b::q=>if cmpL a b≠0 then cmpL a b else zmc p q
 | _,_=>0
def wtS(s:SS):Int:=lw s.tin+lw s.tout+wt s.cells
def znA(a b:SS):Bool :=
 if cmpI (wtS a) (wtS b)≠0 then decide (cmpI (wtS a) (wtS b)<0)
 else if zmc a.cells b.cells≠0 then decide (zmc a.cells b.cells<0)
 else decide (orI (cmpL a.tin b.tin) (cmpL a.tout b.tout)<0)
theorem ztc(x:Int)(w:World):Calls Tryz.prog 100 #[.int .i64 x] w fun e w'=>e=.returned (.bool false)/\w'=w:=by
 go_enter Tryz.func100,Tryz.ntmps100;go_wp2_with fail;go_ret;simp
theorem zul(x y:Int)(w:World):Calls Tryz.prog 73 #[.int .i64 x,.int .i64 y] w fun e w'=>e=.returned (.int .i64 (cmpI x y))/\w'=w:=by
 have H:=zh ztc;go_enter Tryz.func73,Tryz.ntmps73;go_wp2_with fail;refine(H.out _ _).mono ?_;rintro e w1 ⟨rfl,rfl⟩;go_wp2_with fail;refine(H.out _ _).mono ?_;rintro e w1 ⟨rfl,rfl⟩;by_cases h1:x<y
 ·go_wp2_with fail;go_ret;simp[cmpI,h1]
 ·by_cases h2:y<x
  ·go_wp2_with fail;go_ret;simp[cmpI,h1,h2]
  ·go_wp2_with fail;go_ret;exact⟨by unfold cmpI;rw[if_neg (by omega),if_neg (by omega)];rfl,rfl⟩
theorem zyl(x y:Int)(b:Nat)(w:World)(h:w.heap[b]?=some (.cells #[.int .i64 x,.int .i64 y] 3 (0,0))):Calls Tryz.prog 72 #[.slice (some ⟨b,0,none⟩) 2 2] w fun e w'=>e=.returned (.int .i64 (orI x y))/\w'=w:=by
 have x0:w.cell? ⟨b,0,none⟩=some (.int .i64 x):=zc h rfl;have x1:w.cell? ⟨b,1,none⟩=some (.int .i64 y):=zc h rfl;clear h;go_enter Tryz.func72,Tryz.ntmps72;go_wp2_with fail
 go_loopw [8] (fun i wr=>∃j:Nat,j<=2/\i=.int .i64 j/\wr=w/\Hid ((0<j->x=0)/\(1<j->y=0))) (fun i _=>2-(intOf i).toNat)
 case atStart=>exact⟨0,by omega,rfl,rfl,zh ⟨fun h=>by omega,fun h=>by omega⟩⟩
 case round =>
  obtain⟨j,hj,rfl,rfl,HO⟩:=hrel
  match j,hj,HO with
  | 0,_,HO =>
   by_cases h0:x=0
   ·subst h0;go_wp2_with fail
    go_roundw
    case rel=>exact⟨1,by omega,by go_num,trivial,zh ⟨fun _=>by trivial,fun h=>by omega⟩⟩
    case measure=>simp[intOf]
   ·have e0:(x != 0)=true:=by simpa using h0
    go_wp2_with fail;go_ret;simp[orI,h0]
  | 1,_,HO =>
   obtain rfl:=HO.out.1 (by omega);by_cases h0:y=0
   ·subst h0;go_wp2_with fail
    go_roundw
    case rel=>exact⟨2,by omega,by go_num,trivial,zh ⟨fun _=>by trivial,fun _=>by trivial⟩⟩
    case measure=>simp[intOf]
   ·have e0:(y != 0)=true:=by simpa using h0
    go_wp2_with fail;go_ret;simp[orI]
  | 2,_,HO =>
   obtain rfl:=HO.out.1 (by omega);obtain rfl:=HO.out.2 (by omega);go_wp2_with fail;go_ret;simp[orI]
theorem zpA(x:Int)(w:World)(hx : -1000000<=x/\x<=1000000):Calls Tryz.prog 102 #[.int .i64 x] w fun e w'=>e=.returned (.int .i64 (rnk x))/\w'=w:=by
 have e1:IntKind.i64.wrap (2*x)=2*x:=IntWalk.i64_in _ (by omega);have e2:IntKind.i64.wrap (2*x-1)=2*x-1:=IntWalk.i64_in _ (by omega);have e3:IntKind.i64.wrap (-2*x) = -2*x:=IntWalk.i64_in _ (by omega);go_enter Tryz.func102,Tryz.ntmps102;by_cases h:0<x
 ·go_wp2_with fail;go_ret;simp[rnk,h]
 ·go_wp2_with fail;go_ret;exact⟨by unfold rnk;rw[if_neg (by omega)];rfl,rfl⟩
theorem zpU{l:List Int}{j:Nat}(hj:j<l.length):lw (l.take (j+1))=lw (l.take j)+(1+rnk l[j]):=by
 rw[List.take_succ_eq_append_getElem hj];unfold lw;rw[List.map_append,List.sum_append];congr 1;simp
theorem zsE{x:Int}(h : -1000000<=x/\x<=1000000):0<=rnk x/\rnk x<=2000000:=by unfold rnk;split<;>omega
theorem zxQ{l:List Int}(h:SmI l):0<=lw l/\lw l<=l.length*2000001:=by
 have h1:=zpV (l:=l) (h:=2000001) fun e he=>by have:=zsE (h.2 e he);omega
 omega
theorem zlX(l:List Int)(A:Option Addr)(c:Nat)(w:World)(hr:RowI w Any A l)(hl:SmI l):Calls Tryz.prog 101 #[.slice A l.length c] w fun e w'=>e=.returned (.int .i64 (lw l))/\w'=w:=by
 have HL:=zh hl;have HR:=zh hr;have HK:=zh zpA;obtain⟨n,hn⟩:=zX (l.length);have HN:=zh hn;have kU:n<=1000000:=by rw[<-hn];exact hl.1
 rw[hn];clear hr hl hn;go_enter Tryz.func101,Tryz.ntmps101;go_wp2_with fail
 go_loopw [10,3] (fun i s wr=>∃j:Nat,j<=n/\i=.int .i64 j/\s=.int .i64 (lw (l.take j)+((n:Int)-(j:Int)))/\wr=w) (fun i _ _=>n-(intOf i).toNat)
 case atStart=>exact⟨0,by omega,rfl,by simp[lw],rfl⟩
 case round =>
  obtain⟨j,hj,rfl,rfl,rfl⟩:=hrel;by_cases hlt:j<n
  ·have hj1:(j:Int)<(n:Int):=by omega
   have hj0:(0:Int)<=(j:Int):=by omega
   have hlj:j<l.length:=by rw[HN.out];exact hlt
   obtain⟨a,hA,-,hc,-⟩:=HR.out j hlj;subst hA;have hx:=HL.out.2 _ (List.getElem_mem hlj);have hb:=zsE hx;have HX:=zh (HK.out l[j] wr hx);have hS:=zxQ (l:=l.take j) ⟨by simp;omega,fun e he=>HL.out.2 e (List.mem_of_mem_take he)⟩;have HT:=zh (zpU hlj);simp only[List.length_take]at hS;have hmin:(min j l.length:Nat)<=1000000:=by omega
   obtain⟨S,hSS⟩:=zX (lw (l.take j));rw[hSS]at HT hS ⊢;have hS2:0<=S/\S<=3000000000000:=⟨hS.1,by omega⟩
   generalize l[j]=x at *
   obtain⟨r,hr⟩:=zX (rnk x);rw[hr]at HX HT hb;have ng:IntKind.i64.wrap ((j:Int)+1)=(j:Int)+1:=IntWalk.i64_in _ (by omega);have hws:IntKind.i64.wrap (S+((n:Int)-(j:Int))+r)=S+((n:Int)-(j:Int))+r:=IntWalk.i64_in _ (by omega);clear hSS hr hS hx;go_wp2_with fail;refine HX.out.mono ?_;rintro e w2 ⟨rfl,rfl⟩;go_wp2_with fail
   go_roundw
   case rel=>exact⟨j+1,by omega,by go_num,by rw[HT.out];congr 1;omega,trivial⟩
   case measure=>simp[intOf];omega
  ·obtain rfl:j=n:=by omega
   have HF:=zh (show lw (l.take j)+((j:Int)-(j:Int))=lw l by rw[<-HN.out,List.take_length];omega);go_wp2_with fail;go_ret;exact⟨by rw[<-HF.out];rfl,rfl⟩
theorem fnLw:IsFn Tryz.prog 101 Tryz.f101:=⟨Tryz.func101,by kernel_rfl,by kernel_rfl⟩
theorem zwj:IsFn Tryz.prog 102 Tryz.f102:=⟨Tryz.func102,by kernel_rfl,by kernel_rfl⟩
theorem zw7:IsFn Tryz.prog 73 Tryz.f73:=⟨Tryz.func73,by kernel_rfl,by kernel_rfl⟩
structure SmS(s:SS):Prop where
 n:s.cells.length<=1000
 c:∀l∈s.cells,SmI l
 i:SmI s.tin
 o:SmI s.tout
theorem zpF{ls:List (List Int)}{j:Nat}(hj:j<ls.length):wt (ls.take (j+1))=wt (ls.take j)+lw ls[j]:=by
 rw[List.take_succ_eq_append_getElem hj];unfold wt;rw[List.map_append,List.sum_append];congr 1;simp
theorem zrf{l:List Int}(h:SmI l):0<=lw l/\lw l<=2000001000000:=by
 have h1:=zxQ h;have h2:=h.1;omega
theorem zxB:∀ {ls:List (List Int)},(∀l∈ls,SmI l)->0<=wt ls/\wt ls<=ls.length*2000001000000
 | [],_=>by simp[wt]
 | l::ls,h=>by
  have h1:=zrf (h l (List.mem_cons_self ..));have h2:=zxB (ls:=ls) fun x hx=>h x (List.mem_cons_of_mem _ hx);rw[znP,List.length_cons];omega
theorem zo3(s:SS)(v:Value)(w:World)(hv:SV w Any s v)(hs:SmS s):Calls Tryz.prog 74 #[v] w fun e w'=>e=.returned (.int .i64 (wtS s))/\Below w.heap.size w w':=by
 obtain⟨A,c,B,d,D,e,rfl,hr1,hr2,hr3,-⟩:=hv;have k1:=heap_alloc_new w (.cells #[.slice A s.cells.length c,.slice B s.tin.length d,.slice D s.tout.length e] 34);have hb1:=zkc (zs w) (.cells #[.slice A s.cells.length c,.slice B s.tin.length d,.slice D s.tout.length e] 34);have HR1:=zh (fun w' (hb:Below w.heap.size w w')=>hr1.later hb);have HR2:=zh (fun w' (hb:Below w.heap.size w w')=>hr2.later hb);have HR3:=zh (fun w' (hb:Below w.heap.size w w')=>hr3.later hb);have HS:=zh hs;obtain⟨n,hn⟩:=zX (s.cells.length);have HN:=zh hn;have bI:n<=1000:=by rw[<-hn];exact hs.n
 rw[hn]at k1 hb1 ⊢;clear hr1 hr2 hr3 hs hn;go_enter Tryz.func74,Tryz.ntmps74;go_upto_region 1 with fail;obtain⟨N,hN⟩:=zX (w.heap.size);obtain⟨w1,hw1⟩:=zX (w.alloc (.cells #[.slice A n c,.slice B s.tin.length d,.slice D s.tout.length e] 34));rw[hw1]at k1 hb1 ⊢;rw[hN]at k1 ⊢;have HB1:=zh hb1;obtain⟨x0,x1,x2⟩:=zkk k1;have aB:=zh k1;clear hw1 hb1 k1 hN;have h2:=zrf HS.out.i;have h3:=zrf HS.out.o;have HL2:=zh (fun w' (hb:Below w.heap.size w w')=>zlX s.tin B d w' (HR2.out _ hb) HS.out.i);have qd:=zh (fun w' (hb:Below w.heap.size w w')=>zlX s.tout D e w' (HR3.out _ hb) HS.out.o);obtain⟨T2,yl⟩:=zX (lw s.tin);obtain⟨T3,yj⟩:=zX (lw s.tout);have HWT:=zh (show wtS s=T2+T3+wt s.cells by unfold wtS;rw[yl,yj]);rw[yl]at h2 HL2;rw[yj]at h3 qd;have hw23:IntKind.i64.wrap (T2+T3)=T2+T3:=IntWalk.i64_in _ (by omega);clear yl yj;have hcd:=Below.drew (zs w1)
 have lU:Calls Tryz.prog 101 [.slice B s.tin.length d].toArray w1.drew fun e w'=>∃v,e=.returned v/\(v=.int .i64 T2/\w'=w1.drew):=(HL2.out _ (zkb HB1.out hcd)).mono fun e w' ⟨h1,h2⟩=>⟨_,h1,rfl,h2⟩
 have lT:Calls Tryz.prog 101 [.slice D s.tout.length e].toArray w1.drew fun e w'=>∃v,e=.returned v/\(v=.int .i64 T3/\w'=w1.drew):=(qd.out _ (zkb HB1.out hcd)).mono fun e w' ⟨h1,h2⟩=>⟨_,h1,rfl,h2⟩
 have hSS:zW (fun w':World=>zN3 w' N (.slice A n c) (.slice B s.tin.length d) (.slice D s.tout.length e)) zU w1.drew:=⟨⟨zb hcd x0,zb hcd x1,zb hcd x2⟩,trivial⟩
 clear x0 x1 x2;refine wp_region_noPanic ?_;refine zG hSS 20 ?_;refine zT 0 hSS ?_;refine zT 1 hSS ?_;refine zT 3 hSS ?_;refine zT 4 hSS ?_;refine zo 2 fun K hK=>?_;refine zkd (by rfl) (.func 101) [.tmp 7] _ (by rfl) 101 _ fnLw (by rfl) _ (by rfl) _ lU ?_;rintro v2 w2 ⟨rfl,rfl⟩;refine hK.out _ _ hSS ?_;clear hK K lU;(try simp only[zQ]);refine zo 5 fun K hK=>?_;refine zkd (by rfl) (.func 101) [.tmp 10] _ (by rfl) 101 _ fnLw (by rfl) _ (by rfl) _ lT ?_;rintro v2 w2 ⟨rfl,rfl⟩;refine hK.out _ _ hSS ?_;clear hK K lT;(try simp only[zQ]);refine zT 6 hSS ?_;refine zT 7 hSS ?_;refine zd ?_;refine NoPanic.normal ?_;obtain⟨x0,x1,x2⟩:=hSS.1;have dP:=zh (zkb HB1.out hcd);obtain⟨w2,hw2⟩:=zX (w1.drew);rw[hw2]at x0 x1 x2 dP ⊢;clear hSS hcd hw2;go_wp2_with fail
 go_loopw [16,3] (fun i s' wr=>∃j:Nat,j<=n/\i=.int .i64 j/\s'=.int .i64 (T2+T3+wt (s.cells.take j))/\wr=w2) (fun i _ _=>n-(intOf i).toNat)
 case atStart=>exact⟨0,by omega,rfl,by simp[wt],rfl⟩
 case round =>
  obtain⟨j,hj,rfl,rfl,rfl⟩:=hrel;by_cases hlt:j<n
  ·have hj1:(j:Int)<(n:Int):=by omega
   have hj0:(0:Int)<=(j:Int):=by omega
   have hlj:j<s.cells.length:=by rw[HN.out];exact hlt
   obtain⟨a,A',c',hA,-,hc,-,hrow⟩:=(HR1.out _ dP.out) j hlj;subst hA;have hsm:=HS.out.c _ (List.getElem_mem hlj);have hb:=zrf hsm;have HX:=zh (zlX s.cells[j] A' c' wr hrow hsm);have HT:=zh (zpF hlj);have hS:=zxB (ls:=s.cells.take j) fun l hl=>HS.out.c l (List.mem_of_mem_take hl);simp only[List.length_take]at hS;obtain⟨S,hSS⟩:=zX (wt (s.cells.take j));rw[hSS]at HT hS ⊢;have hmin:(min j s.cells.length:Nat)<=1000:=by omega
   have hS2:0<=S/\S<=3000001000000000:=⟨hS.1,by omega⟩
   generalize s.cells[j]=x at *
   obtain⟨r,hr⟩:=zX (lw x);rw[hr]at HX HT hb;have ng:IntKind.i64.wrap ((j:Int)+1)=(j:Int)+1:=IntWalk.i64_in _ (by omega);have hws:IntKind.i64.wrap (T2+T3+S+r)=T2+T3+S+r:=IntWalk.i64_in _ (by omega);clear hSS hr hS hsm hrow;go_wp2_with fail;refine HX.out.mono ?_;rintro e w2 ⟨rfl,rfl⟩;go_wp2_with fail
   go_roundw
   case rel=>exact⟨j+1,by omega,by go_num,by rw[HT.out];congr 1;omega,trivial⟩
   case measure=>simp[intOf];omega
  ·obtain rfl:j=n:=by omega
   have HF:=zh (show T2+T3+wt (s.cells.take j)=wtS s by rw[HWT.out,<-HN.out,List.take_length]);go_wp2_with fail;go_ret;exact⟨by rw[<-HF.out];rfl,dP.out⟩
theorem zp7:∀ {a b:List Int} (j:Nat) (h1:j<a.length) (h2:j<b.length),(∀i (h1:i<a.length) (h2:i<b.length),i<j->cmpI (rnk a[i]) (rnk b[i])=0)->cmpR a b=if cmpI (rnk a[j]) (rnk b[j])≠0 then cmpI (rnk a[j]) (rnk b[j])else cmpR (a.drop (j+1)) (b.drop (j+1))
 | x::a,y::b,0,_,_,_=>rfl
 | x::a,y::b,j+1,h1,h2,h=>by
  have h0:=h 0 (by simp) (by simp) (by omega);simp only[List.getElem_cons_zero]at h0;rw[cmpR,if_neg (by rw[h0];simp)];exact zp7 j (by simpa using h1) (by simpa using h2) fun i q1 q2 q3=>by
   have:=h (i+1) (by simpa using q1) (by simpa using q2) (by omega);simpa using this
theorem zp6:∀ {a b:List Int},a.length=b.length->(∀i (h1:i<a.length) (h2:i<b.length),cmpI (rnk a[i]) (rnk b[i])=0)->cmpR a b=0
 | [],[],_,_=>rfl
 | x::a,y::b,hl,h=>by
  have h0:=h 0 (by simp) (by simp);simp only[List.getElem_cons_zero]at h0;rw[cmpR,if_neg (by rw[h0];simp)];exact zp6 (by simpa using hl) fun i q1 q2=>by
   have:=h (i+1) (by simpa using q1) (by simpa using q2);simpa using this
 | [],_::_,hl,_=>by simp at hl
 | _::_,[],hl,_=>by simp at hl
theorem zmQ(l m:List Int)(A B:Option Addr)(c d:Nat)(w:World)(hr:RowI w Any A l)(hq:RowI w Any B m)(hl:SmI l)(hm:SmI m):Calls Tryz.prog 75 #[.slice A l.length c,.slice B m.length d] w fun e w'=>e=.returned (.int .i64 (cmpL l m))/\Below w.heap.size w w':=by
 have HC:=zh zul;have HL:=zh hl;have HM:=zh hm;have HR:=zh (fun w' (hb:Below w.heap.size w w')=>hr.later hb);have HQ:=zh (fun w' (hb:Below w.heap.size w w')=>hq.later hb);have h1:=hl.1;have h2:=hm.1;obtain⟨n,hn⟩:=zX (l.length);obtain⟨k,hk⟩:=zX (m.length);have HN:=zh hn;have HK:=zh hk;have HE:=zh (show cmpL l m=if n≠k then cmpI n k else cmpR l m by unfold cmpL;rw[hn,hk]);rw[hn]at h1 ⊢;rw[hk]at h2 ⊢;clear hr hq hl hm hn hk;go_enter Tryz.func75,Tryz.ntmps75;by_cases hnk:n=k;rotate_left 1
 ·have e0:((n:Int) != (k:Int))=true:=by simp;omega
  have HF:=zh (show cmpL l m=cmpI n k by rw[HE.out,if_pos hnk]);go_wp2_with fail;refine(HC.out _ _ _).mono ?_;rintro e w2 ⟨rfl,rfl⟩;go_wp2_with fail;go_ret;exact⟨by rw[HF.out];rfl,zr⟩
 subst hnk;have e0:((n:Int) != (n:Int))=false:=by simp
 have HF:=zh (show cmpL l m=cmpR l m by rw[HE.out,if_neg (by simp)]);go_wp2_with fail
 go_loopw [19] (fun i wr=>∃j:Nat,j<=n/\i=.int .i64 j/\Hid (Below w.heap.size w wr)/\Hid (∀i (h1:i<l.length) (h2:i<m.length),i<j->cmpI (rnk l[i]) (rnk m[i])=0)) (fun i _=>n-(intOf i).toNat)
 case atStart=>exact⟨0,by omega,rfl,zh zr,zh fun i _ _ h=>by omega⟩
 case round =>
  obtain⟨j,hj,rfl,HB,HO⟩:=hrel;by_cases hlt:j<n
  ·have hj1:(j:Int)<(n:Int):=by omega
   have hj0:(0:Int)<=(j:Int):=by omega
   have hlj:j<l.length:=by rw[HN.out];exact hlt
   have qK:j<m.length:=by rw[HK.out];exact hlt
   obtain⟨a,hA,-,hc,-⟩:=HR.out _ HB.out j hlj;obtain⟨a',hA',-,hc',-⟩:=HQ.out _ HB.out j qK;subst hA hA';have HX:=zh (zpA l[j] wr.drew (HL.out.2 _ (List.getElem_mem hlj)));have HY:=zh (zpA m[j] wr.drew (HM.out.2 _ (List.getElem_mem qK)));have HST:=zh (zp7 j hlj qK HO.out);have rX:=zh (fun(h:cmpI (rnk l[j]) (rnk m[j])=0)=>show ∀i (h1:i<l.length) (h2:i<m.length),i<j+1->cmpI (rnk l[i]) (rnk m[i])=0 from fun i h1 h2 h3=>by
    by_cases e:i=j
    ·subst e;exact h
    ·exact HO.out i h1 h2 (by omega))
   have ng:IntKind.i64.wrap ((j:Int)+1)=(j:Int)+1:=IntWalk.i64_in _ (by omega);generalize l[j]=x at *
   generalize m[j]=y at *
   obtain⟨r,hr⟩:=zX (rnk x);obtain⟨q,hq⟩:=zX (rnk y);rw[hr]at HX HST rX;rw[hq]at HY HST rX;clear hr hq;have hcd:=Below.drew (zs wr);have lU:Calls Tryz.prog 102 [.int .i64 x].toArray wr.drew fun e w'=>∃v,e=.returned v/\(v=.int .i64 r/\w'=wr.drew):=HX.out.mono fun e w' ⟨h1,h2⟩=>⟨_,h1,rfl,h2⟩
   have lT:Calls Tryz.prog 102 [.int .i64 y].toArray wr.drew fun e w'=>∃v,e=.returned v/\(v=.int .i64 q/\w'=wr.drew):=HY.out.mono fun e w' ⟨h1,h2⟩=>⟨_,h1,rfl,h2⟩
   have oC:Calls Tryz.prog 73 [.int .i64 r,.int .i64 q].toArray wr.drew fun e w'=>∃v,e=.returned v/\(v=.int .i64 (cmpI r q)/\w'=wr.drew):=(HC.out r q wr.drew).mono fun e w' ⟨h1,h2⟩=>⟨_,h1,rfl,h2⟩
   have hSS:zW (fun w':World=>w'.cell? (a.add j)=some (.int .i64 x)/\w'.cell? (a'.add j)=some (.int .i64 y)) zU wr.drew:=⟨⟨zb hcd hc,zb hcd hc'⟩,trivial⟩
   go_upto_region 6 with fail;clear hc hc';refine wp_region_noPanic ?_;refine zG hSS 20 ?_;refine zT 0 hSS ?_;refine zT 1 hSS ?_;refine zT 2 hSS ?_;refine zT 3 hSS ?_;refine zT 5 hSS ?_;refine zT 6 hSS ?_;refine zT 7 hSS ?_;refine zT 8 hSS ?_;refine zo 4 fun K hK=>?_;refine zkd (by rfl) (.func 102) [.tmp 25] _ (by rfl) 102 _ zwj (by rfl) _ (by rfl) _ lU ?_;rintro v2 w2 ⟨rfl,rfl⟩;refine hK.out _ _ hSS ?_;clear hK K lU;(try simp only[zQ]);refine zo 9 fun K hK=>?_;refine zkd (by rfl) (.func 102) [.tmp 30] _ (by rfl) 102 _ zwj (by rfl) _ (by rfl) _ lT ?_;rintro v2 w2 ⟨rfl,rfl⟩;refine hK.out _ _ hSS ?_;clear hK K lT;(try simp only[zQ]);refine zo 10 fun K hK=>?_;refine zkd (by rfl) (.func 73) [.tmp 26,.tmp 31] _ (by rfl) 73 _ zw7 (by rfl) _ (by rfl) _ oC ?_;rintro v2 w2 ⟨rfl,rfl⟩;refine hK.out _ _ hSS ?_;clear hK K oC;(try simp only[zQ])
   refine zT 11 hSS ?_;refine zd ?_;refine NoPanic.normal ?_;have dP:=zh (zkb HB.out hcd);obtain⟨w2,hw2⟩:=zX (wr.drew);rw[hw2]at dP ⊢;clear hSS hcd hw2;obtain⟨z,hz⟩:=zX (cmpI r q);rw[hz]at HST rX ⊢;clear hz;by_cases h0:z=0
   ·subst h0;have e9:((0:Int) != 0)=false:=by simp
    go_wp2_with fail
    go_roundw
    case rel=>exact⟨j+1,by omega,by go_num,dP,zh (rX.out rfl)⟩
    case measure=>simp[intOf];omega
   ·have e9:(z != 0)=true:=by simpa using h0
    have HG:=zh (show cmpL l m=z by rw[HF.out,HST.out,if_pos h0]);go_wp2_with fail;go_ret;exact⟨by rw[HG.out];rfl,dP.out⟩
  ·obtain rfl:j=n:=by omega
   have HG:=zh (show cmpL l m=0 by rw[HF.out];exact zp6 (by rw[HN.out,HK.out]) fun i h1 h2=>HO.out i h1 h2 (by have:=HN.out;omega));go_wp2_with fail;go_ret;exact⟨by rw[HG.out];rfl,HB.out⟩
theorem fnWt:IsFn Tryz.prog 74 Tryz.f74:=⟨Tryz.func74,by kernel_rfl,by kernel_rfl⟩
theorem fnOr:IsFn Tryz.prog 72 Tryz.f72:=⟨Tryz.func72,by kernel_rfl,by kernel_rfl⟩
theorem zw6:IsFn Tryz.prog 75 Tryz.f75:=⟨Tryz.func75,by kernel_rfl,by kernel_rfl⟩
theorem bI2L(x y:Int)(w:World):(Instr.buildSlice 32 2 #[(0,.int .i64 x),(1,.int .i64 y)]).run Tryz.prog w=.ok (.slice (some ⟨w.heap.size,0,none⟩) 2 2) (w.alloc (.cells #[.int .i64 x,.int .i64 y] 3)):=by kernel_rfl
theorem zo1:∀ {a b:List (List Int)} (j:Nat) (h1:j<a.length) (h2:j<b.length),(∀i (h1:i<a.length) (h2:i<b.length),i<j->cmpL a[i] b[i]=0)->zmc a b=if cmpL a[j] b[j]≠0 then cmpL a[j] b[j]else zmc (a.drop (j+1)) (b.drop (j+1))
 | x::a,y::b,0,_,_,_=>rfl
 | x::a,y::b,j+1,h1,h2,h=>by
  have h0:=h 0 (by simp) (by simp) (by omega);simp only[List.getElem_cons_zero]at h0;rw[zmc,if_neg (by rw[h0];simp)];exact zo1 j (by simpa using h1) (by simpa using h2) fun i q1 q2 q3=>by
   have:=h (i+1) (by simpa using q1) (by simpa using q2) (by omega);simpa using this
theorem zo0:∀ {a b:List (List Int)},a.length=b.length->(∀i (h1:i<a.length) (h2:i<b.length),cmpL a[i] b[i]=0)->zmc a b=0
 | [],[],_,_=>rfl
 | x::a,y::b,hl,h=>by
  have h0:=h 0 (by simp) (by simp);simp only[List.getElem_cons_zero]at h0;rw[zmc,if_neg (by rw[h0];simp)];exact zo0 (by simpa using hl) fun i q1 q2=>by
   have:=h (i+1) (by simpa using q1) (by simpa using q2);simpa using this
 | [],_::_,hl,_=>by simp at hl
 | _::_,[],hl,_=>by simp at hl
theorem ztE(a:Int):cmpI a a=0:=by unfold cmpI;rw[if_neg (by omega),if_neg (by omega)]
theorem zpC(s t:SS)(v u:Value)(w:World)(hv:SV w Any s v)(hu:SV w Any t u)(hs:SmS s)(ht:SmS t)(hl:s.cells.length=t.cells.length):Calls Tryz.prog 33 #[v,u] w fun e w'=>e=.returned (.bool (znA s t))/\Below w.heap.size w w':=by
 have HV:=zh (fun w' (hb:Below w.heap.size w w')=>zo3 s v w' (hv.later hb) hs);have HU:=zh (fun w' (hb:Below w.heap.size w w')=>zo3 t u w' (hu.later hb) ht);obtain⟨A,c,B,d,D,e,rfl,hr1,hr2,hr3,-⟩:=hv;obtain⟨A',c',B',d',D',e',rfl,hq1,hq2,hq3,-⟩:=hu;have HR1:=zh (fun w' (hb:Below w.heap.size w w')=>hr1.later hb);have dh:=zh (fun w' (hb:Below w.heap.size w w')=>hq1.later hb);have qo:=zh (fun w' (hb:Below w.heap.size w w')=>zmQ s.tin t.tin B B' d d' w' (hr2.later hb) (hq2.later hb) hs.i ht.i);have xz:=zh (fun w' (hb:Below w.heap.size w w')=>zmQ s.tout t.tout D D' e e' w' (hr3.later hb) (hq3.later hb) hs.o ht.o);have HS:=zh hs;have HT:=zh ht;have HC:=zh zul;have HO:=zh zyl;obtain⟨n,hn⟩:=zX (s.cells.length);have hn2:t.cells.length=n:=by omega
 have HN:=zh (And.intro hn hn2);have bI:n<=1000:=by rw[<-hn];exact hs.n
 have iQ:=zh (show znA s t=if cmpI (wtS s) (wtS t)≠0 then decide (cmpI (wtS s) (wtS t)<0)else if zmc s.cells t.cells≠0 then decide (zmc s.cells t.cells<0)else decide (orI (cmpL s.tin t.tin) (cmpL s.tout t.tout)<0)from rfl);rw[hn]at HV ⊢;rw[hn2]at HU ⊢;obtain⟨WS,hWS⟩:=zX (wtS s);obtain⟨WT,hWT⟩:=zX (wtS t);rw[hWS]at HV iQ;rw[hWT]at HU iQ;clear hr1 hr2 hr3 hq1 hq2 hq3 hs ht hn hn2 hl hWS hWT;have hb1:=zkc (zkc (zs w) (.cells #[.slice A n c,.slice B s.tin.length d,.slice D s.tout.length e] 34)) (.cells #[.slice A' n c',.slice B' t.tin.length d',.slice D' t.tout.length e'] 34);obtain⟨N,hN⟩:=zX (w.heap.size);have k0:=zke (heap_alloc_new w (.cells #[.slice A n c,.slice B s.tin.length d,.slice D s.tout.length e] 34)) (.cells #[.slice A' n c',.slice B' t.tin.length d',.slice D' t.tout.length e'] 34)
 have k1:=heap_alloc_new (w.alloc (.cells #[.slice A n c,.slice B s.tin.length d,.slice D s.tout.length e] 34)) (.cells #[.slice A' n c',.slice B' t.tin.length d',.slice D' t.tout.length e'] 34);rw[World.size_alloc]at k1;rw[hN]at k0 k1;obtain⟨w1,hw1⟩:=zX ((w.alloc (.cells #[.slice A n c,.slice B s.tin.length d,.slice D s.tout.length e] 34)).alloc (.cells #[.slice A' n c',.slice B' t.tin.length d',.slice D' t.tout.length e'] 34));rw[hw1]at hb1 k0 k1;have HB1:=zh hb1;have aN:=zh k0;have aB:=zh k1;clear hb1 k0 k1;go_enter Tryz.func33,Tryz.ntmps33;go_upto_region 1 with fail;clear hw1 hN;have au:=zh (show ∀w',Below w1.heap.size w1 w'->(fun w':World=>(zN3 w' N (.slice A n c) (.slice B s.tin.length d) (.slice D s.tout.length e))/\zN3 w' (N+1) (.slice A' n c') (.slice B' t.tin.length d') (.slice D' t.tout.length e')) w' from fun w' hb=>⟨zkk (zka aN.out hb),zkk (zka aB.out hb)⟩)
 have hcd:=Below.drew (zs w1);have hSS:zW (fun w':World=>(zN3 w' N (.slice A n c) (.slice B s.tin.length d) (.slice D s.tout.length e))/\zN3 w' (N+1) (.slice A' n c') (.slice B' t.tin.length d') (.slice D' t.tout.length e')) zU w1.drew:=⟨au.out _ hcd,trivial⟩
 have had:Calls Tryz.prog 74 [.agg #[.slice A n c,.slice B s.tin.length d,.slice D s.tout.length e]].toArray w1.drew fun e w'=>∃v,e=.returned v/\(v=.int .i64 WS/\Below w1.heap.size w1 w'):=(HV.out _ (zkb HB1.out hcd)).mono fun e w' ⟨h1,h2⟩=>⟨_,h1,rfl,zkb hcd h2⟩
 have HUA:=zh (fun w2 (hb:Below w1.heap.size w1 w2)=>show Calls Tryz.prog 74 [.agg #[.slice A' n c',.slice B' t.tin.length d',.slice D' t.tout.length e']].toArray w2 fun e w'=>∃v,e=.returned v/\(v=.int .i64 WT/\Below w1.heap.size w1 w')from(HU.out _ (zkb HB1.out hb)).mono fun e w' ⟨h1,h2⟩=>⟨_,h1,rfl,zkb hb h2⟩);have xB:=zh (fun x y w2=>show Calls Tryz.prog 73 [.int .i64 x,.int .i64 y].toArray w2 fun e w'=>∃v,e=.returned v/\(v=.int .i64 (cmpI x y)/\w'=w2)from(HC.out x y w2).mono fun e w' ⟨h1,h2⟩=>⟨_,h1,rfl,h2⟩);have HOA:=zh (fun x y b w2 h=>show Calls Tryz.prog 72 [.slice (some ⟨b,0,none⟩) 2 2].toArray w2 fun e w'=>∃v,e=.returned v/\(v=.int .i64 (orI x y)/\w'=w2)from(HO.out x y b w2 h).mono fun e w' ⟨h1,h2⟩=>⟨_,h1,rfl,h2⟩);refine wp_region_noPanic ?_;refine zG hSS 30 ?_;refine zT 0 hSS ?_;refine zT 2 hSS ?_;refine zT 5 hSS ?_;refine zT 6 hSS ?_;refine zT 7 hSS ?_;refine zT 8 hSS ?_
 refine zT 9 hSS ?_;refine zT 10 hSS ?_;refine zo 1 fun K hK=>?_;refine zkd (by rfl) (.func 74) [.tmp 7] _ (by rfl) 74 _ fnWt (by rfl) _ (by rfl) _ had ?_;rintro v2 w2 ⟨rfl,hb2⟩;refine hK.out _ _ ⟨au.out _ hb2,trivial⟩ ?_;clear hK K had hSS hcd;(try simp only[zQ]);have had:=HUA.out _ hb2;clear hb2;refine zo 3 fun K hK=>?_;refine zkd (by rfl) (.func 74) [.tmp 9] _ (by rfl) 74 _ fnWt (by rfl) _ (by rfl) _ had ?_;rintro v3 w3 ⟨rfl,hb3⟩;refine hK.out _ _ ⟨au.out _ hb3,trivial⟩ ?_;clear hK K had HUA;(try simp only[zQ]);have had:=xB.out WS WT w3;refine zo 4 fun K hK=>?_;refine zkd (by rfl) (.func 73) [.tmp 8,.tmp 10] _ (by rfl) 73 _ zw7 (by rfl) _ (by rfl) _ had ?_;rintro v4 w4 ⟨rfl,rfl⟩;refine hK.out _ _ ⟨au.out _ hb3,trivial⟩ ?_;clear hK K had;(try simp only[zQ]);have had:=xB.out (n:Int) (n:Int) w4;rw[ztE]at had;obtain⟨z,hz⟩:=zX (cmpI WS WT);rw[hz]at iQ ⊢
 clear hz;refine zo 11 fun K hK=>?_;refine zkd (by rfl) (.func 73) [.tmp 14,.tmp 17] _ (by rfl) 73 _ zw7 (by rfl) _ (by rfl) _ had ?_;rintro v5 w5 ⟨rfl,rfl⟩;refine hK.out _ _ ⟨au.out _ hb3,trivial⟩ ?_;clear hK K had;(try simp only[zQ]);have hbi:=bI2L;have hb6:=zkb hb3 (zkc (zs w5) (.cells #[.int .i64 z,.int .i64 0] 3));have bE:=heap_alloc_new w5 (.cells #[.int .i64 z,.int .i64 0] 3);refine zo 12 fun K hK=>?_;(try simp only[zA,zB,zC]);go_simp;refine hK.out _ _ ⟨au.out _ hb6,trivial⟩ ?_;clear hK K;(try simp only[zQ]);obtain⟨w6,jT⟩:=zX (w5.alloc (.cells #[.int .i64 z,.int .i64 0] 3));rw[jT]at hb6 bE ⊢;have had:=HOA.out z 0 _ w6 bE;rw[show orI z 0=z by unfold orI;split<;>simp_all]at had;clear jT bE hb3;refine zo 13 fun K hK=>?_;refine zkd (by rfl) (.func 72) [.tmp 19] _ (by rfl) 72 _ fnOr (by rfl) _ (by rfl) _ had ?_;rintro v7 w7 ⟨rfl,rfl⟩
 refine hK.out _ _ ⟨au.out _ hb6,trivial⟩ ?_;clear hK K had;(try simp only[zQ]);have hSS:zW (fun w':World=>(zN3 w' N (.slice A n c) (.slice B s.tin.length d) (.slice D s.tout.length e))/\zN3 w' (N+1) (.slice A' n c') (.slice B' t.tin.length d') (.slice D' t.tout.length e')) zU w7:=⟨au.out _ hb6,trivial⟩
 refine zT 14 hSS ?_;refine zd ?_;refine NoPanic.normal ?_;have sW:=zh hb6;clear hSS hb6 hbi;by_cases h0:z=0;rotate_left 1
 ·have e0:(z != 0)=true:=by simpa using h0
  have HF:=zh (show znA s t=decide (z<0) by rw[iQ.out,if_pos h0]);go_wp2_with fail;go_ret;exact⟨by rw[HF.out];rfl,zkb HB1.out sW.out⟩
 subst h0;have e0:((0:Int) != 0)=false:=by simp
 have HLF:=zh (show znA s t=if zmc s.cells t.cells≠0 then decide (zmc s.cells t.cells<0)else decide (orI (cmpL s.tin t.tin) (cmpL s.tout t.tout)<0) by rw[iQ.out,if_neg (by simp)]);have hx7:=au.out _ sW.out;obtain⟨⟨x0,x1,x2⟩,-⟩:=hx7;go_wp2_with fail;clear x0 x1 x2
 go_loopw [28] (fun i wr=>∃j:Nat,j<=n/\i=.int .i64 j/\Hid (Below w1.heap.size w1 wr)/\Hid (∀i (h1:i<s.cells.length) (h2:i<t.cells.length),i<j->cmpL s.cells[i] t.cells[i]=0)) (fun i _=>n-(intOf i).toNat)
 case atStart=>exact⟨0,by omega,rfl,sW,zh fun i _ _ h=>by omega⟩
 case round =>
  obtain⟨j,hj,rfl,fB,iE⟩:=hrel;by_cases hlt:j<n
  ·have hj1:(j:Int)<(n:Int):=by omega
   have hj0:(0:Int)<=(j:Int):=by omega
   have hlj:j<s.cells.length:=by rw[HN.out.1];exact hlt
   have qK:j<t.cells.length:=by rw[HN.out.2];exact hlt
   have hbW:=zkb HB1.out fB.out;obtain⟨a,Ax,cx,hA,-,hc,-,hrx⟩:=HR1.out _ hbW j hlj;obtain⟨a',Ay,cy,hA',-,hc',-,hry⟩:=dh.out _ hbW j qK;subst hA hA';have hcd:=Below.drew (zs wr);have hcp:=zmQ s.cells[j] t.cells[j] Ax Ay cx cy wr.drew (hrx.later hcd) (hry.later hcd) (HS.out.c _ (List.getElem_mem hlj)) (HT.out.c _ (List.getElem_mem qK));have HST:=zh (zo1 j hlj qK iE.out);have rX:=zh (fun(h:cmpL s.cells[j] t.cells[j]=0)=>show ∀i (h1:i<s.cells.length) (h2:i<t.cells.length),i<j+1->cmpL s.cells[i] t.cells[i]=0 from fun i h1 h2 h3=>by
    by_cases e:i=j
    ·subst e;exact h
    ·exact iE.out i h1 h2 (by omega))
   have ng:IntKind.i64.wrap ((j:Int)+1)=(j:Int)+1:=IntWalk.i64_in _ (by omega);clear hrx hry;generalize s.cells[j]=x at *
   generalize t.cells[j]=y at *
   obtain⟨z,hz⟩:=zX (cmpL x y);rw[hz]at HST rX hcp;clear hz;have had:Calls Tryz.prog 75 [.slice Ax x.length cx,.slice Ay y.length cy].toArray wr.drew fun e w'=>∃v,e=.returned v/\(v=.int .i64 z/\Below wr.heap.size wr w'):=hcp.mono fun e w' ⟨h1,h2⟩=>⟨_,h1,rfl,zkb hcd h2⟩
   have HS2:=zh (show ∀w',Below wr.heap.size wr w'->(fun w':World=>(fun w':World=>(zN3 w' N (.slice (some a) n c) (.slice B s.tin.length d) (.slice D s.tout.length e))/\zN3 w' (N+1) (.slice (some a') n c') (.slice B' t.tin.length d') (.slice D' t.tout.length e')) w'/\w'.cell? (a.add j)=some (.slice Ax x.length cx)/\w'.cell? (a'.add j)=some (.slice Ay y.length cy)) w' from fun w' hb=>⟨au.out _ (zkb fB.out hb),zb hb hc,zb hb hc'⟩);have hSS:zW (fun w':World=>(fun w':World=>(zN3 w' N (.slice (some a) n c) (.slice B s.tin.length d) (.slice D s.tout.length e))/\zN3 w' (N+1) (.slice (some a') n c') (.slice B' t.tin.length d') (.slice D' t.tout.length e')) w'/\w'.cell? (a.add j)=some (.slice Ax x.length cx)/\w'.cell? (a'.add j)=some (.slice Ay y.length cy)) zU wr.drew:=⟨HS2.out _ hcd,trivial⟩
   clear hcp hc hc';go_upto_region 7 with fail;refine wp_region_noPanic ?_;refine zG hSS 30 ?_;refine zT 0 hSS ?_;refine zT 1 hSS ?_;refine zT 2 hSS ?_;refine zT 3 hSS ?_;refine zT 4 hSS ?_;refine zT 5 hSS ?_;refine zT 6 hSS ?_;refine zT 7 hSS ?_;refine zT 8 hSS ?_;refine zT 9 hSS ?_;refine zo 10 fun K hK=>?_;refine zkd (by rfl) (.func 75) [.tmp 35,.tmp 40] _ (by rfl) 75 _ zw6 (by rfl) _ (by rfl) _ had ?_;rintro v8 w8 ⟨rfl,bJ⟩;have ym:=zV hSS (HS2.out _ bJ) trivial;refine hK.out _ _ ym ?_;have bD:=zh (zkb fB.out bJ);clear hK K had hSS hcd bJ hbW;(try simp only[zQ]);refine zT 11 ym ?_;refine zd ?_;refine NoPanic.normal ?_;clear ym HS2;by_cases h0:z=0
   ·subst h0;go_wp2_with fail
    go_roundw
    case rel=>exact⟨j+1,by omega,by go_num,bD,zh (rX.out rfl)⟩
    case measure=>simp[intOf];omega
   ·have e9:(z != 0)=true:=by simpa using h0
    have HG:=zh (show znA s t=decide (z<0) by rw[HLF.out,HST.out,if_pos h0,if_pos h0]);go_wp2_with fail;go_ret;exact⟨by rw[HG.out];rfl,zkb HB1.out bD.out⟩
  ·obtain rfl:n=j:=by omega
   have HG:=zh (show znA s t=decide (orI (cmpL s.tin t.tin) (cmpL s.tout t.tout)<0) by
    rw[HLF.out,if_neg];rw[zo0 (by rw[HN.out.1,HN.out.2]) fun i h1 h2=>iE.out i h1 h2 (by have:=HN.out.1;omega)];simp)
   have hcd:=Below.drew (zs wr);have HS2:=zh (show ∀w',Below wr.heap.size wr w'->(fun w':World=>(zN3 w' N (.slice A n c) (.slice B s.tin.length d) (.slice D s.tout.length e))/\zN3 w' (N+1) (.slice A' n c') (.slice B' t.tin.length d') (.slice D' t.tout.length e')) w' from fun w' hb=>au.out _ (zkb fB.out hb));have hSS:zW (fun w':World=>(zN3 w' N (.slice A n c) (.slice B s.tin.length d) (.slice D s.tout.length e))/\zN3 w' (N+1) (.slice A' n c') (.slice B' t.tin.length d') (.slice D' t.tout.length e')) zU wr.drew:=⟨HS2.out _ hcd,trivial⟩
   obtain⟨z1,hz1⟩:=zX (cmpL s.tin t.tin);obtain⟨z2,hz2⟩:=zX (cmpL s.tout t.tout);rw[hz1]at qo HG;rw[hz2]at xz HG;have had:Calls Tryz.prog 75 [.slice B s.tin.length d,.slice B' t.tin.length d'].toArray wr.drew fun e w'=>∃v,e=.returned v/\(v=.int .i64 z1/\Below wr.heap.size wr w'):=(qo.out _ (zkb HB1.out (zkb fB.out hcd))).mono fun e w' ⟨h1,h2⟩=>⟨_,h1,rfl,zkb hcd h2⟩
   have HCO2:=zh (fun w2 (hb:Below wr.heap.size wr w2)=>show Calls Tryz.prog 75 [.slice D s.tout.length e,.slice D' t.tout.length e'].toArray w2 fun e w'=>∃v,e=.returned v/\(v=.int .i64 z2/\Below wr.heap.size wr w')from(xz.out _ (zkb HB1.out (zkb fB.out hb))).mono fun e w' ⟨h1,h2⟩=>⟨_,h1,rfl,zkb hb h2⟩);clear hz1 hz2;go_upto_region 11 with fail;refine wp_region_noPanic ?_;refine zG hSS 30 ?_;refine zT 0 hSS ?_;refine zT 1 hSS ?_;refine zT 2 hSS ?_;refine zT 3 hSS ?_;refine zT 5 hSS ?_;refine zT 6 hSS ?_;refine zT 7 hSS ?_;refine zT 8 hSS ?_;refine zo 4 fun K hK=>?_;refine zkd (by rfl) (.func 75) [.tmp 48,.tmp 50] _ (by rfl) 75 _ zw6 (by rfl) _ (by rfl) _ had ?_;rintro v8 w8 ⟨rfl,bJ⟩;refine hK.out _ _ ⟨HS2.out _ bJ,trivial⟩ ?_;have had:=HCO2.out _ bJ;clear hK K hSS hcd bJ;(try simp only[zQ]);refine zo 9 fun K hK=>?_
   refine zkd (by rfl) (.func 75) [.tmp 53,.tmp 55] _ (by rfl) 75 _ zw6 (by rfl) _ (by rfl) _ had ?_;rintro v9 w9 ⟨rfl,aD⟩;refine hK.out _ _ ⟨HS2.out _ aD,trivial⟩ ?_;clear hK K had;(try simp only[zQ]);have hbi:=bI2L;have hb6:=zkb aD (zkc (zs w9) (.cells #[.int .i64 z1,.int .i64 z2] 3));have bE:=heap_alloc_new w9 (.cells #[.int .i64 z1,.int .i64 z2] 3);refine zo 10 fun K hK=>?_;(try simp only[zA,zB,zC]);go_simp;refine hK.out _ _ ⟨HS2.out _ hb6,trivial⟩ ?_;clear hK K;(try simp only[zQ]);obtain⟨wa,lG⟩:=zX (w9.alloc (.cells #[.int .i64 z1,.int .i64 z2] 3));rw[lG]at hb6 bE ⊢;have had:=HOA.out z1 z2 _ wa bE;clear lG bE aD;refine zo 11 fun K hK=>?_;refine zkd (by rfl) (.func 72) [.tmp 57] _ (by rfl) 72 _ fnOr (by rfl) _ (by rfl) _ had ?_;rintro vb wb ⟨rfl,rfl⟩;refine hK.out _ _ ⟨HS2.out _ hb6,trivial⟩ ?_;clear hK K had;(try simp only[zQ])
   have hSS:zW (fun w':World=>(zN3 w' N (.slice A n c) (.slice B s.tin.length d) (.slice D s.tout.length e))/\zN3 w' (N+1) (.slice A' n c') (.slice B' t.tin.length d') (.slice D' t.tout.length e')) zU wb:=⟨HS2.out _ hb6,trivial⟩
   refine zT 12 hSS ?_;refine zT 13 hSS ?_;refine zd ?_;refine NoPanic.normal ?_;have aU:=zh (zkb fB.out hb6);clear hSS hb6 hbi HS2;go_wp2_with fail;go_ret;exact⟨by rw[HG.out];rfl,zkb HB1.out aU.out⟩
theorem zqL{a b:Int}:cmpI a b<0↔a<b:=by
 unfold cmpI;by_cases h1:a<b
 ·rw[if_pos h1];exact⟨fun _=>h1,fun _=>by decide⟩
 ·rw[if_neg h1];by_cases h2:b<a
  ·rw[if_pos h2];exact⟨fun h=>by simp at h,fun h=>absurd h h1⟩
  ·rw[if_neg h2];exact⟨fun h=>by simp at h,fun h=>absurd h h1⟩
theorem zpv{a b:Int}:cmpI a b=0↔a=b:=by
 unfold cmpI;by_cases h1:a<b
 ·rw[if_pos h1];exact⟨fun h=>by simp at h,fun h=>by omega⟩
 ·rw[if_neg h1];by_cases h2:b<a
  ·rw[if_pos h2];exact⟨fun h=>by simp at h,fun h=>by omega⟩
  ·rw[if_neg h2];exact⟨fun _=>by omega,fun _=>rfl⟩
theorem ztA:∀ {a b:List Int},cmpR a b<0->lexR a b
 | x::a,y::b,h=>by
  rw[cmpR]at h;by_cases h0:cmpI (rnk x) (rnk y)=0
  ·rw[if_neg (by rw[h0];simp)]at h;exact Or.inr ⟨zsD (zpv.1 h0),ztA h⟩
  ·rw[if_pos h0]at h;exact Or.inl (zqL.1 h)
 | [],_,h=>by simp[cmpR]at h
 | _::_,[],h=>by simp[cmpR]at h
theorem ztB:∀ {a b:List Int},a.length=b.length->cmpR a b=0->a=b
 | x::a,y::b,hl,h=>by
  rw[cmpR]at h;by_cases h0:cmpI (rnk x) (rnk y)=0
  ·rw[if_neg (by rw[h0];simp)]at h;rw[zsD (zpv.1 h0),ztB (by simpa using hl) h]
  ·rw[if_pos h0]at h;exact absurd h h0
 | [],[],_,_=>rfl
 | [],_::_,hl,_=>by simp at hl
 | _::_,[],hl,_=>by simp at hl
theorem ztC{a b:List Int}(h:cmpL a b<0):ltL a b:=by
 unfold cmpL at h;by_cases hl:a.length=b.length
 ·rw[if_neg (by simpa using hl)]at h;exact Or.inr ⟨hl,ztA h⟩
 ·rw[if_pos hl]at h;exact Or.inl (by have:=zqL.1 h;omega)
theorem ztD{a b:List Int}(h:cmpL a b=0):a=b:=by
 unfold cmpL at h;by_cases hl:a.length=b.length
 ·rw[if_neg (by simpa using hl)]at h;exact ztB hl h
 ·rw[if_pos hl]at h;exact absurd (zpv.1 h) (by omega)
theorem zrv:∀ {a b:List (List Int)} (c d:List (List Int)),zmc a b<0->ltLL (a++c) (b++d)
 | x::a,y::b,c,d,h=>by
  rw[zmc]at h;by_cases h0:cmpL x y=0
  ·rw[if_neg (by rw[h0];simp)]at h;exact Or.inr ⟨ztD h0,zrv c d h⟩
  ·rw[if_pos h0]at h;exact Or.inl (ztC h)
 | [],_,_,_,h=>by simp[zmc]at h
 | _::_,[],_,_,h=>by simp[zmc]at h
theorem zrw:∀ {a b:List (List Int)},a.length=b.length->zmc a b=0->a=b
 | x::a,y::b,hl,h=>by
  rw[zmc]at h;by_cases h0:cmpL x y=0
  ·rw[if_neg (by rw[h0];simp)]at h;rw[ztD h0,zrw (by simpa using hl) h]
  ·rw[if_pos h0]at h;exact absurd h h0
 | [],[],_,_=>rfl
 | [],_::_,hl,_=>by simp at hl
 | _::_,[],hl,_=>by simp at hl
theorem zrg:∀(a:List (List Int)) {u v:List Int},ltL u v->ltLL (a++[u]) (a++[v])
 | [],_,_,h=>Or.inl h
 | x::a,_,_,h=>Or.inr ⟨rfl,zrg a h⟩
theorem zxC(a b:List (List Int)):wt (a++b)=wt a+wt b:=by simp[wt]
theorem zmZ{x:List (List Int)}(hx:x≠[]):x=(stOf x).cells++[(stOf x).tin]:=by
 show x=x.dropLast++[x.getLastD []]
 rw[List.getLastD_eq_getLast?,List.getLast?_eq_some_getLast hx];simp[List.dropLast_concat_getLast hx]
theorem zwc{x:List (List Int)}(hx:x≠[]):wtS (stOf x)=wt x:=by
 have h:=congrArg wt (zmZ hx);rw[h,zxC];unfold wtS
 show lw (stOf x).tin+lw []+wt (stOf x).cells=_
 simp only[znP,lw,wt,List.map_nil,List.sum_nil,List.map_cons,List.sum_cons];omega
theorem zwQ{x y:List (List Int)}(hx:x≠[])(hy:y≠[])(hl:x.length=y.length)(h:znA (stOf x) (stOf y)=true):ltB x y:=by
 unfold znA at h;rw[zwc hx,zwc hy]at h;by_cases h0:cmpI (wt x) (wt y)=0
 ·rw[if_neg (by rw[h0];simp)]at h;refine Or.inr ⟨zpv.1 h0,?_⟩;have hc:(stOf x).cells.length=(stOf y).cells.length:=by simp[stOf,hl]
  rw[zmZ hx,zmZ hy];by_cases h1:zmc (stOf x).cells (stOf y).cells=0
  ·rw[if_neg (by rw[h1];simp)]at h;rw[zrw hc h1];refine zrg _ (ztC ?_);have ho:orI (cmpL (stOf x).tin (stOf y).tin) (cmpL (stOf x).tout (stOf y).tout)=cmpL (stOf x).tin (stOf y).tin:=by
    show orI _ (cmpL [] [])=_
    unfold orI
    split
    ·rfl
    ·rename_i h2;simp only[Decidable.not_not]at h2;rw[h2];rfl
   rw[ho]at h;exact of_decide_eq_true h
  ·rw[if_pos h1]at h;exact zrv _ _ (of_decide_eq_true h)
 ·rw[if_pos h0]at h;exact Or.inl (zqL.1 (of_decide_eq_true h))
def RSt(n:Nat)(s t:SS):Prop:=∃x y,s=stOf x/\t=stOf y/\x.length=n+1/\y.length=n+1/\ltB x y
theorem zpN{x y:List (List Int)}(hx:x≠[])(hy:y≠[])(h:stOf x=stOf y):x=y:=by rw[zmZ hx,zmZ hy,h]
theorem zlG{α:Type}{x:List α}{n:Nat}(h:x.length=n+1):x≠[]:=by rintro rfl;simp at h
theorem RSt.asymm{n:Nat}{s t:SS}(h:RSt n s t):¬ RSt n t s:=fun h'=>by
 obtain⟨x,y,rfl,rfl,hx,hy,hlt⟩:=h;obtain⟨x',y',h1,h2,hx',hy',hlt'⟩:=h';rw[zpN (zlG hy) (zlG hx') h1,zpN (zlG hx) (zlG hy') h2]at hlt;exact zsW hlt hlt'
structure InB(vs:List VD)(x:SS):Prop where
 st:∃y,x=stOf y/\y.length=vs.length+1
 sm:SmS x
 n:x.cells.length=vs.length
theorem zmR{vs:List VD}{b:BX}(h:(b.ok&&svB vs)=true):(allS b (lenE vs b)).Pairwise (RSt vs.length):=by
 have h2:=zlq h;unfold allS;rw[List.pairwise_map];refine List.Pairwise.imp_of_mem (fun {x y} hx hy hxy=>⟨x,y,rfl,rfl,?_,?_,hxy⟩) (zqO (h:=2*b.v+1) (by omega) (lenE vs b))
 ·rw[(zm8 rfl x hx).len,h2.1]
 ·rw[(zm8 rfl y hy).len,h2.1]
theorem zmt{vs:List VD}{b:BX}(h:(b.ok&&svB vs)=true):∀x∈allS b (lenE vs b),InB vs x:=by
 intro x hx;obtain⟨y,hy,rfl⟩:=List.mem_map.1 hx;have h1:=zm8 rfl y hy;have h2:=zlq h;have h3:=h1.len;rw[h2.1]at h3;have hc:(stOf y).cells.length=vs.length:=by simp[stOf,h3]
 have h4:∀i (hi:i<y.length),SmI y[i]:=fun i hi=>by
  have h5:=h1.get i (by rw[h2.1];omega) hi;have h6:=(h2.2.2.1 _ (List.getElem_mem (show i<(lenE vs b).length by rw[h2.1];omega))).2.2;have h7:=h2.2.2.2;exact⟨by omega,fun e he=>by have:=h5.2.2 e he;omega⟩
 have h7:∀l∈y,SmI l:=fun l hl=>by obtain⟨i,hi,rfl⟩:=List.mem_iff_getElem.1 hl;exact h4 i hi
 refine⟨⟨y,rfl,h3⟩,⟨by omega,fun l hl=>h7 l ((List.dropLast_sublist y).subset hl),?_,⟨Nat.zero_le _,fun e he=>by cases he⟩⟩,hc⟩
 show SmI (y.getLastD [])
 rw[znu (n:=y.length) rfl (by omega)];exact h4 _ (by omega)
theorem zxL{v e:Int}:(-v<=e/\e<=v)->rnk e<2*v+1:=fun h=>by unfold rnk;split<;>omega
theorem zwm{v:Int}:∀ {bs:List Bn} {x:List (List Int)},FitB v bs x->FitH (2*v+1) bs x
 | [],[],_=>trivial
 | (_,_)::bs,x::xs,h=>⟨h.1,h.2.1,fun e he=>zxL (h.2.2.1 e he),zwm h.2.2.2⟩
 | [],_::_,h=>h.elim
 | (_,_)::_,[],h=>h.elim
structure GeB(b c:BX):Prop where
 v:b.v<=c.v
 l:b.l<=c.l
 i:b.i<=c.i
theorem zpz{vs:List VD}{b c:BX}(h:(b.ok&&svB vs)=true)(hc:(c.ok&&svB vs)=true)(hg:GeB b c):∀x∈allS b (lenE vs b),x∈allS c (lenE vs c):=by
 intro x hx;obtain⟨y,hy,rfl⟩:=List.mem_map.1 hx;have h2:=zlq h;have h3:=zlq hc;have hf:=zwm (zm8 rfl y hy);have:=hg.v;have h4:=hg.l;have h5:=hg.i;refine List.mem_map.2 ⟨y,(zvO (by omega) y).2 (hf.mono (by omega) (by rw[h2.1,h3.1]) fun i q1 q2=>?_),rfl⟩;by_cases hi:i<vs.length
 ·simp only[lenE];rw[List.getElem_append_left (by simpa using hi),List.getElem_append_left (by simpa using hi),List.getElem_map,List.getElem_map];unfold len1
  split
  ·exact⟨zl,by simp only;omega⟩
  ·exact⟨zl,zl⟩
 ·have e:i=vs.length:=by rw[h2.1]at q1;omega
  subst e;simp only[lenE];rw[List.getElem_append_right (by simp),List.getElem_append_right (by simp)];simp only[List.length_map,Nat.sub_self,List.getElem_cons_zero];exact⟨zl,by omega⟩
theorem zn3{f:SS->Option SS}{q s:SS}:∀(l pre:List SS),zlB f pre l=some (q,s)->∃a b x,l=a++s::b/\f s=some x/\f q=some x/\q∈pre++a
 | [],_,h=>by simp[zlB]at h
 | r::l,pre,h=>by
  rw[zlB]at h;have key:zlB f (pre++[r]) l=some (q,s)->∃a b x,r::l=a++s::b/\f s=some x/\f q=some x/\q∈pre++a:=fun h=>by
   obtain⟨a,b,x,rfl,h1,h2,h3⟩:=zn3 l _ h;exact⟨r::a,b,x,rfl,h1,h2,by simpa using h3⟩
  cases hr:f r with
  | none=>rw[hr]at h;exact key h
  | some x =>
   rw[hr]at h;simp only at h
   cases hf:pre.find? (hitE f x)with
   | none=>rw[hf]at h;exact key h
   | some p =>
    rw[hf]at h;injection h with h;injection h with h1 h2;subst h1 h2;exact⟨[],l,x,rfl,hr,zm2.1 (List.find?_some hf),by simpa using List.mem_of_find?_eq_some hf⟩
theorem zns{f:SS->Option SS}{q s x:SS}{b:List SS}(hs:f s=some x)(hq:f q=some x):∀(a pre:List SS),q∈pre++a->∃q' s',zlB f pre (a++s::b)=some (q',s')/\s'∈a++[s]
 | [],pre,h=>by
  rw[List.nil_append,zlB,hs];simp only
  cases hf:pre.find? (hitE f x)with
  | none=>exact absurd (zm2.2 hq) (by have:=List.find?_eq_none.1 hf q (by simpa using h);simpa using this)
  | some p=>exact⟨p,s,rfl,by simp⟩
 | r::a,pre,h=>by
  have key:∃q' s',zlB f (pre++[r]) (a++s::b)=some (q',s')/\s'∈r::a++[s]:=by
   obtain⟨q',s',h1,h2⟩:=zns hs hq a (pre++[r]) (by simpa using h);exact⟨q',s',h1,by simp at h2 ⊢;exact .inr h2⟩
  rw[List.cons_append,zlB]
  cases hr:f r with
  | none=>exact key
  | some y =>
   simp only
   cases hf:pre.find? (hitE f y)with
   | none=>exact key
   | some p=>exact⟨p,r,rfl,by simp⟩
theorem zrd{n:Nat}{vs:List VD}{s s':SS}(hn:vs.length=n)(hs:InB vs s)(hs':InB vs s')(h:s'=s\/RSt n s' s):znA s s'=false:=by
 cases hb:znA s s' with
 | false=>rfl
 | true =>
  obtain⟨x,rfl,hx⟩:=hs.st;obtain⟨y,rfl,hy⟩:=hs'.st;have hlt:=zwQ (zlG hx) (zlG hy) (by omega) hb;have hr:RSt n (stOf x) (stOf y):=⟨x,y,rfl,rfl,by omega,by omega,hlt⟩
  rcases h with h|h
  ·rw[h]at hr;exact absurd hr hr.asymm
  ·exact absurd hr h.asymm
theorem zu8{vs:List VD}{b c:BX}{t:T}{F:Int}(hs:smL vs b=true)(hc:smL vs c=true)(hg:GeB b c)(h0:(cntR vs c).2=0) :
  (∀q s,losE t vs b=some (q,s)->InB vs s/\∃q' s',losE t vs c=some (q',s')/\InB vs s'/\znA s s'=false)/\(∀s,zms t vs b F=some s->InB vs s/\∃s',zms t vs c F=some s'/\InB vs s'/\znA s s'=false):=by
 have hcm:smlE vs c=true:=by
  unfold smL at hc;simp only[Bool.and_eq_true,Bool.or_eq_true,decide_eq_true_eq]at hc;unfold smlE;simp only[Bool.and_eq_true,decide_eq_true_eq];refine⟨h0,?_⟩;rcases hc.2 with h|h
  ·rw[h0]at h;cases h
  ·omega
 have hck:=(znU hcm).1
 constructor
 ·intro q s h;unfold losE at h ⊢
  split at h
  ·rename_i yc;have hbk:=(znU yc).1;rw[if_pos hcm];obtain⟨a,b',x,e,h1,h2,h3⟩:=zn3 _ _ h;rw[List.nil_append]at h3;have hsb:s∈allS b (lenE vs b):=by rw[e];simp
   have hqb:q∈allS b (lenE vs b):=by rw[e];simp[h3]
   have pJ:RSt vs.length q s:=by
    have:=zmR hbk;rw[e,List.pairwise_append]at this;exact this.2.2 q h3 s (by simp)
   obtain⟨a',b'',e'⟩:=List.append_of_mem (zpz hbk hck hg s hsb);have hp:=zmR hck;rw[e',List.pairwise_append]at hp;have hqa:q∈a':=by
    have:=zpz hbk hck hg q hqb;rw[e']at this;rcases List.mem_append.1 this with h|h
    ·exact h
    ·rcases List.mem_cons.1 h with h|h
     ·rw[h]at pJ;exact absurd pJ pJ.asymm
     ·exact absurd pJ ((List.pairwise_cons.1 hp.2.1).1 q h).asymm
   obtain⟨q',s',h4,h5⟩:=zns (b:=b'') h1 h2 a' [] (by simpa using hqa);have hs':s'∈allS c (lenE vs c):=by rw[e'];simp at h5 ⊢;rcases h5 with h|h;exact .inl h;exact .inr (.inl h)
   refine⟨zmt hbk s hsb,q',s',by rw[e'];exact h4,zmt hck s' hs',zrd rfl (zmt hbk s hsb) (zmt hck s' hs') ?_⟩;rcases List.mem_append.1 h5 with h|h
   ·exact .inr (hp.2.2 s' h s (by simp))
   ·exact .inl (by simpa using h)
  ·cases h
 ·intro s h;unfold zms at h ⊢
  split at h
  ·rename_i yc;have hbk:=(znU yc).1;rw[if_pos hcm];have hsb:=List.mem_of_find?_eq_some h;have hfs:=List.find?_some h;have hsc:=zpz hbk hck hg s hsb
   cases hf:(allS c (lenE vs c)).find? (zog (zlP vs [] t) F)with
   | none=>exact absurd hfs (by have:=List.find?_eq_none.1 hf s hsc;simpa using this)
   | some s' =>
    have hs':=List.mem_of_find?_eq_some hf;refine⟨zmt hbk s hsb,s',rfl,zmt hck s' hs',zrd rfl (zmt hbk s hsb) (zmt hck s' hs') ?_⟩;obtain⟨h1,a,b',e,h2⟩:=List.find?_eq_some_iff_append.1 hf;have hp:=zmR hck;rw[e]at hsc hp;rcases List.mem_append.1 hsc with h|h
    ·have:=h2 s h;rw[hfs]at this;cases this
    ·rcases List.mem_cons.1 h with h|h
     ·exact .inl h.symm
     ·exact .inr ((List.pairwise_cons.1 (List.pairwise_append.1 hp).2.1).1 s h)
  ·cases h
def maxB(b c:BX):BX:=⟨max b.v c.v,max b.l c.l,max b.i c.i⟩
theorem zwO(b c:BX):GeB b (maxB b c):=⟨by unfold maxB;simp only;omega,by unfold maxB;simp only;omega,by unfold maxB;simp only;omega⟩
theorem zyR(x y z:Int)(w:World):(Instr.build 27 #[(0,.int .i64 x),(1,.int .i64 y),(2,.int .i64 z)]).run Tryz.prog w=.ok (.agg #[.int .i64 x,.int .i64 y,.int .i64 z]) w:=by kernel_rfl
theorem LosP.parts{r:Option (SS×SS)}{W W':World}{e:Ending}(h:LosP r W e W'):Below W.heap.size W W'/\∃A0 l0 c0 B0 m0 d0 D0 k0 e0 A1 l1 c1 B1 m1 d1 D1 k1 e1 b,e=.returned (.tuple #[.agg #[.slice A0 l0 c0,.slice B0 m0 d0,.slice D0 k0 e0,.slice A1 l1 c1,.slice B1 m1 d1,.slice D1 k1 e1],.bool b]) /\
  ((r=none/\b=false)\/∃q s,r=some (q,s)/\b=true/\SV W' Any s (.agg #[.slice A1 l1 c1,.slice B1 m1 d1,.slice D1 k1 e1])):=by
 obtain⟨hb,a0,a1,a2,a3,a4,a5,b,rfl,h⟩:=h;refine⟨hb,?_⟩;rcases h with⟨h1,h2,h⟩|⟨q,s,h1,h2,hq,hs⟩
 ·simp only[Array.mk.injEq,List.cons.injEq,and_true]at h;obtain⟨rfl,rfl,rfl,rfl,rfl,rfl⟩:=h;exact⟨_,_,_,_,_,_,_,_,_,_,_,_,_,_,_,_,_,_,_,rfl,.inl ⟨h1,h2⟩⟩
 ·have hs2:=hs.any;obtain⟨A,c,B,d,D,e,h,-⟩:=hq;obtain⟨A',c',B',d',D',e',h',-⟩:=hs;injection h with h;injection h' with h';simp only[Array.mk.injEq,List.cons.injEq,and_true]at h h';obtain⟨rfl,rfl,rfl⟩:=h;obtain⟨rfl,rfl,rfl⟩:=h';exact⟨_,_,_,_,_,_,_,_,_,_,_,_,_,_,_,_,_,_,_,rfl,.inr ⟨q,s,h1,h2,hs2⟩⟩
theorem zv9.parts{r:Option SS}{W W':World}{e:Ending}(h:zv9 r W e W'):Below W.heap.size W W'/\∃A1 l1 c1 B1 m1 d1 D1 k1 e1 b,e=.returned (.tuple #[.agg #[.slice A1 l1 c1,.slice B1 m1 d1,.slice D1 k1 e1],.bool b]) /\
  ((r=none/\b=false)\/∃s,r=some s/\b=true/\SV W' Any s (.agg #[.slice A1 l1 c1,.slice B1 m1 d1,.slice D1 k1 e1])):=by
 obtain⟨hb,v,b,rfl,h⟩:=h;refine⟨hb,?_⟩;rcases h with⟨h1,h2,rfl⟩|⟨s,h1,h2,hs⟩
 ·exact⟨_,_,_,_,_,_,_,_,_,_,rfl,.inl ⟨h1,h2⟩⟩
 ·have hs2:=hs.any;obtain⟨A,c,B,d,D,e,rfl,-⟩:=hs;exact⟨_,_,_,_,_,_,_,_,_,_,rfl,.inr ⟨s,h1,h2,hs2⟩⟩
theorem zui(haw:AwP){W:World}{vs:List VD}{b m:BX}{t:T}{v:Value}{A1:Option Addr}{c1:Nat}{u:Int}(hv:NV W Any t v)(hr:RowV W Any A1 vs)(hl:vs.length<=LV)(hlc:vs.length<=c1)(hu:0<=u/\u<=255) :
  Calls Tryz.prog 7 #[v,.slice A1 vs.length c1,.agg #[.int .i64 b.v,.int .i64 b.l,.int .i64 b.i],.agg #[.int .i64 m.v,.int .i64 m.l,.int .i64 m.i],.int .u8 u] W fun e w'=>e=.returned (.bool true)/\Below W.heap.size W w':=by
 have vX:=zh haw;have HBIG:=zh (fun w' (hb:Below W.heap.size W w')=>zwb t v w' (hv.later hb));have HSML:=zh (fun b w' (hb:Below W.heap.size W w')=>zrK vs b A1 c1 w' (hr.later hb) hl);have HCNT:=zh (fun b w' (hb:Below W.heap.size W w')=>zon vs b A1 c1 w' (hr.later hb) hl);have rZ:=zh (fun b w' (hb:Below W.heap.size W w')=>zqg (b:=b) (c1:=c1) (hv.later hb) (hr.later hb) hl);have jD:=zh (fun b w' (hb:Below W.heap.size W w')=>zny (b:=b) (F:=2*u) (hv.later hb) (hr.later hb) hl hlc ⟨by omega,by omega⟩ (by omega));obtain⟨mx,hmx⟩:=zX (maxB b m);have dE:=zh (fun(h1:smL vs b=true) (h2:smL vs mx=true) h0=>zu8 (t:=t) (F:=2*u) h1 h2 (hmx▸zwO b m) h0);have yQ:=zh (show mx.v=max b.v m.v/\mx.l=max b.l m.l/\mx.i=max b.i m.i from by rw[<-hmx];exact⟨rfl,rfl,rfl⟩);clear hmx;obtain⟨A3,c3,rfl,-⟩:=hv.open_;obtain⟨k,n,nm,ks⟩:=t;obtain⟨bv,bl,bi⟩:=b
 obtain⟨mv,ml,mi⟩:=m;obtain⟨xv,xl,xi⟩:=mx;obtain⟨rfl,rfl,rfl⟩:=yQ.out;simp only[T.k_nd,T.n_nd,T.s_nd,T.ks_nd]at HBIG jD rZ dE ⊢;obtain⟨N,hN⟩:=zX (W.heap.size);obtain⟨hb1,hz1,k0,k1,k2⟩:=al3 W (.cells #[.int .u8 k,.int .i64 n,.string nm,.slice A3 ks.length c3] 24) (.cells #[.int .i64 bv,.int .i64 bl,.int .i64 bi] 27) (.cells #[.int .i64 mv,.int .i64 ml,.int .i64 mi] 27);obtain⟨w1,hw1⟩:=zX (((W.alloc (.cells #[.int .u8 k,.int .i64 n,.string nm,.slice A3 ks.length c3] 24)).alloc (.cells #[.int .i64 bv,.int .i64 bl,.int .i64 bi] 27)).alloc (.cells #[.int .i64 mv,.int .i64 ml,.int .i64 mi] 27));rw[hw1]at hb1 k0 k1 k2 hz1;rw[hN]at k0 k1 k2 hz1;have HB1:=zh hb1;have aN:=zh k0;have aB:=zh k1;have aI:=zh k2;have HN:=zh hN;have hwu:IntKind.i64.wrap u=u:=IntWalk.i64_in _ (by omega);have uB:IntKind.i64.wrap (2*u)=2*u:=IntWalk.i64_in _ (by omega);have hbb:=zyR
 show Calls Tryz.prog 7 #[.agg #[.int .u8 k,.int .i64 n,.string nm,.slice A3 ks.length c3],.slice A1 vs.length c1,.agg #[.int .i64 bv,.int .i64 bl,.int .i64 bi],.agg #[.int .i64 mv,.int .i64 ml,.int .i64 mi],.int .u8 u] W _
 clear hv hr hl hlc hb1 k0 k1 k2 haw;go_enter Tryz.func7,Tryz.ntmps7;go_wp2_with fail;clear hw1;refine(vX.out _).mono ?_;rintro e2 w2 ⟨rfl,hb2⟩;have HB2:=zh (zkb HB1.out hb2);have fA:=zh (zka aN.out hb2);have dO:=zh (zka aB.out hb2);obtain⟨y0,y1,y2⟩:=zkk dO.out;obtain⟨z0,z1,z2⟩:=zkk (zka aI.out hb2);clear hb2;go_upto_region 4 with fail;clear y0 y1 y2 z0 z1 z2;have hk3:=heap_alloc_new w2 (.cells #[.int .i64 (max bv mv),.int .i64 (max bl ml),.int .i64 (max bi mi)] 27);have hb3:=zkc (zs w2) (.cells #[.int .i64 (max bv mv),.int .i64 (max bl ml),.int .i64 (max bi mi)] 27);obtain⟨xb,hxb⟩:=zX (w2.heap.size);obtain⟨w3,hw3⟩:=zX (w2.alloc (.cells #[.int .i64 (max bv mv),.int .i64 (max bl ml),.int .i64 (max bi mi)] 27));rw[hw3]at hk3 hb3 ⊢;rw[hxb]at hk3 ⊢;have HB:=zh (zkb HB2.out hb3);have bC:=zh (zka fA.out hb3);have aQ:=zh (zka dO.out hb3);have bA:=zh hk3
 have hb:=Below.refl w3.heap.size w3;clear hw3 hk3 hb3 hxb HB2 fA dO HB1 aN aB aI
 replace HB:=zh (zkb HB.out hb)
 replace bC:=zh (zka bC.out hb)
 replace aQ:=zh (zka aQ.out hb)
 replace bA:=zh (zka bA.out hb)
 try replace dD:=zh (zka dD.out hb)
 try replace H7:=zh (fun q s h=>And.intro (H7.out q s h).1 ((H7.out q s h).2.later hb))
 try replace bT:=zh (zka bT.out hb)
 try replace H8:=zh (fun q s h=>And.intro (H8.out q s h).1 ((H8.out q s h).2.later hb))
 try replace dC:=zh (zka dC.out hb)
 try replace H9:=zh (fun s h=>And.intro (H9.out s h).1 ((H9.out s h).2.later hb))
 try replace dB:=zh (zka dB.out hb)
 try replace Ha:=zh (fun s h=>And.intro (Ha.out s h).1 ((Ha.out s h).2.later hb))
 clear hb;obtain⟨x0,x1,x2,x3⟩:=box4 bC.out;obtain⟨y0,y1,y2⟩:=zkk aQ.out;obtain⟨z0,z1,z2⟩:=zkk bA.out;go_wp2_with fail;refine(HBIG.out _ HB.out).mono ?_;rintro e4 w4 ⟨bg,rfl,hb⟩;clear x0 x1 x2 x3 y0 y1 y2 z0 z1 z2
 replace HB:=zh (zkb HB.out hb)
 replace bC:=zh (zka bC.out hb)
 replace aQ:=zh (zka aQ.out hb)
 replace bA:=zh (zka bA.out hb)
 try replace dD:=zh (zka dD.out hb)
 try replace H7:=zh (fun q s h=>And.intro (H7.out q s h).1 ((H7.out q s h).2.later hb))
 try replace bT:=zh (zka bT.out hb)
 try replace H8:=zh (fun q s h=>And.intro (H8.out q s h).1 ((H8.out q s h).2.later hb))
 try replace dC:=zh (zka dC.out hb)
 try replace H9:=zh (fun s h=>And.intro (H9.out s h).1 ((H9.out s h).2.later hb))
 try replace dB:=zh (zka dB.out hb)
 try replace Ha:=zh (fun s h=>And.intro (Ha.out s h).1 ((Ha.out s h).2.later hb))
 clear hb;obtain⟨x0,x1,x2,x3⟩:=box4 bC.out;obtain⟨y0,y1,y2⟩:=zkk aQ.out;obtain⟨z0,z1,z2⟩:=zkk bA.out
 cases bg
 rotate_left 1
 ·go_wp2_with fail;go_ret;exact⟨rfl,HB.out⟩
 go_wp2_with fail;refine(HSML.out ⟨bv,bl,bi⟩ _ HB.out).mono ?_;obtain⟨sm,hsm⟩:=zX (smL vs ⟨bv,bl,bi⟩);rw[hsm];have HS:=zh hsm;clear hsm;rintro e5 w5 ⟨rfl,hb⟩;clear x0 x1 x2 x3 y0 y1 y2 z0 z1 z2
 replace HB:=zh (zkb HB.out hb)
 replace bC:=zh (zka bC.out hb)
 replace aQ:=zh (zka aQ.out hb)
 replace bA:=zh (zka bA.out hb)
 try replace dD:=zh (zka dD.out hb)
 try replace H7:=zh (fun q s h=>And.intro (H7.out q s h).1 ((H7.out q s h).2.later hb))
 try replace bT:=zh (zka bT.out hb)
 try replace H8:=zh (fun q s h=>And.intro (H8.out q s h).1 ((H8.out q s h).2.later hb))
 try replace dC:=zh (zka dC.out hb)
 try replace H9:=zh (fun s h=>And.intro (H9.out s h).1 ((H9.out s h).2.later hb))
 try replace dB:=zh (zka dB.out hb)
 try replace Ha:=zh (fun s h=>And.intro (Ha.out s h).1 ((Ha.out s h).2.later hb))
 clear hb;obtain⟨x0,x1,x2,x3⟩:=box4 bC.out;obtain⟨y0,y1,y2⟩:=zkk aQ.out;obtain⟨z0,z1,z2⟩:=zkk bA.out
 cases sm
 ·go_wp2_with fail;go_ret;exact⟨rfl,HB.out⟩
 go_wp2_with fail;refine(HSML.out ⟨max bv mv,max bl ml,max bi mi⟩ _ HB.out).mono ?_;obtain⟨sm,hsm⟩:=zX (smL vs ⟨max bv mv,max bl ml,max bi mi⟩);rw[hsm];have vH:=zh hsm;clear hsm;rintro e6 w6 ⟨rfl,hb⟩;clear x0 x1 x2 x3 y0 y1 y2 z0 z1 z2
 replace HB:=zh (zkb HB.out hb)
 replace bC:=zh (zka bC.out hb)
 replace aQ:=zh (zka aQ.out hb)
 replace bA:=zh (zka bA.out hb)
 try replace dD:=zh (zka dD.out hb)
 try replace H7:=zh (fun q s h=>And.intro (H7.out q s h).1 ((H7.out q s h).2.later hb))
 try replace bT:=zh (zka bT.out hb)
 try replace H8:=zh (fun q s h=>And.intro (H8.out q s h).1 ((H8.out q s h).2.later hb))
 try replace dC:=zh (zka dC.out hb)
 try replace H9:=zh (fun s h=>And.intro (H9.out s h).1 ((H9.out s h).2.later hb))
 try replace dB:=zh (zka dB.out hb)
 try replace Ha:=zh (fun s h=>And.intro (Ha.out s h).1 ((Ha.out s h).2.later hb))
 clear hb;obtain⟨x0,x1,x2,x3⟩:=box4 bC.out;obtain⟨y0,y1,y2⟩:=zkk aQ.out;obtain⟨z0,z1,z2⟩:=zkk bA.out
 cases sm
 ·go_wp2_with fail;go_ret;exact⟨rfl,HB.out⟩
 have su:=zh (dE.out HS.out vH.out);have bM:=zh (show(cntR vs ⟨max bv mv,max bl ml,max bi mi⟩).2≠0->losE (.nd k n nm ks) vs ⟨max bv mv,max bl ml,max bi mi⟩=none/\zms (.nd k n nm ks) vs ⟨max bv mv,max bl ml,max bi mi⟩ (2*u)=none from fun h=>by
  have hsm:smlE vs ⟨max bv mv,max bl ml,max bi mi⟩=false:=by
   unfold smlE;rw[decide_eq_false h];rfl
  unfold losE zms;rw[if_neg (by rw[hsm];simp),if_neg (by rw[hsm];simp)];exact⟨rfl,rfl⟩)
 clear dE HS vH;obtain⟨L1,hL1⟩:=zX (losE (.nd k n nm ks) vs ⟨bv,bl,bi⟩);obtain⟨L2,hL2⟩:=zX (losE (.nd k n nm ks) vs ⟨max bv mv,max bl ml,max bi mi⟩);obtain⟨C1,bV⟩:=zX (zms (.nd k n nm ks) vs ⟨bv,bl,bi⟩ (2*u));obtain⟨C2,hC2⟩:=zX (zms (.nd k n nm ks) vs ⟨max bv mv,max bl ml,max bi mi⟩ (2*u));rw[hL1,hL2,bV,hC2]at su;rw[hL2,hC2]at bM;have nL:=zh hL1;have HL2:=zh hL2;have mU:=zh bV;have kM:=zh hC2;clear hL1 hL2 bV hC2;go_wp2_with fail;refine(rZ.out ⟨bv,bl,bi⟩ _ HB.out).mono ?_;rintro e7 w7 hlp;obtain⟨hb,A70,l70,c70,B70,m70,d70,D70,k70,f70,A71,l71,c71,B71,m71,d71,D71,k71,f71,ok7,rfl,h7⟩:=hlp.parts;clear hlp;rw[nL.out]at h7;have kz:=heap_alloc_new w7 (.cells #[.slice none 0 0,.slice none 0 0,.slice none 0 0,.slice none 0 0,.slice none 0 0,.slice none 0 0] 36)
 have hbz:=zkc (zs w7) (.cells #[.slice none 0 0,.slice none 0 0,.slice none 0 0,.slice none 0 0,.slice none 0 0,.slice none 0 0] 36);obtain⟨wz,hwz⟩:=zX (w7.alloc (.cells #[.slice none 0 0,.slice none 0 0,.slice none 0 0,.slice none 0 0,.slice none 0 0,.slice none 0 0] 36));rw[hwz]at kz hbz;obtain⟨q0,q1,q2,q3,q4,q5⟩:=box6 kz;have cfz:∀o,wz.frozen? ⟨w7.heap.size,o,none⟩=false:=fun o=>zf kz;obtain⟨v7,jT,hc6,dR⟩:=st6 (.slice A70 l70 c70) (.slice B70 m70 d70) (.slice D70 k70 f70) (.slice A71 l71 c71) (.slice B71 m71 d71) (.slice D71 k71 f71) kz;have hbv:Below w7.heap.size w7 v7:=hbz.trans (hc6.below hbz.size fun b (e:b=w7.heap.size)=>by omega);have HH:=zh (show ∀q s,L1=some (q,s)->ok7=true/\SV v7 Any s (.agg #[.slice A71 l71 c71,.slice B71 m71 d71,.slice D71 k71 f71])from fun q s hs=>by
  rcases h7 with⟨h,-⟩|⟨q',s',h,h1,h2⟩
  ·rw[hs]at h;cases h
  ·rw[hs]at h;injection h with h;injection h with ha hb;subst ha hb;exact⟨h1,h2.later hbv⟩)
 have HE7:=zh (show L1=none->ok7=false from fun hn=>by
  rcases h7 with⟨-,h⟩|⟨q',s',h,-⟩
  ·exact h
  ·rw[hn]at h;cases h)
 have hb:=zkb hb hbv;clear kz hbz hc6 h7 hbv x0 x1 x2 x3 y0 y1 y2 z0 z1 z2;have mO:=zh dR;clear dR;go_upto_region 7 with fail;clear q0 q1 q2 q3 q4 q5 cfz jT hwz
 replace HB:=zh (zkb HB.out hb)
 replace bC:=zh (zka bC.out hb)
 replace aQ:=zh (zka aQ.out hb)
 replace bA:=zh (zka bA.out hb)
 try replace dD:=zh (zka dD.out hb)
 try replace H7:=zh (fun q s h=>And.intro (H7.out q s h).1 ((H7.out q s h).2.later hb))
 try replace bT:=zh (zka bT.out hb)
 try replace H8:=zh (fun q s h=>And.intro (H8.out q s h).1 ((H8.out q s h).2.later hb))
 try replace dC:=zh (zka dC.out hb)
 try replace H9:=zh (fun s h=>And.intro (H9.out s h).1 ((H9.out s h).2.later hb))
 try replace dB:=zh (zka dB.out hb)
 try replace Ha:=zh (fun s h=>And.intro (Ha.out s h).1 ((Ha.out s h).2.later hb))
 clear hb;obtain⟨x0,x1,x2,x3⟩:=box4 bC.out;obtain⟨y0,y1,y2⟩:=zkk aQ.out;obtain⟨z0,z1,z2⟩:=zkk bA.out;have H7:=HH;have dD:=mO;clear HH mO;obtain⟨p7,hp7⟩:=zX (w7.heap.size);rw[hp7]at dD ⊢;clear hp7;go_wp2_with fail;refine(rZ.out ⟨max bv mv,max bl ml,max bi mi⟩ _ HB.out).mono ?_;rintro e8 w8 hlp;obtain⟨hb,A80,l80,c80,B80,m80,d80,D80,k80,f80,A81,l81,c81,B81,m81,d81,D81,k81,f81,ok8,rfl,h8⟩:=hlp.parts;clear hlp;rw[HL2.out]at h8;have kz:=heap_alloc_new w8 (.cells #[.slice none 0 0,.slice none 0 0,.slice none 0 0,.slice none 0 0,.slice none 0 0,.slice none 0 0] 36);have hbz:=zkc (zs w8) (.cells #[.slice none 0 0,.slice none 0 0,.slice none 0 0,.slice none 0 0,.slice none 0 0,.slice none 0 0] 36);obtain⟨wz,hwz⟩:=zX (w8.alloc (.cells #[.slice none 0 0,.slice none 0 0,.slice none 0 0,.slice none 0 0,.slice none 0 0,.slice none 0 0] 36));rw[hwz]at kz hbz
 obtain⟨q0,q1,q2,q3,q4,q5⟩:=box6 kz;have cfz:∀o,wz.frozen? ⟨w8.heap.size,o,none⟩=false:=fun o=>zf kz;obtain⟨v8,jT,hc6,dR⟩:=st6 (.slice A80 l80 c80) (.slice B80 m80 d80) (.slice D80 k80 f80) (.slice A81 l81 c81) (.slice B81 m81 d81) (.slice D81 k81 f81) kz;have hbv:Below w8.heap.size w8 v8:=hbz.trans (hc6.below hbz.size fun b (e:b=w8.heap.size)=>by omega);have HH:=zh (show ∀q s,L2=some (q,s)->ok8=true/\SV v8 Any s (.agg #[.slice A81 l81 c81,.slice B81 m81 d81,.slice D81 k81 f81])from fun q s hs=>by
  rcases h8 with⟨h,-⟩|⟨q',s',h,h1,h2⟩
  ·rw[hs]at h;cases h
  ·rw[hs]at h;injection h with h;injection h with ha hb;subst ha hb;exact⟨h1,h2.later hbv⟩)
 have vT:=zh (show L2=none->ok8=false from fun hn=>by
  rcases h8 with⟨-,h⟩|⟨q',s',h,-⟩
  ·exact h
  ·rw[hn]at h;cases h)
 have hb:=zkb hb hbv;clear kz hbz hc6 h8 hbv x0 x1 x2 x3 y0 y1 y2 z0 z1 z2;have mO:=zh dR;clear dR;go_upto_region 8 with fail;clear q0 q1 q2 q3 q4 q5 cfz jT hwz
 replace HB:=zh (zkb HB.out hb)
 replace bC:=zh (zka bC.out hb)
 replace aQ:=zh (zka aQ.out hb)
 replace bA:=zh (zka bA.out hb)
 try replace dD:=zh (zka dD.out hb)
 try replace H7:=zh (fun q s h=>And.intro (H7.out q s h).1 ((H7.out q s h).2.later hb))
 try replace bT:=zh (zka bT.out hb)
 try replace H8:=zh (fun q s h=>And.intro (H8.out q s h).1 ((H8.out q s h).2.later hb))
 try replace dC:=zh (zka dC.out hb)
 try replace H9:=zh (fun s h=>And.intro (H9.out s h).1 ((H9.out s h).2.later hb))
 try replace dB:=zh (zka dB.out hb)
 try replace Ha:=zh (fun s h=>And.intro (Ha.out s h).1 ((Ha.out s h).2.later hb))
 clear hb;obtain⟨x0,x1,x2,x3⟩:=box4 bC.out;obtain⟨y0,y1,y2⟩:=zkk aQ.out;obtain⟨z0,z1,z2⟩:=zkk bA.out;have H8:=HH;have bT:=mO;clear HH mO;obtain⟨p8,hp8⟩:=zX (w8.heap.size);rw[hp8]at bT ⊢;clear hp8;go_wp2_with fail;refine(jD.out ⟨bv,bl,bi⟩ _ HB.out).mono ?_;rintro e9 w9 hlp;obtain⟨hb,xI,wo,c91,xG,vZ,d91,xD,wC,f91,ok9,rfl,h9⟩:=hlp.parts;clear hlp;rw[mU.out]at h9;have dR:=heap_alloc_new w9 (.cells #[.slice xI wo c91,.slice xG vZ d91,.slice xD wC f91] 34);have hbv:=zkc (zs w9) (.cells #[.slice xI wo c91,.slice xG vZ d91,.slice xD wC f91] 34);obtain⟨q0,q1,q2⟩:=zkk (heap_alloc_new w9 (.cells #[.slice none 0 0,.slice none 0 0,.slice none 0 0] 34));go_upto_region 9 with fail;obtain⟨v9,wI⟩:=zX (w9.alloc (.cells #[.slice xI wo c91,.slice xG vZ d91,.slice xD wC f91] 34));rw[wI]at dR hbv ⊢
 have HH:=zh (show ∀s,C1=some s->ok9=true/\SV v9 Any s (.agg #[.slice xI wo c91,.slice xG vZ d91,.slice xD wC f91])from fun s hs=>by
  rcases h9 with⟨h,-⟩|⟨s',h,h1,h2⟩
  ·rw[hs]at h;cases h
  ·rw[hs]at h;injection h with h;subst h;exact⟨h1,h2.later hbv⟩)
 have HE9:=zh (show C1=none->ok9=false from fun hn=>by
  rcases h9 with⟨-,h⟩|⟨s',h,-⟩
  ·exact h
  ·rw[hn]at h;cases h)
 have hb:=zkb hb hbv;clear h9 hbv x0 x1 x2 x3 y0 y1 y2 z0 z1 z2 q0 q1 q2;have mO:=zh dR;clear dR;clear wI
 replace HB:=zh (zkb HB.out hb)
 replace bC:=zh (zka bC.out hb)
 replace aQ:=zh (zka aQ.out hb)
 replace bA:=zh (zka bA.out hb)
 try replace dD:=zh (zka dD.out hb)
 try replace H7:=zh (fun q s h=>And.intro (H7.out q s h).1 ((H7.out q s h).2.later hb))
 try replace bT:=zh (zka bT.out hb)
 try replace H8:=zh (fun q s h=>And.intro (H8.out q s h).1 ((H8.out q s h).2.later hb))
 try replace dC:=zh (zka dC.out hb)
 try replace H9:=zh (fun s h=>And.intro (H9.out s h).1 ((H9.out s h).2.later hb))
 try replace dB:=zh (zka dB.out hb)
 try replace Ha:=zh (fun s h=>And.intro (Ha.out s h).1 ((Ha.out s h).2.later hb))
 clear hb;obtain⟨x0,x1,x2,x3⟩:=box4 bC.out;obtain⟨y0,y1,y2⟩:=zkk aQ.out;obtain⟨z0,z1,z2⟩:=zkk bA.out;have H9:=HH;have dC:=mO;clear HH mO;obtain⟨p9,hp9⟩:=zX (w9.heap.size);rw[hp9]at dC ⊢;clear hp9;go_wp2_with fail;refine(jD.out ⟨max bv mv,max bl ml,max bi mi⟩ _ HB.out).mono ?_;rintro ea wa hlp;obtain⟨hb,xH,wh,wV,xE,vY,wU,xC,wu,fa1,oka,rfl,ha⟩:=hlp.parts;clear hlp;rw[kM.out]at ha;have dR:=heap_alloc_new wa (.cells #[.slice xH wh wV,.slice xE vY wU,.slice xC wu fa1] 34);have hbv:=zkc (zs wa) (.cells #[.slice xH wh wV,.slice xE vY wU,.slice xC wu fa1] 34);obtain⟨q0,q1,q2⟩:=zkk (heap_alloc_new wa (.cells #[.slice none 0 0,.slice none 0 0,.slice none 0 0] 34));go_upto_region 10 with fail;obtain⟨va,hva⟩:=zX (wa.alloc (.cells #[.slice xH wh wV,.slice xE vY wU,.slice xC wu fa1] 34));rw[hva]at dR hbv ⊢
 have HH:=zh (show ∀s,C2=some s->oka=true/\SV va Any s (.agg #[.slice xH wh wV,.slice xE vY wU,.slice xC wu fa1])from fun s hs=>by
  rcases ha with⟨h,-⟩|⟨s',h,h1,h2⟩
  ·rw[hs]at h;cases h
  ·rw[hs]at h;injection h with h;subst h;exact⟨h1,h2.later hbv⟩)
 have HEa:=zh (show C2=none->oka=false from fun hn=>by
  rcases ha with⟨-,h⟩|⟨s',h,-⟩
  ·exact h
  ·rw[hn]at h;cases h)
 have hb:=zkb hb hbv;clear ha hbv x0 x1 x2 x3 y0 y1 y2 z0 z1 z2 q0 q1 q2;have mO:=zh dR;clear dR;clear hva
 replace HB:=zh (zkb HB.out hb)
 replace bC:=zh (zka bC.out hb)
 replace aQ:=zh (zka aQ.out hb)
 replace bA:=zh (zka bA.out hb)
 try replace dD:=zh (zka dD.out hb)
 try replace H7:=zh (fun q s h=>And.intro (H7.out q s h).1 ((H7.out q s h).2.later hb))
 try replace bT:=zh (zka bT.out hb)
 try replace H8:=zh (fun q s h=>And.intro (H8.out q s h).1 ((H8.out q s h).2.later hb))
 try replace dC:=zh (zka dC.out hb)
 try replace H9:=zh (fun s h=>And.intro (H9.out s h).1 ((H9.out s h).2.later hb))
 try replace dB:=zh (zka dB.out hb)
 try replace Ha:=zh (fun s h=>And.intro (Ha.out s h).1 ((Ha.out s h).2.later hb))
 clear hb;obtain⟨x0,x1,x2,x3⟩:=box4 bC.out;obtain⟨y0,y1,y2⟩:=zkk aQ.out;obtain⟨z0,z1,z2⟩:=zkk bA.out;have Ha:=HH;have dB:=mO;clear HH mO;obtain⟨pa,hpa⟩:=zX (wa.heap.size);rw[hpa]at dB ⊢;clear hpa;go_wp2_with fail;refine(HCNT.out ⟨max bv mv,max bl ml,max bi mi⟩ _ HB.out).mono ?_;obtain⟨⟨R1,R2⟩,hR⟩:=zX (cntR vs ⟨max bv mv,max bl ml,max bi mi⟩);rw[hR]at su bM ⊢;clear hR;rintro eb wb ⟨rfl,hb⟩;clear x0 x1 x2 x3 y0 y1 y2 z0 z1 z2
 replace HB:=zh (zkb HB.out hb)
 replace bC:=zh (zka bC.out hb)
 replace aQ:=zh (zka aQ.out hb)
 replace bA:=zh (zka bA.out hb)
 try replace dD:=zh (zka dD.out hb)
 try replace H7:=zh (fun q s h=>And.intro (H7.out q s h).1 ((H7.out q s h).2.later hb))
 try replace bT:=zh (zka bT.out hb)
 try replace H8:=zh (fun q s h=>And.intro (H8.out q s h).1 ((H8.out q s h).2.later hb))
 try replace dC:=zh (zka dC.out hb)
 try replace H9:=zh (fun s h=>And.intro (H9.out s h).1 ((H9.out s h).2.later hb))
 try replace dB:=zh (zka dB.out hb)
 try replace Ha:=zh (fun s h=>And.intro (Ha.out s h).1 ((Ha.out s h).2.later hb))
 clear hb;obtain⟨x0,x1,x2,x3⟩:=box4 bC.out;obtain⟨y0,y1,y2⟩:=zkk aQ.out;obtain⟨z0,z1,z2⟩:=zkk bA.out;by_cases h0:R2=0;rotate_left 1
 ·obtain⟨rfl,rfl⟩:=bM.out h0;obtain rfl:=vT.out rfl;obtain rfl:=HEa.out rfl;have e0:(R2 != 0)=true:=by simpa using h0
  go_wp2_with fail;go_ret;exact⟨rfl,HB.out⟩
 subst h0;have kH:=zh (su.out rfl);obtain⟨q0,q1,q2,q3,q4,q5⟩:=box6 dD.out;obtain⟨r0,r1,r2,r3,r4,r5⟩:=box6 bT.out;obtain⟨s0,s1,s2⟩:=zkk dC.out;obtain⟨t0,t1,t2⟩:=zkk dB.out
 cases hL:L1 with
 | none =>
  obtain rfl:=HE7.out hL
  cases hC:C1 with
  | none =>
   obtain rfl:=HE9.out hC;go_wp2_with fail;go_ret;exact⟨rfl,HB.out⟩
  | some x =>
   obtain⟨i1,x',j1,i2,hle⟩:=kH.out.2 x hC;obtain⟨rfl,hsv⟩:=H9.out x hC;obtain⟨rfl,hsw⟩:=Ha.out x' j1;have oQ:=zh (zpC x x' _ _ _ hsv hsw i1.sm i2.sm (by rw[i1.n,i2.n]));rw[hle]at oQ;clear hsv hsw i1 i2 hle j1 hC;go_wp2_with fail;refine oQ.out.mono ?_;rintro ec wc ⟨rfl,hb⟩;clear x0 x1 x2 x3 y0 y1 y2 z0 z1 z2;clear q0 q1 q2 q3 q4 q5 r0 r1 r2 r3 r4 r5 s0 s1 s2 t0 t1 t2
   replace HB:=zh (zkb HB.out hb)
   replace bC:=zh (zka bC.out hb)
   replace aQ:=zh (zka aQ.out hb)
   replace bA:=zh (zka bA.out hb)
   try replace dD:=zh (zka dD.out hb)
   try replace H7:=zh (fun q s h=>And.intro (H7.out q s h).1 ((H7.out q s h).2.later hb))
   try replace bT:=zh (zka bT.out hb)
   try replace H8:=zh (fun q s h=>And.intro (H8.out q s h).1 ((H8.out q s h).2.later hb))
   try replace dC:=zh (zka dC.out hb)
   try replace H9:=zh (fun s h=>And.intro (H9.out s h).1 ((H9.out s h).2.later hb))
   try replace dB:=zh (zka dB.out hb)
   try replace Ha:=zh (fun s h=>And.intro (Ha.out s h).1 ((Ha.out s h).2.later hb))
   clear hb;obtain⟨x0,x1,x2,x3⟩:=box4 bC.out;obtain⟨y0,y1,y2⟩:=zkk aQ.out;obtain⟨z0,z1,z2⟩:=zkk bA.out;go_wp2_with fail;go_ret;exact⟨rfl,HB.out⟩
 | some y =>
  obtain⟨yq,ys⟩:=y;obtain⟨i1,y',z',j1,i2,hle⟩:=kH.out.1 yq ys hL;obtain⟨rfl,hsv⟩:=H7.out yq ys hL;obtain⟨rfl,hsw⟩:=H8.out y' z' j1;have oQ:=zh (zpC ys z' _ _ _ hsv hsw i1.sm i2.sm (by rw[i1.n,i2.n]));rw[hle]at oQ;clear hsv hsw i1 i2 hle j1 hL;go_wp2_with fail;refine oQ.out.mono ?_;rintro ec wc ⟨rfl,hb⟩;clear oQ;clear x0 x1 x2 x3 y0 y1 y2 z0 z1 z2;clear q0 q1 q2 q3 q4 q5 r0 r1 r2 r3 r4 r5 s0 s1 s2 t0 t1 t2
  replace HB:=zh (zkb HB.out hb)
  replace bC:=zh (zka bC.out hb)
  replace aQ:=zh (zka aQ.out hb)
  replace bA:=zh (zka bA.out hb)
  try replace dD:=zh (zka dD.out hb)
  try replace H7:=zh (fun q s h=>And.intro (H7.out q s h).1 ((H7.out q s h).2.later hb))
  try replace bT:=zh (zka bT.out hb)
  try replace H8:=zh (fun q s h=>And.intro (H8.out q s h).1 ((H8.out q s h).2.later hb))
  try replace dC:=zh (zka dC.out hb)
  try replace H9:=zh (fun s h=>And.intro (H9.out s h).1 ((H9.out s h).2.later hb))
  try replace dB:=zh (zka dB.out hb)
  try replace Ha:=zh (fun s h=>And.intro (Ha.out s h).1 ((Ha.out s h).2.later hb))
  clear hb;obtain⟨x0,x1,x2,x3⟩:=box4 bC.out;obtain⟨y0,y1,y2⟩:=zkk aQ.out;obtain⟨z0,z1,z2⟩:=zkk bA.out;obtain⟨q0,q1,q2,q3,q4,q5⟩:=box6 dD.out;obtain⟨r0,r1,r2,r3,r4,r5⟩:=box6 bT.out;obtain⟨s0,s1,s2⟩:=zkk dC.out;obtain⟨t0,t1,t2⟩:=zkk dB.out
  cases hC:C1 with
  | none =>
   obtain rfl:=HE9.out hC;go_wp2_with fail;go_ret;exact⟨rfl,HB.out⟩
  | some x =>
   obtain⟨i1,x',j1,i2,hle⟩:=kH.out.2 x hC;obtain⟨rfl,hsv⟩:=H9.out x hC;obtain⟨rfl,hsw⟩:=Ha.out x' j1;have oQ:=zh (zpC x x' _ _ _ hsv hsw i1.sm i2.sm (by rw[i1.n,i2.n]));rw[hle]at oQ;clear hsv hsw i1 i2 hle j1 hC;go_wp2_with fail;refine oQ.out.mono ?_;rintro ec wc ⟨rfl,hb⟩;clear x0 x1 x2 x3 y0 y1 y2 z0 z1 z2;clear q0 q1 q2 q3 q4 q5 r0 r1 r2 r3 r4 r5 s0 s1 s2 t0 t1 t2
   replace HB:=zh (zkb HB.out hb)
   replace bC:=zh (zka bC.out hb)
   replace aQ:=zh (zka aQ.out hb)
   replace bA:=zh (zka bA.out hb)
   try replace dD:=zh (zka dD.out hb)
   try replace H7:=zh (fun q s h=>And.intro (H7.out q s h).1 ((H7.out q s h).2.later hb))
   try replace bT:=zh (zka bT.out hb)
   try replace H8:=zh (fun q s h=>And.intro (H8.out q s h).1 ((H8.out q s h).2.later hb))
   try replace dC:=zh (zka dC.out hb)
   try replace H9:=zh (fun s h=>And.intro (H9.out s h).1 ((H9.out s h).2.later hb))
   try replace dB:=zh (zka dB.out hb)
   try replace Ha:=zh (fun s h=>And.intro (Ha.out s h).1 ((Ha.out s h).2.later hb))
   clear hb;obtain⟨x0,x1,x2,x3⟩:=box4 bC.out;obtain⟨y0,y1,y2⟩:=zkk aQ.out;obtain⟨z0,z1,z2⟩:=zkk bA.out;go_wp2_with fail;go_ret;exact⟨rfl,HB.out⟩
section
variable {P:Program} {md:Region.Mode} {ops:Array Oper} {Q:Exit->Act->World->Prop} {S1 S2:World->Prop} {k:Nat}
theorem zlJ{i j:Nat}{oi oj:Oper}(si sj:Option Nat)(n:Nat)(L:Bool->Bool->Array Bool)(a0:Act)(Inv:World->Prop)(Al Fact:Value->World->Prop)
  (hoi:ops[i]?=some oi)(hoj:ops[j]?=some oj)(hdi:oi.dst=si)(hdj:oj.dst=sj)(hr0:Region.ready md ops (L false false)=[i,j])(hr1:Region.ready md ops (L false true)=[i])
  (hLi:∀l4,(L false l4).setIfInBounds i true=L true l4)(hLj:(L false false).setIfInBounds j true=L false true)
  (hS:∀w,Inv w->S1 w/\S2 w)(hInv:∀w w',Inv w->Below w.heap.size w w'->Inv w')(hAl:∀u w w',Al u w->Below w.heap.size w w'->Al u w')
  (hi:∀(v4:Value) (K:Act->World->Prop) (w:World),Inv w->Shut (∀v w',Below w.heap.size w w'->Fact v w'->K ((a0.put sj v4).put si v) w')->if Region.wanted oi (yielded ops (a0.put sj v4).tmps)=true then Oper.wp P oi (a0.put sj v4) w K Q else K ((a0.put sj v4).put si undef) w)
  (hj:∀(v4:Value) (K:Act->World->Prop) (w:World),Inv w->Shut (∀v w',Below w.heap.size w w'->Al v w'->K ((a0.put sj v4).put sj v) w')->if Region.wanted oj (yielded ops (a0.put sj v4).tmps)=true then Oper.wp P oj (a0.put sj v4) w K Q else K ((a0.put sj v4).put sj undef) w)
  (uG:∀u v,(a0.put sj u).put sj v=a0.put sj v)
  (hc:∀(l4:Bool) (v4 v:Value) (w:World),Inv w->Fact v w->(l4=true->Al v4 w)->(l4=false->v4=undef)->wpG P md ops Q S1 S2 k (n+(!l4).toNat) (L true l4) ((a0.put sj v4).put si v) w) :
  ∀(l4:Bool) (v4:Value) (w:World),Inv w->(l4=true->Al v4 w)->(l4=false->v4=undef)->a0.put sj v4=a0->wpG P md ops Q S1 S2 k (n+1+(!l4).toNat) (L false l4) a0 w:=by
 subst hdi hdj;have h1:∀(v4:Value) (w:World),Inv w->Al v4 w->wpG P md ops Q S1 S2 k (n+1) (L false true) (a0.put oj.dst v4) w:=by
  intro v4 w hI hA;refine⟨(fun h0=>by rw[hr1]at h0;cases h0),fun q hq=>?_⟩;rw[hr1]at hq;simp only[List.mem_singleton]at hq;subst hq;refine wpOp_step hoi fun K' hK=>hi v4 K' w hI ?_;intro v w' hb hF;have hI':=hInv _ _ hI hb;refine hK _ _ ⟨⟨(hS _ hI').1,fun _=>(hS _ hI').2⟩,?_⟩;rw[hLi];exact hc true v4 v w' hI' hF (fun _=>hAl _ _ _ hA hb) (fun h=>by cases h)
 intro l4 v4 w hI hA hU ha
 cases l4
 ·have hv:=hU rfl;refine⟨(fun h0=>by rw[hr0]at h0;cases h0),fun q hq=>?_⟩;rw[hr0]at hq;simp only[List.mem_cons,List.not_mem_nil,or_false]at hq;rcases hq with rfl|rfl
  ·refine wpOp_step hoi fun K' hK=>?_;rw[<-ha];refine hi v4 K' w hI ?_;intro v w' hb hF;have hI':=hInv _ _ hI hb;refine hK _ _ ⟨⟨(hS _ hI').1,fun _=>(hS _ hI').2⟩,?_⟩;rw[hLi];exact hc false v4 v w' hI' hF (fun h=>by cases h) (fun _=>hv)
  ·refine wpOp_step hoj fun K' hK=>?_;rw[<-ha];refine hj v4 K' w hI ?_;intro v w' hb hF;have hI':=hInv _ _ hI hb;refine hK _ _ ⟨⟨(hS _ hI').1,fun _=>(hS _ hI').2⟩,?_⟩;rw[hLj,uG];exact h1 v w' hI' hF
 ·rw[<-ha];exact h1 v4 w hI (hA rfl)
theorem zo8{j:Nat}{oj:Oper}(sj:Option Nat)(n:Nat)(L:Bool->Array Bool)(a0:Act)(Inv:World->Prop)(Al:Value->World->Prop)
  (hoj:ops[j]?=some oj)(hdj:oj.dst=sj)(hr0:Region.ready md ops (L false)=[j])(hLj:(L false).setIfInBounds j true=L true)
  (hS:∀w,Inv w->S1 w/\S2 w)(hInv:∀w w',Inv w->Below w.heap.size w w'->Inv w')
  (hj:∀(v4:Value) (K:Act->World->Prop) (w:World),Inv w->Shut (∀v w',Below w.heap.size w w'->Al v w'->K ((a0.put sj v4).put sj v) w')->if Region.wanted oj (yielded ops (a0.put sj v4).tmps)=true then Oper.wp P oj (a0.put sj v4) w K Q else K ((a0.put sj v4).put sj undef) w)
  (uG:∀u v,(a0.put sj u).put sj v=a0.put sj v)
  (hc:∀(v4:Value) (w:World),Inv w->Al v4 w->wpG P md ops Q S1 S2 k n (L true) (a0.put sj v4) w) :
  ∀(l4:Bool) (v4:Value) (w:World),Inv w->(l4=true->Al v4 w)->a0.put sj v4=a0->wpG P md ops Q S1 S2 k (n+(!l4).toNat) (L l4) a0 w:=by
 subst hdj;intro l4 v4 w hI hA ha
 cases l4
 ·refine⟨(fun h0=>by rw[hr0]at h0;cases h0),fun q hq=>?_⟩;rw[hr0]at hq;simp only[List.mem_singleton]at hq;subst hq;refine wpOp_step hoj fun K' hK=>?_;rw[<-ha];refine hj v4 K' w hI ?_;intro v w' hb hF;have hI':=hInv _ _ hI hb;refine hK _ _ ⟨⟨(hS _ hI').1,fun _=>(hS _ hI').2⟩,?_⟩;rw[hLj,uG];exact hc v w' hI' hF
 ·rw[<-ha];exact hc v4 w hI (hA rfl)
end
abbrev AlW(w0:World)(Z:Array Value)(E:TypeId)(u:Value)(w:World):Prop:=∃b,u=.pointer (some ⟨b,0,none⟩)/\w0.heap.size<=b/\w.heap[b]?=some (.cells Z E (0,0))
theorem bVdW(w:World):(Instr.build 76 #[(0,.string ⟨#[120]⟩),(1,.int .u8 1)]).run Tryz.prog w=.ok (.agg #[.string ⟨#[120]⟩,.int .u8 1,.int .i64 0]) w:=by kernel_rfl
theorem bSVW(a0 a1 a2:Value)(w:World):(Instr.buildSlice 25 1 #[(0,.agg #[a0,a1,a2])]).run Tryz.prog w=.ok (.slice (some ⟨w.heap.size,0,none⟩) 1 1) (w.alloc (.cells #[a0,a1,a2] 76)):=by kernel_rfl
theorem bBxW(w:World):(Instr.build 27 #[(0,.int .i64 1)]).run Tryz.prog w=.ok (.agg #[.int .i64 1,.int .i64 0,.int .i64 0]) w:=by kernel_rfl
theorem bXW(w:World):(Instr.build 24 #[(0,.int .u8 2),(2,.string ⟨#[120]⟩)]).run Tryz.prog w=.ok (.agg #[.int .u8 2,.int .i64 0,.string ⟨#[120]⟩,.slice none 0 0]) w:=by kernel_rfl
theorem zyb(a0 a1 a2 a3 b0 b1 b2 b3:Value)(w:World):(Instr.buildSlice 22 2 #[(0,.agg #[a0,a1,a2,a3]),(1,.agg #[b0,b1,b2,b3])]).run Tryz.prog w=.ok (.slice (some ⟨w.heap.size,0,none⟩) 2 2) (w.alloc (.cells #[a0,a1,a2,a3,b0,b1,b2,b3] 24)):=by kernel_rfl
theorem bNkW(k:Int)(A:Option Addr)(l c:Nat)(w:World):(Instr.build 24 #[(0,.int .u8 k),(3,.slice A l c)]).run Tryz.prog w=.ok (nv k 0 ⟨#[]⟩ A l c) w:=by kernel_rfl
theorem fldW(k:Int)(hk:0<=k/\k<256):Fld k 0 ⟨#[]⟩:=⟨hk,⟨by omega,by omega⟩,by decide⟩
theorem fldX:Fld 2 0 ⟨#[120]⟩:=⟨⟨by omega,by omega⟩,⟨by omega,by omega⟩,by decide⟩
theorem fldN(n:Int)(h:I64 n):Fld 1 n ⟨#[]⟩:=⟨⟨by omega,by omega⟩,h,by decide⟩
theorem ztk:IsFn Tryz.prog 35 Tryz.f35:=⟨Tryz.func35,by kernel_rfl,by kernel_rfl⟩
theorem zx1:IsFn Tryz.prog 12 Tryz.f12:=⟨Tryz.func12,by kernel_rfl,by kernel_rfl⟩
theorem zero_pair{w:World}{p:Addr}{bb:Nat}{E:TypeId}{u:Value}(hz:w.heap[bb]?=some (.cells #[.slice none 0 0,.slice none 0 0,.slice none 0 0,.slice none 0 0,.slice none 0 0,.slice none 0 0] E (0,0)))(hp:p.block=bb)(h:w.cell? p=some u):u=.slice none 0 0:=by
 subst hp;obtain⟨b,o,m⟩:=p;simp only[World.cell?]at h hz
 cases m with
 | none =>
  simp only[hz]at h
  match o,h with
  | 0,h=>simp at h;exact h.symm
  | 1,h=>simp at h;exact h.symm
  | 2,h=>simp at h;exact h.symm
  | 3,h=>simp at h;exact h.symm
  | 4,h=>simp at h;exact h.symm
  | 5,h=>simp at h;exact h.symm
  | n+6,h=>simp at h
 | some x=>simp[hz]at h
theorem SV.nz6{w:World}{S:Nat->Prop}{bb:Nat}{E:TypeId}{x:Int}{v:Value}(hz:w.heap[bb]?=some (.cells #[.slice none 0 0,.slice none 0 0,.slice none 0 0,.slice none 0 0,.slice none 0 0,.slice none 0 0] E (0,0)))(h:SV w S ⟨[[x]],[],[]⟩ v):SV w (fun b=>S b/\b≠bb) ⟨[[x]],[],[]⟩ v:=by
 obtain⟨A,c,B,d,D,e,rfl,h1,h2,h3,h4⟩:=h;refine⟨A,c,B,d,D,e,rfl,fun i hi=>?_,(fun i hi=>by simp at hi),(fun i hi=>by simp at hi),h4⟩;obtain⟨a,A',c',hA,hS,hc,hl,hr⟩:=h1 i hi;obtain rfl:i=0:=by simpa using hi
 refine⟨a,A',c',hA,⟨hS,fun e=>?_⟩,hc,hl,fun j hj=>?_⟩
 ·have:=zero_pair hz (by rw[zkp];exact e) hc;simp at this
 ·obtain⟨a2,hA2,hS2,hc2,hi2⟩:=hr j hj;refine⟨a2,hA2,⟨hS2,fun e=>?_⟩,hc2,hi2⟩;have:=zero_pair hz (by rw[zkp];exact e) hc2
  cases this
theorem zxK{w:World}{b:Nat}(h:w.heap[b]?=some (.cells #[.string ⟨#[120]⟩,.int .u8 1,.int .i64 0] 76 (0,0))):RowV w Any (some ⟨b,0,none⟩) vsW:=zuI h (by
  intro v hv;simp only[vsW,List.mem_cons,List.not_mem_nil,or_false]at hv;subst hv;exact⟨by decide,⟨by decide,by decide⟩,by decide,by decide⟩)
theorem zero_st{w:World}{p:Addr}{bb:Nat}{E:TypeId}{u:Value}(hz:w.heap[bb]?=some (.cells #[.slice none 0 0,.slice none 0 0,.slice none 0 0] E (0,0)))(hp:p.block=bb)(h:w.cell? p=some u):u=.slice none 0 0:=by
 subst hp;obtain⟨b,o,m⟩:=p;simp only[World.cell?]at h hz
 cases m with
 | none =>
  simp only[hz]at h
  match o,h with
  | 0,h=>simp at h;exact h.symm
  | 1,h=>simp at h;exact h.symm
  | 2,h=>simp at h;exact h.symm
  | n+3,h=>simp at h
 | some x=>simp[hz]at h
theorem SV.nz3{w:World}{S:Nat->Prop}{bb:Nat}{E:TypeId}{x:Int}{v:Value}(hz:w.heap[bb]?=some (.cells #[.slice none 0 0,.slice none 0 0,.slice none 0 0] E (0,0)))(h:SV w S ⟨[[x]],[],[]⟩ v):SV w (fun b=>S b/\b≠bb) ⟨[[x]],[],[]⟩ v:=by
 obtain⟨A,c,B,d,D,e,rfl,h1,h2,h3,h4⟩:=h;refine⟨A,c,B,d,D,e,rfl,fun i hi=>?_,(fun i hi=>by simp at hi),(fun i hi=>by simp at hi),h4⟩;obtain⟨a,A',c',hA,hS,hc,hl,hr⟩:=h1 i hi;obtain rfl:i=0:=by simpa using hi
 refine⟨a,A',c',hA,⟨hS,fun e=>?_⟩,hc,hl,fun j hj=>?_⟩
 ·have:=zero_st hz (by rw[zkp];exact e) hc;simp at this
 ·obtain⟨a2,hA2,hS2,hc2,hi2⟩:=hr j hj;refine⟨a2,hA2,⟨hS2,fun e=>?_⟩,hc2,hi2⟩;have:=zero_st hz (by rw[zkp];exact e) hc2
  cases this
theorem zwJ{W:World}{b:Nat}{E:TypeId}{l1:List Int}{A1:Option Addr}{c1:Nat}(h:W.heap[b]?=some (.cells #[.slice A1 l1.length c1] E (0,0)))(r1:RowI W Any A1 l1)(h1:l1.length<=c1):znq W Any (some ⟨b,0,none⟩) [l1]:=fun i hi=>by
 match i,hi with
 | 0,_=>exact⟨⟨b,0,none⟩,A1,c1,rfl,trivial,zc h rfl,h1,r1⟩
theorem SV1W{W:World}{b q:Nat}{x:Int}(hx:I64 x)(h1:W.heap[b]?=some (.cells #[.slice (some ⟨q,0,none⟩) 1 1] 32 (0,0)))(h2:W.heap[q]?=some (.cells #[.int .i64 x] 3 (0,0))):SV W Any ⟨[[x]],[],[]⟩ (.agg #[.slice (some ⟨b,0,none⟩) 1 1,.slice none 0 0,.slice none 0 0]) :=
 ⟨_,1,none,0,none,0,rfl,zwJ (l1:=[x]) h1 (zuJ h2 (by intro y hy;simp at hy;subst hy;exact hx)) (by simp),fun i hi=>by simp at hi,fun i hi=>by simp at hi,by simp,by simp,by simp,by simp[LI],by intro l hl;simp at hl;subst hl;simp[LI],by simp[LI],by simp[LI]⟩
theorem zxz{W:World}{b:Nat}{E:TypeId}{S:Nat->Prop}(hS:S b){t1 t2:T}{k n k1 n1 k2 n2:Int}{s s1 s2:ByteArray}{A1 A2:Option Addr}{l1 c1 l2 c2:Nat}(hf:Fld k n s)(h1:NV W S t1 (nv k1 n1 s1 A1 l1 c1))(h2:NV W S t2 (nv k2 n2 s2 A2 l2 c2))
  (hx:W.heap[b]?=some (.cells #[.int .u8 k1,.int .i64 n1,.string s1,.slice A1 l1 c1,.int .u8 k2,.int .i64 n2,.string s2,.slice A2 l2 c2] E (0,0))):NV W S (.nd k n s [t1,t2]) (nv k n s (some ⟨b,0,none⟩) 2 2):=by
 refine NV.shut (ks:=[t1,t2]) hf (by simp[LK]) (by simp) fun i hi=>?_
 match i,hi with
 | 0,_=>exact⟨⟨b,0,none⟩,_,_,_,_,rfl,hS,⟨zc hx rfl,zc hx rfl,zc hx rfl,zc hx rfl⟩,h1⟩
 | 1,_=>exact⟨⟨b,0,none⟩,_,_,_,_,rfl,hS,⟨zc hx rfl,zc hx rfl,zc hx rfl,zc hx rfl⟩,h2⟩
theorem zv0{W:World}{b:Nat}{E:TypeId}{S:Nat->Prop}(hS:S b){t1 t2 t3 t4:T}{k n k1 n1 k2 n2 k3 n3 k4 n4:Int}{s s1 s2 s3 s4:ByteArray}{A1 A2 A3 A4:Option Addr}{l1 c1 l2 c2 l3 c3 l4 c4:Nat}(hf:Fld k n s)(h1:NV W S t1 (nv k1 n1 s1 A1 l1 c1))(h2:NV W S t2 (nv k2 n2 s2 A2 l2 c2))(h3:NV W S t3 (nv k3 n3 s3 A3 l3 c3))(h4:NV W S t4 (nv k4 n4 s4 A4 l4 c4))
  (hx:W.heap[b]?=some (.cells #[.int .u8 k1,.int .i64 n1,.string s1,.slice A1 l1 c1,.int .u8 k2,.int .i64 n2,.string s2,.slice A2 l2 c2,.int .u8 k3,.int .i64 n3,.string s3,.slice A3 l3 c3,.int .u8 k4,.int .i64 n4,.string s4,.slice A4 l4 c4] E (0,0))):NV W S (.nd k n s [t1,t2,t3,t4]) (nv k n s (some ⟨b,0,none⟩) 4 4):=by
 refine NV.shut (ks:=[t1,t2,t3,t4]) hf (by simp[LK]) (by simp) fun i hi=>?_
 match i,hi with
 | 0,_=>exact⟨⟨b,0,none⟩,_,_,_,_,rfl,hS,⟨zc hx rfl,zc hx rfl,zc hx rfl,zc hx rfl⟩,h1⟩
 | 1,_=>exact⟨⟨b,0,none⟩,_,_,_,_,rfl,hS,⟨zc hx rfl,zc hx rfl,zc hx rfl,zc hx rfl⟩,h2⟩
 | 2,_=>exact⟨⟨b,0,none⟩,_,_,_,_,rfl,hS,⟨zc hx rfl,zc hx rfl,zc hx rfl,zc hx rfl⟩,h3⟩
 | 3,_=>exact⟨⟨b,0,none⟩,_,_,_,_,rfl,hS,⟨zc hx rfl,zc hx rfl,zc hx rfl,zc hx rfl⟩,h4⟩
theorem st4W{W:World}{b:Nat}{a0 a1 a2 a3:Value}{ty:TypeId}(v0 v1 v2 v3:Value)(h:W.heap[b]?=some (.cells #[a0,a1,a2,a3] ty (0,0))) :
  ∃W',(((W.setCell ⟨b,0,none⟩ v0).setCell ⟨b,1,none⟩ v1).setCell ⟨b,2,none⟩ v2).setCell ⟨b,3,none⟩ v3=W'/\Chg (fun q=>q=b) W W'/\W'.heap[b]?=some (.cells #[v0,v1,v2,v3] ty (0,0)):=by
 obtain⟨W0,h0,c0,k0⟩:=setU (o:=0) v0 h;obtain⟨W1,h1,c1,k1⟩:=setU (o:=1) v1 k0;obtain⟨W2,h2,c2,k2⟩:=setU (o:=2) v2 k1;obtain⟨W3,h3,c3,k3⟩:=setU (o:=3) v3 k2;exact⟨W3,by rw[h0,h1,h2,h3],((c0.trans c1).trans c2).trans c3,by simpa using k3⟩
theorem zyL(a0 a1 a2 a3 b0 b1 b2 b3 c0 c1 c2 c3 d0 d1 d2 d3:Value)(w:World):(Instr.buildSlice 22 4 #[(0,.agg #[a0,a1,a2,a3]),(1,.agg #[b0,b1,b2,b3]),(2,.agg #[c0,c1,c2,c3]),(3,.agg #[d0,d1,d2,d3])]).run Tryz.prog w=.ok (.slice (some ⟨w.heap.size,0,none⟩) 4 4) (w.alloc (.cells #[a0,a1,a2,a3,b0,b1,b2,b3,c0,c1,c2,c3,d0,d1,d2,d3] 24)):=by kernel_rfl
theorem bBlW(w:World):(Instr.build 24 #[(0,.int .u8 57)]).run Tryz.prog w=.ok (.agg #[.int .u8 57,.int .i64 0,.string ⟨#[]⟩,.slice none 0 0]) w:=by kernel_rfl
theorem bIW(x:Int)(w:World):(Instr.buildSlice 32 1 #[(0,.int .i64 x)]).run Tryz.prog w=.ok (.slice (some ⟨w.heap.size,0,none⟩) 1 1) (w.alloc (.cells #[.int .i64 x] 3)):=by kernel_rfl
theorem zyQ(A:Option Addr)(l c:Nat)(w:World):(Instr.buildSlice 31 1 #[(0,.slice A l c)]).run Tryz.prog w=.ok (.slice (some ⟨w.heap.size,0,none⟩) 1 1) (w.alloc (.cells #[.slice A l c] 32)):=by kernel_rfl
theorem bStW(A:Option Addr)(l c:Nat)(w:World):(Instr.build 34 #[(0,.slice A l c)]).run Tryz.prog w=.ok (.agg #[.slice A l c,.slice none 0 0,.slice none 0 0]) w:=by kernel_rfl
theorem zx3:IsFn Tryz.prog 18 Tryz.f18:=⟨Tryz.func18,by kernel_rfl,by kernel_rfl⟩
theorem ztN:AwP:=by
 intro W;have h1:=bVdW;have h2:=bSVW;have h3:=bBxW;have h4:=bXW;go_enter Tryz.func9,Tryz.ntmps9;go_upto_region 4 with fail;clear h1 h2 h3 h4;have hb1:=zkc (zkc (zkc (zs W) (.cells #[.int .u8 2,.int .i64 0,.string ⟨#[120]⟩,.slice none 0 0] 24)) (.cells #[.string ⟨#[120]⟩,.int .u8 1,.int .i64 0] 76)) (.cells #[.int .i64 1,.int .i64 0,.int .i64 0] 27);obtain⟨-,hz,k0,k1,k2⟩:=al3 W (.cells #[.int .u8 2,.int .i64 0,.string ⟨#[120]⟩,.slice none 0 0] 24) (.cells #[.string ⟨#[120]⟩,.int .u8 1,.int .i64 0] 76) (.cells #[.int .i64 1,.int .i64 0,.int .i64 0] 27);obtain⟨w1,hw1⟩:=zX (((W.alloc (.cells #[.int .u8 2,.int .i64 0,.string ⟨#[120]⟩,.slice none 0 0] 24)).alloc (.cells #[.string ⟨#[120]⟩,.int .u8 1,.int .i64 0] 76)).alloc (.cells #[.int .i64 1,.int .i64 0,.int .i64 0] 27));rw[hw1]at hb1 hz k0 k1 k2 ⊢;obtain⟨N,hN⟩:=zX (W.heap.size);rw[hN]at hz k0 k1 k2;have HN:=zh hN;have HB1:=zh hb1
 have HZ1:=zh hz;have bA:=zh k0;have HKV:=zh k1;have aQ:=zh k2;clear hb1 hz k0 k1 k2 hN;simp only[HN.out];clear hw1;have au:=zh (show ∀w',Below w1.heap.size w1 w'->(fun w':World=>(zN4 w' N (.int .u8 2) (.int .i64 0) (.string ⟨#[120]⟩) (.slice none 0 0))/\zN3 w' (N+2) (.int .i64 1) (.int .i64 0) (.int .i64 0)) w' from fun w' hb=>⟨box4 (zka bA.out hb),zkk (zka aQ.out hb)⟩);have hSS:zW (fun w':World=>(zN4 w' N (.int .u8 2) (.int .i64 0) (.string ⟨#[120]⟩) (.slice none 0 0))/\zN3 w' (N+2) (.int .i64 1) (.int .i64 0) (.int .i64 0)) zU w1.drew:=⟨au.out _ zr.drew,trivial⟩
 refine wp_region_noPanic ?_;refine zG hSS 11 ?_;refine zT 0 hSS ?_;refine zT 4 hSS ?_;refine zT 5 hSS ?_;have hI:(fun w=>Below w1.heap.size w1 w) w1.drew:=zr.drew;clear hSS;refine zlJ (i:=1) (j:=10) (some 17) (some 4) 8 (fun li l4 => #[true,li,false,false,true,true,false,false,false,false,l4,false,false]) _ (fun w=>Below w1.heap.size w1 w) (AlW w1 #[.slice none 0 0,.slice none 0 0,.slice none 0 0,.slice none 0 0,.slice none 0 0,.slice none 0 0] 36) (fun v w=>v=nv 1 0 ⟨#[]⟩ none 0 0) rfl rfl rfl rfl (by kernel_rfl) (by kernel_rfl) (fun l4=>by cases l4<;>rfl) rfl (fun w h=>⟨au.out _ h,trivial⟩) (fun w w' h hb=>?_) (fun u w w' h hb=>?_) (fun v4 K w h ak=>?_) (fun v4 K w h ak=>?_) (fun u v=>?_) (fun l4 v4 v wc h hF hA hU=>?_) false undef w1.drew hI (fun h=>by cases h) (fun _=>rfl) ?_
 ·exact zkb h hb
 ·obtain⟨b,e1,e2,e3⟩:=h;exact⟨b,e1,e2,zka e3 hb⟩
 ·have hb0:=h;have hK:=zh ak;clear ak;have had:Calls Tryz.prog 35 [.int .i64 0].toArray w fun e w'=>∃v,e=.returned v/\(v=nv 1 0 ⟨#[]⟩ none 0 0/\Below w.heap.size w w'):=(zqv 0 w).mono fun e w' ⟨h1,h2⟩=>⟨_,h1,rfl,h2⟩
  refine zkd (by rfl) (.func 35) [.const (.int .i64 0)] _ (by rfl) 35 _ ztk (by rfl) _ (by rfl) _ had ?_;rintro v w' ⟨rfl,hb⟩;exact hK.out _ _ hb rfl
 ·have hK:=zh ak;clear ak;(try simp only[zQ]);(try simp only[zA,zB,zC]);go_simp;exact hK.out _ _ (zkc zr _) ⟨_,rfl,h.size,heap_alloc_new w _⟩
 ·simp only[Act.put,zD,zE,zF]
 rotate_left 1
 ·simp only[Act.put,zD,zE,zF]
 (try simp only[zQ]);obtain rfl:=hF;clear hI;have hI:(fun w=>Below w1.heap.size w1 w) wc:=h;have iC:=hA;have gp:=hU;clear hA hU;refine zlJ (i:=2) (j:=10) (some 18) (some 4) 7 (fun li l4 => #[true,true,li,false,true,true,false,false,false,false,l4,false,false]) _ (fun w=>Below w1.heap.size w1 w) (AlW w1 #[.slice none 0 0,.slice none 0 0,.slice none 0 0,.slice none 0 0,.slice none 0 0,.slice none 0 0] 36) (fun v w=>∃b,v=.slice (some ⟨b,0,none⟩) 2 2/\NV w Any stTW (nv 56 0 ⟨#[]⟩ (some ⟨b,0,none⟩) 2 2)) rfl rfl rfl rfl (by kernel_rfl) (by kernel_rfl) (fun l4=>by cases l4<;>rfl) rfl (fun w h=>⟨au.out _ h,trivial⟩) (fun w w' h hb=>?_) (fun u w w' h hb=>?_) (fun v4 K w h ak=>?_) (fun v4 K w h ak=>?_) (fun u v=>?_) (fun l4 v4 v wc h hF hA hU=>?_) l4 v4 wc hI iC gp ?_
 ·exact zkb h hb
 ·obtain⟨b,e1,e2,e3⟩:=h;exact⟨b,e1,e2,zka e3 hb⟩
 ·have hK:=zh ak;clear ak;have hbs:=zyb;(try simp only[zQ]);(try simp only[zA,zB,zC]);go_simp;exact hK.out _ _ (zkc zr _) ⟨_,rfl,zym w 24 (S:=Any) trivial (fldW 56 (by omega)) (zmT w _ fldX) (zmT w _ (fldN 0 ⟨by decide,by decide⟩))⟩
 ·have hK:=zh ak;clear ak;(try simp only[zQ]);(try simp only[zA,zB,zC]);go_simp;exact hK.out _ _ (zkc zr _) ⟨_,rfl,h.size,heap_alloc_new w _⟩
 ·simp only[Act.put,zD,zE,zF]
 rotate_left 1
 ·simp only[Act.put,zD,zE,zF]
 (try simp only[zQ]);obtain⟨sb,rfl,m18⟩:=hF;clear hI;have hI:(fun w=>Below w1.heap.size w1 w/\NV w Any stTW (nv 56 0 ⟨#[]⟩ (some ⟨sb,0,none⟩) 2 2)) wc:=⟨h,m18⟩
 have iC:=hA;have gp:=hU;clear hA hU m18;refine zlJ (i:=3) (j:=10) (some 19) (some 4) 6 (fun li l4 => #[true,true,true,li,true,true,false,false,false,false,l4,false,false]) _ (fun w=>Below w1.heap.size w1 w/\NV w Any stTW (nv 56 0 ⟨#[]⟩ (some ⟨sb,0,none⟩) 2 2)) (AlW w1 #[.slice none 0 0,.slice none 0 0,.slice none 0 0,.slice none 0 0,.slice none 0 0,.slice none 0 0] 36) (fun v w=>v=.agg #[.int .u8 56,.int .i64 0,.string ⟨#[]⟩,.slice (some ⟨sb,0,none⟩) 2 2]) rfl rfl rfl rfl (by kernel_rfl) (by kernel_rfl) (fun l4=>by cases l4<;>rfl) rfl (fun w h=>⟨au.out _ h.1,trivial⟩) (fun w w' h hb=>?_) (fun u w w' h hb=>?_) (fun v4 K w h ak=>?_) (fun v4 K w h ak=>?_) (fun u v=>?_) (fun l4 v4 v wc h hF hA hU=>?_) l4 v4 wc hI iC gp ?_
 ·exact⟨zkb h.1 hb,h.2.later hb⟩
 ·obtain⟨b,e1,e2,e3⟩:=h;exact⟨b,e1,e2,zka e3 hb⟩
 ·have hK:=zh ak;clear ak;have hbs:=bNkW;(try simp only[zQ]);(try simp only[zA,zB,zC]);go_simp;exact hK.out _ _ zr rfl
 ·have hK:=zh ak;clear ak;(try simp only[zQ]);(try simp only[zA,zB,zC]);go_simp;exact hK.out _ _ (zkc zr _) ⟨_,rfl,h.1.size,heap_alloc_new w _⟩
 ·simp only[Act.put,zD,zE,zF]
 rotate_left 1
 ·simp only[Act.put,zD,zE,zF]
 (try simp only[zQ]);obtain rfl:=hF;clear hI;have hI:(fun w=>Below w1.heap.size w1 w/\NV w Any stTW (nv 56 0 ⟨#[]⟩ (some ⟨sb,0,none⟩) 2 2)) wc:=h;have iC:=hA;have gp:=hU;clear hA hU
 refine zlJ (i:=6) (j:=10) (some 22) (some 4) 5 (fun li l4 => #[true,true,true,true,true,true,li,false,false,false,l4,false,false]) _ (fun w=>Below w1.heap.size w1 w/\NV w Any stTW (nv 56 0 ⟨#[]⟩ (some ⟨sb,0,none⟩) 2 2)) (AlW w1 #[.slice none 0 0,.slice none 0 0,.slice none 0 0,.slice none 0 0,.slice none 0 0,.slice none 0 0] 36) (fun v w=>∃A0 c0 B0 d0 D0 e0 A1 c1 B1 d1 D1 e1,v=.tuple #[.agg #[.slice A0 1 c0,.slice B0 0 d0,.slice D0 0 e0,.slice A1 1 c1,.slice B1 0 d1,.slice D1 0 e1],.bool true]/\SV w (fun b=>w1.heap.size<=b) ⟨[[0]],[],[]⟩ (.agg #[.slice A0 1 c0,.slice B0 0 d0,.slice D0 0 e0])/\SV w (fun b=>w1.heap.size<=b) ⟨[[1]],[],[]⟩ (.agg #[.slice A1 1 c1,.slice B1 0 d1,.slice D1 0 e1])) rfl rfl rfl rfl (by kernel_rfl) (by kernel_rfl) (fun l4=>by cases l4<;>rfl) rfl (fun w h=>⟨au.out _ h.1,trivial⟩) (fun w w' h hb=>?_) (fun u w w' h hb=>?_) (fun v4 K w h ak=>?_) (fun v4 K w h ak=>?_) (fun u v=>?_) (fun l4 v4 v wc h hF hA hU=>?_) l4 v4 wc hI iC gp ?_
 ·exact⟨zkb h.1 hb,h.2.later hb⟩
 ·obtain⟨b,e1,e2,e3⟩:=h;exact⟨b,e1,e2,zka e3 hb⟩
 ·have hb0:=h.1;have hn0:=h.2;have hK:=zh ak;clear ak;have had:Calls Tryz.prog 12 [.agg #[.int .u8 56,.int .i64 0,.string ⟨#[]⟩,.slice (some ⟨sb,0,none⟩) 2 2],.slice (some ⟨N+1,0,none⟩) 1 1,.agg #[.int .i64 1,.int .i64 0,.int .i64 0]].toArray w fun e w'=>∃v,e=.returned v/\((∃A0 c0 B0 d0 D0 e0 A1 c1 B1 d1 D1 e1,v=.tuple #[.agg #[.slice A0 1 c0,.slice B0 0 d0,.slice D0 0 e0,.slice A1 1 c1,.slice B1 0 d1,.slice D1 0 e1],.bool true]/\SV w' (fun b=>w1.heap.size<=b) ⟨[[0]],[],[]⟩ (.agg #[.slice A0 1 c0,.slice B0 0 d0,.slice D0 0 e0])/\SV w' (fun b=>w1.heap.size<=b) ⟨[[1]],[],[]⟩ (.agg #[.slice A1 1 c1,.slice B1 0 d1,.slice D1 0 e1]))/\Below w.heap.size w w') :=
   (zqg (t:=stTW) (vs:=vsW) (b:=bxW) (c1:=1) hn0 (zxK (zka HKV.out hb0)) (by decide)).mono fun e w' ⟨hb,x0,x1,x2,x3,x4,x5,bb,he,hr⟩=>by
    rw[zxR]at hr;rcases hr with⟨h,-⟩|⟨q,s,h,rfl,hq,hs⟩
    ·cases h
    ·injection h with h;injection h with h1 h2;subst h1 h2;have hq2:=hq;have hs2:=hs;obtain⟨A0,c0,B0,d0,D0,e0,hv0,-⟩:=hq2;obtain⟨A1,c1,B1,d1,D1,e1,hv1,-⟩:=hs2;injection hv0 with hv0;injection hv1 with hv1;simp only[Array.mk.injEq,List.cons.injEq,and_true,List.length_cons,List.length_nil,Nat.zero_add]at hv0 hv1;obtain⟨rfl,rfl,rfl⟩:=hv0;obtain⟨rfl,rfl,rfl⟩:=hv1;exact⟨_,he,⟨_,_,_,_,_,_,_,_,_,_,_,_,rfl,hq.keep (fun b h _=>Nat.le_trans hb0.size h) (fun _ _ _=>rfl),hs.keep (fun b h _=>Nat.le_trans hb0.size h) (fun _ _ _=>rfl)⟩,hb⟩
  refine zkd (by rfl) (.func 12) [.tmp 19,.tmp 20,.tmp 21] _ (by rfl) 12 _ zx1 (by rfl) _ (by rfl) _ had ?_;rintro v w' ⟨hF,hb⟩;exact hK.out _ _ hb hF
 ·have hK:=zh ak;clear ak;(try simp only[zQ]);(try simp only[zA,zB,zC]);go_simp;exact hK.out _ _ (zkc zr _) ⟨_,rfl,h.1.size,heap_alloc_new w _⟩
 ·simp only[Act.put,zD,zE,zF]
 rotate_left 1
 ·simp only[Act.put,zD,zE,zF]
 (try simp only[zQ]);obtain⟨A0,c0,B0,d0,D0,e0,A1,c1,B1,d1,D1,e1,rfl,hq,hs⟩:=hF;clear hI;have hSS:zW (fun w':World=>(zN4 w' N (.int .u8 2) (.int .i64 0) (.string ⟨#[120]⟩) (.slice none 0 0))/\zN3 w' (N+2) (.int .i64 1) (.int .i64 0) (.int .i64 0)) zU wc:=⟨au.out _ h.1,trivial⟩
 have hI:(fun w=>Below w1.heap.size w1 w/\SV w (fun b=>w1.heap.size<=b) ⟨[[0]],[],[]⟩ (.agg #[.slice A0 1 c0,.slice B0 0 d0,.slice D0 0 e0])/\SV w (fun b=>w1.heap.size<=b) ⟨[[1]],[],[]⟩ (.agg #[.slice A1 1 c1,.slice B1 0 d1,.slice D1 0 e1])) wc:=⟨h.1,hq,hs⟩
 clear h iC gp hq hs;rw[Nat.add_comm 5];refine zkt (i:=7) (v:=?_) rfl (by kernel_rfl) (by cases l4<;>kernel_rfl) (by cases l4<;>kernel_rfl) (by decide) (fun _ _ _ h=>h) (Or.inl ⟨by rfl,?_⟩) hSS ?_;rotate_left 1
 ·(intro w hSw;(try dsimp only at hSw);(try simp only[zA,zB,zC]);go_simp;(try with_reducible rfl))
 (try simp only[zQ]);refine zkt (i:=8) (v:=?_) rfl (by kernel_rfl) (by cases l4<;>kernel_rfl) (by cases l4<;>kernel_rfl) (by decide) (fun _ _ _ h=>h) (Or.inl ⟨by rfl,?_⟩) hSS ?_;rotate_left 1
 ·(intro w hSw;(try dsimp only at hSw);(try simp only[zA,zB,zC]);go_simp;(try with_reducible rfl))
 (try simp only[zQ]);refine zkt (i:=9) (v:=?_) rfl (by kernel_rfl) (by cases l4<;>kernel_rfl) (by cases l4<;>kernel_rfl) (by decide) (fun _ _ _ h=>h) (Or.inl ⟨by rfl,?_⟩) hSS ?_;rotate_left 1
 ·(intro w hSw;(try dsimp only at hSw);(try simp only[zA,zB,zC]);go_simp;(try with_reducible rfl))
 (try simp only[zQ]);rw[Nat.add_comm (Bool.toNat _) 2];clear hSS;refine zo8 (j:=10) (some 4) 2 (fun l4 => #[true,true,true,true,true,true,true,true,true,true,l4,false,false]) _ (fun w=>Below w1.heap.size w1 w/\SV w (fun b=>w1.heap.size<=b) ⟨[[0]],[],[]⟩ (.agg #[.slice A0 1 c0,.slice B0 0 d0,.slice D0 0 e0])/\SV w (fun b=>w1.heap.size<=b) ⟨[[1]],[],[]⟩ (.agg #[.slice A1 1 c1,.slice B1 0 d1,.slice D1 0 e1])) (AlW w1 #[.slice none 0 0,.slice none 0 0,.slice none 0 0,.slice none 0 0,.slice none 0 0,.slice none 0 0] 36) rfl rfl (by kernel_rfl) rfl (fun w h=>⟨au.out _ h.1,trivial⟩) (fun w w' h hb=>⟨zkb h.1 hb,h.2.1.later hb,h.2.2.later hb⟩) (fun v4 K w h ak=>?_) (fun u v=>?_) (fun v5 w3 h5 uW=>?_) l4 v4 wc hI hA ?_
 ·have hb0:=h.1;have hK:=zh ak;clear ak;(try simp only[zQ]);(try simp only[zA,zB,zC]);go_simp;exact hK.out _ _ (zkc zr _) ⟨_,rfl,hb0.size,heap_alloc_new w _⟩
 ·simp only[Act.put,zD,zE,zF]
 rotate_left 1
 ·simp only[Act.put,zD,zE,zF]
 (try simp only[zQ]);clear hI hA hU;obtain⟨pb,rfl,hbl,hbz⟩:=uW;obtain⟨hb3,hq3,hs3⟩:=h5;obtain⟨q0,q1,q2,q3,q4,q5⟩:=box6 hbz;have cf:∀o,w3.frozen? ⟨pb,o,none⟩=false:=fun _=>zf hbz;obtain⟨w4,hw4,hc4,hh4⟩:=st6 (.slice A0 1 c0) (.slice B0 0 d0) (.slice D0 0 e0) (.slice A1 1 c1) (.slice B1 0 d1) (.slice D1 0 e1) hbz;have hb4:Below w1.heap.size w1 w4:=hb3.trans (hc4.below hb3.size fun b (e:b=pb)=>by omega);have uy:=zh hbz;have av:=zh hb4;have zt:=zh hc4;have qg:=zh hh4;have HQ3:=zh hq3;have yK:=zh hs3;clear hb3 hq3 hs3 hbz hc4 hh4 hb4;have xk:=zh ((HQ3.out.nz6 uy.out).keep (w':=w4) (S':=fun b=>w1.heap.size<=b) (fun _ h _=>h.1) fun b h hlt=>zt.out.block b hlt h.2);have iO:=zh ((yK.out.nz6 uy.out).keep (w':=w4) (S':=fun b=>w1.heap.size<=b) (fun _ h _=>h.1) fun b h hlt=>zt.out.block b hlt h.2);clear HQ3 yK;refine zp 11 fun K hK=>?_;(try simp only[zA,zB,zC]);go_simp
 refine hK.out _ _ (au.out _ av.out) ?_;clear hK K q0 q1 q2 q3 q4 q5 cf hw4 uy zt;(try simp only[zQ]);refine zo 12 fun K hK=>?_;(try simp only[zA,zB,zC]);go_simp;refine hK.out _ _ ⟨au.out _ av.out,trivial⟩ ?_;clear hK K;(try simp only[zQ]);refine zd ?_;refine NoPanic.normal ?_;clear au;go_upto_region 5 with fail;have HKX4:=zh (zka bA.out av.out);have HKB4:=zh (zka aQ.out av.out);have au:=zh (show ∀w',Below w4.heap.size w4 w'->(fun w':World=>zN4 w' N (.int .u8 2) (.int .i64 0) (.string ⟨#[120]⟩) (.slice none 0 0)) w' from fun w' hb=>box4 (zka HKX4.out hb));have hSS:zW (fun w':World=>zN4 w' N (.int .u8 2) (.int .i64 0) (.string ⟨#[120]⟩) (.slice none 0 0)) zU w4.drew:=⟨au.out _ zr.drew,trivial⟩
 refine wp_region_noPanic ?_;refine zG hSS 5 ?_;refine zT 0 hSS ?_;have hI:(fun w=>Below w4.heap.size w4 w) w4.drew:=zr.drew;clear hSS;refine zlJ (i:=1) (j:=4) (some 26) (some 6) 3 (fun li l4 => #[true,li,false,false,l4,false]) _ (fun w=>Below w4.heap.size w4 w) (AlW w4 #[.int .u8 0,.int .i64 0,.string ⟨#[]⟩,.slice none 0 0] 24) (fun v w=>v=nv 1 1 ⟨#[]⟩ none 0 0) rfl rfl rfl rfl (by kernel_rfl) (by kernel_rfl) (fun l4=>by cases l4<;>rfl) rfl (fun w h=>⟨au.out _ h,trivial⟩) (fun w w' h hb=>?_) (fun u w w' h hb=>?_) (fun v4 K w h ak=>?_) (fun v4 K w h ak=>?_) (fun u v=>?_) (fun l4 v4 v wc h hF hA hU=>?_) false undef w4.drew hI (fun h=>by cases h) (fun _=>rfl) ?_
 ·exact zkb h hb
 ·obtain⟨b,e1,e2,e3⟩:=h;exact⟨b,e1,e2,zka e3 hb⟩
 ·have hK:=zh ak;clear ak;have had:Calls Tryz.prog 35 [.int .i64 1].toArray w fun e w'=>∃v,e=.returned v/\(v=nv 1 1 ⟨#[]⟩ none 0 0/\Below w.heap.size w w'):=(zqv 1 w).mono fun e w' ⟨h1,h2⟩=>⟨_,h1,rfl,h2⟩
  refine zkd (by rfl) (.func 35) [.const (.int .i64 1)] _ (by rfl) 35 _ ztk (by rfl) _ (by rfl) _ had ?_;rintro v w' ⟨rfl,hb⟩;exact hK.out _ _ hb rfl
 ·have hK:=zh ak;clear ak;(try simp only[zQ]);(try simp only[zA,zB,zC]);go_simp;exact hK.out _ _ (zkc zr _) ⟨_,rfl,h.size,heap_alloc_new w _⟩
 ·simp only[Act.put,zD,zE,zF]
 rotate_left 1
 ·simp only[Act.put,zD,zE,zF]
 (try simp only[zQ]);obtain rfl:=hF;clear hI;have hI:(fun w=>Below w4.heap.size w4 w) wc:=h;have iC:=hA;have gp:=hU;clear hA hU;refine zlJ (i:=2) (j:=4) (some 27) (some 6) 2 (fun li l4 => #[true,true,li,false,l4,false]) _ (fun w=>Below w4.heap.size w4 w) (AlW w4 #[.int .u8 0,.int .i64 0,.string ⟨#[]⟩,.slice none 0 0] 24) (fun v w=>∃b,v=.slice (some ⟨b,0,none⟩) 2 2/\w.heap[b]?=some (.cells #[.int .u8 2,.int .i64 0,.string ⟨#[120]⟩,.slice none 0 0,.int .u8 1,.int .i64 1,.string ⟨#[]⟩,.slice none 0 0] 24 (0,0))) rfl rfl rfl rfl (by kernel_rfl) (by kernel_rfl) (fun l4=>by cases l4<;>rfl) rfl (fun w h=>⟨au.out _ h,trivial⟩) (fun w w' h hb=>?_) (fun u w w' h hb=>?_) (fun v4 K w h ak=>?_) (fun v4 K w h ak=>?_) (fun u v=>?_) (fun l4 v4 v wc h hF hA hU=>?_) l4 v4 wc hI iC gp ?_
 ·exact zkb h hb
 ·obtain⟨b,e1,e2,e3⟩:=h;exact⟨b,e1,e2,zka e3 hb⟩
 ·have hK:=zh ak;clear ak;have hbs:=zyb;(try simp only[zQ]);(try simp only[zA,zB,zC]);go_simp;exact hK.out _ _ (zkc zr _) ⟨_,rfl,heap_alloc_new w _⟩
 ·have hK:=zh ak;clear ak;(try simp only[zQ]);(try simp only[zA,zB,zC]);go_simp;exact hK.out _ _ (zkc zr _) ⟨_,rfl,h.size,heap_alloc_new w _⟩
 ·simp only[Act.put,zD,zE,zF]
 rotate_left 1
 ·simp only[Act.put,zD,zE,zF]
 (try simp only[zQ]);obtain⟨eb,rfl,m27⟩:=hF;clear hI;have hI:(fun w=>Below w4.heap.size w4 w/\w.heap[eb]?=some (.cells #[.int .u8 2,.int .i64 0,.string ⟨#[120]⟩,.slice none 0 0,.int .u8 1,.int .i64 1,.string ⟨#[]⟩,.slice none 0 0] 24 (0,0))) wc:=⟨h,m27⟩
 have iC:=hA;have gp:=hU;clear hA hU m27;refine zlJ (i:=3) (j:=4) (some 28) (some 6) 1 (fun li l4 => #[true,true,true,li,l4,false]) _ (fun w=>Below w4.heap.size w4 w/\w.heap[eb]?=some (.cells #[.int .u8 2,.int .i64 0,.string ⟨#[120]⟩,.slice none 0 0,.int .u8 1,.int .i64 1,.string ⟨#[]⟩,.slice none 0 0] 24 (0,0))) (AlW w4 #[.int .u8 0,.int .i64 0,.string ⟨#[]⟩,.slice none 0 0] 24) (fun v w=>v=.agg #[.int .u8 16,.int .i64 0,.string ⟨#[]⟩,.slice (some ⟨eb,0,none⟩) 2 2]) rfl rfl rfl rfl (by kernel_rfl) (by kernel_rfl) (fun l4=>by cases l4<;>rfl) rfl (fun w h=>⟨au.out _ h.1,trivial⟩) (fun w w' h hb=>?_) (fun u w w' h hb=>?_) (fun v4 K w h ak=>?_) (fun v4 K w h ak=>?_) (fun u v=>?_) (fun l4 v4 v wc h hF hA hU=>?_) l4 v4 wc hI iC gp ?_
 ·exact⟨zkb h.1 hb,zka h.2 hb⟩
 ·obtain⟨b,e1,e2,e3⟩:=h;exact⟨b,e1,e2,zka e3 hb⟩
 ·have hK:=zh ak;clear ak;have hbs:=bNkW;(try simp only[zQ]);(try simp only[zA,zB,zC]);go_simp;exact hK.out _ _ zr rfl
 ·have hK:=zh ak;clear ak;(try simp only[zQ]);(try simp only[zA,zB,zC]);go_simp;exact hK.out _ _ (zkc zr _) ⟨_,rfl,h.1.size,heap_alloc_new w _⟩
 ·simp only[Act.put,zD,zE,zF]
 rotate_left 1
 ·simp only[Act.put,zD,zE,zF]
 (try simp only[zQ]);obtain rfl:=hF;clear hI;have hI:(fun w=>Below w4.heap.size w4 w/\w.heap[eb]?=some (.cells #[.int .u8 2,.int .i64 0,.string ⟨#[120]⟩,.slice none 0 0,.int .u8 1,.int .i64 1,.string ⟨#[]⟩,.slice none 0 0] 24 (0,0))) wc:=h;refine zo8 (j:=4) (some 6) 1 (fun l4 => #[true,true,true,true,l4,false]) _ (fun w=>Below w4.heap.size w4 w/\w.heap[eb]?=some (.cells #[.int .u8 2,.int .i64 0,.string ⟨#[120]⟩,.slice none 0 0,.int .u8 1,.int .i64 1,.string ⟨#[]⟩,.slice none 0 0] 24 (0,0))) (AlW w4 #[.int .u8 0,.int .i64 0,.string ⟨#[]⟩,.slice none 0 0] 24) rfl rfl (by kernel_rfl) rfl (fun w h=>⟨au.out _ h.1,trivial⟩) (fun w w' h hb=>⟨zkb h.1 hb,zka h.2 hb⟩) (fun v4 K w h ak=>?_) (fun u v=>?_) (fun v5 w5 h5 uW=>?_) l4 v4 wc hI hA ?_
 ·have hb0:=h.1;have hK:=zh ak;clear ak;(try simp only[zQ]);(try simp only[zA,zB,zC]);go_simp;exact hK.out _ _ (zkc zr _) ⟨_,rfl,hb0.size,heap_alloc_new w _⟩
 ·simp only[Act.put,zD,zE,zF]
 rotate_left 1
 ·simp only[Act.put,zD,zE,zF]
 (try simp only[zQ]);clear hI hA hU;obtain⟨qb,rfl,hbl,hbz⟩:=uW;obtain⟨hb5,wN⟩:=h5;obtain⟨q0,q1,q2,q3⟩:=box4 hbz;have cf:∀o,w5.frozen? ⟨qb,o,none⟩=false:=fun _=>zf hbz;have hne:eb≠qb:=by
  rintro rfl;rw[hbz]at wN;simp at wN
 obtain⟨w6,jT,hc6,dR⟩:=st4W (.int .u8 16) (.int .i64 0) (.string ⟨#[]⟩) (.slice (some ⟨eb,0,none⟩) 2 2) hbz;have hb6:Below w4.heap.size w4 w6:=hb5.trans (hc6.below hb5.size fun b (e:b=qb)=>by omega);have HE6:=zh (hc6.keep wN hne);have aR:=zh hb6;have qf:=zh dR;clear hb5 hbz hc6 dR hb6 wN hne;refine zp 5 fun K hK=>?_;(try simp only[zA,zB,zC]);go_simp;refine hK.out _ _ (au.out _ aR.out) ?_;clear hK K q0 q1 q2 q3 cf jT;(try simp only[zQ]);refine zd ?_;refine NoPanic.normal ?_;clear au hbl;have rV:=zh (xk.out.later aR.out);have jN:=zh (iO.out.later aR.out);have HB16:=zh (zkb av.out aR.out);have HP6:=zh (zka qg.out aR.out);clear xk iO qg HKX4;go_upto_region 6 with fail;have hbl6:=bBlW
 have au:=zh (show ∀w',Below w6.heap.size w6 w'->(fun w':World=>(zN4 w' qb (.int .u8 16) (.int .i64 0) (.string ⟨#[]⟩) (.slice (some ⟨eb,0,none⟩) 2 2))/\zN3 w' (N+2) (.int .i64 1) (.int .i64 0) (.int .i64 0)) w' from fun w' hb=>⟨box4 (zka qf.out hb),zkk (zka HKB4.out (zkb aR.out hb))⟩);have hSS:zW (fun w':World=>(zN4 w' qb (.int .u8 16) (.int .i64 0) (.string ⟨#[]⟩) (.slice (some ⟨eb,0,none⟩) 2 2))/\zN3 w' (N+2) (.int .i64 1) (.int .i64 0) (.int .i64 0)) zU w6.drew:=⟨au.out _ zr.drew,trivial⟩
 refine wp_region_noPanic ?_;refine zG hSS 13 ?_;refine zT 0 hSS ?_;refine zT 1 hSS ?_;refine zT 2 hSS ?_;refine zT 6 hSS ?_;refine zT 7 hSS ?_;have hI:(fun w=>Below w6.heap.size w6 w) w6.drew:=zr.drew;clear hSS hbl6;refine zlJ (i:=3) (j:=12) (some 33) (some 7) 8 (fun li l4 => #[true,true,true,li,false,false,true,true,false,false,false,false,l4,false,false]) _ (fun w=>Below w6.heap.size w6 w) (AlW w6 #[.slice none 0 0,.slice none 0 0,.slice none 0 0] 34) (fun v w=>v=nv 1 1 ⟨#[]⟩ none 0 0) rfl rfl rfl rfl (by kernel_rfl) (by kernel_rfl) (fun l4=>by cases l4<;>rfl) rfl (fun w h=>⟨au.out _ h,trivial⟩) (fun w w' h hb=>?_) (fun u w w' h hb=>?_) (fun v4 K w h ak=>?_) (fun v4 K w h ak=>?_) (fun u v=>?_) (fun l4 v4 v wc h hF hA hU=>?_) false undef w6.drew hI (fun h=>by cases h) (fun _=>rfl) ?_
 ·exact zkb h hb
 ·obtain⟨b,e1,e2,e3⟩:=h;exact⟨b,e1,e2,zka e3 hb⟩
 ·have hK:=zh ak;clear ak;have had:Calls Tryz.prog 35 [.int .i64 1].toArray w fun e w'=>∃v,e=.returned v/\(v=nv 1 1 ⟨#[]⟩ none 0 0/\Below w.heap.size w w'):=(zqv 1 w).mono fun e w' ⟨h1,h2⟩=>⟨_,h1,rfl,h2⟩
  refine zkd (by rfl) (.func 35) [.const (.int .i64 1)] _ (by rfl) 35 _ ztk (by rfl) _ (by rfl) _ had ?_;rintro v w' ⟨rfl,hb⟩;exact hK.out _ _ hb rfl
 ·have hK:=zh ak;clear ak;(try simp only[zQ]);(try simp only[zA,zB,zC]);go_simp;exact hK.out _ _ (zkc zr _) ⟨_,rfl,h.size,heap_alloc_new w _⟩
 ·simp only[Act.put,zD,zE,zF]
 rotate_left 1
 ·simp only[Act.put,zD,zE,zF]
 (try simp only[zQ]);obtain rfl:=hF;clear hI;have hI:(fun w=>Below w6.heap.size w6 w) wc:=h;have iC:=hA;have gp:=hU;clear hA hU
 refine zlJ (i:=4) (j:=12) (some 34) (some 7) 7 (fun li l4 => #[true,true,true,true,li,false,true,true,false,false,false,false,l4,false,false]) _ (fun w=>Below w6.heap.size w6 w) (AlW w6 #[.slice none 0 0,.slice none 0 0,.slice none 0 0] 34) (fun v w=>∃b,v=.slice (some ⟨b,0,none⟩) 4 4/\w.heap[b]?=some (.cells #[.int .u8 16,.int .i64 0,.string ⟨#[]⟩,.slice (some ⟨eb,0,none⟩) 2 2,.int .u8 57,.int .i64 0,.string ⟨#[]⟩,.slice none 0 0,.int .u8 57,.int .i64 0,.string ⟨#[]⟩,.slice none 0 0,.int .u8 1,.int .i64 1,.string ⟨#[]⟩,.slice none 0 0] 24 (0,0))) rfl rfl rfl rfl (by kernel_rfl) (by kernel_rfl) (fun l4=>by cases l4<;>rfl) rfl (fun w h=>⟨au.out _ h,trivial⟩) (fun w w' h hb=>?_) (fun u w w' h hb=>?_) (fun v4 K w h ak=>?_) (fun v4 K w h ak=>?_) (fun u v=>?_) (fun l4 v4 v wc h hF hA hU=>?_) l4 v4 wc hI iC gp ?_
 ·exact zkb h hb
 ·obtain⟨b,e1,e2,e3⟩:=h;exact⟨b,e1,e2,zka e3 hb⟩
 ·have hK:=zh ak;clear ak;have hbs:=zyL;(try simp only[zQ]);(try simp only[zA,zB,zC]);go_simp;exact hK.out _ _ (zkc zr _) ⟨_,rfl,heap_alloc_new w _⟩
 ·have hK:=zh ak;clear ak;(try simp only[zQ]);(try simp only[zA,zB,zC]);go_simp;exact hK.out _ _ (zkc zr _) ⟨_,rfl,h.size,heap_alloc_new w _⟩
 ·simp only[Act.put,zD,zE,zF]
 rotate_left 1
 ·simp only[Act.put,zD,zE,zF]
 (try simp only[zQ]);obtain⟨fb,rfl,m34⟩:=hF;clear hI;have hI:(fun w=>Below w6.heap.size w6 w/\w.heap[fb]?=some (.cells #[.int .u8 16,.int .i64 0,.string ⟨#[]⟩,.slice (some ⟨eb,0,none⟩) 2 2,.int .u8 57,.int .i64 0,.string ⟨#[]⟩,.slice none 0 0,.int .u8 57,.int .i64 0,.string ⟨#[]⟩,.slice none 0 0,.int .u8 1,.int .i64 1,.string ⟨#[]⟩,.slice none 0 0] 24 (0,0))) wc:=⟨h,m34⟩
 have iC:=hA;have gp:=hU;clear hA hU m34
 refine zlJ (i:=5) (j:=12) (some 35) (some 7) 6 (fun li l4 => #[true,true,true,true,true,li,true,true,false,false,false,false,l4,false,false]) _ (fun w=>Below w6.heap.size w6 w/\w.heap[fb]?=some (.cells #[.int .u8 16,.int .i64 0,.string ⟨#[]⟩,.slice (some ⟨eb,0,none⟩) 2 2,.int .u8 57,.int .i64 0,.string ⟨#[]⟩,.slice none 0 0,.int .u8 57,.int .i64 0,.string ⟨#[]⟩,.slice none 0 0,.int .u8 1,.int .i64 1,.string ⟨#[]⟩,.slice none 0 0] 24 (0,0))) (AlW w6 #[.slice none 0 0,.slice none 0 0,.slice none 0 0] 34) (fun v w=>v=.agg #[.int .u8 52,.int .i64 0,.string ⟨#[]⟩,.slice (some ⟨fb,0,none⟩) 4 4]) rfl rfl rfl rfl (by kernel_rfl) (by kernel_rfl) (fun l4=>by cases l4<;>rfl) rfl (fun w h=>⟨au.out _ h.1,trivial⟩) (fun w w' h hb=>?_) (fun u w w' h hb=>?_) (fun v4 K w h ak=>?_) (fun v4 K w h ak=>?_) (fun u v=>?_) (fun l4 v4 v wc h hF hA hU=>?_) l4 v4 wc hI iC gp ?_
 ·exact⟨zkb h.1 hb,zka h.2 hb⟩
 ·obtain⟨b,e1,e2,e3⟩:=h;exact⟨b,e1,e2,zka e3 hb⟩
 ·have hK:=zh ak;clear ak;have hbs:=bNkW;(try simp only[zQ]);(try simp only[zA,zB,zC]);go_simp;exact hK.out _ _ zr rfl
 ·have hK:=zh ak;clear ak;(try simp only[zQ]);(try simp only[zA,zB,zC]);go_simp;exact hK.out _ _ (zkc zr _) ⟨_,rfl,h.1.size,heap_alloc_new w _⟩
 ·simp only[Act.put,zD,zE,zF]
 rotate_left 1
 ·simp only[Act.put,zD,zE,zF]
 (try simp only[zQ]);obtain rfl:=hF;clear hI;have hI:(fun w=>Below w6.heap.size w6 w/\w.heap[fb]?=some (.cells #[.int .u8 16,.int .i64 0,.string ⟨#[]⟩,.slice (some ⟨eb,0,none⟩) 2 2,.int .u8 57,.int .i64 0,.string ⟨#[]⟩,.slice none 0 0,.int .u8 57,.int .i64 0,.string ⟨#[]⟩,.slice none 0 0,.int .u8 1,.int .i64 1,.string ⟨#[]⟩,.slice none 0 0] 24 (0,0))) wc:=h;have iC:=hA;have gp:=hU;clear hA hU
 refine zlJ (i:=8) (j:=12) (some 38) (some 7) 5 (fun li l4 => #[true,true,true,true,true,true,true,true,li,false,false,false,l4,false,false]) _ (fun w=>Below w6.heap.size w6 w/\w.heap[fb]?=some (.cells #[.int .u8 16,.int .i64 0,.string ⟨#[]⟩,.slice (some ⟨eb,0,none⟩) 2 2,.int .u8 57,.int .i64 0,.string ⟨#[]⟩,.slice none 0 0,.int .u8 57,.int .i64 0,.string ⟨#[]⟩,.slice none 0 0,.int .u8 1,.int .i64 1,.string ⟨#[]⟩,.slice none 0 0] 24 (0,0))) (AlW w6 #[.slice none 0 0,.slice none 0 0,.slice none 0 0] 34) (fun v w=>∃A2 c2 B2 d2 D2 e2,v=.tuple #[.agg #[.slice A2 1 c2,.slice B2 0 d2,.slice D2 0 e2],.bool true]/\SV w (fun b=>w6.heap.size<=b) ⟨[[0]],[],[]⟩ (.agg #[.slice A2 1 c2,.slice B2 0 d2,.slice D2 0 e2])) rfl rfl rfl rfl (by kernel_rfl) (by kernel_rfl) (fun l4=>by cases l4<;>rfl) rfl (fun w h=>⟨au.out _ h.1,trivial⟩) (fun w w' h hb=>?_) (fun u w w' h hb=>?_) (fun v4 K w h ak=>?_) (fun v4 K w h ak=>?_) (fun u v=>?_) (fun l4 v4 v wc h hF hA hU=>?_) l4 v4 wc hI iC gp ?_
 ·exact⟨zkb h.1 hb,zka h.2 hb⟩
 ·obtain⟨b,e1,e2,e3⟩:=h;exact⟨b,e1,e2,zka e3 hb⟩
 ·have hb0:=h.1;have hf0:=h.2;have hK:=zh ak;clear ak;have hne0:NV w Any ifTW (nv 52 0 ⟨#[]⟩ (some ⟨fb,0,none⟩) 4 4):=zv0 trivial (fldW 52 (by omega)) (zxz trivial (fldW 16 (by omega)) (zmT w _ fldX) (zmT w _ (fldN 1 ⟨by decide,by decide⟩)) (zka HE6.out hb0)) (zmT w _ (fldW 57 (by omega))) (zmT w _ (fldW 57 (by omega))) (zmT w _ (fldN 1 ⟨by decide,by decide⟩)) hf0;have had:Calls Tryz.prog 18 [.agg #[.int .u8 52,.int .i64 0,.string ⟨#[]⟩,.slice (some ⟨fb,0,none⟩) 4 4],.slice (some ⟨N+1,0,none⟩) 1 1,.agg #[.int .i64 1,.int .i64 0,.int .i64 0],.int .i64 100].toArray w fun e w'=>∃v,e=.returned v/\((∃A2 c2 B2 d2 D2 e2,v=.tuple #[.agg #[.slice A2 1 c2,.slice B2 0 d2,.slice D2 0 e2],.bool true]/\SV w' (fun b=>w6.heap.size<=b) ⟨[[0]],[],[]⟩ (.agg #[.slice A2 1 c2,.slice B2 0 d2,.slice D2 0 e2]))/\Below w.heap.size w w') :=
   (zny (t:=ifTW) (vs:=vsW) (b:=bxW) (c1:=1) (F:=100) hne0 (zxK (zka HKV.out (zkb HB16.out hb0))) (by decide) (by decide) ⟨by decide,by decide⟩ (by decide)).mono fun e w' ⟨hb,v,bb,he,hr⟩=>by
    rw[zx8]at hr;rcases hr with⟨h,-⟩|⟨q,h,rfl,hq⟩
    ·cases h
    ·injection h with h;subst h;have hq2:=hq;obtain⟨A2,c2,B2,d2,D2,e2,rfl,-⟩:=hq2;exact⟨_,he,⟨_,_,_,_,_,_,rfl,hq.keep (fun b h _=>Nat.le_trans hb0.size h) (fun _ _ _=>rfl)⟩,hb⟩
  refine zkd (by rfl) (.func 18) [.tmp 35,.tmp 36,.tmp 37,.const (.int .i64 100)] _ (by rfl) 18 _ zx3 (by rfl) _ (by rfl) _ had ?_;rintro v w' ⟨hF,hb⟩;exact hK.out _ _ hb hF
 ·have hK:=zh ak;clear ak;(try simp only[zQ]);(try simp only[zA,zB,zC]);go_simp;exact hK.out _ _ (zkc zr _) ⟨_,rfl,h.1.size,heap_alloc_new w _⟩
 ·simp only[Act.put,zD,zE,zF]
 rotate_left 1
 ·simp only[Act.put,zD,zE,zF]
 (try simp only[zQ]);obtain⟨A2,c2,B2,d2,D2,e2,rfl,hq⟩:=hF;clear hI;have hSS:zW (fun w':World=>(zN4 w' qb (.int .u8 16) (.int .i64 0) (.string ⟨#[]⟩) (.slice (some ⟨eb,0,none⟩) 2 2))/\zN3 w' (N+2) (.int .i64 1) (.int .i64 0) (.int .i64 0)) zU wc:=⟨au.out _ h.1,trivial⟩
 have hI:(fun w=>Below w6.heap.size w6 w/\SV w (fun b=>w6.heap.size<=b) ⟨[[0]],[],[]⟩ (.agg #[.slice A2 1 c2,.slice B2 0 d2,.slice D2 0 e2])) wc:=⟨h.1,hq⟩
 clear h iC gp hq;rw[Nat.add_comm 5];refine zkt (i:=9) (v:=?_) rfl (by kernel_rfl) (by cases l4<;>kernel_rfl) (by cases l4<;>kernel_rfl) (by decide) (fun _ _ _ h=>h) (Or.inl ⟨by rfl,?_⟩) hSS ?_;rotate_left 1
 ·(intro w hSw;(try dsimp only at hSw);(try simp only[zA,zB,zC]);go_simp;(try with_reducible rfl))
 (try simp only[zQ]);refine zkt (i:=10) (v:=?_) rfl (by kernel_rfl) (by cases l4<;>kernel_rfl) (by cases l4<;>kernel_rfl) (by decide) (fun _ _ _ h=>h) (Or.inl ⟨by rfl,?_⟩) hSS ?_;rotate_left 1
 ·(intro w hSw;(try dsimp only at hSw);(try simp only[zA,zB,zC]);go_simp;(try with_reducible rfl))
 (try simp only[zQ]);refine zkt (i:=11) (v:=?_) rfl (by kernel_rfl) (by cases l4<;>kernel_rfl) (by cases l4<;>kernel_rfl) (by decide) (fun _ _ _ h=>h) (Or.inl ⟨by rfl,?_⟩) hSS ?_;rotate_left 1
 ·(intro w hSw;(try dsimp only at hSw);(try simp only[zA,zB,zC]);go_simp;(try with_reducible rfl))
 (try simp only[zQ]);rw[Nat.add_comm (Bool.toNat _) 2];clear hSS;refine zo8 (j:=12) (some 7) 2 (fun l4 => #[true,true,true,true,true,true,true,true,true,true,true,true,l4,false,false]) _ (fun w=>Below w6.heap.size w6 w/\SV w (fun b=>w6.heap.size<=b) ⟨[[0]],[],[]⟩ (.agg #[.slice A2 1 c2,.slice B2 0 d2,.slice D2 0 e2])) (AlW w6 #[.slice none 0 0,.slice none 0 0,.slice none 0 0] 34) rfl rfl (by kernel_rfl) rfl (fun w h=>⟨au.out _ h.1,trivial⟩) (fun w w' h hb=>⟨zkb h.1 hb,h.2.later hb⟩) (fun v4 K w h ak=>?_) (fun u v=>?_) (fun v5 w7 h5 uW=>?_) l4 v4 wc hI hA ?_
 ·have hb0:=h.1;have hK:=zh ak;clear ak;(try simp only[zQ]);(try simp only[zA,zB,zC]);go_simp;exact hK.out _ _ (zkc zr _) ⟨_,rfl,hb0.size,heap_alloc_new w _⟩
 ·simp only[Act.put,zD,zE,zF]
 rotate_left 1
 ·simp only[Act.put,zD,zE,zF]
 (try simp only[zQ]);clear hI hA hU;obtain⟨sb3,rfl,hbl,hbz⟩:=uW;obtain⟨dz,hq7⟩:=h5;obtain⟨q0,q1,q2⟩:=zkk hbz;have cf:∀o,w7.frozen? ⟨sb3,o,none⟩=false:=fun _=>zf hbz;obtain⟨w8,hw8,hc8,il⟩:=st3 (.slice A2 1 c2) (.slice B2 0 d2) (.slice D2 0 e2) hbz;have bJ:Below w6.heap.size w6 w8:=dz.trans (hc8.below dz.size fun b (e:b=sb3)=>by omega);have HX8:=zh ((hq7.nz3 hbz).keep (w':=w8) (S':=Any) (fun _ _ _=>trivial) fun b h hlt=>hc8.block b hlt h.2);have bD:=zh bJ;have yZ:=zh il;clear dz hbz hc8 il bJ hq7;refine zp 13 fun K hK=>?_;(try simp only[zA,zB,zC]);go_simp;refine hK.out _ _ (au.out _ bD.out) ?_;clear hK K q0 q1 q2 cf hw8;(try simp only[zQ]);refine zo 14 fun K hK=>?_;(try simp only[zA,zB,zC]);go_simp;refine hK.out _ _ ⟨au.out _ bD.out,trivial⟩ ?_;clear hK K;(try simp only[zQ]);refine zd ?_;refine NoPanic.normal ?_;clear au hbl;have ug:=zh (rV.out.later bD.out)
 have HS8:=zh (jN.out.later bD.out);have HB18:=zh (zkb HB16.out bD.out);have bT:=zh (zka HP6.out bD.out);clear rV jN HP6 qf HE6;have h1:=bIW;have h2:=zyQ;have h3:=bStW;go_upto_region 8 with fail;clear h1 h2 h3;obtain⟨M,hM⟩:=zX (w8.heap.size);obtain⟨aD,kR,k0,k1,k2⟩:=al3 w8 (.cells #[.int .i64 0] 3) (.cells #[.slice (some ⟨w8.heap.size,0,none⟩) 1 1] 32) (.cells #[.int .i64 1] 3);rw[hM]at kR k0 k1 k2 ⊢;obtain⟨w9,aP⟩:=zX (((w8.alloc (.cells #[.int .i64 0] 3)).alloc (.cells #[.slice (some ⟨M,0,none⟩) 1 1] 32)).alloc (.cells #[.int .i64 1] 3));rw[aP]at kR k0 k1 k2 ⊢;have aD:Below w8.heap.size w8 w9:=by rw[<-aP,<-hM];exact aD
 obtain⟨eY,iZ,k3,k4,k5⟩:=al3 w9 (.cells #[.slice (some ⟨M+1+1,0,none⟩) 1 1] 32) (.cells #[.slice (some ⟨M+1,0,none⟩) 1 1,.slice none 0 0,.slice none 0 0] 34) (.cells #[.slice (some ⟨M+1+1+1,0,none⟩) 1 1,.slice none 0 0,.slice none 0 0] 34);rw[kR]at iZ k3 k4 k5;obtain⟨wa,lG⟩:=zX (((w9.alloc (.cells #[.slice (some ⟨M+1+1,0,none⟩) 1 1] 32)).alloc (.cells #[.slice (some ⟨M+1,0,none⟩) 1 1,.slice none 0 0,.slice none 0 0] 34)).alloc (.cells #[.slice (some ⟨M+1+1+1,0,none⟩) 1 1,.slice none 0 0,.slice none 0 0] 34));rw[lG]at eY iZ k3 k4 k5 ⊢;have gV:=zh (zkb aD eY);have HB1A:=zh (zkb HB18.out (zkb aD eY));have HZ:=zh (SV1W (x:=0) ⟨by decide,by decide⟩ (zka k1 eY) (zka k0 eY));have HO:=zh (SV1W (x:=1) ⟨by decide,by decide⟩ k3 (zka k2 eY));have dW:=zh k4;have dM:=zh k5;clear aP lG aD eY k0 k1 k2 k3 k4 k5 kR iZ hM
 have hs0:SS.Sm ⟨[[0]],[],[]⟩:=⟨by decide,(by intro l hl;simp only[List.mem_cons,List.not_mem_nil,or_false]at hl;subst hl;decide),by decide,by decide⟩
 have hs1:SS.Sm ⟨[[1]],[],[]⟩:=⟨by decide,(by intro l hl;simp only[List.mem_cons,List.not_mem_nil,or_false]at hl;subst hl;decide),by decide,by decide⟩
 have HEQ1:=zh (fun w' (hb:Below wa.heap.size wa w')=>zmS ⟨[[0]],[],[]⟩ ⟨[[0]],[],[]⟩ _ _ w' (ug.out.any.later (zkb gV.out hb)) (HZ.out.later hb) hs0 hs0);have HEQ2:=zh (fun w' (hb:Below wa.heap.size wa w')=>zmS ⟨[[1]],[],[]⟩ ⟨[[1]],[],[]⟩ _ _ w' (HS8.out.any.later (zkb gV.out hb)) (HO.out.later hb) hs1 hs1);have HEQ3:=zh (fun w' (hb:Below wa.heap.size wa w')=>zmS ⟨[[0]],[],[]⟩ ⟨[[0]],[],[]⟩ _ _ w' (HX8.out.later (zkb gV.out hb)) (HZ.out.later hb) hs0 hs0);rw[show eqS ⟨[[0]],[],[]⟩ ⟨[[0]],[],[]⟩=true from by decide]at HEQ1 HEQ3;rw[show eqS ⟨[[1]],[],[]⟩ ⟨[[1]],[],[]⟩=true from by decide]at HEQ2;clear hs0 hs1;have aO:=Below.refl wa.heap.size wa;obtain⟨q0,q1,q2,q3,q4,q5⟩:=box6 (zka bT.out (zkb gV.out aO));obtain⟨y0,y1,y2⟩:=zkk (zka dW.out aO);obtain⟨z0,z1,z2⟩:=zkk (zka dM.out aO)
 obtain⟨t0,t1,t2⟩:=zkk (zka yZ.out (zkb gV.out aO));go_wp2_with fail;refine(HEQ1.out _ zr).mono ?_;rintro e wb ⟨rfl,hbb⟩;have dQ:=zh hbb;clear aO q0 q1 q2 q3 q4 q5 y0 y1 y2 z0 z1 z2 t0 t1 t2 hbb;have aO:=dQ.out;obtain⟨q0,q1,q2,q3,q4,q5⟩:=box6 (zka bT.out (zkb gV.out aO));obtain⟨y0,y1,y2⟩:=zkk (zka dW.out aO);obtain⟨z0,z1,z2⟩:=zkk (zka dM.out aO);obtain⟨t0,t1,t2⟩:=zkk (zka yZ.out (zkb gV.out aO));go_wp2_with fail;refine(HEQ2.out _ dQ.out).mono ?_;rintro e wc ⟨rfl,hbb⟩;have gU:=zh (zkb dQ.out hbb);clear aO q0 q1 q2 q3 q4 q5 y0 y1 y2 z0 z1 z2 t0 t1 t2 hbb;have aO:=gU.out;obtain⟨q0,q1,q2,q3,q4,q5⟩:=box6 (zka bT.out (zkb gV.out aO));obtain⟨y0,y1,y2⟩:=zkk (zka dW.out aO);obtain⟨z0,z1,z2⟩:=zkk (zka dM.out aO);obtain⟨t0,t1,t2⟩:=zkk (zka yZ.out (zkb gV.out aO));go_wp2_with fail;refine(HEQ3.out _ gU.out).mono ?_
 rintro e wd ⟨rfl,hbb⟩;have dP:=zh (zkb gU.out hbb);clear aO q0 q1 q2 q3 q4 q5 y0 y1 y2 z0 z1 z2 t0 t1 t2 hbb;go_wp2_with fail;go_ret;exact⟨rfl,zkb HB1.out (zkb HB1A.out dP.out)⟩
end
section
open Go.RowKit Go.ChangeShapes Go.WideShapes Go.ChangeAt Go.Deep
theorem zp9:Tryz.prog.cellsOf 24=4:=by kernel_rfl
theorem ztI:Tryz.prog.bytesOf 24=56:=by kernel_rfl
theorem zxf:Tryz.prog.cellsOf 5=1:=by kernel_rfl
theorem zvx:Tryz.prog.cellsOf 3=1:=by kernel_rfl
theorem zvw:Tryz.prog.cellsOf 9=1:=by kernel_rfl
theorem ztG:Tryz.prog.cellsOf 22=1:=by kernel_rfl
theorem zlW{H:Type}{P:Program}{e:TypeId}:∀ {l:List (DataW H)} {d:DataW H},d∈l->∀n∈d.weights P e,n∈DataW.weightsAll P e l
 | d0::l,d,hd,n,hn=>by
  simp only[DataW.weightsAll,List.mem_append];rcases List.mem_cons.1 hd with rfl|hd
  ·exact .inl hn
  ·exact .inr (zlW hd n hn)
theorem zmW{H:Type}:∀(ks:List T) (ds:List (DataW H)),ks.length=ds.length->(∀i (h:i<ks.length) (h':i<ds.length),size ks[i]<=Rows.uptoBulk ds[i])->zkW ks<=Rows.uptoBulkAll ds
 | [],[],_,_=>by simp[zkW]
 | t::ts,d::ds,hl,h=>by
  have h0:=h 0 (Nat.zero_lt_succ _) (Nat.zero_lt_succ _);have h1:=zmW ts ds (by simpa using hl) (fun i hi hi'=>h (i+1) (Nat.succ_lt_succ hi) (Nat.succ_lt_succ hi'));simp only[List.getElem_cons_zero]at h0;simp only[zkW,Rows.uptoBulkAll];omega
 | [],_::_,hl,_=>by simp at hl
 | _::_,[],hl,_=>by simp at hl
section
variable {H:Type} {enc:TypeId×Value->H} {w:World} {held:Bool}
def zeroT':T:=.nd 0 0 ⟨#[]⟩ []
theorem zsO:∀(fuel:Nat) (cs:List Value) (x:DataW H×List MemPlace),DataW.trod enc Tryz.prog w 0 (fun _=>true) held fuel 24 cs=some x ->
  (∀n∈x.1.weights Tryz.prog 24,n<=reachBytes) ->
  ∃t u0 u1 u2 u3,cs=[u0,u1,u2,u3]/\NV w Any t (.agg #[u0,u1,u2,u3])/\t.ks.length*56<=reachBytes/\size t<=Rows.uptoBulk x.1:=by
 intro fuel
 induction fuel using Nat.strongRecOn with
 | _ fuel ih =>
 intro cs x h hw;have hts:=DataW.trod_struct Tryz.underlying24 h;obtain⟨xs,n,hfu,hx,hcl,hxl,hg⟩:=hts;subst hx;rw[zp9]at hcl
 match cs,hcl with
 | [c0,c1,c2,c3],_ =>
 match xs,hxl with
 | [y0,y1,y2,y3],_ =>
 have g0:=hg 0 _ rfl;have g1:=hg 1 _ rfl;have g2:=hg 2 _ rfl;have g3:=hg 3 _ rfl;simp only[zxf,zvx,zvw,ztG,List.drop_zero,List.take_succ_cons,List.take_zero,List.drop_succ_cons,List.getElem?_cons_zero,List.getElem?_cons_succ]at g0 g1 g2 g3;obtain⟨k,e0,e0',wk⟩:=DataW.trod_int Tryz.underlying5 g0;obtain⟨m,e1,e1',wm⟩:=DataW.trod_int Tryz.underlying3 g1;obtain⟨s,e2,e2',ws⟩:=DataW.trod_string Tryz.underlying9 g2;injection e0 with e0;injection e1 with e1;injection e2 with e2;subst e0 e1 e2 e0' e1' e2';have hf:Fld k m s:=by
  refine⟨?_,?_,ws⟩
  ·have:=wk;simp[Lit.wf,IntKind.min,IntKind.max,IntKind.signed,IntKind.bits]at this;omega
  ·have:=wm;simp[Lit.wf,IntKind.min,IntKind.max,IntKind.signed,IntKind.bits]at this;omega
 have hsl:=DataW.trod_slice Tryz.underlying22 g3;rcases hsl with⟨e3,e3'⟩|⟨a,len,cap,elems,rest,n',hn',e3,e3',_,hl,hm,hel,hat,hsp,_⟩
 ·injection e3 with e3;subst e3 e3';refine⟨.nd k m s [],_,_,_,_,rfl,NV.shut (ks:=[]) hf (Nat.zero_le _) (Nat.zero_le _) zl5.nil,by simp,?_⟩;simp only[size,zkW,List.map_cons,List.map_nil,Rows.uptoBulk];omega
 ·injection e3 with e3;subst e3 e3';obtain⟨hrl,_⟩:=hsp rfl;rw[zp9]at hat
  -- what the reach says of this slice,and of its elements
  have hws:∀q∈DataW.weights Tryz.prog 22 (.slice (elems.map (·.1)) (rest.map (·.1)):DataW H),q<=reachBytes:=by
   intro q hq;refine hw q ?_;simp only[List.map_cons,List.map_nil,DataW.weights,Tryz.underlying24];simp only[DataW.weightsEach,List.map_cons,List.map_nil,List.mem_append];exact .inr (.inr (.inr (.inl hq)))
  simp only[DataW.weights,Tryz.underlying22,ztI]at hws;have hcap:cap*56<=reachBytes:=by
   have:=hws _ (List.mem_cons_self ..);simp only[List.length_map]at this;rw[hel,hrl]at this;rw[show cap=len+(cap-len) by omega];exact this
  have wF:∀y∈elems,∀q∈y.1.weights Tryz.prog 24,q<=reachBytes:=fun y hy q hq =>
   hws q (List.mem_cons_of_mem _ (List.mem_append_left _ (zlW (List.mem_map_of_mem hy) q hq)))
  have key:∀i (hi:i<elems.length),∃t u0 u1 u2 u3,w.cells? 0 (a.add (i*4)) 4=some [u0,u1,u2,u3]/\NV w Any t (.agg #[u0,u1,u2,u3])/\size t<=Rows.uptoBulk elems[i].1:=by
   intro i hi;have h1:=hat i (by omega);rw[List.getElem?_eq_getElem hi]at h1;obtain⟨cs',hcs,ht⟩:=Option.bind_eq_some_iff.1 h1;obtain⟨t,u0,u1,u2,u3,rfl,hn,_,hb⟩:=ih n' (by omega) cs' elems[i] ht (wF _ (List.getElem_mem hi));exact⟨t,u0,u1,u2,u3,hcs,hn,hb⟩
  have hex:∃ks:List T,ks.length=elems.length/\∀i (h:i<ks.length) (h':i<elems.length),(∃u0 u1 u2 u3,w.cells? 0 (a.add (i*4)) 4=some [u0,u1,u2,u3]/\NV w Any ks[i] (.agg #[u0,u1,u2,u3]))/\size ks[i]<=Rows.uptoBulk elems[i].1:=by
   classical
   refine⟨(List.range elems.length).map fun i=>if h:i<elems.length then(key i h).choose else zeroT',by simp,fun i h h'=>?_⟩;simp only[List.getElem_map,List.getElem_range,h',dif_pos];obtain⟨u0,u1,u2,u3,h1,h2,h3⟩:=(key i h').choose_spec;exact⟨⟨u0,u1,u2,u3,h1,h2⟩,h3⟩
  obtain⟨ks,hkl,hks⟩:=hex;have hlen:ks.length=len:=by omega
  have hLK:ks.length<=LK:=by unfold LK;unfold reachBytes at hcap;omega
  refine⟨.nd k m s ks,_,_,_,_,rfl,?_,?_,?_⟩
  ·rw[<-hlen];refine NV.shut hf hLK (by omega) fun i hi=>?_;obtain⟨⟨u0,u1,u2,u3,hc,hn⟩,_⟩:=hks i hi (by omega);obtain⟨_,_,hcell⟩:=World.cells?_some hc;refine⟨a,u0,u1,u2,u3,rfl,trivial,⟨?_,?_,?_,?_⟩,hn⟩
   ·have:=hcell 0 (by omega);simpa[Addr.add]using this
   ·have:=hcell 1 (by omega);simpa[Addr.add]using this
   ·have:=hcell 2 (by omega);simpa[Addr.add]using this
   ·have:=hcell 3 (by omega);simpa[Addr.add]using this
  ·simp only[T.ks_nd];omega
  ·have hb:=zmW ks (elems.map (·.1)) (by simp[hkl]) (fun i h h'=>by
    have:=(hks i h (by simpa using h')).2;simpa using this)
   simp only[size,List.map_cons,List.map_nil,Rows.uptoBulk,Rows.uptoBulkAll];omega
end
theorem Tryz.own:ownKnob Tryz.prog.godebug=none:=by kernel_rfl
theorem Tryz.laidOut:laidOutB Tryz.prog=true:=by kernel_rfl
theorem zwM{H:Type}{enc:TypeId×Value->H}{W:World}{base:Nat}{v:Value}{d:DataW H}{p:List MemPlace}(hok:Value.okWide Tryz.prog W .any base 24 v)
  (h:DataW.Trod enc Tryz.prog W 0 (fun _=>true) true 24 v d p)(hw:∀n∈d.weights Tryz.prog 24,n<=reachBytes) :
  ∃t,NV W Any t v/\t.ks.length*56<=reachBytes/\size t<=Rows.uptoBulk d:=by
 obtain⟨cs,rfl,hcs⟩:=okWide_struct Tryz.underlying24 hok;obtain⟨fuel,hf⟩:=h;obtain⟨t,u0,u1,u2,u3,e,hn,h1,h2⟩:=zsO fuel _ _ hf hw;refine⟨t,?_,h1,h2⟩;have:cs = #[u0,u1,u2,u3]:=by
  apply Array.ext';simpa[Value.cells]using e
 rw[this];exact hn
theorem ztF:Tryz.prog.cellsOf 76=3:=by kernel_rfl
theorem zxg:Tryz.prog.bytesOf 76=32:=by kernel_rfl
section
variable {H:Type} {enc:TypeId×Value->H} {w:World} {held:Bool}
theorem zuP{ty E:TypeId}{n b:Nat}(ht:Tryz.prog.underlying ty=some (.slice E))(hc:Tryz.prog.cellsOf E=n)(hb:Tryz.prog.bytesOf E=b){fuel:Nat}{cs:List Value}{x:DataW H×List MemPlace}
  (h:DataW.trod enc Tryz.prog w 0 (fun _=>true) held fuel ty cs=some x)(hw:∀q∈x.1.weights Tryz.prog ty,q<=reachBytes) :
  cs=[.slice none 0 0]\/∃a len cap,cs=[.slice (some a) len cap]/\len<=cap/\cap*b<=reachBytes/\∀i,i<len->∃cs' y n',w.cells? 0 (a.add (i*n)) n=some cs'/\DataW.trod enc Tryz.prog w 0 (fun _=>true) held n' E cs'=some y/\∀q∈y.1.weights Tryz.prog E,q<=reachBytes:=by
 have hsl:=DataW.trod_slice ht h;rcases hsl with⟨e3,e3'⟩|⟨a,len,cap,elems,rest,n',hn',e3,e3',_,hl,hm,hel,hat,hsp,_⟩
 ·exact .inl e3
 ·refine .inr ⟨a,len,cap,e3,hl,?_,?_⟩
  ·obtain⟨hrl,_⟩:=hsp rfl;subst e3';simp only[DataW.weights,ht,hb]at hw;have:=hw _ (List.mem_cons_self ..);simp only[List.length_map]at this;rw[hel,hrl]at this;rw[show cap=len+(cap-len) by omega];exact this
  ·intro i hi;subst e3';simp only[DataW.weights,ht,hb]at hw;have hi':i<elems.length:=by omega
   have h1:=hat i (by omega);rw[List.getElem?_eq_getElem hi',hc]at h1;obtain⟨cs',hcs,ht'⟩:=Option.bind_eq_some_iff.1 h1;exact⟨cs',elems[i],n',hcs,ht',fun q hq=>hw q (List.mem_cons_of_mem _ (List.mem_append_left _ (zlW (List.mem_map_of_mem (List.getElem_mem hi')) q hq)))⟩
theorem zwK{fuel:Nat}{cs:List Value}{x:DataW H×List MemPlace}(h:DataW.trod enc Tryz.prog w 0 (fun _=>true) held fuel 76 cs=some x) :
  ∃v:VD,cs=[.string v.s,.int .u8 v.k,.int .i64 v.n]/\FldV v:=by
 have hts:=DataW.trod_struct Tryz.underlying76 h;obtain⟨xs,n,hfu,hx,hcl,hxl,hg⟩:=hts;rw[ztF]at hcl
 match cs,hcl with
 | [c0,c1,c2],_ =>
 match xs,hxl with
 | [y0,y1,y2],_ =>
 have g0:=hg 0 _ rfl;have g1:=hg 1 _ rfl;have g2:=hg 2 _ rfl;obtain⟨s,e2,e2',ws⟩:=DataW.trod_string Tryz.underlying9 g0;obtain⟨k,e0,e0',wk⟩:=DataW.trod_int Tryz.underlying5 g1;obtain⟨m,e1,e1',wm⟩:=DataW.trod_int Tryz.underlying3 g2;injection e0 with e0;injection e1 with e1;injection e2 with e2;subst e0 e1 e2;refine⟨⟨s,k,m⟩,rfl,ws,?_,?_⟩
 ·have:=wk;simp[Lit.wf,IntKind.min,IntKind.max,IntKind.signed,IntKind.bits]at this;constructor<;>simp only<;>omega
 ·have:=wm;simp[Lit.wf,IntKind.min,IntKind.max,IntKind.signed,IntKind.bits]at this;constructor<;>simp only<;>omega
theorem zqM{α:Type}[Inhabited α]{n:Nat}{P:Nat->α->Prop}(h:∀i,i<n->∃x,P i x):∃l:List α,l.length=n/\∀i (hi:i<l.length),P i l[i]:=by
 obtain⟨f,hf⟩:=choose_lt h;exact⟨(List.range n).map f,by simp,fun i hi=>by simp only[List.getElem_map,List.getElem_range];exact hf i (by simpa using hi)⟩
instance:Inhabited VD:=⟨⟨⟨#[]⟩,0,0⟩⟩
theorem zrR{fuel:Nat}{cs:List Value}{x:DataW H×List MemPlace}(h:DataW.trod enc Tryz.prog w 0 (fun _=>true) held fuel 25 cs=some x)(hw:∀q∈x.1.weights Tryz.prog 25,q<=reachBytes) :
  ∃(A:Option Addr) (vs:List VD) (c:Nat),cs=[.slice A vs.length c]/\RowV w Any A vs/\vs.length<=4398046510976/\vs.length<=c:=by
 rcases zuP Tryz.underlying25 ztF zxg h hw with rfl|⟨a,len,cap,rfl,hl,hcap,hat⟩
 ·exact⟨none,[],0,rfl,fun i hi=>absurd hi (by simp),Nat.zero_le _,Nat.zero_le _⟩
 ·obtain⟨vs,hvl,hvs⟩:=zqM (n:=len) (P:=fun i (v:VD)=>w.cells? 0 (a.add (i*3)) 3=some [.string v.s,.int .u8 v.k,.int .i64 v.n]/\FldV v) fun i hi=>by
   obtain⟨cs',y,n',hcs,ht,_⟩:=hat i hi;obtain⟨v,rfl,hf⟩:=zwK ht;exact⟨v,hcs,hf⟩
  refine⟨some a,vs,cap,by rw[hvl],fun i hi=>?_,by unfold reachBytes at hcap;omega,by omega⟩;obtain⟨hc,hf⟩:=hvs i hi;obtain⟨_,_,hcell⟩:=World.cells?_some hc;refine⟨a,rfl,trivial,⟨?_,?_,?_⟩,hf⟩
  ·have:=hcell 0 (by omega);simpa[Addr.add]using this
  ·have:=hcell 1 (by omega);simpa[Addr.add]using this
  ·have:=hcell 2 (by omega);simpa[Addr.add]using this
theorem zsN{fuel:Nat}{cs:List Value}{x:DataW H×List MemPlace}(h:DataW.trod enc Tryz.prog w 0 (fun _=>true) held fuel 25 cs=some x)(hw:∀q∈x.1.weights Tryz.prog 25,q<=reachBytes) :
  ∃(A:Option Addr) (vs:List VD) (c:Nat),cs=[.slice A vs.length c]/\RowV w Any A vs/\vs.length<=LV/\vs.length<=c:=by
 obtain⟨A,vs,c,h1,h2,h3,h4⟩:=zrR h hw;exact⟨A,vs,c,h1,h2,by unfold LV;omega,h4⟩
instance:Inhabited T:=⟨zeroT'⟩
end
section
variable {H:Type} {enc:TypeId×Value->H} {w:World} {held:Bool}
instance:Inhabited (List Int):=⟨[]⟩
end
theorem zuw{H:Type}{enc:TypeId×Value->H}{W:World}{base:Nat}{v:Value}{d:DataW H}{p:List MemPlace}(hok:Value.okWide Tryz.prog W .any base 25 v)
  (h:DataW.Trod enc Tryz.prog W 0 (fun _=>true) true 25 v d p)(hw:∀n∈d.weights Tryz.prog 25,n<=reachBytes):∃(A:Option Addr) (vs:List VD) (c:Nat),v=.slice A vs.length c/\RowV W Any A vs/\vs.length<=LV/\vs.length<=c:=by
 obtain⟨a,len,cap,rfl⟩:=okWide_slice Tryz.underlying25 hok;obtain⟨fuel,hf⟩:=h;obtain⟨A,vs,c,e,hr,h1,h2⟩:=zsN hf hw;refine⟨A,vs,c,?_,hr,h1,h2⟩;simpa[Value.cells]using e
theorem zvy:Tryz.prog.cellsOf 27=3:=by kernel_rfl
theorem zwt{H:Type}{enc:TypeId×Value->H}{W:World}{base:Nat}{v:Value}{d:DataW H}{p:List MemPlace}(hok:Value.okWide Tryz.prog W .any base 27 v)
  (h:DataW.Trod enc Tryz.prog W 0 (fun _=>true) true 27 v d p):∃x:BX,v=.agg #[.int .i64 x.v,.int .i64 x.l,.int .i64 x.i]/\(-9223372036854775808<=x.v/\x.v<=9223372036854775807)/\(-9223372036854775808<=x.l/\x.l<=9223372036854775807)/\(-9223372036854775808<=x.i/\x.i<=9223372036854775807):=by
 obtain⟨cs,rfl,hcs⟩:=okWide_struct Tryz.underlying27 hok;obtain⟨fuel,hf⟩:=h;have hts:=DataW.trod_struct Tryz.underlying27 hf;obtain⟨xs,n,hfu,hx,hcl,hxl,hg⟩:=hts;rw[zvy]at hcl;obtain⟨cs⟩:=cs;simp only[Value.cells]at hcl hg
 match cs,hcl with
 | [c0,c1,c2],_ =>
 match xs,hxl with
 | [y0,y1,y2],_ =>
 have g0:=hg 0 _ rfl;have g1:=hg 1 _ rfl;have g2:=hg 2 _ rfl;obtain⟨m0,e0,_,w0⟩:=DataW.trod_int Tryz.underlying3 g0;obtain⟨m1,e1,_,w1⟩:=DataW.trod_int Tryz.underlying3 g1;obtain⟨m2,e2,_,w2⟩:=DataW.trod_int Tryz.underlying3 g2;injection e0 with e0;injection e1 with e1;injection e2 with e2;subst e0 e1 e2;simp[Lit.wf,IntKind.min,IntKind.max,IntKind.signed,IntKind.bits]at w0 w1 w2;exact⟨⟨m0,m1,m2⟩,rfl,⟨by simp only;omega,by simp only;omega⟩,⟨by simp only;omega,by simp only;omega⟩,⟨by simp only;omega,by simp only;omega⟩⟩
end
section
open Go Go.RowKit Go.ChangeShapes Go.WideShapes Go.ChangeAt
section
variable {H:Type} {enc:TypeId×Value->H} {P:Program} {w:World} {base:Nat} {spare:Nat->Bool} {held:Bool}
theorem zpI{t t' t'' t3 t4:TypeId}{args:Array Value}{ds:List (DataW H)}{ps:List MemPlace}(h:DataW.TrodAll enc P w base spare held [t,t',t'',t3,t4] args.toList ds ps) :
  ∃v v' v'' v3 v4 d d' d'' d3 d4 p p' p'' p3 p4,args = #[v,v',v'',v3,v4]/\ds=[d,d',d'',d3,d4]/\ps=p++p'++p''++p3++p4/\DataW.Trod enc P w base spare held t v d p/\DataW.Trod enc P w base spare held t' v' d' p'/\DataW.Trod enc P w base spare held t'' v'' d'' p''/\DataW.Trod enc P w base spare held t3 v3 d3 p3/\DataW.Trod enc P w base spare held t4 v4 d4 p4:=by
 obtain⟨v,vs,d,ds',p,q,hargs,rfl,rfl,hd,hrest⟩:=trodAll_cons h;obtain⟨v',vs',d',ds'',p',q',rfl,rfl,rfl,hd',hrest'⟩:=trodAll_cons hrest;obtain⟨v'',vs'',d'',ds''',p'',q'',rfl,rfl,rfl,hd'',hrest''⟩:=trodAll_cons hrest';obtain⟨v3,vs3,d3,ds3,p3,q3,rfl,rfl,rfl,hd3,hrest3⟩:=trodAll_cons hrest'';obtain⟨v4,vs4,d4,ds4,p4,q4,rfl,rfl,rfl,hd4,hrest4⟩:=trodAll_cons hrest3;obtain⟨rfl,rfl,rfl⟩:=trodAll_nil hrest4;exact⟨v,v',v'',v3,v4,d,d',d'',d3,d4,p,p',p'',p3,p4,by cases args;simp_all,rfl,by simp,hd,hd',hd'',hd3,hd4⟩
theorem zqn{t t' t'' t3 t4:TypeId}{v v' v'' v3 v4:Value}{d d' d'' d3 d4:DataW H}{p p' p'' p3 p4:List MemPlace}(h:DataW.Trod enc P w base spare held t v d p)(h':DataW.Trod enc P w base spare held t' v' d' p')
  (h'':DataW.Trod enc P w base spare held t'' v'' d'' p'')(h3:DataW.Trod enc P w base spare held t3 v3 d3 p3)(h4:DataW.Trod enc P w base spare held t4 v4 d4 p4):DataW.TrodAll enc P w base spare held [t,t',t'',t3,t4] [v,v',v'',v3,v4] [d,d',d'',d3,d4] (p++(p'++(p''++(p3++p4)))):=⟨p,p'++(p''++(p3++p4)),h,trodAll_mk4 h' h'' h3 h4,rfl⟩
end
end
end Go.Proofs.YtghbhbdnkjjnnaaGreat
