/-
  Texts of the proof, put together without their remarks: Els, Rpe, Alt, Alf, Rpf, Rpg.
-/
import Derived.Test.YtembgnhbpmfhpaaGreatK6
set_option linter.unusedSimpArgs false
set_option linter.unusedVariables false
set_option maxHeartbeats 8000000
set_option maxRecDepth 100000
namespace Go.Proofs.YtembgnhbpmfhpaaGreat
section
open Go Go.RowKit
def SmI(l:List Int):Prop:=l.length<=1000000/\∀e∈l,-1000000<=e/\e<=1000000
def cmpI(a b:Int):Int:=if a<b then -1 else if b<a then 1 else 0
def cmpR:List Int->List Int->Int
 | x::a,y::b=>if cmpI (rnk x) (rnk y)≠0 then cmpI (rnk x) (rnk y)else cmpR a b
 | _,_=>0
def cmpL(a b:List Int):Int:=if a.length≠b.length then cmpI a.length b.length else cmpR a b
def orI(x y:Int):Int:=if x≠0 then x else y
def zmg:List (List Int)->List (List Int)->Int
 | a::p,b::q=>if cmpL a b≠0 then cmpL a b else zmg p q
 | _,_=>0
def wtS(s:SS):Int:=lw s.tin+lw s.tout+wt s.cells
def znL(a b:SS):Bool :=
 if cmpI (wtS a) (wtS b)≠0 then decide (cmpI (wtS a) (wtS b)<0)
 else if zmg a.cells b.cells≠0 then decide (zmg a.cells b.cells<0)
 else decide (orI (cmpL a.tin b.tin) (cmpL a.tout b.tout)<0)
theorem zui(x:Int)(w:World):Calls Tryz.prog 103 #[.int .i64 x] w fun e w'=>e=.returned (.bool false)/\w'=w:=by
 go_enter Tryz.func103,Tryz.ntmps103;go_wp2_with fail;go_ret;simp
theorem zvy(x y:Int)(w:World):Calls Tryz.prog 63 #[.int .i64 x,.int .i64 y] w fun e w'=>e=.returned (.int .i64 (cmpI x y))/\w'=w:=by
 have H:=zh zui;go_enter Tryz.func63,Tryz.ntmps63;go_wp2_with fail;refine(H.out _ _).mono ?_;rintro e w1 ⟨rfl,rfl⟩;go_wp2_with fail;refine(H.out _ _).mono ?_;rintro e w1 ⟨rfl,rfl⟩;by_cases h1:x<y
 ·go_wp2_with fail;go_ret;simp[cmpI,h1]
 ·by_cases h2:y<x
  ·go_wp2_with fail;go_ret;simp[cmpI,h1,h2]
  ·go_wp2_with fail;go_ret;exact⟨by unfold cmpI;rw[if_neg (by omega),if_neg (by omega)];rfl,rfl⟩
theorem zKa(x y:Int)(b:Nat)(w:World)(h:w.heap[b]?=some (.cells #[.int .i64 x,.int .i64 y] 3 (0,0))):Calls Tryz.prog 62 #[.slice (some ⟨b,0,none⟩) 2 2] w fun e w'=>e=.returned (.int .i64 (orI x y))/\w'=w:=by
 have x0:w.cell? ⟨b,0,none⟩=some (.int .i64 x):=zc h rfl;have x1:w.cell? ⟨b,1,none⟩=some (.int .i64 y):=zc h rfl;clear h;go_enter Tryz.func62,Tryz.ntmps62;go_wp2_with fail
 go_loopw [8] (fun i wr=>∃j:Nat,j<=2/\i=.int .i64 j/\wr=w/\Hid ((0<j->x=0)/\(1<j->y=0))) (fun i _=>2-(intOf i).toNat)
 case atStart=>exact⟨0,by omega,rfl,rfl,zh ⟨fun h=>by omega,fun h=>by omega⟩⟩
 case round =>
  obtain⟨j,hj,rfl,rfl,HO⟩:=hrel
  match j,hj,HO with
  | 0,_,HO =>
   by_cases h0:x=0
   ·subst h0;go_wp2_with fail
    go_roundw
    case rel=>exact⟨1,by omega,by go_num,trivial,zh ⟨fun _=>by trivial,fun h=>by omega⟩⟩
    case measure=>simp[intOf]
   ·have e0:(x != 0)=true:=by simpa using h0
    go_wp2_with fail;go_ret;simp[orI,h0]
  | 1,_,HO =>
   obtain rfl:=HO.out.1 (by omega);by_cases h0:y=0
   ·subst h0;go_wp2_with fail
    go_roundw
    case rel=>exact⟨2,by omega,by go_num,trivial,zh ⟨fun _=>by trivial,fun _=>by trivial⟩⟩
    case measure=>simp[intOf]
   ·have e0:(y != 0)=true:=by simpa using h0
    go_wp2_with fail;go_ret;simp[orI]
  | 2,_,HO =>
   obtain rfl:=HO.out.1 (by omega);obtain rfl:=HO.out.2 (by omega);go_wp2_with fail;go_ret;simp[orI]
theorem zpY(x:Int)(w:World)(hx : -1000000<=x/\x<=1000000):Calls Tryz.prog 105 #[.int .i64 x] w fun e w'=>e=.returned (.int .i64 (rnk x))/\w'=w:=by
 have e1:IntKind.i64.wrap (2*x)=2*x:=IntWalk.i64_in _ (by omega);have e2:IntKind.i64.wrap (2*x-1)=2*x-1:=IntWalk.i64_in _ (by omega);have e3:IntKind.i64.wrap (-2*x) = -2*x:=IntWalk.i64_in _ (by omega);go_enter Tryz.func105,Tryz.ntmps105;by_cases h:0<x
 ·go_wp2_with fail;go_ret;simp[rnk,h]
 ·go_wp2_with fail;go_ret;exact⟨by unfold rnk;rw[if_neg (by omega)];rfl,rfl⟩
theorem znF{l:List Int}{j:Nat}(hj:j<l.length):lw (l.take (j+1))=lw (l.take j)+(1+rnk l[j]):=by
 rw[List.take_succ_eq_append_getElem hj];unfold lw;rw[List.map_append,List.sum_append];congr 1;simp
theorem zra{x:Int}(h : -1000000<=x/\x<=1000000):0<=rnk x/\rnk x<=2000000:=by unfold rnk;split<;>omega
theorem zzy{l:List Int}(h:SmI l):0<=lw l/\lw l<=l.length*2000001:=by
 have h1:=zqs (l:=l) (h:=2000001) fun e he=>by have:=zra (h.2 e he);omega
 omega
theorem zl3(l:List Int)(A:Option Addr)(c:Nat)(w:World)(hr:RowI w Any A l)(hl:SmI l):Calls Tryz.prog 104 #[.slice A l.length c] w fun e w'=>e=.returned (.int .i64 (lw l))/\w'=w:=by
 have HL:=zh hl;have HR:=zh hr;have HK:=zh zpY;obtain⟨n,hn⟩:=zX (l.length);have HN:=zh hn;have uS:n<=1000000:=by rw[<-hn];exact hl.1
 rw[hn];clear hr hl hn;go_enter Tryz.func104,Tryz.ntmps104;go_wp2_with fail
 go_loopw [10,3] (fun i s wr=>∃j:Nat,j<=n/\i=.int .i64 j/\s=.int .i64 (lw (l.take j)+((n:Int)-(j:Int)))/\wr=w) (fun i _ _=>n-(intOf i).toNat)
 case atStart=>exact⟨0,by omega,rfl,by simp[lw],rfl⟩
 case round =>
  obtain⟨j,hj,rfl,rfl,rfl⟩:=hrel;by_cases hlt:j<n
  ·have hj1:(j:Int)<(n:Int):=by omega
   have hj0:(0:Int)<=(j:Int):=by omega
   have hlj:j<l.length:=by rw[HN.out];exact hlt
   obtain⟨a,hA,-,hc,-⟩:=HR.out j hlj;subst hA;have hx:=HL.out.2 _ (List.getElem_mem hlj);have hb:=zra hx;have HX:=zh (HK.out l[j] wr hx);have hS:=zzy (l:=l.take j) ⟨by simp;omega,fun e he=>HL.out.2 e (List.mem_of_mem_take he)⟩;have HT:=zh (znF hlj);simp only[List.length_take]at hS;have hmin:(min j l.length:Nat)<=1000000:=by omega
   obtain⟨S,hSS⟩:=zX (lw (l.take j));rw[hSS]at HT hS ⊢;have hS2:0<=S/\S<=3000000000000:=⟨hS.1,by omega⟩
   generalize l[j]=x at *
   obtain⟨r,hr⟩:=zX (rnk x);rw[hr]at HX HT hb;have uQ:IntKind.i64.wrap ((j:Int)+1)=(j:Int)+1:=IntWalk.i64_in _ (by omega);have hws:IntKind.i64.wrap (S+((n:Int)-(j:Int))+r)=S+((n:Int)-(j:Int))+r:=IntWalk.i64_in _ (by omega);clear hSS hr hS hx;go_wp2_with fail;refine HX.out.mono ?_;rintro e w2 ⟨rfl,rfl⟩;go_wp2_with fail
   go_roundw
   case rel=>exact⟨j+1,by omega,by go_num,by rw[HT.out];congr 1;omega,trivial⟩
   case measure=>simp[intOf];omega
  ·obtain rfl:j=n:=by omega
   have HF:=zh (show lw (l.take j)+((j:Int)-(j:Int))=lw l by rw[<-HN.out,List.take_length];omega);go_wp2_with fail;go_ret;exact⟨by rw[<-HF.out];rfl,rfl⟩
theorem fnLw:IsFn Tryz.prog 104 Tryz.f104:=⟨Tryz.func104,by kernel_rfl,by kernel_rfl⟩
theorem zxD:IsFn Tryz.prog 105 Tryz.f105:=⟨Tryz.func105,by kernel_rfl,by kernel_rfl⟩
theorem zyI:IsFn Tryz.prog 63 Tryz.f63:=⟨Tryz.func63,by kernel_rfl,by kernel_rfl⟩
structure SmS(s:SS):Prop where
 n:s.cells.length<=1000
 c:∀l∈s.cells,SmI l
 i:SmI s.tin
 o:SmI s.tout
theorem znB{ls:List (List Int)}{j:Nat}(hj:j<ls.length):wt (ls.take (j+1))=wt (ls.take j)+lw ls[j]:=by
 rw[List.take_succ_eq_append_getElem hj];unfold wt;rw[List.map_append,List.sum_append];congr 1;simp
theorem zqr{l:List Int}(h:SmI l):0<=lw l/\lw l<=2000001000000:=by
 have h1:=zzy h;have h2:=h.1;omega
theorem zxT:∀ {ls:List (List Int)},(∀l∈ls,SmI l)->0<=wt ls/\wt ls<=ls.length*2000001000000
 | [],_=>by simp[wt]
 | l::ls,h=>by
  have h1:=zqr (h l (List.mem_cons_self ..));have h2:=zxT (ls:=ls) fun x hx=>h x (List.mem_cons_of_mem _ hx);rw[zn2,List.length_cons];omega
theorem zpl(s:SS)(v:Value)(w:World)(hv:SV w Any s v)(hs:SmS s):Calls Tryz.prog 64 #[v] w fun e w'=>e=.returned (.int .i64 (wtS s))/\Below w.heap.size w w':=by
 obtain⟨A,c,B,d,D,e,rfl,hr1,hr2,hr3,-⟩:=hv;have k1:=heap_alloc_new w (.cells #[.slice A s.cells.length c,.slice B s.tin.length d,.slice D s.tout.length e] 32);have hb1:=zkb (zs w) (.cells #[.slice A s.cells.length c,.slice B s.tin.length d,.slice D s.tout.length e] 32);have HR1:=zh (fun w' (hb:Below w.heap.size w w')=>hr1.later hb);have HR2:=zh (fun w' (hb:Below w.heap.size w w')=>hr2.later hb);have HR3:=zh (fun w' (hb:Below w.heap.size w w')=>hr3.later hb);have HS:=zh hs;obtain⟨n,hn⟩:=zX (s.cells.length);have HN:=zh hn;have cz:n<=1000:=by rw[<-hn];exact hs.n
 rw[hn]at k1 hb1 ⊢;clear hr1 hr2 hr3 hs hn;go_enter Tryz.func64,Tryz.ntmps64;go_upto_region 1 with fail;obtain⟨N,hN⟩:=zX (w.heap.size);obtain⟨w1,hw1⟩:=zX (w.alloc (.cells #[.slice A n c,.slice B s.tin.length d,.slice D s.tout.length e] 32));rw[hw1]at k1 hb1 ⊢;rw[hN]at k1 ⊢;have HB1:=zh hb1;obtain⟨x0,x1,x2⟩:=zkr k1;have az:=zh k1;clear hw1 hb1 k1 hN;have h2:=zqr HS.out.i;have h3:=zqr HS.out.o;have HL2:=zh (fun w' (hb:Below w.heap.size w w')=>zl3 s.tin B d w' (HR2.out _ hb) HS.out.i);have xn:=zh (fun w' (hb:Below w.heap.size w w')=>zl3 s.tout D e w' (HR3.out _ hb) HS.out.o);obtain⟨T2,zP⟩:=zX (lw s.tin);obtain⟨T3,zO⟩:=zX (lw s.tout);have HWT:=zh (show wtS s=T2+T3+wt s.cells by unfold wtS;rw[zP,zO]);rw[zP]at h2 HL2;rw[zO]at h3 xn;have hw23:IntKind.i64.wrap (T2+T3)=T2+T3:=IntWalk.i64_in _ (by omega);clear zP zO;have hcd:=Below.drew (zs w1)
 have iE:Calls Tryz.prog 104 [.slice B s.tin.length d].toArray w1.drew fun e w'=>∃v,e=.returned v/\(v=.int .i64 T2/\w'=w1.drew):=(HL2.out _ (zka HB1.out hcd)).mono fun e w' ⟨h1,h2⟩=>⟨_,h1,rfl,h2⟩
 have mD:Calls Tryz.prog 104 [.slice D s.tout.length e].toArray w1.drew fun e w'=>∃v,e=.returned v/\(v=.int .i64 T3/\w'=w1.drew):=(xn.out _ (zka HB1.out hcd)).mono fun e w' ⟨h1,h2⟩=>⟨_,h1,rfl,h2⟩
 have hSS:zW (fun w':World=>zN3 w' N (.slice A n c) (.slice B s.tin.length d) (.slice D s.tout.length e)) zU w1.drew:=⟨⟨zb hcd x0,zb hcd x1,zb hcd x2⟩,trivial⟩
 clear x0 x1 x2;refine wp_region_noPanic ?_;refine zG hSS 20 ?_;refine zT 0 hSS ?_;refine zT 1 hSS ?_;refine zT 3 hSS ?_;refine zT 4 hSS ?_;refine zo 2 fun K hK=>?_;refine zkd (by rfl) (.func 104) [.tmp 7] _ (by rfl) 104 _ fnLw (by rfl) _ (by rfl) _ iE ?_;rintro v2 w2 ⟨rfl,rfl⟩;refine hK.out _ _ hSS ?_;clear hK K iE;(try simp only[zQ]);refine zo 5 fun K hK=>?_;refine zkd (by rfl) (.func 104) [.tmp 10] _ (by rfl) 104 _ fnLw (by rfl) _ (by rfl) _ mD ?_;rintro v2 w2 ⟨rfl,rfl⟩;refine hK.out _ _ hSS ?_;clear hK K mD;(try simp only[zQ]);refine zT 6 hSS ?_;refine zT 7 hSS ?_;refine zd ?_;refine NoPanic.normal ?_;obtain⟨x0,x1,x2⟩:=hSS.1;have dD:=zh (zka HB1.out hcd);obtain⟨w2,hw2⟩:=zX (w1.drew);rw[hw2]at x0 x1 x2 dD ⊢;clear hSS hcd hw2;go_wp2_with fail
 go_loopw [16,3] (fun i s' wr=>∃j:Nat,j<=n/\i=.int .i64 j/\s'=.int .i64 (T2+T3+wt (s.cells.take j))/\wr=w2) (fun i _ _=>n-(intOf i).toNat)
 case atStart=>exact⟨0,by omega,rfl,by simp[wt],rfl⟩
 case round =>
  obtain⟨j,hj,rfl,rfl,rfl⟩:=hrel;by_cases hlt:j<n
  ·have hj1:(j:Int)<(n:Int):=by omega
   have hj0:(0:Int)<=(j:Int):=by omega
   have hlj:j<s.cells.length:=by rw[HN.out];exact hlt
   obtain⟨a,A',c',hA,-,hc,-,hrow⟩:=(HR1.out _ dD.out) j hlj;subst hA;have hsm:=HS.out.c _ (List.getElem_mem hlj);have hb:=zqr hsm;have HX:=zh (zl3 s.cells[j] A' c' wr hrow hsm);have HT:=zh (znB hlj);have hS:=zxT (ls:=s.cells.take j) fun l hl=>HS.out.c l (List.mem_of_mem_take hl);simp only[List.length_take]at hS;obtain⟨S,hSS⟩:=zX (wt (s.cells.take j));rw[hSS]at HT hS ⊢;have hmin:(min j s.cells.length:Nat)<=1000:=by omega
   have hS2:0<=S/\S<=3000001000000000:=⟨hS.1,by omega⟩
   generalize s.cells[j]=x at *
   obtain⟨r,hr⟩:=zX (lw x);rw[hr]at HX HT hb;have uQ:IntKind.i64.wrap ((j:Int)+1)=(j:Int)+1:=IntWalk.i64_in _ (by omega);have hws:IntKind.i64.wrap (T2+T3+S+r)=T2+T3+S+r:=IntWalk.i64_in _ (by omega);clear hSS hr hS hsm hrow;go_wp2_with fail;refine HX.out.mono ?_;rintro e w2 ⟨rfl,rfl⟩;go_wp2_with fail
   go_roundw
   case rel=>exact⟨j+1,by omega,by go_num,by rw[HT.out];congr 1;omega,trivial⟩
   case measure=>simp[intOf];omega
  ·obtain rfl:j=n:=by omega
   have HF:=zh (show T2+T3+wt (s.cells.take j)=wtS s by rw[HWT.out,<-HN.out,List.take_length]);go_wp2_with fail;go_ret;exact⟨by rw[<-HF.out];rfl,dD.out⟩
theorem zqI:∀ {a b:List Int} (j:Nat) (h1:j<a.length) (h2:j<b.length),(∀i (h1:i<a.length) (h2:i<b.length),i<j->cmpI (rnk a[i]) (rnk b[i])=0)->cmpR a b=if cmpI (rnk a[j]) (rnk b[j])≠0 then cmpI (rnk a[j]) (rnk b[j])else cmpR (a.drop (j+1)) (b.drop (j+1))
 | x::a,y::b,0,_,_,_=>rfl
 | x::a,y::b,j+1,h1,h2,h=>by
  have h0:=h 0 (by simp) (by simp) (by omega);simp only[List.getElem_cons_zero]at h0;rw[cmpR,if_neg (by rw[h0];simp)];exact zqI j (by simpa using h1) (by simpa using h2) fun i q1 q2 q3=>by
   have:=h (i+1) (by simpa using q1) (by simpa using q2) (by omega);simpa using this
theorem zqH:∀ {a b:List Int},a.length=b.length->(∀i (h1:i<a.length) (h2:i<b.length),cmpI (rnk a[i]) (rnk b[i])=0)->cmpR a b=0
 | [],[],_,_=>rfl
 | x::a,y::b,hl,h=>by
  have h0:=h 0 (by simp) (by simp);simp only[List.getElem_cons_zero]at h0;rw[cmpR,if_neg (by rw[h0];simp)];exact zqH (by simpa using hl) fun i q1 q2=>by
   have:=h (i+1) (by simpa using q1) (by simpa using q2);simpa using this
 | [],_::_,hl,_=>by simp at hl
 | _::_,[],hl,_=>by simp at hl
theorem zmU(l m:List Int)(A B:Option Addr)(c d:Nat)(w:World)(hr:RowI w Any A l)(hq:RowI w Any B m)(hl:SmI l)(hm:SmI m):Calls Tryz.prog 65 #[.slice A l.length c,.slice B m.length d] w fun e w'=>e=.returned (.int .i64 (cmpL l m))/\Below w.heap.size w w':=by
 have HC:=zh zvy;have HL:=zh hl;have HM:=zh hm;have HR:=zh (fun w' (hb:Below w.heap.size w w')=>hr.later hb);have HQ:=zh (fun w' (hb:Below w.heap.size w w')=>hq.later hb);have h1:=hl.1;have h2:=hm.1;obtain⟨n,hn⟩:=zX (l.length);obtain⟨k,hk⟩:=zX (m.length);have HN:=zh hn;have HK:=zh hk;have HE:=zh (show cmpL l m=if n≠k then cmpI n k else cmpR l m by unfold cmpL;rw[hn,hk]);rw[hn]at h1 ⊢;rw[hk]at h2 ⊢;clear hr hq hl hm hn hk;go_enter Tryz.func65,Tryz.ntmps65;by_cases hnk:n=k;rotate_left 1
 ·have e0:((n:Int) != (k:Int))=true:=by simp;omega
  have HF:=zh (show cmpL l m=cmpI n k by rw[HE.out,if_pos hnk]);go_wp2_with fail;refine(HC.out _ _ _).mono ?_;rintro e w2 ⟨rfl,rfl⟩;go_wp2_with fail;go_ret;exact⟨by rw[HF.out];rfl,zr⟩
 subst hnk;have e0:((n:Int) != (n:Int))=false:=by simp
 have HF:=zh (show cmpL l m=cmpR l m by rw[HE.out,if_neg (by simp)]);go_wp2_with fail
 go_loopw [19] (fun i wr=>∃j:Nat,j<=n/\i=.int .i64 j/\Hid (Below w.heap.size w wr)/\Hid (∀i (h1:i<l.length) (h2:i<m.length),i<j->cmpI (rnk l[i]) (rnk m[i])=0)) (fun i _=>n-(intOf i).toNat)
 case atStart=>exact⟨0,by omega,rfl,zh zr,zh fun i _ _ h=>by omega⟩
 case round =>
  obtain⟨j,hj,rfl,HB,HO⟩:=hrel;by_cases hlt:j<n
  ·have hj1:(j:Int)<(n:Int):=by omega
   have hj0:(0:Int)<=(j:Int):=by omega
   have hlj:j<l.length:=by rw[HN.out];exact hlt
   have sw:j<m.length:=by rw[HK.out];exact hlt
   obtain⟨a,hA,-,hc,-⟩:=HR.out _ HB.out j hlj;obtain⟨a',hA',-,hc',-⟩:=HQ.out _ HB.out j sw;subst hA hA';have HX:=zh (zpY l[j] wr.drew (HL.out.2 _ (List.getElem_mem hlj)));have HY:=zh (zpY m[j] wr.drew (HM.out.2 _ (List.getElem_mem sw)));have HST:=zh (zqI j hlj sw HO.out);have kU:=zh (fun(h:cmpI (rnk l[j]) (rnk m[j])=0)=>show ∀i (h1:i<l.length) (h2:i<m.length),i<j+1->cmpI (rnk l[i]) (rnk m[i])=0 from fun i h1 h2 h3=>by
    by_cases e:i=j
    ·subst e;exact h
    ·exact HO.out i h1 h2 (by omega))
   have uQ:IntKind.i64.wrap ((j:Int)+1)=(j:Int)+1:=IntWalk.i64_in _ (by omega);generalize l[j]=x at *
   generalize m[j]=y at *
   obtain⟨r,hr⟩:=zX (rnk x);obtain⟨q,hq⟩:=zX (rnk y);rw[hr]at HX HST kU;rw[hq]at HY HST kU;clear hr hq;have hcd:=Below.drew (zs wr);have iE:Calls Tryz.prog 105 [.int .i64 x].toArray wr.drew fun e w'=>∃v,e=.returned v/\(v=.int .i64 r/\w'=wr.drew):=HX.out.mono fun e w' ⟨h1,h2⟩=>⟨_,h1,rfl,h2⟩
   have mD:Calls Tryz.prog 105 [.int .i64 y].toArray wr.drew fun e w'=>∃v,e=.returned v/\(v=.int .i64 q/\w'=wr.drew):=HY.out.mono fun e w' ⟨h1,h2⟩=>⟨_,h1,rfl,h2⟩
   have had4:Calls Tryz.prog 63 [.int .i64 r,.int .i64 q].toArray wr.drew fun e w'=>∃v,e=.returned v/\(v=.int .i64 (cmpI r q)/\w'=wr.drew):=(HC.out r q wr.drew).mono fun e w' ⟨h1,h2⟩=>⟨_,h1,rfl,h2⟩
   have hSS:zW (fun w':World=>w'.cell? (a.add j)=some (.int .i64 x)/\w'.cell? (a'.add j)=some (.int .i64 y)) zU wr.drew:=⟨⟨zb hcd hc,zb hcd hc'⟩,trivial⟩
   go_upto_region 6 with fail;clear hc hc';refine wp_region_noPanic ?_;refine zG hSS 20 ?_;refine zT 0 hSS ?_;refine zT 1 hSS ?_;refine zT 2 hSS ?_;refine zT 3 hSS ?_;refine zT 5 hSS ?_;refine zT 6 hSS ?_;refine zT 7 hSS ?_;refine zT 8 hSS ?_;refine zo 4 fun K hK=>?_;refine zkd (by rfl) (.func 105) [.tmp 25] _ (by rfl) 105 _ zxD (by rfl) _ (by rfl) _ iE ?_;rintro v2 w2 ⟨rfl,rfl⟩;refine hK.out _ _ hSS ?_;clear hK K iE;(try simp only[zQ]);refine zo 9 fun K hK=>?_;refine zkd (by rfl) (.func 105) [.tmp 30] _ (by rfl) 105 _ zxD (by rfl) _ (by rfl) _ mD ?_;rintro v2 w2 ⟨rfl,rfl⟩;refine hK.out _ _ hSS ?_;clear hK K mD;(try simp only[zQ]);refine zo 10 fun K hK=>?_;refine zkd (by rfl) (.func 63) [.tmp 26,.tmp 31] _ (by rfl) 63 _ zyI (by rfl) _ (by rfl) _ had4 ?_;rintro v2 w2 ⟨rfl,rfl⟩;refine hK.out _ _ hSS ?_;clear hK K had4;(try simp only[zQ])
   refine zT 11 hSS ?_;refine zd ?_;refine NoPanic.normal ?_;have dD:=zh (zka HB.out hcd);obtain⟨w2,hw2⟩:=zX (wr.drew);rw[hw2]at dD ⊢;clear hSS hcd hw2;obtain⟨z,hz⟩:=zX (cmpI r q);rw[hz]at HST kU ⊢;clear hz;by_cases h0:z=0
   ·subst h0;have e9:((0:Int) != 0)=false:=by simp
    go_wp2_with fail
    go_roundw
    case rel=>exact⟨j+1,by omega,by go_num,dD,zh (kU.out rfl)⟩
    case measure=>simp[intOf];omega
   ·have e9:(z != 0)=true:=by simpa using h0
    have HG:=zh (show cmpL l m=z by rw[HF.out,HST.out,if_pos h0]);go_wp2_with fail;go_ret;exact⟨by rw[HG.out];rfl,dD.out⟩
  ·obtain rfl:j=n:=by omega
   have HG:=zh (show cmpL l m=0 by rw[HF.out];exact zqH (by rw[HN.out,HK.out]) fun i h1 h2=>HO.out i h1 h2 (by have:=HN.out;omega));go_wp2_with fail;go_ret;exact⟨by rw[HG.out];rfl,HB.out⟩
theorem fnWt:IsFn Tryz.prog 64 Tryz.f64:=⟨Tryz.func64,by kernel_rfl,by kernel_rfl⟩
theorem fnOr:IsFn Tryz.prog 62 Tryz.f62:=⟨Tryz.func62,by kernel_rfl,by kernel_rfl⟩
theorem zyH:IsFn Tryz.prog 65 Tryz.f65:=⟨Tryz.func65,by kernel_rfl,by kernel_rfl⟩
theorem bI2L(x y:Int)(w:World):(Instr.buildSlice 30 2 #[(0,.int .i64 x),(1,.int .i64 y)]).run Tryz.prog w=.ok (.slice (some ⟨w.heap.size,0,none⟩) 2 2) (w.alloc (.cells #[.int .i64 x,.int .i64 y] 3)):=by kernel_rfl
theorem zpj:∀ {a b:List (List Int)} (j:Nat) (h1:j<a.length) (h2:j<b.length),(∀i (h1:i<a.length) (h2:i<b.length),i<j->cmpL a[i] b[i]=0)->zmg a b=if cmpL a[j] b[j]≠0 then cmpL a[j] b[j]else zmg (a.drop (j+1)) (b.drop (j+1))
 | x::a,y::b,0,_,_,_=>rfl
 | x::a,y::b,j+1,h1,h2,h=>by
  have h0:=h 0 (by simp) (by simp) (by omega);simp only[List.getElem_cons_zero]at h0;rw[zmg,if_neg (by rw[h0];simp)];exact zpj j (by simpa using h1) (by simpa using h2) fun i q1 q2 q3=>by
   have:=h (i+1) (by simpa using q1) (by simpa using q2) (by omega);simpa using this
theorem zpi:∀ {a b:List (List Int)},a.length=b.length->(∀i (h1:i<a.length) (h2:i<b.length),cmpL a[i] b[i]=0)->zmg a b=0
 | [],[],_,_=>rfl
 | x::a,y::b,hl,h=>by
  have h0:=h 0 (by simp) (by simp);simp only[List.getElem_cons_zero]at h0;rw[zmg,if_neg (by rw[h0];simp)];exact zpi (by simpa using hl) fun i q1 q2=>by
   have:=h (i+1) (by simpa using q1) (by simpa using q2);simpa using this
 | [],_::_,hl,_=>by simp at hl
 | _::_,[],hl,_=>by simp at hl
theorem zuO(a:Int):cmpI a a=0:=by unfold cmpI;rw[if_neg (by omega),if_neg (by omega)]
theorem zxh(s t:SS)(v u:Value)(w:World)(hv:SV w Any s v)(hu:SV w Any t u)(hs:SmS s)(ht:SmS t)(hl:s.cells.length=t.cells.length):Calls Tryz.prog 24 #[v,u] w fun e w'=>e=.returned (.bool (znL s t))/\Below w.heap.size w w':=by
 have HV:=zh (fun w' (hb:Below w.heap.size w w')=>zpl s v w' (hv.later hb) hs);have HU:=zh (fun w' (hb:Below w.heap.size w w')=>zpl t u w' (hu.later hb) ht);obtain⟨A,c,B,d,D,e,rfl,hr1,hr2,hr3,-⟩:=hv;obtain⟨A',c',B',d',D',e',rfl,hq1,hq2,hq3,-⟩:=hu;have HR1:=zh (fun w' (hb:Below w.heap.size w w')=>hr1.later hb);have dm:=zh (fun w' (hb:Below w.heap.size w w')=>hq1.later hb);have rq:=zh (fun w' (hb:Below w.heap.size w w')=>zmU s.tin t.tin B B' d d' w' (hr2.later hb) (hq2.later hb) hs.i ht.i);have yL:=zh (fun w' (hb:Below w.heap.size w w')=>zmU s.tout t.tout D D' e e' w' (hr3.later hb) (hq3.later hb) hs.o ht.o);have HS:=zh hs;have HT:=zh ht;have HC:=zh zvy;have HO:=zh zKa;obtain⟨n,hn⟩:=zX (s.cells.length);have hn2:t.cells.length=n:=by omega
 have HN:=zh (And.intro hn hn2);have cz:n<=1000:=by rw[<-hn];exact hs.n
 have dH:=zh (show znL s t=if cmpI (wtS s) (wtS t)≠0 then decide (cmpI (wtS s) (wtS t)<0)else if zmg s.cells t.cells≠0 then decide (zmg s.cells t.cells<0)else decide (orI (cmpL s.tin t.tin) (cmpL s.tout t.tout)<0)from rfl);rw[hn]at HV ⊢;rw[hn2]at HU ⊢;obtain⟨WS,hWS⟩:=zX (wtS s);obtain⟨WT,hWT⟩:=zX (wtS t);rw[hWS]at HV dH;rw[hWT]at HU dH;clear hr1 hr2 hr3 hq1 hq2 hq3 hs ht hn hn2 hl hWS hWT;have hb1:=zkb (zkb (zs w) (.cells #[.slice A n c,.slice B s.tin.length d,.slice D s.tout.length e] 32)) (.cells #[.slice A' n c',.slice B' t.tin.length d',.slice D' t.tout.length e'] 32);obtain⟨N,hN⟩:=zX (w.heap.size);have k0:=zkf (heap_alloc_new w (.cells #[.slice A n c,.slice B s.tin.length d,.slice D s.tout.length e] 32)) (.cells #[.slice A' n c',.slice B' t.tin.length d',.slice D' t.tout.length e'] 32)
 have k1:=heap_alloc_new (w.alloc (.cells #[.slice A n c,.slice B s.tin.length d,.slice D s.tout.length e] 32)) (.cells #[.slice A' n c',.slice B' t.tin.length d',.slice D' t.tout.length e'] 32);rw[World.size_alloc]at k1;rw[hN]at k0 k1;obtain⟨w1,hw1⟩:=zX ((w.alloc (.cells #[.slice A n c,.slice B s.tin.length d,.slice D s.tout.length e] 32)).alloc (.cells #[.slice A' n c',.slice B' t.tin.length d',.slice D' t.tout.length e'] 32));rw[hw1]at hb1 k0 k1;have HB1:=zh hb1;have aD:=zh k0;have az:=zh k1;clear hb1 k0 k1;go_enter Tryz.func24,Tryz.ntmps24;go_upto_region 1 with fail;clear hw1 hN;have av:=zh (show ∀w',Below w1.heap.size w1 w'->(fun w':World=>(zN3 w' N (.slice A n c) (.slice B s.tin.length d) (.slice D s.tout.length e))/\zN3 w' (N+1) (.slice A' n c') (.slice B' t.tin.length d') (.slice D' t.tout.length e')) w' from fun w' hb=>⟨zkr (zkc aD.out hb),zkr (zkc az.out hb)⟩)
 have hcd:=Below.drew (zs w1);have hSS:zW (fun w':World=>(zN3 w' N (.slice A n c) (.slice B s.tin.length d) (.slice D s.tout.length e))/\zN3 w' (N+1) (.slice A' n c') (.slice B' t.tin.length d') (.slice D' t.tout.length e')) zU w1.drew:=⟨av.out _ hcd,trivial⟩
 have had:Calls Tryz.prog 64 [.agg #[.slice A n c,.slice B s.tin.length d,.slice D s.tout.length e]].toArray w1.drew fun e w'=>∃v,e=.returned v/\(v=.int .i64 WS/\Below w1.heap.size w1 w'):=(HV.out _ (zka HB1.out hcd)).mono fun e w' ⟨h1,h2⟩=>⟨_,h1,rfl,zka hcd h2⟩
 have HUA:=zh (fun w2 (hb:Below w1.heap.size w1 w2)=>show Calls Tryz.prog 64 [.agg #[.slice A' n c',.slice B' t.tin.length d',.slice D' t.tout.length e']].toArray w2 fun e w'=>∃v,e=.returned v/\(v=.int .i64 WT/\Below w1.heap.size w1 w')from(HU.out _ (zka HB1.out hb)).mono fun e w' ⟨h1,h2⟩=>⟨_,h1,rfl,zka hb h2⟩);have oo:=zh (fun x y w2=>show Calls Tryz.prog 63 [.int .i64 x,.int .i64 y].toArray w2 fun e w'=>∃v,e=.returned v/\(v=.int .i64 (cmpI x y)/\w'=w2)from(HC.out x y w2).mono fun e w' ⟨h1,h2⟩=>⟨_,h1,rfl,h2⟩);have HOA:=zh (fun x y b w2 h=>show Calls Tryz.prog 62 [.slice (some ⟨b,0,none⟩) 2 2].toArray w2 fun e w'=>∃v,e=.returned v/\(v=.int .i64 (orI x y)/\w'=w2)from(HO.out x y b w2 h).mono fun e w' ⟨h1,h2⟩=>⟨_,h1,rfl,h2⟩);refine wp_region_noPanic ?_;refine zG hSS 30 ?_;refine zT 0 hSS ?_;refine zT 2 hSS ?_;refine zT 5 hSS ?_;refine zT 6 hSS ?_;refine zT 7 hSS ?_;refine zT 8 hSS ?_
 refine zT 9 hSS ?_;refine zT 10 hSS ?_;refine zo 1 fun K hK=>?_;refine zkd (by rfl) (.func 64) [.tmp 7] _ (by rfl) 64 _ fnWt (by rfl) _ (by rfl) _ had ?_;rintro v2 w2 ⟨rfl,hb2⟩;refine hK.out _ _ ⟨av.out _ hb2,trivial⟩ ?_;clear hK K had hSS hcd;(try simp only[zQ]);have had:=HUA.out _ hb2;clear hb2;refine zo 3 fun K hK=>?_;refine zkd (by rfl) (.func 64) [.tmp 9] _ (by rfl) 64 _ fnWt (by rfl) _ (by rfl) _ had ?_;rintro v3 w3 ⟨rfl,hb3⟩;refine hK.out _ _ ⟨av.out _ hb3,trivial⟩ ?_;clear hK K had HUA;(try simp only[zQ]);have had:=oo.out WS WT w3;refine zo 4 fun K hK=>?_;refine zkd (by rfl) (.func 63) [.tmp 8,.tmp 10] _ (by rfl) 63 _ zyI (by rfl) _ (by rfl) _ had ?_;rintro v4 w4 ⟨rfl,rfl⟩;refine hK.out _ _ ⟨av.out _ hb3,trivial⟩ ?_;clear hK K had;(try simp only[zQ]);have had:=oo.out (n:Int) (n:Int) w4;rw[zuO]at had;obtain⟨z,hz⟩:=zX (cmpI WS WT);rw[hz]at dH ⊢
 clear hz;refine zo 11 fun K hK=>?_;refine zkd (by rfl) (.func 63) [.tmp 14,.tmp 17] _ (by rfl) 63 _ zyI (by rfl) _ (by rfl) _ had ?_;rintro v5 w5 ⟨rfl,rfl⟩;refine hK.out _ _ ⟨av.out _ hb3,trivial⟩ ?_;clear hK K had;(try simp only[zQ]);have hbi:=bI2L;have hb6:=zka hb3 (zkb (zs w5) (.cells #[.int .i64 z,.int .i64 0] 3));have bC:=heap_alloc_new w5 (.cells #[.int .i64 z,.int .i64 0] 3);refine zo 12 fun K hK=>?_;(try simp only[zA,zB,zC]);go_simp;refine hK.out _ _ ⟨av.out _ hb6,trivial⟩ ?_;clear hK K;(try simp only[zQ]);obtain⟨w6,rO⟩:=zX (w5.alloc (.cells #[.int .i64 z,.int .i64 0] 3));rw[rO]at hb6 bC ⊢;have had:=HOA.out z 0 _ w6 bC;rw[show orI z 0=z by unfold orI;split<;>simp_all]at had;clear rO bC hb3;refine zo 13 fun K hK=>?_;refine zkd (by rfl) (.func 62) [.tmp 19] _ (by rfl) 62 _ fnOr (by rfl) _ (by rfl) _ had ?_;rintro v7 w7 ⟨rfl,rfl⟩
 refine hK.out _ _ ⟨av.out _ hb6,trivial⟩ ?_;clear hK K had;(try simp only[zQ]);have hSS:zW (fun w':World=>(zN3 w' N (.slice A n c) (.slice B s.tin.length d) (.slice D s.tout.length e))/\zN3 w' (N+1) (.slice A' n c') (.slice B' t.tin.length d') (.slice D' t.tout.length e')) zU w7:=⟨av.out _ hb6,trivial⟩
 refine zT 14 hSS ?_;refine zd ?_;refine NoPanic.normal ?_;have uN:=zh hb6;clear hSS hb6 hbi;by_cases h0:z=0;rotate_left 1
 ·have e0:(z != 0)=true:=by simpa using h0
  have HF:=zh (show znL s t=decide (z<0) by rw[dH.out,if_pos h0]);go_wp2_with fail;go_ret;exact⟨by rw[HF.out];rfl,zka HB1.out uN.out⟩
 subst h0;have e0:((0:Int) != 0)=false:=by simp
 have HLF:=zh (show znL s t=if zmg s.cells t.cells≠0 then decide (zmg s.cells t.cells<0)else decide (orI (cmpL s.tin t.tin) (cmpL s.tout t.tout)<0) by rw[dH.out,if_neg (by simp)]);have hx7:=av.out _ uN.out;obtain⟨⟨x0,x1,x2⟩,-⟩:=hx7;go_wp2_with fail;clear x0 x1 x2
 go_loopw [28] (fun i wr=>∃j:Nat,j<=n/\i=.int .i64 j/\Hid (Below w1.heap.size w1 wr)/\Hid (∀i (h1:i<s.cells.length) (h2:i<t.cells.length),i<j->cmpL s.cells[i] t.cells[i]=0)) (fun i _=>n-(intOf i).toNat)
 case atStart=>exact⟨0,by omega,rfl,uN,zh fun i _ _ h=>by omega⟩
 case round =>
  obtain⟨j,hj,rfl,fG,dN⟩:=hrel;by_cases hlt:j<n
  ·have hj1:(j:Int)<(n:Int):=by omega
   have hj0:(0:Int)<=(j:Int):=by omega
   have hlj:j<s.cells.length:=by rw[HN.out.1];exact hlt
   have sw:j<t.cells.length:=by rw[HN.out.2];exact hlt
   have hbW:=zka HB1.out fG.out;obtain⟨a,Ax,cx,hA,-,hc,-,hrx⟩:=HR1.out _ hbW j hlj;obtain⟨a',Ay,cy,hA',-,hc',-,oG⟩:=dm.out _ hbW j sw;subst hA hA';have hcd:=Below.drew (zs wr);have hcp:=zmU s.cells[j] t.cells[j] Ax Ay cx cy wr.drew (hrx.later hcd) (oG.later hcd) (HS.out.c _ (List.getElem_mem hlj)) (HT.out.c _ (List.getElem_mem sw));have HST:=zh (zpj j hlj sw dN.out);have kU:=zh (fun(h:cmpL s.cells[j] t.cells[j]=0)=>show ∀i (h1:i<s.cells.length) (h2:i<t.cells.length),i<j+1->cmpL s.cells[i] t.cells[i]=0 from fun i h1 h2 h3=>by
    by_cases e:i=j
    ·subst e;exact h
    ·exact dN.out i h1 h2 (by omega))
   have uQ:IntKind.i64.wrap ((j:Int)+1)=(j:Int)+1:=IntWalk.i64_in _ (by omega);clear hrx oG;generalize s.cells[j]=x at *
   generalize t.cells[j]=y at *
   obtain⟨z,hz⟩:=zX (cmpL x y);rw[hz]at HST kU hcp;clear hz;have had:Calls Tryz.prog 65 [.slice Ax x.length cx,.slice Ay y.length cy].toArray wr.drew fun e w'=>∃v,e=.returned v/\(v=.int .i64 z/\Below wr.heap.size wr w'):=hcp.mono fun e w' ⟨h1,h2⟩=>⟨_,h1,rfl,zka hcd h2⟩
   have HS2:=zh (show ∀w',Below wr.heap.size wr w'->(fun w':World=>(fun w':World=>(zN3 w' N (.slice (some a) n c) (.slice B s.tin.length d) (.slice D s.tout.length e))/\zN3 w' (N+1) (.slice (some a') n c') (.slice B' t.tin.length d') (.slice D' t.tout.length e')) w'/\w'.cell? (a.add j)=some (.slice Ax x.length cx)/\w'.cell? (a'.add j)=some (.slice Ay y.length cy)) w' from fun w' hb=>⟨av.out _ (zka fG.out hb),zb hb hc,zb hb hc'⟩);have hSS:zW (fun w':World=>(fun w':World=>(zN3 w' N (.slice (some a) n c) (.slice B s.tin.length d) (.slice D s.tout.length e))/\zN3 w' (N+1) (.slice (some a') n c') (.slice B' t.tin.length d') (.slice D' t.tout.length e')) w'/\w'.cell? (a.add j)=some (.slice Ax x.length cx)/\w'.cell? (a'.add j)=some (.slice Ay y.length cy)) zU wr.drew:=⟨HS2.out _ hcd,trivial⟩
   clear hcp hc hc';go_upto_region 7 with fail;refine wp_region_noPanic ?_;refine zG hSS 30 ?_;refine zT 0 hSS ?_;refine zT 1 hSS ?_;refine zT 2 hSS ?_;refine zT 3 hSS ?_;refine zT 4 hSS ?_;refine zT 5 hSS ?_;refine zT 6 hSS ?_;refine zT 7 hSS ?_;refine zT 8 hSS ?_;refine zT 9 hSS ?_;refine zo 10 fun K hK=>?_;refine zkd (by rfl) (.func 65) [.tmp 35,.tmp 40] _ (by rfl) 65 _ zyH (by rfl) _ (by rfl) _ had ?_;rintro v8 w8 ⟨rfl,bR⟩;have zR:=zV hSS (HS2.out _ bR) trivial;refine hK.out _ _ zR ?_;have dQ:=zh (zka fG.out bR);clear hK K had hSS hcd bR hbW;(try simp only[zQ]);refine zT 11 zR ?_;refine zd ?_;refine NoPanic.normal ?_;clear zR HS2;by_cases h0:z=0
   ·subst h0;go_wp2_with fail
    go_roundw
    case rel=>exact⟨j+1,by omega,by go_num,dQ,zh (kU.out rfl)⟩
    case measure=>simp[intOf];omega
   ·have e9:(z != 0)=true:=by simpa using h0
    have HG:=zh (show znL s t=decide (z<0) by rw[HLF.out,HST.out,if_pos h0,if_pos h0]);go_wp2_with fail;go_ret;exact⟨by rw[HG.out];rfl,zka HB1.out dQ.out⟩
  ·obtain rfl:n=j:=by omega
   have HG:=zh (show znL s t=decide (orI (cmpL s.tin t.tin) (cmpL s.tout t.tout)<0) by
    rw[HLF.out,if_neg];rw[zpi (by rw[HN.out.1,HN.out.2]) fun i h1 h2=>dN.out i h1 h2 (by have:=HN.out.1;omega)];simp)
   have hcd:=Below.drew (zs wr);have HS2:=zh (show ∀w',Below wr.heap.size wr w'->(fun w':World=>(zN3 w' N (.slice A n c) (.slice B s.tin.length d) (.slice D s.tout.length e))/\zN3 w' (N+1) (.slice A' n c') (.slice B' t.tin.length d') (.slice D' t.tout.length e')) w' from fun w' hb=>av.out _ (zka fG.out hb));have hSS:zW (fun w':World=>(zN3 w' N (.slice A n c) (.slice B s.tin.length d) (.slice D s.tout.length e))/\zN3 w' (N+1) (.slice A' n c') (.slice B' t.tin.length d') (.slice D' t.tout.length e')) zU wr.drew:=⟨HS2.out _ hcd,trivial⟩
   obtain⟨z1,hz1⟩:=zX (cmpL s.tin t.tin);obtain⟨z2,hz2⟩:=zX (cmpL s.tout t.tout);rw[hz1]at rq HG;rw[hz2]at yL HG;have had:Calls Tryz.prog 65 [.slice B s.tin.length d,.slice B' t.tin.length d'].toArray wr.drew fun e w'=>∃v,e=.returned v/\(v=.int .i64 z1/\Below wr.heap.size wr w'):=(rq.out _ (zka HB1.out (zka fG.out hcd))).mono fun e w' ⟨h1,h2⟩=>⟨_,h1,rfl,zka hcd h2⟩
   have HCO2:=zh (fun w2 (hb:Below wr.heap.size wr w2)=>show Calls Tryz.prog 65 [.slice D s.tout.length e,.slice D' t.tout.length e'].toArray w2 fun e w'=>∃v,e=.returned v/\(v=.int .i64 z2/\Below wr.heap.size wr w')from(yL.out _ (zka HB1.out (zka fG.out hb))).mono fun e w' ⟨h1,h2⟩=>⟨_,h1,rfl,zka hb h2⟩);clear hz1 hz2;go_upto_region 11 with fail;refine wp_region_noPanic ?_;refine zG hSS 30 ?_;refine zT 0 hSS ?_;refine zT 1 hSS ?_;refine zT 2 hSS ?_;refine zT 3 hSS ?_;refine zT 5 hSS ?_;refine zT 6 hSS ?_;refine zT 7 hSS ?_;refine zT 8 hSS ?_;refine zo 4 fun K hK=>?_;refine zkd (by rfl) (.func 65) [.tmp 48,.tmp 50] _ (by rfl) 65 _ zyH (by rfl) _ (by rfl) _ had ?_;rintro v8 w8 ⟨rfl,bR⟩;refine hK.out _ _ ⟨HS2.out _ bR,trivial⟩ ?_;have had:=HCO2.out _ bR;clear hK K hSS hcd bR;(try simp only[zQ]);refine zo 9 fun K hK=>?_
   refine zkd (by rfl) (.func 65) [.tmp 53,.tmp 55] _ (by rfl) 65 _ zyH (by rfl) _ (by rfl) _ had ?_;rintro v9 w9 ⟨rfl,aU⟩;refine hK.out _ _ ⟨HS2.out _ aU,trivial⟩ ?_;clear hK K had;(try simp only[zQ]);have hbi:=bI2L;have hb6:=zka aU (zkb (zs w9) (.cells #[.int .i64 z1,.int .i64 z2] 3));have bC:=heap_alloc_new w9 (.cells #[.int .i64 z1,.int .i64 z2] 3);refine zo 10 fun K hK=>?_;(try simp only[zA,zB,zC]);go_simp;refine hK.out _ _ ⟨HS2.out _ hb6,trivial⟩ ?_;clear hK K;(try simp only[zQ]);obtain⟨wa,ku⟩:=zX (w9.alloc (.cells #[.int .i64 z1,.int .i64 z2] 3));rw[ku]at hb6 bC ⊢;have had:=HOA.out z1 z2 _ wa bC;clear ku bC aU;refine zo 11 fun K hK=>?_;refine zkd (by rfl) (.func 62) [.tmp 57] _ (by rfl) 62 _ fnOr (by rfl) _ (by rfl) _ had ?_;rintro vb wb ⟨rfl,rfl⟩;refine hK.out _ _ ⟨HS2.out _ hb6,trivial⟩ ?_;clear hK K had;(try simp only[zQ])
   have hSS:zW (fun w':World=>(zN3 w' N (.slice A n c) (.slice B s.tin.length d) (.slice D s.tout.length e))/\zN3 w' (N+1) (.slice A' n c') (.slice B' t.tin.length d') (.slice D' t.tout.length e')) zU wb:=⟨HS2.out _ hb6,trivial⟩
   refine zT 12 hSS ?_;refine zT 13 hSS ?_;refine zd ?_;refine NoPanic.normal ?_;have aG:=zh (zka fG.out hb6);clear hSS hb6 hbi HS2;go_wp2_with fail;go_ret;exact⟨by rw[HG.out];rfl,zka HB1.out aG.out⟩
attribute [local go_sem] Oper.semAt_some
theorem zqQ(x:Int)(w:World)(hx : -1000000<=x/\x<=1000000):Calls Tryz.prog 128 #[.int .i64 x] w fun e w'=>e=.returned (.int .i64 (rnk x))/\w'=w:=by
 have e1:IntKind.i64.wrap (2*x)=2*x:=IntWalk.i64_in _ (by omega);have e2:IntKind.i64.wrap (2*x-1)=2*x-1:=IntWalk.i64_in _ (by omega);have e3:IntKind.i64.wrap (0-2*x) = -2*x:=by rw[show(0:Int)-2*x = -2*x by omega];exact IntWalk.i64_in _ (by omega)
 go_enter Tryz.func128,Tryz.ntmps128;by_cases h:0<x
 ·go_wp2_with fail;go_ret;simp[rnk,h]
 ·go_wp2_with fail;go_ret;exact⟨by rw[show rnk x = -(2*x) by unfold rnk;rw[if_neg (by omega)];omega];rfl,rfl⟩
theorem zr4{A:Option Addr}{m n c:Nat}:(Value.slice A m c).ownBlock=(Value.slice A n c).ownBlock:=by cases A<;>rfl
theorem zkC.addS{W0 wr we w':World}{n0:Nat}{S:Nat->Prop}{v v':Value}{ls ys:List (List Int)}{vs us:List Value}(wG:∀q,S q->q<n0)(hb:Below n0 W0 wr)(hn:n0<=W0.heap.size)(hown:wr.ownsRow n0 30 1 v ls.length vs)(hl:vs.length=ls.length)
  (h2:∀k (hk:k<ls.length) (hv:k<vs.length),∃A c,vs[k]=.slice A ls[k].length c/\ls[k].length<=c/\RowI wr (fun q=>S q/\v.ownBlock≠some q) A ls[k])(kG:us.length=ys.length)(hw:Below wr.heap.size wr we)
  (hy:∀k (hk:k<ys.length) (hv:k<us.length),∃A c,us[k]=.slice A ys[k].length c/\ys[k].length<=c/\RowI we S A ys[k])
  (ho:w'.ownsRow n0 30 1 v' (ls.length+ys.length) (vs++us))(hg:we.grownBy w' v.ownBlock)(aj:v'.ownBlock=v.ownBlock\/v'.ownBlock=some we.heap.size) :
  ∃A' c',v'=.slice A' (ls.length+ys.length) c'/\Hid (Below n0 W0 w')/\Hid (zkC w' n0 S (.slice A' (ls.length+ys.length) c') (ls++ys)):=by
 obtain⟨A',c',rfl,-⟩:=zke ho;have hs:=hb.size;have hbe:Below n0 W0 we:=hb.trans (hw.mono (by omega));refine⟨A',c',rfl,zh (hbe.grown hg (Nat.le_trans hn hbe.size) fun k hk=>(hown.lt k hk).1),zh ?_⟩;exact zkC.app (W:=we) (S:=S) (S':=S) hl kG
  (fun k hk hv=>by
   obtain⟨A1,c1,e1,e2,e3⟩:=h2 k hk hv;exact⟨A1,c1,e1,e2,e3.later hw⟩) (fun q h _=>h)
  (fun k hk hv=>by
   obtain⟨A1,c1,e1,e2,e3⟩:=hy k hk hv;exact⟨A1,c1,e1,e2,e3.mono fun q h=>⟨h,fun e=>by have:=(hown.lt q e).1;have:=wG q h;omega⟩⟩) ho hg aj
theorem bL2R(A B:Option Addr)(l c m d:Nat)(w:World):(Instr.buildSlice 29 2 #[(0,.slice A l c),(1,.slice B m d)]).run Tryz.prog w=.ok (.slice (some ⟨w.heap.size,0,none⟩) 2 2) (w.alloc (.cells #[.slice A l c,.slice B m d] 30)):=by kernel_rfl
theorem zvP(w:World)(u v:Value)(E:TypeId):∀ad,(some ⟨w.heap.size,0,none⟩:Option Addr)=some ad->∀j x,[u,v][j]?=some x->(w.alloc (.cells #[u,v] E)).cell? (ad.add j)=some x:=fun ad e j x hj=>by
 injection e with e;subst e;have hk:=heap_alloc_new w (.cells #[u,v] E);rw[Addr.add_lit,Nat.zero_add]
 match j,hj with
 | 0,hj=>simp at hj;subst hj;exact zc hk rfl
 | 1,hj=>simp at hj;subst hj;exact zc hk rfl
theorem zvO(A B:Option Addr)(l c m d:Nat):∀u∈[Value.slice A l c,Value.slice B m d],u.oneCell'=true:=fun u hu=>by
 simp only[List.mem_cons,List.not_mem_nil,or_false]at hu;rcases hu with rfl|rfl<;>rfl
theorem zoh(s:SS)(v:Value)(w:World){S:Nat->Prop}(hv:SV w S s v)(hn:s.cells.length<=1000) :
  Calls Tryz.prog 127 #[v] w fun e w'=>Below w.heap.size w w'/\∃A c,e=.returned (.slice A (s.cells.length+2) c)/\zlF w' (fun q=>S q\/w.heap.size<=q) A (lisS s):=by
 have hv2:=hv.keep (S':=fun q=>S q/\q<w.heap.size) (fun _ h hlt=>⟨h,hlt⟩) fun _ _ _=>rfl;obtain⟨A,c,B,d,D,e,rfl,h1,h2,h3,h4,h5,h6,h7⟩:=hv2;obtain⟨N,hN⟩:=zX (w.heap.size);have hb1:=zkb (zs w) (.cells #[.slice A s.cells.length c,.slice B s.tin.length d,.slice D s.tout.length e] 32);have k1:=heap_alloc_new w (.cells #[.slice A s.cells.length c,.slice B s.tin.length d,.slice D s.tout.length e] 32);have hz1:(w.alloc (.cells #[.slice A s.cells.length c,.slice B s.tin.length d,.slice D s.tout.length e] 32)).heap.size=N+1:=by simp[hN]
 obtain⟨w1,hw1⟩:=zX (w.alloc (.cells #[.slice A s.cells.length c,.slice B s.tin.length d,.slice D s.tout.length e] 32));rw[hw1]at hb1 k1 hz1;rw[hN]at k1 h1 h2 h3;have HB1:=zh hb1;have HZ1:=zh hz1;have az:=zh k1;have HR:=zh (h1.later hb1);have HI:=zh (And.intro (h2.later hb1) (And.intro (h3.later hb1) (And.intro h5 h6)));have hL1:=bL1R;have hL2:=bL2R;obtain⟨n,hn'⟩:=zX (s.cells.length);have HN:=zh hn';rw[hn']at hn k1 az hw1 ⊢;clear hv h1 h2 h3 h4 h5 h6 h7 hb1 k1 hz1 hn';go_enter Tryz.func127,Tryz.ntmps127;go_wp2_with fail
 try rw[hw1]
 try rw[hN]
 clear hw1 hN
 go_loopw [4,3] (fun i ov wr=>∃j:Nat,j<=n/\i=.int .i64 j/\Hid (Below w1.heap.size w1 wr)/\Hid (zkC wr w1.heap.size (fun q=>S q/\q<N) ov (s.cells.take j))) (fun i _ _=>n-(intOf i).toNat)
 case atStart=>exact⟨0,by omega,rfl,zh zr,zh (zkC.nil _ _ _)⟩
 case round =>
  obtain⟨j,hj,rfl,HB,HR2⟩:=hrel;obtain⟨z0,z1,z2⟩:=zkr (zkc az.out HB.out);by_cases hlt:j<n
  ·have hj1:(j:Int)<(n:Int):=by omega
   have hj0:(0:Int)<=(j:Int):=by omega
   have hjs:j<s.cells.length:=by rw[HN.out];exact hlt
   obtain⟨a,A',c',rfl,-,h0,hc,hr⟩:=(HR.out.later HB.out) j hjs;obtain⟨l,hl⟩:=zX (s.cells[j]);rw[hl]at h0 hc hr;have qJ:=zh (show s.cells.take (j+1)=s.cells.take j++[l] by rw[List.take_succ_eq_append_getElem hjs,hl]);obtain⟨Ao,co,rfl⟩:=HR2.out.slice;obtain⟨vs,hown,hvl,hvs⟩:=HR2.out;have hlj:(s.cells.take j).length=j:=by rw[List.length_take];omega
   have hown0:=hown;rw[hlj]at hown;have hsz:w1.heap.size<=wr.heap.size:=HB.out.size;have iY:=zh (show ∀v3 w3,w3.ownsRow w1.heap.size 30 1 v3 (j+1) (vs++[.slice A' l.length c'])->(wr.alloc (.cells #[.slice A' l.length c'] 30)).grownBy w3 (Value.slice Ao j co).ownBlock->(v3.ownBlock=(Value.slice Ao j co).ownBlock\/v3.ownBlock=some (wr.alloc (.cells #[.slice A' l.length c'] 30)).heap.size) ->
     ∃A9 c9,v3=.slice A9 (j+1) c9/\Hid (Below w1.heap.size w1 w3)/\Hid (zkC w3 w1.heap.size (fun q=>S q/\q<N) (.slice A9 (j+1) c9) (s.cells.take (j+1)))from fun v3 w3 h1 h2 h3=>by
    rw[qJ.out];have hz:=HZ1.out;have:=zkC.addS (W0:=w1) (wr:=wr) (we:=wr.alloc (.cells #[.slice A' l.length c'] 30)) (w':=w3) (n0:=w1.heap.size) (S:=fun q=>S q/\q<N) (v:=.slice Ao (s.cells.take j).length co) (v':=v3) (ls:=s.cells.take j) (ys:=[l]) (vs:=vs) (us:=[.slice A' l.length c']) (fun q h=>by have:=h.2;omega) HB.out zl hown0 hvl hvs rfl (zkb zr _)
     (fun k hk hv=>by
      obtain rfl:k=0:=by simpa using hk
      exact⟨A',c',rfl,hc,hr.later (zkb zr _)⟩) (by rw[hlj];exact h1) (by rw[zr4 (n:=j)];exact h2) (by rw[zr4 (n:=j)];exact h3)
    rw[hlj]at this;exact this)
   have hown2:=zkp hown (zkb (zs wr) (.cells #[.slice A' l.length c'] 30));have hs2:w1.heap.size<=(wr.alloc (.cells #[.slice A' l.length c'] 30)).heap.size:=Nat.le_trans hsz (zkb (zs wr) _).size;clear hvl hvs hown hown0 hr hc hl;rw[hlj];go_wp2_with (at_builtin;refine zki rfl (.tmp 12) (.tmp 18) rfl Tryz.underlying29 zmZ rfl (by decide) (by decide) w1.heap.size (.slice Ao j co) j vs rfl hown2 (some ⟨wr.heap.size,0,none⟩) 1 1 [.slice A' l.length c'] rfl rfl (fun e=>by cases e) (zl0 wr _ _) (zpB _ _ _) (by omega) hs2 ?_;intro v3 w3 ho hg aj;obtain⟨A3,c3,rfl,aG,bI⟩:=iY.out _ _ ho hg aj;clear ho hg aj)
   go_roundw
   case rel=>exact⟨j+1,by omega,by go_num,aG,bI⟩
   case measure=>simp[intOf];omega
  ·obtain rfl:j=n:=by omega
   have hj1:¬ (j:Int)<(j:Int):=by omega
   have hlj:s.cells.take j=s.cells:=by rw[<-HN.out,List.take_length]
   rw[hlj]at HR2;obtain⟨Ao,co,rfl⟩:=HR2.out.slice;obtain⟨vs,hown,hvl,hvs⟩:=HR2.out;have hown0:=hown;rw[HN.out]at hown ⊢;have hsz:w1.heap.size<=wr.heap.size:=HB.out.size;have iY:=zh (show ∀v3 w3,w3.ownsRow w1.heap.size 30 1 v3 (j+2) (vs++[.slice B s.tin.length d,.slice D s.tout.length e])->(wr.alloc (.cells #[.slice B s.tin.length d,.slice D s.tout.length e] 30)).grownBy w3 (Value.slice Ao j co).ownBlock->(v3.ownBlock=(Value.slice Ao j co).ownBlock\/v3.ownBlock=some (wr.alloc (.cells #[.slice B s.tin.length d,.slice D s.tout.length e] 30)).heap.size) ->
     ∃A9 c9,v3=.slice A9 (j+2) c9/\Hid (Below w1.heap.size w1 w3)/\Hid (zkC w3 w1.heap.size (fun q=>S q/\q<N) (.slice A9 (j+2) c9) (lisS s))from fun v3 w3 h1 h2 h3=>by
    have hz:=HZ1.out;obtain⟨i1,i2,i3,i4⟩:=HI.out;have:=zkC.addS (W0:=w1) (wr:=wr) (we:=wr.alloc (.cells #[.slice B s.tin.length d,.slice D s.tout.length e] 30)) (w':=w3) (n0:=w1.heap.size) (S:=fun q=>S q/\q<N) (v:=.slice Ao s.cells.length co) (v':=v3) (ls:=s.cells) (ys:=[s.tin,s.tout]) (vs:=vs) (us:=[.slice B s.tin.length d,.slice D s.tout.length e]) (fun q h=>by have:=h.2;omega) HB.out zl hown0 hvl hvs rfl (zkb zr _)
     (fun k hk hv=>by
      match k,hk with
      | 0,_=>exact⟨B,d,rfl,i3,(i1.later HB.out).later (zkb zr _)⟩
      | 1,_=>exact⟨D,e,rfl,i4,(i2.later HB.out).later (zkb zr _)⟩) (by rw[HN.out];exact h1) (by rw[zr4 (n:=j)];exact h2) (by rw[zr4 (n:=j)];exact h3)
    rw[HN.out]at this;exact this)
   have hown2:=zkp hown (zkb (zs wr) (.cells #[.slice B s.tin.length d,.slice D s.tout.length e] 30));have hs2:w1.heap.size<=(wr.alloc (.cells #[.slice B s.tin.length d,.slice D s.tout.length e] 30)).heap.size:=Nat.le_trans hsz (zkb (zs wr) _).size;clear hvl hvs hown hown0 hlj;go_wp2_with (at_builtin;refine zki rfl (.tmp 20) (.tmp 25) rfl Tryz.underlying29 zmZ rfl (by decide) (by decide) w1.heap.size (.slice Ao j co) j vs rfl hown2 (some ⟨wr.heap.size,0,none⟩) 2 2 [.slice B s.tin.length d,.slice D s.tout.length e] rfl rfl (fun e=>by cases e) (zvP wr _ _ _) (zvO _ _ _ _ _ _) (by omega) hs2 ?_;intro v3 w3 ho hg aj;obtain⟨A3,c3,rfl,aG,bI⟩:=iY.out _ _ ho hg aj;clear ho hg aj)
   go_ret;obtain⟨A8,c8,e8,-,h8⟩:=(bI.out.keep (S':=fun q=>S q\/w.heap.size<=q) (fun q h _=>.inl h.1) fun _ _ _=>rfl).ii fun q h _=>.inr (Nat.le_trans HB1.out.size h);have hll:(lisS s).length=j+2:=by unfold lisS;rw[List.length_append,HN.out];rfl
   injection e8 with e1 e2 e3;subst e1 e3;exact⟨zka HB1.out aG.out,A3,⟨c3,rfl⟩,h8⟩
theorem zoC(s:SS)(v:Value)(w:World)(hv:SV w Any s v)(hs:SmS s) :
  Calls Tryz.prog 126 #[v] w fun e w'=>e=.returned (.int .i64 (wt (lisS s)))/\Below w.heap.size w w':=by
 have xm:=zh (fun w' (hb:Below w.heap.size w w')=>zoh s v w' (hv.later hb) hs.n);obtain⟨A,c,B,d,D,e,rfl⟩:∃A c B d D e,v=.agg #[.slice A s.cells.length c,.slice B s.tin.length d,.slice D s.tout.length e]:=by
  obtain⟨A,c,B,d,D,e,rfl,-⟩:=hv;exact⟨_,_,_,_,_,_,rfl⟩
 have pR:=zh zqQ;have hb1:=zkb (zs w) (.cells #[.slice A s.cells.length c,.slice B s.tin.length d,.slice D s.tout.length e] 32);have k1:=heap_alloc_new w (.cells #[.slice A s.cells.length c,.slice B s.tin.length d,.slice D s.tout.length e] 32);obtain⟨w1,hw1⟩:=zX (w.alloc (.cells #[.slice A s.cells.length c,.slice B s.tin.length d,.slice D s.tout.length e] 32));rw[hw1]at hb1 k1;obtain⟨z0,z1,z2⟩:=zkr k1;have HB1:=zh hb1;have fK:=zh (show ∀l∈lisS s,SmI l from fun l hl=>by
  rcases List.mem_append.1 hl with h|h
  ·exact hs.c l h
  ·simp only[List.mem_cons,List.not_mem_nil,or_false]at h;rcases h with rfl|rfl
   ·exact hs.i
   ·exact hs.o)
 have HN:=zh (show(lisS s).length=s.cells.length+2 by simp[lisS]);have cz:=hs.n;clear hv hb1 k1 hs;obtain⟨n,hn⟩:=zX (s.cells.length+2);have qA:n<=1002:=by omega
 rw[hn]at HN;go_enter Tryz.func126,Tryz.ntmps126;go_wp2_with fail;refine(xm.out _ HB1.out).mono ?_;rintro e2 w2 ⟨hb2,A2,c2,rfl,hr2⟩;rw[hn];have HB2:=zh (zka HB1.out hb2);have HR:=zh (hr2.keep (S':=Any) (fun _ _ _=>trivial) fun _ _ _=>rfl);obtain⟨LL,lG⟩:=zX (lisS s);have bV:=zh lG;rw[lG]at HR fK HN;clear hb2 hr2 z0 z1 z2 lG hn hw1 xm cz;go_wp2_with fail
 go_loopw [5,4] (fun i x wr=>∃j:Nat,j<=n/\i=.int .i64 j/\x=.int .i64 (wt (LL.take j))/\wr=w2) (fun i _ _=>n-(intOf i).toNat)
 case atStart=>exact⟨0,by omega,rfl,rfl,rfl⟩
 case round =>
  obtain⟨j,hj,rfl,rfl,rfl⟩:=hrel;obtain⟨W9,rfl⟩:∃x,x=wr:=⟨_,rfl⟩
  by_cases hlt:j<n
  ·have hj1:(j:Int)<(n:Int):=by omega
   have hj0:(0:Int)<=(j:Int):=by omega
   have hjl:j<LL.length:=by rw[HN.out];exact hlt
   obtain⟨a,l,Al,cl,rfl,Hl,h0,hlc,hr⟩:=HR.out.nd hjl;have hsm:SmI l:=by rw[<-Hl.out];exact fK.out _ (List.getElem_mem hjl)
   have yu:=zh (show wt (LL.take (j+1))=wt (LL.take j)+lw l by rw[znB hjl,Hl.out]);have gU:=zh hr;have qK:=zh hsm;have hwb:=zxT (fun q hq=>fK.out q (List.mem_of_mem_take (i:=j) hq));obtain⟨W0,hW0⟩:=zX (wt (LL.take j));rw[hW0]at yu hwb ⊢;obtain⟨m,hm⟩:=zX (l.length);have HM:=zh hm;have hm6:m<=1000000:=by rw[<-hm];exact hsm.1
   rw[hm]at h0;have hwb2:0<=W0/\W0<=1002*2000001000000:=by
    have:(LL.take j).length<=1002:=by rw[List.length_take];omega
    obtain⟨q1,q2⟩:=hwb;refine⟨q1,Int.le_trans q2 ?_⟩;have:((LL.take j).length:Int)<=1002:=by omega
    omega
   clear hr hsm hwb hm hW0 Hl hjl;go_wp2_with fail
   go_loopw [6,4] (fun i x wr=>∃k:Nat,k<=m/\i=.int .i64 k/\x=.int .i64 (W0+lw (l.take k))/\wr=W9) (fun i _ _=>m-(intOf i).toNat)
   case atStart=>exact⟨0,by omega,rfl,by simp[lw],rfl⟩
   case round =>
    obtain⟨k,hk,rfl,rfl,rfl⟩:=hrel;by_cases uV:k<m
    ·have hk1:(k:Int)<(m:Int):=by omega
     have hk0:(0:Int)<=(k:Int):=by omega
     have hkl:k<l.length:=by rw[HM.out];exact uV
     obtain⟨a',e1,-,hx,-⟩:=gU.out k hkl;subst e1;have qw:=qK.out.2 _ (List.getElem_mem hkl);have HT:=zh (show W0+lw (l.take (k+1))=W0+lw (l.take k)+rnk l[k]+1 by rw[znF hkl];omega);have hlw:=zqr (l:=l.take k) ⟨by rw[List.length_take];omega,fun e he=>qK.out.2 e (List.mem_of_mem_take he)⟩;have hRk:=pR.out l[k] wr qw;have hrb:=zra qw;generalize l[k]=x at *
     obtain⟨r,hr⟩:=zX (rnk x);obtain⟨X,hX⟩:=zX (W0+lw (l.take k));rw[hr]at HT hRk hrb;rw[hX]at HT ⊢;have hXb:0<=X/\X<=3000000000000000:=by omega
     have HRk:=zh hRk;have hw1:IntKind.i64.wrap (X+r)=X+r:=IntWalk.i64_in _ (by omega);have hw2:IntKind.i64.wrap (X+r+1)=X+r+1:=IntWalk.i64_in _ (by omega);clear hr hX hlw hRk qw hkl;go_wp2_with fail;refine HRk.out.mono ?_;rintro e w3 ⟨rfl,rfl⟩;go_wp2_with fail
     go_roundw
     case rel=>exact⟨k+1,by omega,by go_num,by rw[HT.out],trivial⟩
     case measure=>simp[intOf];omega
    ·obtain rfl:k=m:=by omega
     have hk1:¬ (k:Int)<(k:Int):=by omega
     have HE:=zh (show W0+lw (l.take k)=wt (LL.take (j+1)) by rw[yu.out,<-HM.out,List.take_length]);go_wp2_with fail
     go_roundw
     case rel=>exact⟨j+1,by omega,by go_num,by rw[HE.out],trivial⟩
     case measure=>simp[intOf];omega
  ·obtain rfl:j=n:=by omega
   have hj1:¬ (j:Int)<(j:Int):=by omega
   go_wp2_with fail;go_ret;exact⟨by rw[bV.out,<-HN.out,List.take_length];rfl,HB2.out⟩
end
section
open Go Go.RowKit
section
variable {P:Program} {md:Region.Mode} {ops:Array Oper} {Q:Exit->Act->World->Prop} {S1 S2:World->Prop} {k:Nat}
end
def lsF(n:Nat)(l0:Array Bool)(d:Nat->Bool):Array Bool:=((List.range n).map fun i=>l0.getD i true||d i).toArray
theorem zpF{n:Nat}{l0:Array Bool}{d:Nat->Bool}{i:Nat}(h:i<n)(b:Bool):(lsF n l0 d).getD i b=(l0.getD i true||d i):=by simp[lsF,Array.getD,h]
theorem zyo{n:Nat}{l0:Array Bool}{d:Nat->Bool}{i:Nat}(h:¬ i<n)(b:Bool):(lsF n l0 d).getD i b=b:=by simp[lsF,Array.getD,h]
theorem zyn{n:Nat}{l0:Array Bool}{d:Nat->Bool}{i:Nat}:(lsF n l0 d).setIfInBounds i true=lsF n l0 (fun j=>j==i||d j):=by
 unfold lsF;apply Array.ext
 ·simp
 ·intro j h1 h2;have hj:j<n:=by simpa using h2
  rw[Array.getElem_setIfInBounds (by simpa using hj)];by_cases e:i=j
  ·subst e;simp
  ·have e':(j==i)=false:=by simpa using fun h:j=i=>e h.symm
   simp[e,e']
def dsF(ops:Array Oper)(i:Nat):Option Tmp:=(ops[i]?).bind fun o=>o.dst
def putF(ops:Array Oper)(vs:Nat->Value):List Nat->Act->Act
 | [],a=>a
 | i::T,a=>putF ops vs T (a.put (dsF ops i) (vs i))
theorem zyd(a:Act)(s:Option Tmp)(v x:Value):(a.put s v).put s x=a.put s x:=by
 cases s with
 | none=>rfl
 | some d=>simp[Act.put]
theorem zqk{ops:Array Oper}{vs:Nat->Value}{s:Option Tmp}{x:Value}:∀ {T:List Nat} {a:Act},s ∉ T.map (dsF ops)->(putF ops vs T a).put s x=putF ops vs T (a.put s x)
 | [],_,_=>rfl
 | i::T,a,h=>by
  rw[putF,putF,zqk (T:=T) fun hm=>h (List.mem_cons_of_mem _ hm),Act.put_comm a (vs i) x fun d e1 e2=>h (by rw[List.map_cons,e1,e2];exact List.mem_cons_self ..)]
theorem zoV{ops:Array Oper}{vs vs':Nat->Value}:∀ {T:List Nat} {a:Act},(∀i∈T,vs i=vs' i)->putF ops vs T a=putF ops vs' T a
 | [],_,_=>rfl
 | i::T,a,h=>by rw[putF,putF,h i (List.mem_cons_self ..),zoV fun j hj=>h j (List.mem_cons_of_mem _ hj)]
theorem zrW{ops:Array Oper}{vs:Nat->Value}{i:Nat}{x:Value}:∀ {T:List Nat} {a:Act},(T.map (dsF ops)).Nodup->i∈T->(putF ops vs T a).put (dsF ops i) x=putF ops (fun j=>if j=i then x else vs j) T a
 | k::T,a,hn,hi=>by
  rw[List.map_cons,List.nodup_cons]at hn;rw[putF,putF];by_cases e:i=k
  ·subst e;rw[zqk hn.1,zyd,if_pos rfl];refine zoV fun j hj=>?_;rw[if_neg fun e=>hn.1 (by rw[<-e];exact List.mem_map_of_mem hj)]
  ·have hi2:i∈T:=by
    rcases List.mem_cons.1 hi with h|h
    ·exact absurd h e
    ·exact h
   rw[zrW hn.2 hi2,if_neg fun h=>e h.symm]
theorem zr8{f:Nat->Option Tmp}:∀ {T:List Nat},(T.map f).Nodup->T.Nodup
 | [],_=>List.nodup_nil
 | i::T,h=>by
  rw[List.map_cons,List.nodup_cons]at h;exact List.nodup_cons.2 ⟨fun hm=>h.1 (List.mem_map_of_mem hm),zr8 h.2⟩
theorem zsd{p:Nat->Prop}:∀N,(∃i,i<N/\p i)->∃i,p i/\∀j,j<i->¬ p j
 | 0,⟨i,h,_⟩=>absurd h (Nat.not_lt_zero i)
 | N+1,⟨i,hi,hp⟩=>by
  by_cases h:∃i,i<N/\p i
  ·exact zsd N h
  ·exact⟨i,hp,fun j hj hpj=>h ⟨j,by omega,hpj⟩⟩
section
variable {P:Program} {md:Region.Mode} {ops:Array Oper} {Q:Exit->Act->World->Prop} {S1 S2:World->Prop} {k:Nat}
def tskF(md:Region.Mode)(ops:Array Oper)(T:List Nat)(z n:Nat)(dep:Nat->List Nat)(l0:Array Bool):Bool :=
 decide (ops.size=n)&&(T.all fun i=>decide (i<n) && !(l0.getD i true)&&((dep i).all fun d=>zn3 md ops i d&&T.contains d)&&match ops[i]? with
  | some o=>o.after.all fun e => !(Region.binds md e)||(l0.getD e.on false||T.contains e.on)&&decide (e.on<i)
  | none=>false)&&(List.range n).all fun i=>l0.getD i true||T.contains i||decide (z<=i)&&T.all fun j=>zn3 md ops i j
def conF(T:List Nat)(dep con:Nat->List Nat):Bool:=T.all fun i=>(con i).all fun d=>(dep i).contains d&&T.all fun j=>j==i || !((dep j).contains d)
theorem ztk{T:List Nat}{z n:Nat}(N0:Nat)(ob:Nat->Value->Option Nat)(dep con:Nat->List Nat)(fz:Nat)(l0:Array Bool)(a0:Act)(Inv:World->Prop)(Fact:Nat->Value->List Value->World->Prop)
  (hds:(T.map (dsF ops)).Nodup)(htk:tskF md ops T z n dep l0=true)(hcn:conF T dep con=true)
  (hN:∀w,Inv w->N0<=w.heap.size)(hS:∀w,Inv w->S1 w/\S2 w)
  (hInv:∀w w' C,Inv w->Chg C w w'->(∀b,C b->N0<=b/\∃i,con i≠[])->Inv w')
  (hF:∀i v ds w w' C,Fact i v ds w->Chg C w w'->(∀b,C b->N0<=b/\∃i,con i≠[])->(∀b,ob i v=some b->¬ C b)->Fact i v ds w')
  (hstep:∀i∈T,∀(oi:Oper),ops[i]?=some oi->∀(vs:Nat->Value) (K:Act->World->Prop) (w:World),Inv w->(∀d∈dep i,Fact d (vs d) ((dep d).map vs) w)->Shut (∀x w',Chg (fun b=>∃d∈con i,ob d (vs d)=some b) w w'->(∀b,ob i x=some b->(w.heap.size<=b\/∃d∈con i,ob d (vs d)=some b)/\b<w'.heap.size)->Fact i x ((dep i).map vs) w'->K ((putF ops vs T a0).put oi.dst x) w') ->
   if Region.wanted oi (yielded ops (putF ops vs T a0).tmps)=true then Oper.wp P oi (putF ops vs T a0) w K Q else K ((putF ops vs T a0).put oi.dst undef) w)
  (hfin:∀(vs:Nat->Value) (w:World),Inv w->(∀i∈T,(∀j∈T,i ∉ con j)->Fact i (vs i) ((dep i).map vs) w)->(∀i j,i∈T->j∈T->i≠j->(∀q∈T,i ∉ con q/\j ∉ con q)->∀b,ob i (vs i)=some b->ob j (vs j)=some b->False)->wpG P md ops Q S1 S2 k fz (lsF n l0 fun i=>T.contains i) (putF ops vs T a0) w) :
  ∀w vs,Inv w->wpG P md ops Q S1 S2 k (T.length+fz) (lsF n l0 fun _=>false) (putF ops vs T a0) w:=by
 unfold tskF at htk;simp only[Bool.and_eq_true,List.all_eq_true,decide_eq_true_eq,Bool.not_eq_true',beq_eq_false_iff_ne,ne_eq,Bool.or_eq_true,List.contains_iff_mem,beq_iff_eq,List.mem_range]at htk;obtain⟨⟨hn,hT⟩,hcov⟩:=htk;have sM:∀i∈T,∀d∈con i,d∈dep i/\∀j∈T,j≠i->d ∉ dep j:=by
  intro i hi d hd;unfold conF at hcn;simp only[List.all_eq_true,Bool.and_eq_true,Bool.or_eq_true,beq_iff_eq,Bool.not_eq_true',List.contains_iff_mem]at hcn;obtain⟨h1,h2⟩:=hcn i hi d hd;refine⟨h1,fun j hj hji hdj=>?_⟩;rcases h2 j hj with h|h
  ·exact hji h
  ·rw[<-Bool.not_eq_true,List.contains_iff_mem]at h;exact h hdj
 have key:∀(m:Nat) (done:Nat->Bool) (vs:Nat->Value) (w:World),Inv w->(∀i,done i=true->i∈T)->(∀i∈T,done i=true->(∀j,done j=true->i ∉ con j)->Fact i (vs i) ((dep i).map vs) w)->(∀i∈T,done i=true->∀d∈dep i,done d=true)->(∀i,done i=true->∀b,ob i (vs i)=some b->N0<=b/\b<w.heap.size)->(∀i j,done i=true->done j=true->i≠j->(∀q,done q=true->i ∉ con q/\j ∉ con q)->∀b,ob i (vs i)=some b->ob j (vs j)=some b->False)->(T.filter fun i => !done i).length=m ->
   wpG P md ops Q S1 S2 k (m+fz) (lsF n l0 done) (putF ops vs T a0) w:=by
  intro m
  induction m with
  | zero =>
   intro done vs w hI h1 h2 h3 h4 h5 hm;have hall:∀i∈T,done i=true:=fun i hi=>by
    have:=List.filter_eq_nil_iff.1 (List.eq_nil_of_length_eq_zero hm) i hi;simpa using this
   have he:done=fun i=>T.contains i:=by
    funext i
    cases hd:done i with
    | true=>simp[h1 i hd]
    | false =>
     cases hc:T.contains i with
     | false=>rfl
     | true=>rw[hall i (by simpa using hc)]at hd;cases hd
   rw[he,Nat.zero_add];exact hfin vs w hI (fun i hi hu=>h2 i hi (hall i hi) fun j hj=>hu j (h1 j hj)) fun i j hi hj hij hu=>h5 i j (hall i hi) (hall j hj) hij fun q hq=>hu q (h1 q hq)
  | succ m ih =>
   intro done vs w hI h1 h2 h3 h4 h5 hm;have hex:∃i,i<n/\(i∈T/\done i=false):=by
    cases hl:T.filter fun i => !done i with
    | nil=>rw[hl]at hm;simp at hm
    | cons i r =>
     have hi:i∈T.filter fun i => !done i:=by rw[hl];exact List.mem_cons_self ..
     have:=List.mem_filter.1 hi;exact⟨i,(hT i this.1).1.1.1,this.1,by simpa using this.2⟩
   obtain⟨i0,⟨hi0,hd0⟩,hmin⟩:=zsd n hex;have hr0:i0∈Region.ready md ops (lsF n l0 done):=by
    obtain⟨⟨⟨q1,q2⟩,q3⟩,q6⟩:=hT i0 hi0;refine mem_ready.2 ⟨by rw[zpF q1,q2,hd0];rfl,?_⟩
    cases ho:ops[i0]? with
    | none=>rw[ho]at q6;cases q6
    | some o =>
     rw[ho]at q6;refine⟨o,rfl,fun e he hb=>?_⟩;have:=Array.all_eq_true_iff_forall_mem.1 q6 e he;simp only[Bool.or_eq_true,Bool.and_eq_true,Bool.not_eq_true',List.contains_iff_mem,decide_eq_true_eq]at this;rcases this with h|⟨h,hlt⟩
     ·rw[hb]at h;cases h
     ·have hon:e.on<n:=by omega
      rw[zpF hon];rcases h with h|h
      ·have:l0.getD e.on true=true:=by
        unfold Array.getD at h ⊢
        split at h
        ·rename_i hh;rw[dif_pos hh];exact h
        ·cases h
       rw[this];rfl
      ·have hde:done e.on=true:=by
        cases hd:done e.on with
        | true=>rfl
        | false=>exact absurd ⟨h,hd⟩ (hmin e.on hlt)
       rw[hde];simp
   rw[show m+1+fz=(m+fz)+1 by omega];refine⟨fun h0=>(by rw[h0]at hr0;cases hr0),fun q hq=>?_⟩;obtain⟨hun,oq,hoq,hall⟩:=mem_ready.1 hq;have hqn:q<n:=by
    by_cases h:q<n
    ·exact h
    ·rw[zyo h]at hun;cases hun
   rw[zpF hqn]at hun;simp only[Bool.or_eq_false_iff]at hun;have hlst:∀d∈T,zn3 md ops q d=true->done d=true:=fun d hd hw=>by
    obtain⟨o,ho,e,he,hb,rfl⟩:=zp5 hw;rw[hoq]at ho;injection ho with ho;subst ho;have:=hall e he hb;obtain⟨⟨⟨q1,q2⟩,-⟩,-⟩:=hT _ hd;rw[zpF q1,q2]at this;simpa using this
   have qy:q∈T:=by
    rcases hcov q hqn with(h|h)|h
    ·rw[hun.1]at h;cases h
    ·exact h
    ·exfalso
     have:=hlst i0 hi0 (h.2 i0 hi0);rw[hd0]at this;cases this
   have qB:∀d∈dep q,done d=true:=fun d hd=>by
    have:=(hT q qy).1.2 d hd;exact hlst d this.2 this.1
   have hne:∀j,done j=true->j≠q:=fun j hj e=>by rw[e,hun.2]at hj;cases hj
   have hfree:∀d∈dep q,∀j,done j=true->d ∉ con j:=fun d hd j hj hc=>(sM j (h1 j hj) d hc).2 q qy (fun e=>hne j hj e.symm) hd;refine wpOp_step hoq fun K' hK=>hstep q qy oq hoq vs K' w hI (fun d hd=>h2 d (h1 d (qB d hd)) (qB d hd) (hfree d hd)) ?_;intro x w' hb iC hFx;have Ai:∀b,(∃d∈con q,ob d (vs d)=some b)->N0<=b/\∃i,con i≠[]:=fun b ⟨d,hd,uY⟩=>⟨(h4 d (qB d (sM q qy d hd).1) b uY).1,q,fun e=>by rw[e]at hd;cases hd⟩
   have hI':=hInv _ _ _ hI hb Ai;refine hK _ _ ⟨⟨(hS _ hI').1,fun _=>(hS _ hI').2⟩,?_⟩;have hdst:oq.dst=dsF ops q:=by unfold dsF;rw[hoq];rfl
   have hmap:∀j,(∀d∈dep j,done d=true)->(dep j).map (fun i=>if i=q then x else vs i)=(dep j).map vs:=fun j hj=>List.map_congr_left fun d hd=>if_neg fun e=>by rw[e]at hd;have:=hj q hd;rw[hun.2]at this;cases this
   have hapart:∀j,done j=true->(∀p,(p==q||done p)=true->j ∉ con p)->∀b,ob j (vs j)=some b->¬ ∃d∈con q,ob d (vs d)=some b:=fun j hj hu b hjb ⟨d,hd,uY⟩=>by
    have hdd:=(sM q qy d hd).1;refine h5 d j (qB d hdd) hj (fun e=>hu q (by simp) (by rw[<-e];exact hd)) (fun p hp=>⟨hfree d hdd p hp,hu p (by simp[hp])⟩) b uY hjb
   rw[zyn,hdst,zrW hds qy];refine ih (fun j=>j==q||done j) _ w' hI' (fun j hj=>?_) (fun j hj hd hu=>?_) (fun j hj hd d hdd=>?_) (fun j hd b hb2=>?_) (fun i j hdi hdj hij hu b hbi hbj=>?_) ?_
   ·simp only[Bool.or_eq_true,beq_iff_eq]at hj;rcases hj with rfl|hj
    ·exact qy
    ·exact h1 j hj
   ·simp only[Bool.or_eq_true,beq_iff_eq]at hd;by_cases e:j=q
    ·subst e;rw[if_pos rfl,hmap j qB];exact hFx
    ·have hd:done j=true:=hd.resolve_left e;rw[if_neg e,hmap j (h3 j hj hd)];exact hF _ _ _ _ _ _ (h2 j hj hd fun p hp=>hu p (by simp[hp])) hb Ai (hapart j hd hu)
   ·simp only[Bool.or_eq_true,beq_iff_eq]at hd ⊢;by_cases e:j=q
    ·subst e;exact .inr (qB d hdd)
    ·exact .inr (h3 j hj (hd.resolve_left e) d hdd)
   ·simp only[Bool.or_eq_true,beq_iff_eq]at hd;by_cases e:j=q
    ·rw[if_pos e]at hb2;rw[e]at hb2;refine⟨?_,(iC b hb2).2⟩;rcases(iC b hb2).1 with h|h
     ·exact Nat.le_trans (hN _ hI) h
     ·exact(Ai b h).1
    ·rw[if_neg e]at hb2;have:=h4 j (hd.resolve_left e) b hb2;exact⟨this.1,Nat.lt_of_lt_of_le this.2 hb.size⟩
   ·simp only[Bool.or_eq_true,beq_iff_eq]at hdi hdj;have go:∀j,j≠q->done j=true->(∀p,(p==q||done p)=true->j ∉ con p)->ob q x=some b->ob j (vs j)=some b->False:=fun j hjq hdj hu hbq hbj=>by
     rcases(iC b hbq).1 with h|h
     ·have:=(h4 j hdj b hbj).2;omega
     ·exact hapart j hdj hu b hbj h
    by_cases ei:i=q
    ·have ej:¬ j=q:=fun h=>hij (ei.trans h.symm);rw[if_pos ei,ei]at hbi;rw[if_neg ej]at hbj;exact go j ej (hdj.resolve_left ej) (fun p hp=>(hu p hp).2) hbi hbj
    ·by_cases ej:j=q
     ·rw[if_neg ei]at hbi;rw[if_pos ej,ej]at hbj;exact go i ei (hdi.resolve_left ei) (fun p hp=>(hu p hp).1) hbj hbi
     ·rw[if_neg ei]at hbi;rw[if_neg ej]at hbj;exact h5 i j (hdi.resolve_left ei) (hdj.resolve_left ej) hij (fun p hp=>hu p (by simp[hp])) b hbi hbj
   ·have hnd:T.Nodup:=zr8 hds;have hcnt:∀L:List Nat,L.Nodup->q∈L->(L.filter fun j => !(j==q||done j)).length+1=(L.filter fun j => !done j).length:=by
     intro L
     induction L with
     | nil=>intro _ h;cases h
     | cons y L ihL =>
      intro hn hq;rw[List.nodup_cons]at hn;rw[List.filter_cons,List.filter_cons];by_cases e:y=q
      ·subst e;have hsame:(L.filter fun j => !(j==y||done j))=L.filter fun j => !done j:=List.filter_congr fun j hj=>by
        have:¬ j=y:=fun e=>hn.1 (e▸hj);simp[this]
       rw[if_neg (by simp),if_pos (by simp[hun.2]),hsame,List.length_cons]
      ·have hq2:q∈L:=by
        rcases List.mem_cons.1 hq with h|h
        ·exact absurd h.symm e
        ·exact h
       have:=ihL hn.2 hq2;have e2:(y==q)=false:=by simpa using e
       cases hy:done y
       ·rw[if_pos (by simp[e2,hy]),if_pos (by simp[hy]),List.length_cons,List.length_cons,this]
       ·rw[if_neg (by simp[e2,hy]),if_neg (by simp[hy]),this]
    have:=hcnt T hnd qy;omega
 intro w vs hI;have h0:=key T.length (fun _=>false) vs w hI (fun i h=>by cases h) (fun i _ h=>by cases h) (fun i _ h=>by cases h) (fun i h=>by cases h) (fun i j h=>by cases h) (by simp);exact h0
def putP(vs:Nat->Value):List (Nat×Nat)->Act->Act
 | [],a=>a
 | (i,d)::T,a=>putP vs T (a.put (some d) (vs i))
def dstP(ops:Array Oper):List (Nat×Nat)->Bool
 | []=>true
 | (i,d)::T=>(match ops[i]? with|some o=>o.dst==some d|none=>false)&&dstP ops T
theorem zrX{vs:Nat->Value}:∀ {T:List (Nat×Nat)} {a:Act},dstP ops T=true->putF ops vs (T.map (·.1)) a=putP vs T a
 | [],_,_=>rfl
 | (i,d)::T,a,h=>by
  simp only[dstP,Bool.and_eq_true]at h;have e:dsF ops i=some d:=by
   unfold dsF
   cases ho:ops[i]? with
   | none=>rw[ho]at h;cases h.1
   | some o=>rw[ho]at h;simpa using h.1
  rw[List.map_cons,putF,putP,e,zrX h.2]
theorem ztl{T:List (Nat×Nat)}{z n f:Nat}{L:Array Bool}{a0:Act}(N0:Nat)(ob:Nat->Value->Option Nat)(dep con:Nat->List Nat)(fz:Nat)(Inv:World->Prop)(Fact:Nat->Value->List Value->World->Prop)
  (hf:f=T.length+fz)(hL:lsF n L (fun _=>false)=L)(hA:putP (fun _=>undef) T a0=a0)
  (hds:(T.map (·.2)).Nodup)(hdp:dstP ops T=true)(htk:tskF md ops (T.map (·.1)) z n dep L=true)(hcn:conF (T.map (·.1)) dep con=true)
  (hN:∀w,Inv w->N0<=w.heap.size)(hS:∀w,Inv w->S1 w/\S2 w)
  (hInv:∀w w' C,Inv w->Chg C w w'->(∀b,C b->N0<=b/\∃i,con i≠[])->Inv w')
  (hF:∀i v ds w w' C,Fact i v ds w->Chg C w w'->(∀b,C b->N0<=b/\∃i,con i≠[])->(∀b,ob i v=some b->¬ C b)->Fact i v ds w')
  (hstep:∀q∈T,∀(oi:Oper),ops[q.1]?=some oi->∀(vs:Nat->Value) (K:Act->World->Prop) (w:World),Inv w->(∀d∈dep q.1,Fact d (vs d) ((dep d).map vs) w)->Shut (∀x w',Chg (fun b=>∃d∈con q.1,ob d (vs d)=some b) w w'->(∀b,ob q.1 x=some b->(w.heap.size<=b\/∃d∈con q.1,ob d (vs d)=some b)/\b<w'.heap.size)->Fact q.1 x ((dep q.1).map vs) w'->K ((putP vs T a0).put oi.dst x) w') ->
   if Region.wanted oi (yielded ops (putP vs T a0).tmps)=true then Oper.wp P oi (putP vs T a0) w K Q else K ((putP vs T a0).put oi.dst undef) w)
  (hfin:∀(vs:Nat->Value) (w:World),Inv w->(∀q∈T,(∀j∈T,q.1 ∉ con j.1)->Fact q.1 (vs q.1) ((dep q.1).map vs) w)->(∀i j,i∈T.map (·.1)->j∈T.map (·.1)->i≠j->(∀q∈T.map (·.1),i ∉ con q/\j ∉ con q)->∀b,ob i (vs i)=some b->ob j (vs j)=some b->False)->wpG P md ops Q S1 S2 k fz (lsF n L fun i=>(T.map (·.1)).contains i) (putP vs T a0) w) :
  ∀w,Inv w->wpG P md ops Q S1 S2 k f L a0 w:=by
 have hdn:((T.map (·.1)).map (dsF ops)).Nodup:=by
  have:∀L:List (Nat×Nat),dstP ops L=true->(L.map (·.1)).map (dsF ops)=(L.map (·.2)).map some:=by
   intro L
   induction L with
   | nil=>intro _;rfl
   | cons q L ih =>
    intro h;obtain⟨i,d⟩:=q;simp only[dstP,Bool.and_eq_true]at h;have e:dsF ops i=some d:=by
     unfold dsF
     cases ho:ops[i]? with
     | none=>rw[ho]at h;cases h.1
     | some o=>rw[ho]at h;simpa using h.1
    simp only[List.map_cons,e,ih h.2]
  rw[this T hdp];exact List.Pairwise.map some (fun a b h e=>h (by injection e)) hds
 intro w hI;have h:=ztk (P:=P) (md:=md) (Q:=Q) (S1:=S1) (S2:=S2) (k:=k) N0 ob dep con fz L a0 Inv Fact hdn htk hcn hN hS hInv hF (fun i hi oi hoi vs K w hI hd hK=>by
  obtain⟨q,hq,rfl⟩:=List.mem_map.1 hi;rw[zrX hdp]at hK ⊢;exact hstep q hq oi hoi vs K w hI hd hK) (fun vs w hI hF hO=>by
  rw[zrX hdp];exact hfin vs w hI (fun q hq hu=>hF q.1 (List.mem_map_of_mem hq) fun j hj=>by
   obtain⟨j2,hj2,rfl⟩:=List.mem_map.1 hj;exact hu j2 hj2) hO) w (fun _=>undef) hI
 rw[zrX hdp,List.length_map,hL,hA]at h;rw[hf];exact h
theorem zoM{T:List (Nat×Nat)}{z n f:Nat}{L:Array Bool}{a0:Act}(ob:Nat->Value->Option Nat)(dep:Nat->List Nat)(fz:Nat)(Inv:World->Prop)(Fact:Nat->Value->List Value->World->Prop)
  (hf:f=T.length+fz)(hL:lsF n L (fun _=>false)=L)(hA:putP (fun _=>undef) T a0=a0)
  (hds:(T.map (·.2)).Nodup)(hdp:dstP ops T=true)(htk:tskF md ops (T.map (·.1)) z n dep L=true)
  (hS:∀w,Inv w->S1 w/\S2 w)(hInv:∀w w',Inv w->Below w.heap.size w w'->Inv w')(hF:∀i v ds w w',Fact i v ds w->Below w.heap.size w w'->Fact i v ds w')
  (hstep:∀q∈T,∀(oi:Oper),ops[q.1]?=some oi->∀(vs:Nat->Value) (K:Act->World->Prop) (w:World),Inv w->(∀d∈dep q.1,Fact d (vs d) ((dep d).map vs) w)->Shut (∀x w',Below w.heap.size w w'->(∀b,ob q.1 x=some b->w.heap.size<=b/\b<w'.heap.size)->Fact q.1 x ((dep q.1).map vs) w'->K ((putP vs T a0).put oi.dst x) w') ->
   if Region.wanted oi (yielded ops (putP vs T a0).tmps)=true then Oper.wp P oi (putP vs T a0) w K Q else K ((putP vs T a0).put oi.dst undef) w)
  (hfin:∀(vs:Nat->Value) (w:World),Inv w->(∀q∈T,Fact q.1 (vs q.1) ((dep q.1).map vs) w)->(∀i j,i∈T.map (·.1)->j∈T.map (·.1)->i≠j->∀b,ob i (vs i)=some b->ob j (vs j)=some b->False)->wpG P md ops Q S1 S2 k fz (lsF n L fun i=>(T.map (·.1)).contains i) (putP vs T a0) w) :
  ∀w,Inv w->wpG P md ops Q S1 S2 k f L a0 w:=by
 have hB:∀(w w':World) (C:Nat->Prop),Chg C w w'->(∀b,C b->0<=b/\∃i:Nat,(fun _=>[]:Nat->List Nat) i≠[])->Below w.heap.size w w':=fun w w' C h hC=>⟨h.os,h.tape,h.output,h.size,fun b hb=>h.block b hb fun hc=>by
  obtain⟨-,i,hi⟩:=hC b hc;exact hi rfl⟩
 refine ztl (N0:=0) ob dep (fun _=>[]) fz Inv Fact hf hL hA hds hdp htk (by simp[conF]) (fun _ _=>Nat.zero_le _) hS (fun w w' C hI h hC=>hInv _ _ hI (hB w w' C h hC)) (fun i v ds w w' C hx h hC _=>hF _ _ _ _ _ hx (hB w w' C h hC)) (fun q hq oi hoi vs K w hI hd hK=>hstep q hq oi hoi vs K w hI hd fun x w' hb iC hx=>hK x w' (Chg.of_below hb) (fun b hb=>⟨.inl (iC b hb).1,(iC b hb).2⟩) hx) fun vs w hI hF hO=>hfin vs w hI (fun q hq=>hF q hq fun j _=>by simp) fun i j hi hj hij=>hO i j hi hj hij fun q _=>by simp
theorem zoN{T:List (Nat×Nat)}{z n f:Nat}{L:Array Bool}{a0:Act}(dep:Nat->List Nat)(fz:Nat)(Inv:World->Prop)(Fact:Nat->Value->List Value->World->Prop)
  (hf:f=T.length+fz)(hL:lsF n L (fun _=>false)=L)(hA:putP (fun _=>undef) T a0=a0)
  (hds:(T.map (·.2)).Nodup)(hdp:dstP ops T=true)(htk:tskF md ops (T.map (·.1)) z n dep L=true)
  (hS:∀w,Inv w->S1 w/\S2 w)(hInv:∀w w',Inv w->Below w.heap.size w w'->Inv w')(hF:∀i v ds w w',Fact i v ds w->Below w.heap.size w w'->Fact i v ds w')
  (hstep:∀q∈T,∀(oi:Oper),ops[q.1]?=some oi->∀(vs:Nat->Value) (K:Act->World->Prop) (w:World),Inv w->(∀d∈dep q.1,Fact d (vs d) ((dep d).map vs) w)->Shut (∀x w',Below w.heap.size w w'->Fact q.1 x ((dep q.1).map vs) w'->K ((putP vs T a0).put oi.dst x) w') ->
   if Region.wanted oi (yielded ops (putP vs T a0).tmps)=true then Oper.wp P oi (putP vs T a0) w K Q else K ((putP vs T a0).put oi.dst undef) w)
  (hfin:∀(vs:Nat->Value) (w:World),Inv w->(∀q∈T,Fact q.1 (vs q.1) ((dep q.1).map vs) w)->wpG P md ops Q S1 S2 k fz (lsF n L fun i=>(T.map (·.1)).contains i) (putP vs T a0) w) :
  ∀w,Inv w->wpG P md ops Q S1 S2 k f L a0 w :=
 zoM (fun _ _=>none) dep fz Inv Fact hf hL hA hds hdp htk hS hInv hF (fun q hq oi hoi vs K w hI hd hK=>hstep q hq oi hoi vs K w hI hd fun x w' hb hx=>hK x w' hb (fun b h=>by cases h) hx) fun vs w hI hF _=>hfin vs w hI hF
theorem opF{oi:Oper}{i:Nat}(h:ops[i]?=some oi){α:Type}(f:Oper->α){x:α}(hx:(ops[i]?).map f=some x):f oi=x:=by rw[h]at hx;exact Option.some.inj hx
theorem zk4{oi:Oper}{i:Nat}{a:Act}{w:World}{K:Act->World->Prop}{F:Prop}(hoi:ops[i]?=some oi)(x:Operand)(xs:List Operand)(ats:Array TypeId)(hg:(ops[i]?).map (fun o=>o.guard)=some none)
  (ho:(ops[i]?).map (fun o=>o.op)=some (.call { callee:=.value x,args:=xs.toArray,argTypes:=ats }))(f:FuncId)(fn:Func)(hf:IsFn P f fn)(cap:Array Value)(hv:a.eval x=.func (.func f) #[] cap)(l:List Value)(hargs:xs.map a.eval=l)(R:Value->World->Prop)
  (hc:Calls P f (l.toArray++cap) w fun e w'=>∃v,e=.returned v/\R v w')(h:∀v w',R v w'->K (a.put oi.dst v) w') :
  if Region.wanted oi (yielded ops a.tmps)=true then Oper.wp P oi a w K Q else F :=
 zk3 (opF hoi (fun o=>o.guard) hg) x xs ats (opF hoi (fun o=>o.op) ho) f fn hf cap hv l hargs R hc h
end
attribute [local go_sem] Oper.semAt_some
structure SmC(s:SS):Prop where
 n:s.cells.length<=100
 c:∀l∈lisS s,l.length<=1000/\∀e∈l,-1000000<=e/\e<=1000000
theorem SmC.sm{s:SS}(h:SmC s):SmS s :=
 ⟨by have:=h.n;omega,fun l hl=>⟨by have:=(h.c l (List.mem_append_left _ hl)).1;omega,(h.c l (List.mem_append_left _ hl)).2⟩,⟨by have:=(h.c s.tin (by simp[lisS])).1;omega,(h.c s.tin (by simp[lisS])).2⟩,⟨by have:=(h.c s.tout (by simp[lisS])).1;omega,(h.c s.tout (by simp[lisS])).2⟩⟩
structure XY(W0:World)(C:Nat->Prop)(w:World)(Ax:Option Addr)(cx p:Nat)(Ay:Option Addr)(cy q:Nat)(xs ys:List Int):Prop where
 bl:Chg C W0 w
 nw:∀b,W0.heap.size<=b->C b
 x:w.ownsRow 0 3 1 (.slice Ax p cx) p (zkg xs)
 y:w.ownsRow 0 3 1 (.slice Ay q cy) q (zkg ys)
 xC:∀b,(Value.slice Ax p cx).ownBlock=some b->C b
 yC:∀b,(Value.slice Ay q cy).ownBlock=some b->C b
 ne:∀b,(Value.slice Ax p cx).ownBlock=some b->(Value.slice Ay q cy).ownBlock=some b->False
theorem XY.px{W0 w w':World}{C:Nat->Prop}{cx cy p q:Nat}{Ax Ay:Option Addr}{xs ys:List Int}{u:Int}{v':Value}(h:XY W0 C w Ax cx p Ay cy q xs ys)(ho:w'.ownsRow 0 3 1 v' (p+1) (zkg xs++[.int .i64 u]))(hg:(w.alloc (.cells #[.int .i64 u] 3)).grownBy w' (Value.slice Ax p cx).ownBlock)
  (aj:v'.ownBlock=(Value.slice Ax p cx).ownBlock\/v'.ownBlock=some (w.alloc (.cells #[.int .i64 u] 3)).heap.size):∃A c,v'=.slice A (p+1) c/\Hid (XY W0 C w' A c (p+1) Ay cy q (xs++[u]) ys):=by
 obtain⟨A,c,rfl,-⟩:=zke ho;have aW:=zkb (zs w) (.cells #[.int .i64 u] 3);have hs:=h.bl.size;refine⟨A,c,rfl,zh ⟨(h.bl.trans2 (Chg.of_below (C:=fun _=>False) aW) fun b _ h=>h.elim).trans2 (Chg.row hg) fun b _ hb=>h.xC b hb,h.nw,?_,?_,fun b h1=>?_,h.yC,fun b h1 h2=>?_⟩⟩
 ·have e:zkg (xs++[u])=zkg xs++[.int .i64 u]:=by simp[zkg]
  rw[e];exact ho
 ·refine zmr (zkp h.y aW) fun b hb=>hg.block b (Nat.lt_of_lt_of_le (h.y.lt b hb).2 aW.size) fun e=>h.ne b e.symm hb
 ·rcases aj with e|e
  ·exact h.xC b (e▸h1)
  ·rw[e]at h1;injection h1 with h1;exact h.nw b (by have:=aW.size;omega)
 ·rcases aj with e|e
  ·exact h.ne b (e▸h1) h2
  ·rw[e]at h1;injection h1 with h1;have:=(h.y.lt b h2).2;have:=aW.size;omega
theorem XY.py{W0 w w':World}{C:Nat->Prop}{cx cy p q:Nat}{Ax Ay:Option Addr}{xs ys:List Int}{u:Int}{v':Value}(h:XY W0 C w Ax cx p Ay cy q xs ys)(ho:w'.ownsRow 0 3 1 v' (q+1) (zkg ys++[.int .i64 u]))(hg:(w.alloc (.cells #[.int .i64 u] 3)).grownBy w' (Value.slice Ay q cy).ownBlock)
  (aj:v'.ownBlock=(Value.slice Ay q cy).ownBlock\/v'.ownBlock=some (w.alloc (.cells #[.int .i64 u] 3)).heap.size):∃A c,v'=.slice A (q+1) c/\Hid (XY W0 C w' Ax cx p A c (q+1) xs (ys++[u])):=by
 have h':XY W0 C w Ay cy q Ax cx p ys xs:=⟨h.bl,h.nw,h.y,h.x,h.yC,h.xC,fun b h1 h2=>h.ne b h2 h1⟩
 obtain⟨A,c,e,H⟩:=h'.px ho hg aj;have H:=H.out;exact⟨A,c,e,zh ⟨H.bl,H.nw,H.y,H.x,H.yC,H.xC,fun b h1 h2=>H.ne b h2 h1⟩⟩
theorem XY.drew{W0 w:World}{C:Nat->Prop}{cx cy p q:Nat}{Ax Ay:Option Addr}{xs ys:List Int}(h:XY W0 C w Ax cx p Ay cy q xs ys)(n:Nat):XY W0 C (w.drewN n) Ax cx p Ay cy q xs ys :=
 ⟨(h.bl.trans2 (Chg.of_below (C:=fun _=>False) (zko (zs w) n)) fun b _ h=>h.elim),h.nw,zkp h.x (zko (zs w) n),zkp h.y (zko (zs w) n),h.xC,h.yC,h.ne⟩
theorem znE{w:World}{n:Nat}{A:Option Addr}{c:Nat}{xs:List Int}(h:w.ownsRow 0 3 1 (.slice A n c) n (zkg xs)){k:Nat}(hk:k<xs.length):∃a,A=some a/\w.cell? (a.add k)=some (.int .i64 xs[k]):=by
 obtain⟨h1,h2,h3⟩:=zrZ h;rcases A with _|a
 ·have:=h1 rfl;have:=h.1;simp[zkg]at this;omega
 ·exact⟨a,rfl,h2 a rfl k _ (by simp[zkg,hk])⟩
theorem zmq{w:World}{n:Nat}{v:Value}{xs:List Int}(h:w.ownsRow 0 3 1 v n (zkg xs)):xs.length=n:=by
 have:=h.1;simpa[zkg]using this
theorem ztK{w3:World}{C:Nat->Prop}{A:Option Addr}{L:List (List Int)}(h:zlF w3 (fun q=>¬ C q) A L){j:Nat}(hj:j<L.length):∃(a:Addr) (l:List Int) (A':Option Addr) (c':Nat),A=some a/\Hid (L[j]=l)/\l.length<=c'/\∀w',Chg C w3 w'->w'.cell? (a.add j)=some (.slice A' l.length c')/\RowI w' (fun q=>¬ C q) A' l:=by
 obtain⟨a,A',c',rfl,hS,h0,hc,hr⟩:=h j hj;refine⟨a,L[j],A',c',rfl,rfl,hc,fun w' hw=>⟨zkK h0 ?_,hr.keep (fun _ h _=>h) fun q hq hlt=>hw.block q hlt hq⟩⟩;have hlt:a.block<w3.heap.size:=by have:=World.block_lt_of_cell? w3 _ h0;rwa[zkx]at this
 rw[zkx];exact hw.block _ hlt hS
theorem zrK{l:List Int}{k m:Nat}(h:(k=m\/(k=l.length/\k<=m))):l.take k=l.take m:=by
 rcases h with rfl|⟨rfl,h⟩
 ·rfl
 ·rw[List.take_length,List.take_of_length_le h]
theorem zqt{L M:List (List Int)}{j:Nat}(h1:j<L.length)(h2:j<M.length):keyA (L.drop j) (M.drop j)=((L[j].length:Int)::(L[j].take M[j].length).map rnk)++(if L[j].length=M[j].length then keyA (L.drop (j+1)) (M.drop (j+1))else []):=by
 rw[List.drop_eq_getElem_cons h1,List.drop_eq_getElem_cons h2,keyA]
theorem zsf{L M:List (List Int)}{j:Nat}(h:¬ (j<L.length/\j<M.length)):keyA (L.drop j) (M.drop j)=[]:=by
 by_cases h1:j<L.length
 ·have h2:M.drop j=[]:=List.drop_eq_nil_of_le (by omega);rw[h2]
  cases L.drop j<;>rfl
 ·have h2:L.drop j=[]:=List.drop_eq_nil_of_le (by omega);rw[h2];rfl
theorem zoj{xs ys:List Int}:∀ {j:Nat},(∀k (h1:k<xs.length) (h2:k<ys.length),k<j->xs[k]=ys[k])->j<=xs.length->j<=ys.length->lexE xs ys=lexE (xs.drop j) (ys.drop j):=by
 intro j
 induction j with
 | zero=>intro _ _ _;simp
 | succ j ih =>
  intro h h1 h2;rw[ih (fun k q1 q2 q3=>h k q1 q2 (by omega)) (by omega) (by omega),List.drop_eq_getElem_cons (by omega),List.drop_eq_getElem_cons (show j<ys.length by omega),lexE];have:=h j (by omega) (by omega) (by omega);rw[if_neg (by omega),if_neg (by omega)]
theorem zpG{xs ys:List Int}{j:Nat}(h:∀k (h1:k<xs.length) (h2:k<ys.length),k<j->xs[k]=ys[k])(h1:j<xs.length)(h2:j<ys.length):lexE xs ys=if xs[j]<ys[j]then -1 else if ys[j]<xs[j]then 1 else lexE (xs.drop (j+1)) (ys.drop (j+1)):=by
 rw[zoj h (by omega) (by omega),List.drop_eq_getElem_cons h1,List.drop_eq_getElem_cons h2,lexE]
abbrev stR(w':World)(b:Nat)(A:Option Addr)(l c:Nat)(B:Option Addr)(m d:Nat)(D:Option Addr)(n e:Nat):Prop:=w'.cell? ⟨b,0,none⟩=some (.slice A l c)/\w'.cell? ⟨b,1,none⟩=some (.slice B m d)/\w'.cell? ⟨b,2,none⟩=some (.slice D n e)
theorem bI2R(x y:Int)(w:World):(Instr.buildSlice 30 2 #[(0,.int .i64 x),(1,.int .i64 y)]).run Tryz.prog w=.ok (.slice (some ⟨w.heap.size,0,none⟩) 2 2) (w.alloc (.cells #[.int .i64 x,.int .i64 y] 3)):=by kernel_rfl
theorem zzJ:IsFn Tryz.prog 126 Tryz.f126:=⟨Tryz.func126,by kernel_rfl,by kernel_rfl⟩
theorem zzL:IsFn Tryz.prog 127 Tryz.f127:=⟨Tryz.func127,by kernel_rfl,by kernel_rfl⟩
def cmF(B:Nat)(wa na wb nb:Int):Nat->Value->List Value->World->Prop
 | 1,v,_,_=>v=.int .i64 wa
 | 5,v,_,w=>∃b,v=.slice (some ⟨b,0,none⟩) 2 2/\B<=b/\w.heap[b]?=some (.cells #[.int .i64 wa,.int .i64 na] 3 (0,0))
 | 7,v,_,_=>v=.int .i64 wb
 | 11,v,_,w=>∃b,v=.slice (some ⟨b,0,none⟩) 2 2/\B<=b/\w.heap[b]?=some (.cells #[.int .i64 wb,.int .i64 nb] 3 (0,0))
 | 12,v,ds,_=>ds=[v]
 | _,_,_,_=>True
def cmD:Nat->List Nat
 | 5=>[1]
 | 11=>[7]
 | 12=>[5]
 | _=>[]
def cmO:Nat->Value->Option Nat
 | 5,v=>v.ownBlock
 | 11,v=>v.ownBlock
 | _,_=>none
theorem zuP{B:Nat}{wa na wb nb:Int}{v:Value}{ds:List Value}{w w':World}(i:Nat)(h:cmF B wa na wb nb i v ds w)(hb:Below w.heap.size w w'):cmF B wa na wb nb i v ds w':=by
 unfold cmF at h ⊢
 split at h<;>try exact h
 all_goals (obtain⟨b,e,h0,h⟩:=h;exact⟨b,e,h0,zkc h hb⟩)
def clF(B0 B2:Nat)(a b:SS):Nat->Value->List Value->World->Prop
 | 1,v,_,w=>∃A c,v=.slice A (a.cells.length+2) c/\zlF w (fun q=>(q<B0\/B2<=q)/\q<w.heap.size) A (lisS a)
 | 3,v,_,w=>∃A c,v=.slice A (b.cells.length+2) c/\zlF w (fun q=>(q<B0\/B2<=q)/\q<w.heap.size) A (lisS b)
 | 4,v,ds,_=>ds=[v]
 | _,_,_,_=>True
def clD:Nat->List Nat
 | 4=>[1]
 | _=>[]
theorem zuQ{B0 B2:Nat}{a b:SS}{v:Value}{ds:List Value}{w w':World}(i:Nat)(h:clF B0 B2 a b i v ds w)(hb:Below w.heap.size w w'):clF B0 B2 a b i v ds w':=by
 unfold clF at h ⊢
 split at h<;>try exact h
 all_goals (obtain⟨A,c,e,h⟩:=h;exact⟨A,c,e,h.keep (fun _ h hlt=>⟨h.1,Nat.lt_of_lt_of_le hlt hb.size⟩) fun q _ hlt=>hb.block q hlt⟩)
theorem zrA(a b:SS)(va vb:Value)(w:World)(hva:SV w Any a va)(hvb:SV w Any b vb)(ha:SmC a)(hb:SmC b) :
  Calls Tryz.prog 92 #[va,vb] w fun e w'=>e=.returned (.int .i64 (cmpE a b))/\Below w.heap.size w w':=by
 have HWA:=zh (fun w' (h:Below w.heap.size w w')=>zoC a va w' (hva.later h) ha.sm);have HWB:=zh (fun w' (h:Below w.heap.size w w')=>zoC b vb w' (hvb.later h) hb.sm);have HLA:=zh (fun w' (h:Below w.heap.size w w')=>zoh a va w' ((hva.keep (S':=fun q=>q<w.heap.size) (fun _ _ h=>h) fun _ _ _=>rfl).later h) ha.sm.n);have HLB:=zh (fun w' (h:Below w.heap.size w w')=>zoh b vb w' ((hvb.keep (S':=fun q=>q<w.heap.size) (fun _ _ h=>h) fun _ _ _=>rfl).later h) hb.sm.n);have oo:=zh ha.c;have jZ:=zh hb.c;have hna:=ha.n;have hnb:=hb.n;obtain⟨Aa,ca,Ba,da,Da,ea,rfl⟩:∃A c B d D e,va=.agg #[.slice A a.cells.length c,.slice B a.tin.length d,.slice D a.tout.length e]:=by
  obtain⟨A,c,B,d,D,e,rfl,-⟩:=hva;exact⟨_,_,_,_,_,_,rfl⟩
 obtain⟨Ab,cb,Bb,db,Db,eb,rfl⟩:∃A c B d D e,vb=.agg #[.slice A b.cells.length c,.slice B b.tin.length d,.slice D b.tout.length e]:=by
  obtain⟨A,c,B,d,D,e,rfl,-⟩:=hvb;exact⟨_,_,_,_,_,_,rfl⟩
 obtain⟨N,hN⟩:=zX (w.heap.size);have hb1:=zkb (zkb (zs w) (.cells #[.slice Aa a.cells.length ca,.slice Ba a.tin.length da,.slice Da a.tout.length ea] 32)) (.cells #[.slice Ab b.cells.length cb,.slice Bb b.tin.length db,.slice Db b.tout.length eb] 32);have k0:=zkf (zl4 w hN (.cells #[.slice Aa a.cells.length ca,.slice Ba a.tin.length da,.slice Da a.tout.length ea] 32)) (.cells #[.slice Ab b.cells.length cb,.slice Bb b.tin.length db,.slice Db b.tout.length eb] 32);have k1:=zl4 (w.alloc (.cells #[.slice Aa a.cells.length ca,.slice Ba a.tin.length da,.slice Da a.tout.length ea] 32)) (n:=N+1) (by simp[hN]) (.cells #[.slice Ab b.cells.length cb,.slice Bb b.tin.length db,.slice Db b.tout.length eb] 32)
 obtain⟨w1,hw1⟩:=zX ((w.alloc (.cells #[.slice Aa a.cells.length ca,.slice Ba a.tin.length da,.slice Da a.tout.length ea] 32)).alloc (.cells #[.slice Ab b.cells.length cb,.slice Bb b.tin.length db,.slice Db b.tout.length eb] 32));rw[hw1]at hb1 k0 k1;have HB1:=zh hb1;have aD:=zh k0;have az:=zh k1;have av:=zh (show ∀w',Below w1.heap.size w1 w'->(fun w':World=>stR w' N Aa a.cells.length ca Ba a.tin.length da Da a.tout.length ea/\stR w' (N+1) Ab b.cells.length cb Bb b.tin.length db Db b.tout.length eb) w' from fun w' hb=>⟨zkr (zkc aD.out hb),zkr (zkc az.out hb)⟩);clear hva hvb ha hb hb1 k0 k1;go_enter Tryz.func92,Tryz.ntmps92;go_upto_region 1 with fail
 try rw[hw1]
 try rw[hN]
 clear hw1 hN;have hI2:=bI2R;have hSS:zW (fun w':World=>stR w' N Aa a.cells.length ca Ba a.tin.length da Da a.tout.length ea/\stR w' (N+1) Ab b.cells.length cb Bb b.tin.length db Db b.tout.length eb) zU w1.drew:=⟨av.out _ zr.drew,trivial⟩
 refine wp_region_noPanic ?_;refine zG hSS 13 ?_;refine zT 0 hSS ?_;refine zT 2 hSS ?_;refine zT 3 hSS ?_;refine zT 4 hSS ?_;refine zT 6 hSS ?_;refine zT 8 hSS ?_;refine zT 9 hSS ?_;refine zT 10 hSS ?_;have hI:(fun w=>Below w1.heap.size w1 w) w1.drew:=zr.drew;clear hSS;refine zoM (T:=[(1,13),(5,17),(7,19),(11,23),(12,5)]) (z:=13) (n:=14) cmO cmD 1 (fun w=>Below w1.heap.size w1 w) (cmF w1.heap.size (wt (lisS a)) a.cells.length (wt (lisS b)) b.cells.length) (by kernel_rfl) (by kernel_rfl) (by simp only[putP,Act.put,zD,zE,zF]) (by decide) (by kernel_rfl) (by kernel_rfl) (fun w h=>⟨av.out _ h,trivial⟩) (fun w w' h hb=>zka h hb) (fun i v ds w w' h hb=>zuP i h hb) (fun q hq=>?_) (fun vs w2 hb2 hF hO=>?_) w1.drew hI
 ·simp only[List.mem_cons,List.not_mem_nil,or_false]at hq;rcases hq with rfl|rfl|rfl|rfl|rfl
  ·intro oi hoi vs K w2 hb2 hd ah;generalize dG:putP vs [(1,13),(5,17),(7,19),(11,23),(12,5)] _=AC at ah ⊢;have hK:=zh ah;clear ah;have had:Calls Tryz.prog 126 ([.agg #[.slice Aa a.cells.length ca,.slice Ba a.tin.length da,.slice Da a.tout.length ea]].toArray ++ #[]) w2 fun e w'=>∃v,e=.returned v/\(v=.int .i64 (wt (lisS a))/\Below w2.heap.size w2 w') :=
    (HWA.out w2 (zka HB1.out hb2)).mono fun e w' ⟨h1,h2⟩=>⟨_,h1,rfl,h2⟩
   refine zk4 hoi (.func 126) [.tmp 12] #[32] (by kernel_rfl) (by kernel_rfl) 126 _ zzJ #[] (by rw[<-dG];kernel_rfl) _ (by rw[<-dG];kernel_rfl) _ had ?_;rintro v w3 ⟨hv,hb3⟩;exact hK.out _ _ hb3 (fun b h=>by cases h) hv
  ·intro oi hoi vs K w2 hb2 hd ah;obtain rfl:=Option.some.inj hoi;simp only[putP,Act.put,zA,zB,zC,zD,zE,zF]at ah ⊢;have hK:=zh ah;clear ah hoi;have hv:vs 1=.int .i64 (wt (lisS a)):=hd 1 (by decide);rw[hv]at hK ⊢;go_simp;exact hK.out _ _ (zkb zr _) (fun b h=>by injection h with h;subst h;exact⟨zl,by simp⟩) ⟨w2.heap.size,rfl,hb2.size,heap_alloc_new w2 _⟩
  ·intro oi hoi vs K w2 hb2 hd ah;generalize dG:putP vs [(1,13),(5,17),(7,19),(11,23),(12,5)] _=AC at ah ⊢;have hK:=zh ah;clear ah;have had:Calls Tryz.prog 126 ([.agg #[.slice Ab b.cells.length cb,.slice Bb b.tin.length db,.slice Db b.tout.length eb]].toArray ++ #[]) w2 fun e w'=>∃v,e=.returned v/\(v=.int .i64 (wt (lisS b))/\Below w2.heap.size w2 w') :=
    (HWB.out w2 (zka HB1.out hb2)).mono fun e w' ⟨h1,h2⟩=>⟨_,h1,rfl,h2⟩
   refine zk4 hoi (.func 126) [.tmp 18] #[32] (by kernel_rfl) (by kernel_rfl) 126 _ zzJ #[] (by rw[<-dG];kernel_rfl) _ (by rw[<-dG];kernel_rfl) _ had ?_;rintro v w3 ⟨hv,hb3⟩;exact hK.out _ _ hb3 (fun b h=>by cases h) hv
  ·intro oi hoi vs K w2 hb2 hd ah;obtain rfl:=Option.some.inj hoi;simp only[putP,Act.put,zA,zB,zC,zD,zE,zF]at ah ⊢;have hK:=zh ah;clear ah hoi;have hv:vs 7=.int .i64 (wt (lisS b)):=hd 7 (by decide);rw[hv]at hK ⊢;go_simp;exact hK.out _ _ (zkb zr _) (fun b h=>by injection h with h;subst h;exact⟨zl,by simp⟩) ⟨w2.heap.size,rfl,hb2.size,heap_alloc_new w2 _⟩
  ·intro oi hoi vs K w2 hb2 hd ah;obtain rfl:=Option.some.inj hoi;simp only[putP,Act.put,zA,zB,zC,zD,zE,zF]at ah ⊢;have hK:=zh ah;clear ah hoi;go_simp;exact hK.out _ _ zr (fun b h=>by cases h) rfl
 ·obtain⟨bx,hv5,hbx,hkx⟩:=hF (5,17) (by decide);obtain⟨fI,lW,hby,uU⟩:=hF (11,23) (by decide);have lV:[vs 5]=[vs 12]:=hF (12,5) (by decide);have hne:bx≠fI:=fun e=>hO 5 11 (by decide) (by decide) (by decide) bx (by simp only[cmO];simp only at hv5;rw[hv5];rfl) (by simp only[cmO];simp only at lW;rw[lW,e];rfl);simp only[List.cons.injEq,and_true]at lV;simp only at hv5 lW;clear hF hO;simp only[putP,Act.put,zD,zE,zF];rw[<-lV,hv5,lW];generalize vs 1=v1;generalize vs 7=v7;clear hv5 lW lV;refine zp 13 fun K hK=>?_;(try simp only[zA,zB,zC]);go_simp;refine hK.out _ _ (av.out _ hb2) ?_;clear hK K;(try simp only[zQ]);refine zd ?_;refine NoPanic.normal ?_;have HB2:=zh hb2;have HX:=zh (And.intro hbx (And.intro hkx (And.intro hby (And.intro uU hne))));have pM:=zh (fun w' (h:Below w2.heap.size w2 w')=>av.out w' (zka HB2.out h));clear hbx hkx hby uU hne hb2 hI2
  go_upto_region 2 with fail;have hSS:zW (fun w':World=>stR w' N Aa a.cells.length ca Ba a.tin.length da Da a.tout.length ea/\stR w' (N+1) Ab b.cells.length cb Bb b.tin.length db Db b.tout.length eb) zU w2.drew:=⟨pM.out _ zr.drew,trivial⟩
  refine wp_region_noPanic ?_;refine zG hSS 5 ?_;refine zT 0 hSS ?_;refine zT 2 hSS ?_;have hI:(fun w=>Below w2.heap.size w2 w) w2.drew:=zr.drew;clear hSS;refine zoN (T:=[(1,25),(3,27),(4,7)]) (z:=5) (n:=6) clD 1 (fun w=>Below w2.heap.size w2 w) (clF w.heap.size w2.heap.size a b) (by kernel_rfl) (by kernel_rfl) (by simp only[putP,Act.put,zD,zE,zF]) (by decide) (by kernel_rfl) (by kernel_rfl) (fun w h=>⟨pM.out _ h,trivial⟩) (fun w w' h hb=>zka h hb) (fun i v ds w w' h hb=>zuQ i h hb) (fun q hq=>?_) (fun vs w3 hb3 hF=>?_) w2.drew hI
  ·simp only[List.mem_cons,List.not_mem_nil,or_false]at hq;rcases hq with rfl|rfl|rfl
   ·intro oi hoi vs K w3 hb3 hd ah;generalize dG:putP vs [(1,25),(3,27),(4,7)] _=AC at ah ⊢;have hK:=zh ah;clear ah;have had:Calls Tryz.prog 127 ([.agg #[.slice Aa a.cells.length ca,.slice Ba a.tin.length da,.slice Da a.tout.length ea]].toArray ++ #[]) w3 fun e w'=>∃v,e=.returned v/\((∃A c,v=.slice A (a.cells.length+2) c/\zlF w' (fun q=>(q<w.heap.size\/w2.heap.size<=q)/\q<w'.heap.size) A (lisS a))/\Below w3.heap.size w3 w') :=
     (HLA.out w3 (zka HB1.out (zka HB2.out hb3))).mono fun e w' ⟨h1,A,c,h2,h3⟩=>⟨_,h2,⟨A,c,rfl,h3.keep (fun q h hlt=>⟨h.imp id fun h=>Nat.le_trans hb3.size h,hlt⟩) fun _ _ _=>rfl⟩,h1⟩
    refine zk4 hoi (.func 127) [.tmp 24] #[32] (by kernel_rfl) (by kernel_rfl) 127 _ zzL #[] (by rw[<-dG];kernel_rfl) _ (by rw[<-dG];kernel_rfl) _ had ?_;rintro v w4 ⟨hv,hb4⟩;exact hK.out _ _ hb4 hv
   ·intro oi hoi vs K w3 hb3 hd ah;generalize dG:putP vs [(1,25),(3,27),(4,7)] _=AC at ah ⊢;have hK:=zh ah;clear ah;have had:Calls Tryz.prog 127 ([.agg #[.slice Ab b.cells.length cb,.slice Bb b.tin.length db,.slice Db b.tout.length eb]].toArray ++ #[]) w3 fun e w'=>∃v,e=.returned v/\((∃A c,v=.slice A (b.cells.length+2) c/\zlF w' (fun q=>(q<w.heap.size\/w2.heap.size<=q)/\q<w'.heap.size) A (lisS b))/\Below w3.heap.size w3 w') :=
     (HLB.out w3 (zka HB1.out (zka HB2.out hb3))).mono fun e w' ⟨h1,A,c,h2,h3⟩=>⟨_,h2,⟨A,c,rfl,h3.keep (fun q h hlt=>⟨h.imp id fun h=>Nat.le_trans hb3.size h,hlt⟩) fun _ _ _=>rfl⟩,h1⟩
    refine zk4 hoi (.func 127) [.tmp 26] #[32] (by kernel_rfl) (by kernel_rfl) 127 _ zzL #[] (by rw[<-dG];kernel_rfl) _ (by rw[<-dG];kernel_rfl) _ had ?_;rintro v w4 ⟨hv,hb4⟩;exact hK.out _ _ hb4 hv
   ·intro oi hoi vs K w3 hb3 hd ah;obtain rfl:=Option.some.inj hoi;simp only[putP,Act.put,zA,zB,zC,zD,zE,zF]at ah ⊢;have hK:=zh ah;clear ah hoi;go_simp;exact hK.out _ _ zr rfl
  ·obtain⟨A1,c1,hv1,hr1⟩:=hF (1,25) (by decide);obtain⟨A3,c3,hv3,hr3⟩:=hF (3,27) (by decide);have hv4:[vs 1]=[vs 4]:=hF (4,7) (by decide);simp only[List.cons.injEq,and_true]at hv4;simp only at hv1 hv3;clear hF;simp only[putP,Act.put,zD,zE,zF];rw[<-hv4,hv1,hv3];clear hv1 hv3 hv4;refine zp 5 fun K hK=>?_;(try simp only[zA,zB,zC]);go_simp;refine hK.out _ _ (pM.out _ hb3) ?_;clear hK K;(try simp only[zQ]);refine zd ?_;refine NoPanic.normal ?_;have HB3:=zh (zka HB2.out hb3);obtain⟨hbx,hkx,hby,uU,hne⟩:=HX.out;have hbx2:=zkn hkx;have hby2:=zkn uU;have hB1s:=HB1.out.size;have hB2s:=HB2.out.size;have Bi:=zh (hr1.keep (w':=w3) (S':=fun q=>¬ (q=bx\/q=fI\/w3.heap.size<=q)) (fun q hq hlt e=>by have:=hq.1;have:=hq.2;rcases e with e|e|e<;>omega) fun _ _ _=>rfl)
   have di:=zh (hr3.keep (w':=w3) (S':=fun q=>¬ (q=bx\/q=fI\/w3.heap.size<=q)) (fun q hq hlt e=>by have:=hq.1;have:=hq.2;rcases e with e|e|e<;>omega) fun _ _ _=>rfl);have lK:=zh (show XY w3 (fun q=>q=bx\/q=fI\/w3.heap.size<=q) w3 (some ⟨bx,0,none⟩) 2 2 (some ⟨fI,0,none⟩) 2 2 [wt (lisS a),(a.cells.length:Int)] [wt (lisS b),(b.cells.length:Int)]from
    ⟨Chg.refl _ _,fun b h=>.inr (.inr h),⟨rfl,.inr ⟨bx,2,_,rfl,Nat.zero_le _,zkc hkx hb3,zl,by unfold maxLen;omega,rfl,rfl⟩⟩,⟨rfl,.inr ⟨fI,2,_,rfl,Nat.zero_le _,zkc uU hb3,zl,by unfold maxLen;omega,rfl,rfl⟩⟩,
     fun b h=>by injection h with h;exact .inl h.symm,fun b h=>by injection h with h;exact .inr (.inl h.symm),fun b h1 h2=>by injection h1 with h1;injection h2 with h2;have h1:bx=b:=h1;have h2:fI=b:=h2;omega⟩)
   have bT:=zh (fun w' (h:Chg (fun q=>q=bx\/q=fI\/w3.heap.size<=q) w3 w')=>show Below w.heap.size w w' from(zka HB1.out HB3.out).trans (h.below (zka HB1.out HB3.out).size fun q e=>by have:=HB3.out.size;rcases e with e|e|e<;>omega));obtain⟨C,hC⟩:∃C:Nat->Prop,∀q,(q=bx\/q=fI\/w3.heap.size<=q)=C q:=⟨fun q=>q=bx\/q=fI\/w3.heap.size<=q,fun _=>rfl⟩
   simp only[hC]at Bi di lK bT;have pR:=zh zqQ;have bV:=zh (show(lisS a).length=a.cells.length+2 by simp[lisS]);have xh:=zh (show(lisS b).length=b.cells.length+2 by simp[lisS]);obtain⟨L,hL⟩:=zX (lisS a);obtain⟨M,hM⟩:=zX (lisS b);obtain⟨nl,hnl⟩:=zX (a.cells.length+2);obtain⟨nm,hnm⟩:=zX (b.cells.length+2);have BB:=zh (show[wt (lisS a),(a.cells.length:Int)]++keyA L M=keyE a b by rw[<-hL,<-hM];rfl);have BA:=zh (show[wt (lisS b),(b.cells.length:Int)]++keyA M L=keyE b a by rw[<-hL,<-hM];rfl);rw[hL]at bV Bi oo;rw[hM]at xh di jZ;rw[hnl]at bV ⊢;rw[hnm]at xh ⊢;have sj:nl<=102:=by omega
   have rZ:nm<=102:=by omega
   obtain⟨x0,hx0⟩:=zX ([wt (lisS a),(a.cells.length:Int)]);obtain⟨y0,hy0⟩:=zX ([wt (lisS b),(b.cells.length:Int)]);rw[hx0]at lK BB;rw[hy0]at lK BA;clear hr1 hr3 hbx hkx hby uU hne hbx2 hby2 hB1s hB2s hC hL hM hnl hnm hx0 hy0 hb3 HX HB1 HB2 HB3 av pM HLA HLB HWA HWB aD az;clear hna hnb;have hI1:=bI1R;go_wp2_with fail
   go_loopw [9,5,6] (fun i xv yv wr=>∃(j p:Nat) (Ax:Option Addr) (cx:Nat) (Ay:Option Addr) (cy:Nat) (xs ys:List Int),j<=nl/\j<=nm/\i=.int .i64 j/\xv=.slice Ax p cx/\yv=.slice Ay p cy/\p<=2+j*1001/\Hid (XY w3 C wr Ax cx p Ay cy p xs ys)/\Hid (xs++keyA (L.drop j) (M.drop j)=keyE a b/\ys++keyA (M.drop j) (L.drop j)=keyE b a)) (fun i _ _ _=>nl+nm-(intOf i).toNat)
   case atStart=>exact⟨0,2,_,_,_,_,_,_,by omega,by omega,rfl,rfl,rfl,by omega,lK,zh ⟨BB.out,BA.out⟩⟩
   case round =>
    clear lK BB BA;obtain⟨j,p,Ax,cx,Ay,cy,xs,ys,hj1,hj2,rfl,rfl,rfl,hp,lK,HKK⟩:=hrel;obtain⟨W9,rfl⟩:∃x,x=wr:=⟨_,rfl⟩
    by_cases hlt:j<nl/\j<nm
    ·have hja:(j:Int)<(nl:Int):=by omega
     have hjb:(j:Int)<(nm:Int):=by omega
     have hj0:(0:Int)<=(j:Int):=by omega
     have hjl:j<L.length:=by rw[bV.out];exact hlt.1
     have hjm:j<M.length:=by rw[xh.out];exact hlt.2
     obtain⟨al,l,A5,c5,rfl,Hl,hlc,hLj⟩:=ztK Bi.out hjl;obtain⟨am,m,A6,c6,rfl,Hm,hmc,hMj⟩:=ztK di.out hjm;have qW:=zh (zqt hjl hjm);have og:=zh (zqt hjm hjl);have hls:=oo.out _ (List.getElem_mem hjl);have hms:=jZ.out _ (List.getElem_mem hjm);rw[Hl.out]at qW og hls;rw[Hm.out]at qW og hms;have qR:=zh hls.2;have HMS:=zh hms.2;have hl3:=hls.1;have wy:=hms.1;have qV:=zh hLj;have vK:=zh hMj;clear hls hms hLj hMj Hl Hm hjl hjm;obtain⟨z1,-⟩:=qV.out _ lK.out.bl;obtain⟨ll,hll⟩:=zX (l.length);obtain⟨ml,lC⟩:=zX (m.length);have bD:=zh (And.intro hll lC);rw[hll]at z1 hl3;rw[lC]at wy;have hIx:=bI1R;clear hll lC;go_wp2_with (at_builtin;first
      | (refine zki rfl (.tmp 40) (.tmp 46) rfl Tryz.underlying30 zlO rfl (by decide) (by decide) 0 (.slice Ax (p) cx) (p) (zkg xs) rfl (zkp lK.out.x (zkb zr _)) (some ⟨W9.heap.size,0,none⟩) 1 1 [.int .i64 (ll:Int)] rfl rfl (fun e=>by cases e) (zl0 W9 _ _) (zod _) (by omega) (Nat.zero_le _) ?_;intro v9 w9 ho hg aj;obtain⟨Ax1,cx1,rfl,pJ⟩:=lK.out.px ho hg aj;clear ho hg aj;have z2:=(vK.out _ pJ.out.bl).1;rw[bD.out.2]at z2)
      | (refine zki rfl (.tmp 48) (.tmp 54) rfl Tryz.underlying30 zlO rfl (by decide) (by decide) 0 (.slice Ay (p) cy) (p) (zkg ys) rfl (zkp pJ.out.y (zkb zr _)) (some ⟨w9.heap.size,0,none⟩) 1 1 [.int .i64 (ml:Int)] rfl rfl (fun e=>by cases e) (zl0 w9 _ _) (zod _) (by omega) (Nat.zero_le _) ?_;intro v9 aT ho hg aj;obtain⟨Ay1,cy1,rfl,bG⟩:=pJ.out.py ho hg aj;clear ho hg aj))
     clear z1 z2 lK pJ
     go_loopw [10,5,6] (fun i xv yv wr=>∃(k:Nat) (Ax:Option Addr) (cx:Nat) (Ay:Option Addr) (cy:Nat),k<=ll/\k<=ml/\i=.int .i64 k/\xv=.slice Ax (p+1+k) cx/\yv=.slice Ay (p+1+k) cy/\Hid (XY w3 C wr Ax cx (p+1+k) Ay cy (p+1+k) (xs++[(ll:Int)]++(l.take k).map rnk) (ys++[(ml:Int)]++(m.take k).map rnk))) (fun i _ _ _=>ll+ml-(intOf i).toNat)
     case atStart=>exact⟨0,_,_,_,_,by omega,by omega,rfl,rfl,rfl,by simpa using bG⟩
     case round =>
      clear bG;obtain⟨k,BS,Am,BR,Ak,hk1,hk2,rfl,rfl,rfl,bG⟩:=hrel;have hk0:(0:Int)<=(k:Int):=by omega
      obtain⟨z1,xL⟩:=qV.out _ bG.out.bl;obtain⟨z2,yN⟩:=vK.out _ bG.out.bl;rw[bD.out.1]at z1;rw[bD.out.2]at z2;by_cases hkk:k<ll/\k<ml
      ·have hka:(k:Int)<(ll:Int):=by omega
       have hkb:(k:Int)<(ml:Int):=by omega
       have hkl:k<l.length:=by rw[bD.out.1];exact hkk.1
       have uV:k<m.length:=by rw[bD.out.2];exact hkk.2
       obtain⟨a5,e5,-,hx,-⟩:=xL k hkl;subst e5;have hrx:=qR.out _ (List.getElem_mem hkl);have oG:=HMS.out _ (List.getElem_mem uV);have yt:=zh (show xs++[(ll:Int)]++(l.take (k+1)).map rnk=(xs++[(ll:Int)]++(l.take k).map rnk)++[rnk l[k]] by rw[List.take_succ_eq_append_getElem hkl,List.map_append,<-List.append_assoc];rfl);have yo:=zh (show ys++[(ml:Int)]++(m.take (k+1)).map rnk=(ys++[(ml:Int)]++(m.take k).map rnk)++[rnk m[k]] by rw[List.take_succ_eq_append_getElem uV,List.map_append,<-List.append_assoc];rfl);obtain⟨lk,hlk⟩:=zX (l[k]);obtain⟨mk,hmk⟩:=zX (m[k]);have Br:=zh (show ∀w',Chg C w3 w'->∃a6,A6=some a6/\w'.cell? (a6.add k)=some (.int .i64 mk)from fun w' h=>by
        obtain⟨a6,e6,-,hx6,-⟩:=(vK.out w' h).2 k uV;rw[hmk]at hx6;exact⟨a6,e6,hx6⟩)
       rw[hlk]at hx hrx yt;rw[hmk]at oG yo;have kP:=zh (fun w=>pR.out lk w hrx);have HRY:=zh (fun w=>pR.out mk w oG);clear hlk hmk hrx oG xL yN hkl uV;obtain⟨X,hX⟩:=zX (xs++[(ll:Int)]++(l.take k).map rnk);obtain⟨Y,hY⟩:=zX (ys++[(ml:Int)]++(m.take k).map rnk);rw[hX]at yt bG;rw[hY]at yo bG;clear hX hY;obtain⟨W8,rfl⟩:∃x,x=wr:=⟨_,rfl⟩
       go_wp2_with fail;refine(kP.out _).mono ?_;rintro e w9 ⟨rfl,rfl⟩;obtain⟨rx,hrx⟩:=zX (rnk lk);rw[hrx]at yt ⊢;clear hrx;go_wp2_with (at_builtin;(refine zki rfl (.tmp 74) (.tmp 83) rfl Tryz.underlying30 zlO rfl (by decide) (by decide) 0 (.slice BS (p+1+k) Am) (p+1+k) (zkg X) rfl (zkp bG.out.x (zkb zr _)) (some ⟨w9.heap.size,0,none⟩) 1 1 [.int .i64 rx] rfl rfl (fun e=>by cases e) (zl0 w9 _ _) (zod _) (by omega) (Nat.zero_le _) ?_;intro v9 aQ ho hg aj;obtain⟨Ax3,cx3,rfl,pI⟩:=bG.out.px ho hg aj;clear ho hg aj;obtain⟨a6,rfl,hx7⟩:=Br.out _ pI.out.bl;have z3:=(vK.out _ pI.out.bl).1;rw[bD.out.2]at z3))
       refine(HRY.out _).mono ?_;rintro e iR ⟨rfl,rfl⟩;obtain⟨ry,oG⟩:=zX (rnk mk);rw[oG]at yo ⊢;clear oG;go_wp2_with (at_builtin;(refine zki rfl (.tmp 85) (.tmp 94) rfl Tryz.underlying30 zlO rfl (by decide) (by decide) 0 (.slice BR (p+1+k) Ak) (p+1+k) (zkg Y) rfl (zkp pI.out.y (zkb zr _)) (some ⟨iR.heap.size,0,none⟩) 1 1 [.int .i64 ry] rfl rfl (fun e=>by cases e) (zl0 iR _ _) (zod _) (by omega) (Nat.zero_le _) ?_;intro v9 kZ ho hg aj;obtain⟨Ay3,cy3,rfl,HXY4⟩:=pI.out.py ho hg aj;clear ho hg aj))
       go_roundw
       case rel=>exact⟨k+1,_,_,_,_,by omega,by omega,by go_num,rfl,rfl,by rw[yt.out,yo.out];exact HXY4⟩
       case measure=>simp[intOf];omega
      ·have hll9:k=ll\/k=ml:=by omega
       have mX:=zh (show xs++[(ll:Int)]++(l.take k).map rnk=xs++((l.length:Int)::(l.take m.length).map rnk) by
        rw[zrK (l:=l) (k:=k) (m:=m.length) (by have:=bD.out;omega),bD.out.1];simp)
       have wY:=zh (show ys++[(ml:Int)]++(m.take k).map rnk=ys++((m.length:Int)::(m.take l.length).map rnk) by
        rw[zrK (l:=m) (k:=k) (m:=l.length) (by have:=bD.out;omega),bD.out.2];simp)
       obtain⟨X9,hX⟩:=zX (xs++[(ll:Int)]++(l.take k).map rnk);obtain⟨Y9,hY⟩:=zX (ys++[(ml:Int)]++(m.take k).map rnk);obtain⟨p9,hp9⟩:=zX (p+1+k);have hp9b:p9<=2+(j+1)*1001:=by omega
       rw[hX]at bG mX;rw[hY]at bG wY;rw[hp9]at bG ⊢;clear hX hY hp9;by_cases hne:ll=ml
       ·have hnb:((ll:Int) != (ml:Int))=false:=by simp[hne]
        have vH:=zh hne;have gY:=zh (show X9++keyA (L.drop (j+1)) (M.drop (j+1))=keyE a b/\Y9++keyA (M.drop (j+1)) (L.drop (j+1))=keyE b a by
         have h1:=HKK.out;have h2:=bD.out;rw[qW.out,og.out,if_pos (by omega),if_pos (by omega),<-List.append_assoc,<-List.append_assoc,<-mX.out,<-wY.out]at h1;exact h1)
        clear hne;by_cases aK:k<ll
        ·have hka:(k:Int)<(ll:Int):=by omega
         have hkb:¬ (k:Int)<(ml:Int):=by omega
         go_upto_region 13 with fail
         go_quiet (fail)
         have aO:=zh (bG.out.drew nq);go_wp2_with fail
         go_roundw
         case rel=>exact⟨j+1,p9,_,_,_,_,_,_,by omega,by omega,by go_num,rfl,rfl,hp9b,aO,gY⟩
         case measure=>simp[intOf];omega
        ·have hka:¬ (k:Int)<(ll:Int):=by omega
         go_upto_region 13 with fail
         go_quiet (fail)
         have aO:=zh (bG.out.drew nq);go_wp2_with fail
         go_roundw
         case rel=>exact⟨j+1,p9,_,_,_,_,_,_,by omega,by omega,by go_num,rfl,rfl,hp9b,aO,gY⟩
         case measure=>simp[intOf];omega
       ·have hnb:((ll:Int) != (ml:Int))=true:=by simp;omega
        have HCM:=zh (show cmpE a b=lexE X9 Y9 by
         have h1:=HKK.out;have h2:=bD.out;rw[qW.out,og.out,if_neg (by omega),if_neg (by omega),List.append_nil,List.append_nil,<-mX.out,<-wY.out]at h1;rw[h1.1,h1.2];rfl)
        by_cases aK:k<ll
        ·have hka:(k:Int)<(ll:Int):=by omega
         have hkb:¬ (k:Int)<(ml:Int):=by omega
         go_upto_region 13 with fail
         go_quiet (fail)
         have aO:=zh (bG.out.drew nq);obtain⟨wq,hwq⟩:=zX (wr.drewN nq);rw[hwq]at aO ⊢;clear hwq qW og qV vK HKK mX wY z1 z2 xL yN bG;clear nq;go_wp2_with fail
         go_loopw [11] (fun i wr=>∃j:Nat,j<=p9/\i=.int .i64 j/\Hid (XY w3 C wr BS Am p9 BR Ak p9 X9 Y9)/\Hid (∀k (h1:k<X9.length) (h2:k<Y9.length),k<j->X9[k]=Y9[k])) (fun i _=>p9-(intOf i).toNat)
         case atStart=>exact⟨0,by omega,rfl,aO,zh fun k _ _ h=>by omega⟩
         case round =>
          clear aO;obtain⟨j9,zt,rfl,aO,jN⟩:=hrel;have hlx:=zmq aO.out.x;have oN:=zmq aO.out.y;by_cases hjp:j9<p9
          ·have hj1:(j9:Int)<(p9:Int):=by omega
           have hj0:(0:Int)<=(j9:Int):=by omega
           have jm:j9<X9.length:=by omega
           have jl:j9<Y9.length:=by omega
           obtain⟨ax,ex,y1⟩:=znE aO.out.x jm;obtain⟨ay,ey,y2⟩:=znE aO.out.y jl;have eT:=zh (zpG jN.out jm jl);have fP:=zh (fun(h:X9[j9]=Y9[j9])=>show ∀k (h1:k<X9.length) (h2:k<Y9.length),k<j9+1->X9[k]=Y9[k]from fun k h1 h2 hk=>by
            by_cases e:k<j9
            ·exact jN.out k h1 h2 e
            ·obtain rfl:k=j9:=by omega
             exact h)
           obtain⟨xj,hxj⟩:=zX (X9[j9]);obtain⟨yj,hyj⟩:=zX (Y9[j9]);rw[hxj]at y1 eT fP;rw[hyj]at y2 eT fP;subst ex ey;clear hxj hyj jm jl hlx oN;go_upto_region 17 with fail
           go_quiet (fail)
           have fE:=zh (aO.out.drew nq);by_cases hc1:xj<yj
           ·go_wp2_with fail;go_ret;exact⟨by rw[show cmpE a b = -1 by rw[HCM.out,eT.out,if_pos hc1]];rfl,bT.out _ fE.out.bl⟩
           go_upto_region 19 with fail;have y1':=zb (zko (zs wr) nq) y1;have y2':=zb (zko (zs wr) nq) y2;obtain⟨wq,hwq⟩:=zX (wr.drewN nq);rw[hwq]at y1' y2' fE ⊢;clear hwq y1 y2;clear nq
           go_quiet (fail)
           have bz:=zh (fE.out.drew nq);by_cases hc2:yj<xj
           ·go_wp2_with fail;go_ret;exact⟨by rw[show cmpE a b=1 by rw[HCM.out,eT.out,if_neg (by omega),if_pos hc2]];rfl,bT.out _ bz.out.bl⟩
           have jM:=zh (fP.out (by omega));go_wp2_with fail
           go_roundw
           case rel=>exact⟨j9+1,by omega,by go_num,bz,jM⟩
           case measure=>simp[intOf];omega
          ·obtain rfl:j9=p9:=by omega
           have hj1:¬ (j9:Int)<(j9:Int):=by omega
           go_wp2_with fail;go_ret;exact⟨by rw[show cmpE a b=0 by rw[HCM.out,zoj jN.out (by omega) (by omega),List.drop_eq_nil_of_le (by omega)];rfl];rfl,bT.out _ aO.out.bl⟩
        ·have hka:¬ (k:Int)<(ll:Int):=by omega
         go_upto_region 13 with fail
         go_quiet (fail)
         have aO:=zh (bG.out.drew nq);obtain⟨wq,hwq⟩:=zX (wr.drewN nq);rw[hwq]at aO ⊢;clear hwq qW og qV vK HKK mX wY z1 z2 xL yN bG;clear nq;go_wp2_with fail
         go_loopw [11] (fun i wr=>∃j:Nat,j<=p9/\i=.int .i64 j/\Hid (XY w3 C wr BS Am p9 BR Ak p9 X9 Y9)/\Hid (∀k (h1:k<X9.length) (h2:k<Y9.length),k<j->X9[k]=Y9[k])) (fun i _=>p9-(intOf i).toNat)
         case atStart=>exact⟨0,by omega,rfl,aO,zh fun k _ _ h=>by omega⟩
         case round =>
          clear aO;obtain⟨j9,zt,rfl,aO,jN⟩:=hrel;have hlx:=zmq aO.out.x;have oN:=zmq aO.out.y;by_cases hjp:j9<p9
          ·have hj1:(j9:Int)<(p9:Int):=by omega
           have hj0:(0:Int)<=(j9:Int):=by omega
           have jm:j9<X9.length:=by omega
           have jl:j9<Y9.length:=by omega
           obtain⟨ax,ex,y1⟩:=znE aO.out.x jm;obtain⟨ay,ey,y2⟩:=znE aO.out.y jl;have eT:=zh (zpG jN.out jm jl);have fP:=zh (fun(h:X9[j9]=Y9[j9])=>show ∀k (h1:k<X9.length) (h2:k<Y9.length),k<j9+1->X9[k]=Y9[k]from fun k h1 h2 hk=>by
            by_cases e:k<j9
            ·exact jN.out k h1 h2 e
            ·obtain rfl:k=j9:=by omega
             exact h)
           obtain⟨xj,hxj⟩:=zX (X9[j9]);obtain⟨yj,hyj⟩:=zX (Y9[j9]);rw[hxj]at y1 eT fP;rw[hyj]at y2 eT fP;subst ex ey;clear hxj hyj jm jl hlx oN;go_upto_region 17 with fail
           go_quiet (fail)
           have fE:=zh (aO.out.drew nq);by_cases hc1:xj<yj
           ·go_wp2_with fail;go_ret;exact⟨by rw[show cmpE a b = -1 by rw[HCM.out,eT.out,if_pos hc1]];rfl,bT.out _ fE.out.bl⟩
           go_upto_region 19 with fail;have y1':=zb (zko (zs wr) nq) y1;have y2':=zb (zko (zs wr) nq) y2;obtain⟨wq,hwq⟩:=zX (wr.drewN nq);rw[hwq]at y1' y2' fE ⊢;clear hwq y1 y2;clear nq
           go_quiet (fail)
           have bz:=zh (fE.out.drew nq);by_cases hc2:yj<xj
           ·go_wp2_with fail;go_ret;exact⟨by rw[show cmpE a b=1 by rw[HCM.out,eT.out,if_neg (by omega),if_pos hc2]];rfl,bT.out _ bz.out.bl⟩
           have jM:=zh (fP.out (by omega));go_wp2_with fail
           go_roundw
           case rel=>exact⟨j9+1,by omega,by go_num,bz,jM⟩
           case measure=>simp[intOf];omega
          ·obtain rfl:j9=p9:=by omega
           have hj1:¬ (j9:Int)<(j9:Int):=by omega
           go_wp2_with fail;go_ret;exact⟨by rw[show cmpE a b=0 by rw[HCM.out,zoj jN.out (by omega) (by omega),List.drop_eq_nil_of_le (by omega)];rfl];rfl,bT.out _ aO.out.bl⟩
    ·have aO:=lK;have HCM:=zh (show cmpE a b=lexE xs ys by
      have h1:=HKK.out;rw[zsf (by rw[bV.out,xh.out];exact hlt),zsf (by rw[bV.out,xh.out];omega),List.append_nil,List.append_nil]at h1;rw[h1.1,h1.2];rfl)
     clear HKK lK;by_cases aK:j<nl
     ·have hka:(j:Int)<(nl:Int):=by omega
      have hkb:¬ (j:Int)<(nm:Int):=by omega
      go_wp2_with fail
      go_loopw [11] (fun i wr=>∃j:Nat,j<=p/\i=.int .i64 j/\Hid (XY w3 C wr Ax cx p Ay cy p xs ys)/\Hid (∀k (h1:k<xs.length) (h2:k<ys.length),k<j->xs[k]=ys[k])) (fun i _=>p-(intOf i).toNat)
      case atStart=>exact⟨0,by omega,rfl,aO,zh fun k _ _ h=>by omega⟩
      case round =>
       clear aO;obtain⟨j9,zt,rfl,aO,jN⟩:=hrel;have hlx:=zmq aO.out.x;have oN:=zmq aO.out.y;by_cases hjp:j9<p
       ·have hj1:(j9:Int)<(p:Int):=by omega
        have hj0:(0:Int)<=(j9:Int):=by omega
        have jm:j9<xs.length:=by omega
        have jl:j9<ys.length:=by omega
        obtain⟨ax,ex,y1⟩:=znE aO.out.x jm;obtain⟨ay,ey,y2⟩:=znE aO.out.y jl;have eT:=zh (zpG jN.out jm jl);have fP:=zh (fun(h:xs[j9]=ys[j9])=>show ∀k (h1:k<xs.length) (h2:k<ys.length),k<j9+1->xs[k]=ys[k]from fun k h1 h2 hk=>by
         by_cases e:k<j9
         ·exact jN.out k h1 h2 e
         ·obtain rfl:k=j9:=by omega
          exact h)
        obtain⟨xj,hxj⟩:=zX (xs[j9]);obtain⟨yj,hyj⟩:=zX (ys[j9]);rw[hxj]at y1 eT fP;rw[hyj]at y2 eT fP;subst ex ey;clear hxj hyj jm jl hlx oN;go_upto_region 17 with fail
        go_quiet (fail)
        have fE:=zh (aO.out.drew nq);by_cases hc1:xj<yj
        ·go_wp2_with fail;go_ret;exact⟨by rw[show cmpE a b = -1 by rw[HCM.out,eT.out,if_pos hc1]];rfl,bT.out _ fE.out.bl⟩
        go_upto_region 19 with fail;have y1':=zb (zko (zs wr) nq) y1;have y2':=zb (zko (zs wr) nq) y2;obtain⟨wq,hwq⟩:=zX (wr.drewN nq);rw[hwq]at y1' y2' fE ⊢;clear hwq y1 y2;clear nq
        go_quiet (fail)
        have bz:=zh (fE.out.drew nq);by_cases hc2:yj<xj
        ·go_wp2_with fail;go_ret;exact⟨by rw[show cmpE a b=1 by rw[HCM.out,eT.out,if_neg (by omega),if_pos hc2]];rfl,bT.out _ bz.out.bl⟩
        have jM:=zh (fP.out (by omega));go_wp2_with fail
        go_roundw
        case rel=>exact⟨j9+1,by omega,by go_num,bz,jM⟩
        case measure=>simp[intOf];omega
       ·obtain rfl:j9=p:=by omega
        have hj1:¬ (j9:Int)<(j9:Int):=by omega
        go_wp2_with fail;go_ret;exact⟨by rw[show cmpE a b=0 by rw[HCM.out,zoj jN.out (by omega) (by omega),List.drop_eq_nil_of_le (by omega)];rfl];rfl,bT.out _ aO.out.bl⟩
     ·have hka:¬ (j:Int)<(nl:Int):=by omega
      go_wp2_with fail
      go_loopw [11] (fun i wr=>∃j:Nat,j<=p/\i=.int .i64 j/\Hid (XY w3 C wr Ax cx p Ay cy p xs ys)/\Hid (∀k (h1:k<xs.length) (h2:k<ys.length),k<j->xs[k]=ys[k])) (fun i _=>p-(intOf i).toNat)
      case atStart=>exact⟨0,by omega,rfl,aO,zh fun k _ _ h=>by omega⟩
      case round =>
       clear aO;obtain⟨j9,zt,rfl,aO,jN⟩:=hrel;have hlx:=zmq aO.out.x;have oN:=zmq aO.out.y;by_cases hjp:j9<p
       ·have hj1:(j9:Int)<(p:Int):=by omega
        have hj0:(0:Int)<=(j9:Int):=by omega
        have jm:j9<xs.length:=by omega
        have jl:j9<ys.length:=by omega
        obtain⟨ax,ex,y1⟩:=znE aO.out.x jm;obtain⟨ay,ey,y2⟩:=znE aO.out.y jl;have eT:=zh (zpG jN.out jm jl);have fP:=zh (fun(h:xs[j9]=ys[j9])=>show ∀k (h1:k<xs.length) (h2:k<ys.length),k<j9+1->xs[k]=ys[k]from fun k h1 h2 hk=>by
         by_cases e:k<j9
         ·exact jN.out k h1 h2 e
         ·obtain rfl:k=j9:=by omega
          exact h)
        obtain⟨xj,hxj⟩:=zX (xs[j9]);obtain⟨yj,hyj⟩:=zX (ys[j9]);rw[hxj]at y1 eT fP;rw[hyj]at y2 eT fP;subst ex ey;clear hxj hyj jm jl hlx oN;go_upto_region 17 with fail
        go_quiet (fail)
        have fE:=zh (aO.out.drew nq);by_cases hc1:xj<yj
        ·go_wp2_with fail;go_ret;exact⟨by rw[show cmpE a b = -1 by rw[HCM.out,eT.out,if_pos hc1]];rfl,bT.out _ fE.out.bl⟩
        go_upto_region 19 with fail;have y1':=zb (zko (zs wr) nq) y1;have y2':=zb (zko (zs wr) nq) y2;obtain⟨wq,hwq⟩:=zX (wr.drewN nq);rw[hwq]at y1' y2' fE ⊢;clear hwq y1 y2;clear nq
        go_quiet (fail)
        have bz:=zh (fE.out.drew nq);by_cases hc2:yj<xj
        ·go_wp2_with fail;go_ret;exact⟨by rw[show cmpE a b=1 by rw[HCM.out,eT.out,if_neg (by omega),if_pos hc2]];rfl,bT.out _ bz.out.bl⟩
        have jM:=zh (fP.out (by omega));go_wp2_with fail
        go_roundw
        case rel=>exact⟨j9+1,by omega,by go_num,bz,jM⟩
        case measure=>simp[intOf];omega
       ·obtain rfl:j9=p:=by omega
        have hj1:¬ (j9:Int)<(j9:Int):=by omega
        go_wp2_with fail;go_ret;exact⟨by rw[show cmpE a b=0 by rw[HCM.out,zoj jN.out (by omega) (by omega),List.drop_eq_nil_of_le (by omega)];rfl];rfl,bT.out _ aO.out.bl⟩
end
section
open Go Go.RowKit
theorem znu:∀(a b:List SS),(zlb a b).length=a.length+b.length
 | [],b=>by unfold zlb;simp
 | x::a,[]=>by unfold zlb;simp
 | x::a,y::b=>by
  rw[zlb]
  split
  ·rw[List.length_cons,znu (x::a) b];simp;omega
  ·rw[List.length_cons,znu a (y::b)];simp;omega
 termination_by a b=>a.length+b.length
theorem zoX(b:List SS):zlb [] b=b:=by unfold zlb;rfl
theorem zof(a:List SS):zlb a []=a:=by cases a<;>unfold zlb<;>rfl
theorem znt{s:SS}:∀(a b:List SS),s∈zlb a b->s∈a\/s∈b
 | [],b,h=>.inr (by rwa[zoX]at h)
 | x::a,[],h=>.inl (by rwa[zof]at h)
 | x::a,y::b,h=>by
  rw[zlb]at h
  split at h
  ·rcases List.mem_cons.1 h with rfl|h
   ·exact .inr (by simp)
   ·exact(znt (x::a) b h).imp id (List.mem_cons_of_mem _)
  ·rcases List.mem_cons.1 h with rfl|h
   ·exact .inl (by simp)
   ·exact(znt a (y::b) h).imp (List.mem_cons_of_mem _) id
 termination_by a b=>a.length+b.length
theorem zn9:∀(n:Nat) (l:List SS),l.length=n->(zli l).length=n:=by
 intro n
 induction n using Nat.strongRecOn with
 | _ n ih =>
  intro l hl;unfold zli
  split
  ·exact hl
  ·rw[znu,ih (l.length / 2) (by omega) _ (by simp;omega),ih (l.length-l.length / 2) (by omega) _ (by simp)];omega
theorem zqf{s:SS}:∀(n:Nat) (l:List SS),l.length=n->s∈zli l->s∈l:=by
 intro n
 induction n using Nat.strongRecOn with
 | _ n ih =>
  intro l hl h;unfold zli at h
  split at h
  ·exact h
  ·rcases znt _ _ h with h|h
   ·exact List.mem_of_mem_take (ih (l.length / 2) (by omega) _ (by simp;omega) h)
   ·exact List.mem_of_mem_drop (ih (l.length-l.length / 2) (by omega) _ (by simp) h)
theorem ztD{l:List SS}(h:¬ l.length<2):zli l=zlb (zli (l.take (l.length / 2))) (zli (l.drop (l.length / 2))):=by
 rw[zli,dif_neg h]
theorem ztE{l:List SS}(h:l.length<2):zli l=l:=by
 rw[zli,dif_pos h]
def zk7(w:World)(A:Option Addr)(ss:List SS):Prop :=
 ∀k (hk:k<ss.length),∃b o u v x,A=some ⟨b,o,none⟩/\w.cell? ⟨b,o+k*3,none⟩=some u/\w.cell? ⟨b,o+k*3+1,none⟩=some v/\w.cell? ⟨b,o+k*3+2,none⟩=some x/\SV w (fun q=>q<w.heap.size) ss[k] (.agg #[u,v,x])
theorem zk7.later{w w':World}{A:Option Addr}{ss:List SS}(h:zk7 w A ss)(hb:Below w.heap.size w w'):zk7 w' A ss:=fun k hk=>by
 obtain⟨b,o,u,v,x,e,h0,h1,h2,h3⟩:=h k hk;exact⟨b,o,u,v,x,e,zb hb h0,zb hb h1,zb hb h2,h3.keep (fun q _ hq=>Nat.lt_of_lt_of_le hq hb.size) fun q _ hq=>hb.block q hq⟩
theorem zk7.nil(w:World)(A:Option Addr):zk7 w A []:=fun k hk=>by simp at hk
theorem zk7.take{w:World}{A:Option Addr}{ss:List SS}(h:zk7 w A ss)(m:Nat):zk7 w A (ss.take m):=fun k hk=>by
 have hk2:k<ss.length:=by simp at hk;omega
 obtain⟨b,o,u,v,x,e,h0,h1,h2,h3⟩:=h k hk2;exact⟨b,o,u,v,x,e,h0,h1,h2,by rw[List.getElem_take];exact h3⟩
theorem zk7.drop{w:World}{A:Option Addr}{ss:List SS}{c:Nat}(h:zk7 w A ss)(m:Nat)(hc:ss.length<=c):zk7 w (if c=m then A else A.map (·.add (m*3))) (ss.drop m):=by
 by_cases e:c=m
 ·rw[if_pos e,List.drop_eq_nil_of_le (by omega)];exact zk7.nil _ _
 ·rw[if_neg e];intro k hk;have hk2:m+k<ss.length:=by simp at hk;omega
  obtain⟨b,o,u,v,x,rfl,h0,h1,h2,h3⟩:=h (m+k) hk2;have e3:o+m*3+k*3=o+(m+k)*3:=by omega
  refine⟨b,o+m*3,u,v,x,by simp[Addr.add_lit],by rw[e3];exact h0,by rw[e3];exact h1,by rw[e3];exact h2,by rw[List.getElem_drop];exact h3⟩
theorem zk7.head{w:World}{A:Option Addr}{s:SS}{ss:List SS}(h:zk7 w A (s::ss)):∃b o u v x,A=some ⟨b,o,none⟩/\w.cell? ⟨b,o,none⟩=some u/\w.cell? ⟨b,o+1,none⟩=some v/\w.cell? ⟨b,o+2,none⟩=some x/\SV w (fun q=>q<w.heap.size) s (.agg #[u,v,x]):=by
 obtain⟨b,o,u,v,x,e,h0,h1,h2,h3⟩:=h 0 (by simp);exact⟨b,o,u,v,x,e,h0,h1,h2,h3⟩
theorem zk7.tail{w:World}{A:Option Addr}{s:SS}{ss:List SS}{c:Nat}(h:zk7 w A (s::ss))(hc:ss.length+1<=c):zk7 w (if c=1 then A else A.map (·.add (1*3))) ss:=h.drop 1 (by simpa using hc)
theorem zk7.vals{w:World}:∀ {ss:List SS} {A:Option Addr},zk7 w A ss->∃us:List (Value×Value×Value),us.length=ss.length/\(∀ad,A=some ad->∀j u,(zkZ us)[j]?=some u->w.cell? (ad.add j)=some u) /\
  ∀k (hk:k<ss.length) (hv:k<us.length),SV w (fun q=>q<w.heap.size) ss[k] (.agg #[us[k].1,us[k].2.1,us[k].2.2])
 | [],A,_=>⟨[],rfl,fun ad _ j u h=>by simp[zkZ]at h,fun k hk=>by simp at hk⟩
 | s::ss,A,h=>by
  obtain⟨b,o,u,v,x,rfl,h0,h1,h2,h3⟩:=h.head;have ht:=h.tail (c:=ss.length+2) (by omega);rw[if_neg (by omega)]at ht;obtain⟨us,hl,hu,hs⟩:=zk7.vals ht;refine⟨(u,v,x)::us,by simp[hl],fun ad e j y hy=>?_,fun k hk hv=>?_⟩
  ·injection e with e;subst e;rw[Addr.add_lit];rw[show zkZ ((u,v,x)::us)=u::v::x::zkZ us from rfl]at hy
   match j,hy with
   | 0,hy=>simp at hy;subst hy;exact h0
   | 1,hy=>simp at hy;subst hy;exact h1
   | 2,hy=>simp at hy;subst hy;exact h2
   | j+3,hy =>
    have:=hu ⟨b,o+3,none⟩ (by simp[Addr.add_lit]) j y (by simpa using hy);rw[Addr.add_lit]at this;rw[show o+(j+3)=o+3+j by omega];exact this
  ·match k,hk,hv with
   | 0,_,_=>exact h3
   | k+1,hk,hv=>exact hs k (by simpa using hk) (by simpa using hv)
theorem SV.one{w:World}{S:Nat->Prop}{s:SS}{u v x:Value}(h:SV w S s (.agg #[u,v,x])):u.oneCell'=true/\v.oneCell'=true/\x.oneCell'=true:=by
 obtain⟨A,c,B,d,D,e,e1,-⟩:=h;injection e1 with e1;simp only[Array.mk.injEq,List.cons.injEq,and_true]at e1;obtain⟨rfl,rfl,rfl⟩:=e1;exact⟨rfl,rfl,rfl⟩
theorem zrG{w:World}{P:Nat->Prop}{ss:List SS}{us:List (Value×Value×Value)}(hl:us.length=ss.length)(hs:∀k (hk:k<ss.length) (hv:k<us.length),SV w P ss[k] (.agg #[us[k].1,us[k].2.1,us[k].2.2])):∀u∈zkZ us,u.oneCell'=true:=fun u hu=>by
 obtain⟨t,ht,hu⟩:=List.mem_flatMap.1 hu;obtain⟨k,hk,rfl⟩:=List.getElem_of_mem ht;have h:=(hs k (by omega) hk).one;simp only[List.mem_cons,List.not_mem_nil,or_false]at hu;rcases hu with rfl|rfl|rfl
 ·exact h.1
 ·exact h.2.1
 ·exact h.2.2
theorem zk6.app{W W5:World}{n0:Nat}{S S':Nat->Prop}{v v':Value}{ls ys:List SS}{vs us:List (Value×Value×Value)}(hl:vs.length=ls.length)(kG:us.length=ys.length)
  (h2:∀k (hk:k<ls.length) (hv:k<vs.length),SV W (fun q=>S q/\v.ownBlock≠some q) ls[k] (.agg #[vs[k].1,vs[k].2.1,vs[k].2.2]))(hS:∀q,S q->q<W.heap.size->S' q)
  (hy:∀k (hk:k<ys.length) (hv:k<us.length),SV W (fun q=>S' q/\v.ownBlock≠some q) ys[k] (.agg #[us[k].1,us[k].2.1,us[k].2.2]))
  (ho:W5.ownsRow n0 32 3 v' (ls.length+ys.length) (zkZ vs++zkZ us))(hg:W.grownBy W5 v.ownBlock)(aj:v'.ownBlock=v.ownBlock\/v'.ownBlock=some W.heap.size):zk6 W5 n0 S' v' (ls++ys):=by
 have hB:∀q,v.ownBlock≠some q->q<W.heap.size->v'.ownBlock≠some q:=fun q h hq e=>by
  rcases aj with e1|e1
  ·exact h (e1▸e)
  ·rw[e1]at e;injection e with e;omega
 have hk:∀q,v.ownBlock≠some q->q<W.heap.size->W5.heap[q]?=W.heap[q]?:=fun q h hq=>hg.block q hq fun e=>h e.symm;have e1:zkZ (vs++us)=zkZ vs++zkZ us:=by simp[zkZ]
 refine⟨vs++us,by rw[List.length_append,e1];exact ho,by simp[hl,kG],fun k hk1 hk2=>?_⟩;by_cases hlt:k<ls.length
 ·have hlv:k<vs.length:=by omega
  rw[List.getElem_append_left hlt,List.getElem_append_left hlv];exact(h2 k hlt hlv).keep (fun q h hq=>⟨hS q h.1 hq,hB q h.2 hq⟩) fun q h hq=>hk q h.2 hq
 ·have hk3:k-ls.length<ys.length:=by simp at hk1;omega
  have h9:=hy (k-ls.length) hk3 (by omega);rw[List.getElem_append_right (by omega),List.getElem_append_right (by omega)];simp only[hl];exact h9.keep (fun q h hq=>⟨h.1,hB q h.2 hq⟩) fun q h hq=>hk q h.2 hq
theorem zk6.addS{W0 wr we w':World}{n0:Nat}{S:Nat->Prop}{v v':Value}{ls ys:List SS}{vs us:List (Value×Value×Value)}(wG:∀q,S q->q<n0)(hb:Below n0 W0 wr)(hn:n0<=W0.heap.size)(hown:wr.ownsRow n0 32 3 v ls.length (zkZ vs))(hl:vs.length=ls.length)
  (h2:∀k (hk:k<ls.length) (hv:k<vs.length),SV wr (fun q=>S q/\v.ownBlock≠some q) ls[k] (.agg #[vs[k].1,vs[k].2.1,vs[k].2.2]))(kG:us.length=ys.length)(hw:Below wr.heap.size wr we)
  (hy:∀k (hk:k<ys.length) (hv:k<us.length),SV we S ys[k] (.agg #[us[k].1,us[k].2.1,us[k].2.2]))
  (ho:w'.ownsRow n0 32 3 v' (ls.length+ys.length) (zkZ vs++zkZ us))(hg:we.grownBy w' v.ownBlock)(aj:v'.ownBlock=v.ownBlock\/v'.ownBlock=some we.heap.size) :
  ∃A' c',v'=.slice A' (ls.length+ys.length) c'/\(ls.length+ys.length)<=c'/\Hid (Below n0 W0 w')/\Hid (zk6 w' n0 S (.slice A' (ls.length+ys.length) c') (ls++ys)):=by
 obtain⟨A',c',rfl,hc,-⟩:=zke ho;have hs:=hb.size;have hbe:Below n0 W0 we:=hb.trans (hw.mono (by omega));refine⟨A',c',rfl,hc,zh (hbe.grown hg (Nat.le_trans hn hbe.size) fun k hk=>(hown.lt k hk).1),zh ?_⟩;exact zk6.app (W:=we) (S:=S) (S':=S) hl kG (fun k hk hv=>(h2 k hk hv).later hw) (fun q h _=>h)
  (fun k hk hv=>(hy k hk hv).keep (fun q h _=>⟨h,fun e=>by have:=(hown.lt q e).1;have:=wG q h;omega⟩) fun _ _ _=>rfl) ho hg aj
theorem zk6.sa{W:World}{n0:Nat}{S:Nat->Prop}{v:Value}{ss:List SS}(h:zk6 W n0 S v ss):∃A c,v=.slice A ss.length c/\ss.length<=c/\zk7 W A ss:=by
 obtain⟨vs,h1,hl,h2⟩:=h;obtain⟨A',c',rfl,hc',-⟩:=zke h1;refine⟨A',c',rfl,hc',fun i hi=>?_⟩;obtain⟨g,cap,A,c,B,d,D,e,e0,hg1,hg2,x0,x1,x2,hs⟩:=zk6.nd ⟨vs,h1,hl,h2⟩ hi;injection e0 with e1 e2 e3;subst e1;refine⟨g,0,_,_,_,rfl,by rw[Nat.zero_add];exact x0,by rw[Nat.zero_add];exact x1,by rw[Nat.zero_add];exact x2,hs.keep (fun q _ h=>h) fun _ _ _=>rfl⟩
theorem zmz(w:World)(u v x:Value)(E:TypeId):∀ad,(some ⟨w.heap.size,0,none⟩:Option Addr)=some ad->∀j y,[u,v,x][j]?=some y->(w.alloc (.cells #[u,v,x] E)).cell? (ad.add j)=some y:=fun ad e j y hj=>by
 injection e with e;subst e;have hk:=heap_alloc_new w (.cells #[u,v,x] E);rw[Addr.add_lit,Nat.zero_add]
 match j,hj with
 | 0,hj=>simp at hj;subst hj;exact zc hk rfl
 | 1,hj=>simp at hj;subst hj;exact zc hk rfl
 | 2,hj=>simp at hj;subst hj;exact zc hk rfl
theorem zx8(A:Option Addr)(n c h:Nat)(hh:h<=c)(w:World):(Instr.slice 27 (.slice A n c) none (some (.int .i64 (h:Int))) none).run Tryz.prog w=.ok (.slice A h c) w:=by
 have h1:Tryz.prog.underlying 27=some (.slice (Tryz.prog.elem 27)):=by kernel_rfl
 have h2:(sizeOf (Tryz.prog.elem 27)).run Tryz.prog w=.ok 3 w:=by kernel_rfl
 refine(run_slice_h (P:=Tryz.prog) (w:=w) 27 A n c h1 .i64 (h:Int) (by omega) (by omega)).trans ?_;rw[h2];simp[Result.andThen,sliced];intro _
 cases A<;>simp[Addr.add_zero']
theorem zq6(A:Option Addr)(n c k:Nat)(hk:k<=n)(w:World):(Instr.slice 27 (.slice A n c) (some (.int .i64 (k:Int))) none none).run Tryz.prog w=.ok (.slice (if c=k then A else A.map (·.add (k*3))) (n-k) (c-k)) w:=by
 have h1:Tryz.prog.underlying 27=some (.slice (Tryz.prog.elem 27)):=by kernel_rfl
 have h2:(sizeOf (Tryz.prog.elem 27)).run Tryz.prog w=.ok 3 w:=by kernel_rfl
 refine(run_slice_l (P:=Tryz.prog) (w:=w) 27 A n c h1 .i64 (k:Int) (by omega) (by omega)).trans ?_;rw[h2];simp[Result.andThen,sliced]
theorem zzK:IsFn Tryz.prog 45 Tryz.f45:=⟨Tryz.func45,by kernel_rfl,by kernel_rfl⟩
theorem zKC:IsFn Tryz.prog 92 Tryz.f92:=⟨Tryz.func92,by kernel_rfl,by kernel_rfl⟩
theorem zk6.later{W W':World}{n0:Nat}{S:Nat->Prop}{v:Value}{ss:List SS}(h:zk6 W n0 S v ss)(hb:Below W.heap.size W W'):zk6 W' n0 S v ss:=h.keep (fun _ h _=>h) fun q _ hq=>hb.block q hq
theorem zk6.many{W0 wr we:World}{n0 e co:Nat}{Ao:Option Addr}{S:Nat->Prop}{acc ys:List SS}{us:List (Value×Value×Value)}(h:zk6 wr n0 S (.slice Ao e co) acc)(he:acc.length=e)(wG:∀q,S q->q<n0)(hb:Below n0 W0 wr)(hn:n0<=W0.heap.size)
  (kG:us.length=ys.length)(hw:Below wr.heap.size wr we)(hy:∀k (hk:k<ys.length) (hv:k<us.length),SV we S ys[k] (.agg #[us[k].1,us[k].2.1,us[k].2.2])){m:Nat}(hm:ys.length=m) :
  ∃xs,we.ownsRow n0 32 3 (.slice Ao e co) e xs/\n0<=we.heap.size/\∀v' w',w'.ownsRow n0 32 3 v' (e+m) (xs++zkZ us)->we.grownBy w' (Value.slice Ao e co).ownBlock->(v'.ownBlock=(Value.slice Ao e co).ownBlock\/v'.ownBlock=some we.heap.size) ->
   ∃A' c',v'=.slice A' (e+m) c'/\e+m<=c'/\Hid (Below n0 W0 w')/\Hid (zk6 w' n0 S (.slice A' (e+m) c') (acc++ys)):=by
 subst he hm;obtain⟨vs,h1,hl,h2⟩:=h;exact⟨zkZ vs,zkp h1 hw,Nat.le_trans (Nat.le_trans hn hb.size) hw.size,fun v' w' g1 g2 g3=>zk6.addS wG hb hn h1 hl h2 kG hw hy g1 g2 g3⟩
theorem zk7.nilA{w:World}{A:Option Addr}{ss:List SS}(h:zk7 w A ss)(hA:A=none):ss.length=0:=by
 subst hA;rcases ss with _|⟨s,ss⟩
 ·rfl
 ·obtain⟨b,o,u,v,x,e,-⟩:=h.head
  cases e
abbrev c3R(w:World)(b o:Nat)(u v x:Value):Prop:=w.cell? ⟨b,o,none⟩=some u/\w.cell? ⟨b,o+1,none⟩=some v/\w.cell? ⟨b,o+2,none⟩=some x
def slN:Value->Nat
 | .slice _ n _=>n
 | _=>0
end
end Go.Proofs.YtembgnhbpmfhpaaGreat
