/-
  Texts of the proof, put together without their remarks: Els, Rpe, Rpf, Rpg, Rph, Rpb.
-/
import Derived.Test.YtembgnhbpmfhpaaGreatW6
set_option linter.unusedSimpArgs false
set_option linter.unusedVariables false
set_option maxHeartbeats 8000000
set_option maxRecDepth 100000
namespace Go.Proofs.YtembgnhbpmfhpaaGreat
open Tryz
section
open Go Go.RowKit
def SmI(l:List Int):Prop:=l.length<=1000000/\∀e∈l,-1000000<=e/\e<=1000000
def cmpI(a b:Int):Int:=if a<b then -1 else if b<a then 1 else 0
def cmpR:List Int->List Int->Int
 | x::a,y::b=>if cmpI (rnk x) (rnk y)≠0 then cmpI (rnk x) (rnk y)else cmpR a b
 | _,_=>0
def cmpL(a b:List Int):Int:=if a.length≠b.length then cmpI a.length b.length else cmpR a b
def orI(x y:Int):Int:=if x≠0 then x else y
def zmh:List (List Int)->List (List Int)->Int
 | a::p,b::q=>if cmpL a b≠0 then cmpL a b else zmh p q
 | _,_=>0
def wtS(s:SS):Int:=lw s.tin+lw s.tout+wt s.cells
def znN(a b:SS):Bool :=
 if cmpI (wtS a) (wtS b)≠0 then decide (cmpI (wtS a) (wtS b)<0)
 else if zmh a.cells b.cells≠0 then decide (zmh a.cells b.cells<0)
 else decide (orI (cmpL a.tin b.tin) (cmpL a.tout b.tout)<0)
theorem zuv(x:Int)(w:World):Calls prog 103 #[.int .i64 x] w fun e w'=>e=.returned (.bool false)/\w'=w:=by
 go_enter func103,ntmps103;go_wp2_with fail;go_ret;simp
theorem zvL(x y:Int)(w:World):Calls prog 63 #[.int .i64 x,.int .i64 y] w fun e w'=>e=.returned (.int .i64 (cmpI x y))/\w'=w:=by
 have H:=zh zuv;go_enter func63,ntmps63;go_wp2_with fail;refine(H.out _ _).mono ?_;rintro e w1 ⟨rfl,rfl⟩;go_wp2_with fail;refine(H.out _ _).mono ?_;rintro e w1 ⟨rfl,rfl⟩;by_cases h1:x<y
 ·go_wp2_with fail;go_ret;simp[cmpI,h1]
 ·by_cases h2:y<x
  ·go_wp2_with fail;go_ret;simp[cmpI,h1,h2]
  ·go_wp2_with fail;go_ret;exact⟨by unfold cmpI;rw[if_neg (by omega),if_neg (by omega)];rfl,rfl⟩
theorem zKs(x y:Int)(b:Nat)(w:World)(h:w.heap[b]?=some (.cells #[.int .i64 x,.int .i64 y] 3 (0,0))):Calls prog 62 #[.slice (some ⟨b,0,none⟩) 2 2] w fun e w'=>e=.returned (.int .i64 (orI x y))/\w'=w:=by
 have x0:w.cell? ⟨b,0,none⟩=some (.int .i64 x):=zc h rfl;have x1:w.cell? ⟨b,1,none⟩=some (.int .i64 y):=zc h rfl;clear h;go_enter func62,ntmps62;go_wp2_with fail
 go_loopw [8] (fun i wr=>∃j:Nat,j<=2/\i=.int .i64 j/\wr=w/\Hid ((0<j->x=0)/\(1<j->y=0))) (fun i _=>2-(intOf i).toNat)
 case atStart=>exact⟨0,by omega,rfl,rfl,zh ⟨fun h=>by omega,fun h=>by omega⟩⟩
 case round =>
  obtain⟨j,hj,rfl,rfl,HO⟩:=hrel
  match j,hj,HO with
  | 0,_,HO =>
   by_cases h0:x=0
   ·subst h0;go_wp2_with fail
    go_roundw
    case rel=>exact⟨1,by omega,by go_num,trivial,zh ⟨fun _=>by trivial,fun h=>by omega⟩⟩
    case measure=>simp[intOf]
   ·have e0:(x != 0)=true:=by simpa using h0
    go_wp2_with fail;go_ret;simp[orI,h0]
  | 1,_,HO =>
   obtain rfl:=HO.out.1 (by omega);by_cases h0:y=0
   ·subst h0;go_wp2_with fail
    go_roundw
    case rel=>exact⟨2,by omega,by go_num,trivial,zh ⟨fun _=>by trivial,fun _=>by trivial⟩⟩
    case measure=>simp[intOf]
   ·have e0:(y != 0)=true:=by simpa using h0
    go_wp2_with fail;go_ret;simp[orI]
  | 2,_,HO =>
   obtain rfl:=HO.out.1 (by omega);obtain rfl:=HO.out.2 (by omega);go_wp2_with fail;go_ret;simp[orI]
theorem zp3(x:Int)(w:World)(hx : -1000000<=x/\x<=1000000):Calls prog 105 #[.int .i64 x] w fun e w'=>e=.returned (.int .i64 (rnk x))/\w'=w:=by
 have e1:IntKind.i64.wrap (2*x)=2*x:=IntWalk.i64_in _ (by omega);have e2:IntKind.i64.wrap (2*x-1)=2*x-1:=IntWalk.i64_in _ (by omega);have e3:IntKind.i64.wrap (-2*x) = -2*x:=IntWalk.i64_in _ (by omega);go_enter func105,ntmps105;by_cases h:0<x
 ·go_wp2_with fail;go_ret;simp[rnk,h]
 ·go_wp2_with fail;go_ret;exact⟨by unfold rnk;rw[if_neg (by omega)];rfl,rfl⟩
theorem znH{l:List Int}{j:Nat}(hj:j<l.length):lw (l.take (j+1))=lw (l.take j)+(1+rnk l[j]):=by
 rw[List.take_succ_eq_append_getElem hj];unfold lw;rw[List.map_append,List.sum_append];congr 1;simp
theorem zrg{x:Int}(h : -1000000<=x/\x<=1000000):0<=rnk x/\rnk x<=2000000:=by unfold rnk;split<;>omega
theorem zzM{l:List Int}(h:SmI l):0<=lw l/\lw l<=l.length*2000001:=by
 have h1:=zqz (l:=l) (h:=2000001) fun e he=>by have:=zrg (h.2 e he);omega
 omega
theorem zl5(l:List Int)(A:Option Addr)(c:Nat)(w:World)(hr:RowI w Any A l)(hl:SmI l):Calls prog 104 #[.slice A l.length c] w fun e w'=>e=.returned (.int .i64 (lw l))/\w'=w:=by
 have HL:=zh hl;have HR:=zh hr;have HK:=zh zp3;obtain⟨n,hn⟩:=zX (l.length);have HN:=zh hn;have vz:n<=1000000:=by rw[<-hn];exact hl.1
 rw[hn];clear hr hl hn;go_enter func104,ntmps104;go_wp2_with fail
 go_loopw [10,3] (fun i s wr=>∃j:Nat,j<=n/\i=.int .i64 j/\s=.int .i64 (lw (l.take j)+((n:Int)-(j:Int)))/\wr=w) (fun i _ _=>n-(intOf i).toNat)
 case atStart=>exact⟨0,by omega,rfl,by simp[lw],rfl⟩
 case round =>
  obtain⟨j,hj,rfl,rfl,rfl⟩:=hrel;by_cases hlt:j<n
  ·have hj1:(j:Int)<(n:Int):=by omega
   have hj0:(0:Int)<=(j:Int):=by omega
   have hlj:j<l.length:=by rw[HN.out];exact hlt
   obtain⟨a,hA,-,hc,-⟩:=HR.out j hlj;subst hA;have hx:=HL.out.2 _ (List.getElem_mem hlj);have hb:=zrg hx;have HX:=zh (HK.out l[j] wr hx);have hS:=zzM (l:=l.take j) ⟨by simp;omega,fun e he=>HL.out.2 e (List.mem_of_mem_take he)⟩;have HT:=zh (znH hlj);simp only[List.length_take]at hS;have hmin:(min j l.length:Nat)<=1000000:=by omega
   obtain⟨S,hSS⟩:=zX (lw (l.take j));rw[hSS]at HT hS ⊢;have hS2:0<=S/\S<=3000000000000:=⟨hS.1,by omega⟩
   generalize l[j]=x at *
   obtain⟨r,hr⟩:=zX (rnk x);rw[hr]at HX HT hb;have vw:IntKind.i64.wrap ((j:Int)+1)=(j:Int)+1:=IntWalk.i64_in _ (by omega);have hws:IntKind.i64.wrap (S+((n:Int)-(j:Int))+r)=S+((n:Int)-(j:Int))+r:=IntWalk.i64_in _ (by omega);clear hSS hr hS hx;go_wp2_with fail;refine HX.out.mono ?_;rintro e w2 ⟨rfl,rfl⟩;go_wp2_with fail
   go_roundw
   case rel=>exact⟨j+1,by omega,by go_num,by rw[HT.out];congr 1;omega,trivial⟩
   case measure=>simp[intOf];omega
  ·obtain rfl:j=n:=by omega
   have HF:=zh (show lw (l.take j)+((j:Int)-(j:Int))=lw l by rw[<-HN.out,List.take_length];omega);go_wp2_with fail;go_ret;exact⟨by rw[<-HF.out];rfl,rfl⟩
theorem fnLw:IsFn prog 104 f104:=⟨func104,by kernel_rfl,by kernel_rfl⟩
theorem zxR:IsFn prog 105 f105:=⟨func105,by kernel_rfl,by kernel_rfl⟩
theorem zyU:IsFn prog 63 f63:=⟨func63,by kernel_rfl,by kernel_rfl⟩
structure SmS(s:SS):Prop where
 n:s.cells.length<=1000
 c:∀l∈s.cells,SmI l
 i:SmI s.tin
 o:SmI s.tout
theorem znD{ls:List (List Int)}{j:Nat}(hj:j<ls.length):wt (ls.take (j+1))=wt (ls.take j)+lw ls[j]:=by
 rw[List.take_succ_eq_append_getElem hj];unfold wt;rw[List.map_append,List.sum_append];congr 1;simp
theorem zqy{l:List Int}(h:SmI l):0<=lw l/\lw l<=2000001000000:=by
 have h1:=zzM h;have h2:=h.1;omega
theorem zx5:∀ {ls:List (List Int)},(∀l∈ls,SmI l)->0<=wt ls/\wt ls<=ls.length*2000001000000
 | [],_=>by simp[wt]
 | l::ls,h=>by
  have h1:=zqy (h l (List.mem_cons_self ..));have h2:=zx5 (ls:=ls) fun x hx=>h x (List.mem_cons_of_mem _ hx);rw[zn6,List.length_cons];omega
theorem zpp(s:SS)(v:Value)(w:World)(hv:SV w Any s v)(hs:SmS s):Calls prog 64 #[v] w fun e w'=>e=.returned (.int .i64 (wtS s))/\Below w.heap.size w w':=by
 obtain⟨A,c,B,d,D,e,rfl,hr1,hr2,hr3,-⟩:=hv;have k1:=heap_alloc_new w (.cells #[.slice A s.cells.length c,.slice B s.tin.length d,.slice D s.tout.length e] 32);have hb1:=zkb (zs w) (.cells #[.slice A s.cells.length c,.slice B s.tin.length d,.slice D s.tout.length e] 32);have HR1:=zh (fun w' (hb:Below w.heap.size w w')=>hr1.later hb);have HR2:=zh (fun w' (hb:Below w.heap.size w w')=>hr2.later hb);have HR3:=zh (fun w' (hb:Below w.heap.size w w')=>hr3.later hb);have HS:=zh hs;obtain⟨n,hn⟩:=zX (s.cells.length);have HN:=zh hn;have dn:n<=1000:=by rw[<-hn];exact hs.n
 rw[hn]at k1 hb1 ⊢;clear hr1 hr2 hr3 hs hn;go_enter func64,ntmps64;go_upto_region 1 with fail;obtain⟨N,hN⟩:=zX (w.heap.size);obtain⟨w1,hw1⟩:=zX (w.alloc (.cells #[.slice A n c,.slice B s.tin.length d,.slice D s.tout.length e] 32));rw[hw1]at k1 hb1 ⊢;rw[hN]at k1 ⊢;have HB1:=zh hb1;obtain⟨x0,x1,x2⟩:=zkz k1;have aB:=zh k1;clear hw1 hb1 k1 hN;have h2:=zqy HS.out.i;have h3:=zqy HS.out.o;have HL2:=zh (fun w' (hb:Below w.heap.size w w')=>zl5 s.tin B d w' (HR2.out _ hb) HS.out.i);have xN:=zh (fun w' (hb:Below w.heap.size w w')=>zl5 s.tout D e w' (HR3.out _ hb) HS.out.o);obtain⟨T2,Bc⟩:=zX (lw s.tin);obtain⟨T3,AZ⟩:=zX (lw s.tout);have HWT:=zh (show wtS s=T2+T3+wt s.cells by unfold wtS;rw[Bc,AZ]);rw[Bc]at h2 HL2;rw[AZ]at h3 xN;have hw23:IntKind.i64.wrap (T2+T3)=T2+T3:=IntWalk.i64_in _ (by omega);clear Bc AZ;have hcd:=Below.drew (zs w1)
 have iO:Calls prog 104 [.slice B s.tin.length d].toArray w1.drew fun e w'=>∃v,e=.returned v/\(v=.int .i64 T2/\w'=w1.drew):=(HL2.out _ (zka HB1.out hcd)).mono fun e w' ⟨h1,h2⟩=>⟨_,h1,rfl,h2⟩
 have mR:Calls prog 104 [.slice D s.tout.length e].toArray w1.drew fun e w'=>∃v,e=.returned v/\(v=.int .i64 T3/\w'=w1.drew):=(xN.out _ (zka HB1.out hcd)).mono fun e w' ⟨h1,h2⟩=>⟨_,h1,rfl,h2⟩
 have hSS:zW (fun w':World=>zN3 w' N (.slice A n c) (.slice B s.tin.length d) (.slice D s.tout.length e)) zU w1.drew:=⟨⟨zb hcd x0,zb hcd x1,zb hcd x2⟩,trivial⟩
 clear x0 x1 x2;refine wp_region_noPanic ?_;refine zG hSS 20 ?_;refine zT 0 hSS ?_;refine zT 1 hSS ?_;refine zT 3 hSS ?_;refine zT 4 hSS ?_;refine zo 2 fun K hK=>?_;refine zkd (by rfl) (.func 104) [.tmp 7] _ (by rfl) 104 _ fnLw (by rfl) _ (by rfl) _ iO ?_;rintro v2 w2 ⟨rfl,rfl⟩;refine hK.out _ _ hSS ?_;clear hK K iO;(try simp only[zQ]);refine zo 5 fun K hK=>?_;refine zkd (by rfl) (.func 104) [.tmp 10] _ (by rfl) 104 _ fnLw (by rfl) _ (by rfl) _ mR ?_;rintro v2 w2 ⟨rfl,rfl⟩;refine hK.out _ _ hSS ?_;clear hK K mR;(try simp only[zQ]);refine zT 6 hSS ?_;refine zT 7 hSS ?_;refine zd ?_;refine NoPanic.normal ?_;obtain⟨x0,x1,x2⟩:=hSS.1;have cB:=zh (zka HB1.out hcd);obtain⟨w2,hw2⟩:=zX (w1.drew);rw[hw2]at x0 x1 x2 cB ⊢;clear hSS hcd hw2;go_wp2_with fail
 go_loopw [16,3] (fun i s' wr=>∃j:Nat,j<=n/\i=.int .i64 j/\s'=.int .i64 (T2+T3+wt (s.cells.take j))/\wr=w2) (fun i _ _=>n-(intOf i).toNat)
 case atStart=>exact⟨0,by omega,rfl,by simp[wt],rfl⟩
 case round =>
  obtain⟨j,hj,rfl,rfl,rfl⟩:=hrel;by_cases hlt:j<n
  ·have hj1:(j:Int)<(n:Int):=by omega
   have hj0:(0:Int)<=(j:Int):=by omega
   have hlj:j<s.cells.length:=by rw[HN.out];exact hlt
   obtain⟨a,A',c',hA,-,hc,-,hrow⟩:=(HR1.out _ cB.out) j hlj;subst hA;have hsm:=HS.out.c _ (List.getElem_mem hlj);have hb:=zqy hsm;have HX:=zh (zl5 s.cells[j] A' c' wr hrow hsm);have HT:=zh (znD hlj);have hS:=zx5 (ls:=s.cells.take j) fun l hl=>HS.out.c l (List.mem_of_mem_take hl);simp only[List.length_take]at hS;obtain⟨S,hSS⟩:=zX (wt (s.cells.take j));rw[hSS]at HT hS ⊢;have hmin:(min j s.cells.length:Nat)<=1000:=by omega
   have hS2:0<=S/\S<=3000001000000000:=⟨hS.1,by omega⟩
   generalize s.cells[j]=x at *
   obtain⟨r,hr⟩:=zX (lw x);rw[hr]at HX HT hb;have vw:IntKind.i64.wrap ((j:Int)+1)=(j:Int)+1:=IntWalk.i64_in _ (by omega);have hws:IntKind.i64.wrap (T2+T3+S+r)=T2+T3+S+r:=IntWalk.i64_in _ (by omega);clear hSS hr hS hsm hrow;go_wp2_with fail;refine HX.out.mono ?_;rintro e w2 ⟨rfl,rfl⟩;go_wp2_with fail
   go_roundw
   case rel=>exact⟨j+1,by omega,by go_num,by rw[HT.out];congr 1;omega,trivial⟩
   case measure=>simp[intOf];omega
  ·obtain rfl:j=n:=by omega
   have HF:=zh (show T2+T3+wt (s.cells.take j)=wtS s by rw[HWT.out,<-HN.out,List.take_length]);go_wp2_with fail;go_ret;exact⟨by rw[<-HF.out];rfl,cB.out⟩
theorem zqP:∀ {a b:List Int} (j:Nat) (h1:j<a.length) (h2:j<b.length),(∀i (h1:i<a.length) (h2:i<b.length),i<j->cmpI (rnk a[i]) (rnk b[i])=0)->cmpR a b=if cmpI (rnk a[j]) (rnk b[j])≠0 then cmpI (rnk a[j]) (rnk b[j])else cmpR (a.drop (j+1)) (b.drop (j+1))
 | x::a,y::b,0,_,_,_=>rfl
 | x::a,y::b,j+1,h1,h2,h=>by
  have h0:=h 0 (by simp) (by simp) (by omega);simp only[List.getElem_cons_zero]at h0;rw[cmpR,if_neg (by rw[h0];simp)];exact zqP j (by simpa using h1) (by simpa using h2) fun i q1 q2 q3=>by
   have:=h (i+1) (by simpa using q1) (by simpa using q2) (by omega);simpa using this
theorem zqO:∀ {a b:List Int},a.length=b.length->(∀i (h1:i<a.length) (h2:i<b.length),cmpI (rnk a[i]) (rnk b[i])=0)->cmpR a b=0
 | [],[],_,_=>rfl
 | x::a,y::b,hl,h=>by
  have h0:=h 0 (by simp) (by simp);simp only[List.getElem_cons_zero]at h0;rw[cmpR,if_neg (by rw[h0];simp)];exact zqO (by simpa using hl) fun i q1 q2=>by
   have:=h (i+1) (by simpa using q1) (by simpa using q2);simpa using this
 | [],_::_,hl,_=>by simp at hl
 | _::_,[],hl,_=>by simp at hl
theorem zmV(l m:List Int)(A B:Option Addr)(c d:Nat)(w:World)(hr:RowI w Any A l)(hq:RowI w Any B m)(hl:SmI l)(hm:SmI m):Calls prog 65 #[.slice A l.length c,.slice B m.length d] w fun e w'=>e=.returned (.int .i64 (cmpL l m))/\Below w.heap.size w w':=by
 have HC:=zh zvL;have HL:=zh hl;have HM:=zh hm;have HR:=zh (fun w' (hb:Below w.heap.size w w')=>hr.later hb);have HQ:=zh (fun w' (hb:Below w.heap.size w w')=>hq.later hb);have h1:=hl.1;have h2:=hm.1;obtain⟨n,hn⟩:=zX (l.length);obtain⟨k,hk⟩:=zX (m.length);have HN:=zh hn;have HK:=zh hk;have HE:=zh (show cmpL l m=if n≠k then cmpI n k else cmpR l m by unfold cmpL;rw[hn,hk]);rw[hn]at h1 ⊢;rw[hk]at h2 ⊢;clear hr hq hl hm hn hk;go_enter func65,ntmps65;by_cases hnk:n=k;rotate_left 1
 ·have e0:((n:Int) != (k:Int))=true:=by simp;omega
  have HF:=zh (show cmpL l m=cmpI n k by rw[HE.out,if_pos hnk]);go_wp2_with fail;refine(HC.out _ _ _).mono ?_;rintro e w2 ⟨rfl,rfl⟩;go_wp2_with fail;go_ret;exact⟨by rw[HF.out];rfl,zr⟩
 subst hnk;have e0:((n:Int) != (n:Int))=false:=by simp
 have HF:=zh (show cmpL l m=cmpR l m by rw[HE.out,if_neg (by simp)]);go_wp2_with fail
 go_loopw [19] (fun i wr=>∃j:Nat,j<=n/\i=.int .i64 j/\Hid (Below w.heap.size w wr)/\Hid (∀i (h1:i<l.length) (h2:i<m.length),i<j->cmpI (rnk l[i]) (rnk m[i])=0)) (fun i _=>n-(intOf i).toNat)
 case atStart=>exact⟨0,by omega,rfl,zh zr,zh fun i _ _ h=>by omega⟩
 case round =>
  obtain⟨j,hj,rfl,HB,HO⟩:=hrel;by_cases hlt:j<n
  ·have hj1:(j:Int)<(n:Int):=by omega
   have hj0:(0:Int)<=(j:Int):=by omega
   have hlj:j<l.length:=by rw[HN.out];exact hlt
   have sV:j<m.length:=by rw[HK.out];exact hlt
   obtain⟨a,hA,-,hc,-⟩:=HR.out _ HB.out j hlj;obtain⟨a',hA',-,hc',-⟩:=HQ.out _ HB.out j sV;subst hA hA';have HX:=zh (zp3 l[j] wr.drew (HL.out.2 _ (List.getElem_mem hlj)));have HY:=zh (zp3 m[j] wr.drew (HM.out.2 _ (List.getElem_mem sV)));have HST:=zh (zqP j hlj sV HO.out);have lq:=zh (fun(h:cmpI (rnk l[j]) (rnk m[j])=0)=>show ∀i (h1:i<l.length) (h2:i<m.length),i<j+1->cmpI (rnk l[i]) (rnk m[i])=0 from fun i h1 h2 h3=>by
    by_cases e:i=j
    ·subst e;exact h
    ·exact HO.out i h1 h2 (by omega))
   have vw:IntKind.i64.wrap ((j:Int)+1)=(j:Int)+1:=IntWalk.i64_in _ (by omega);generalize l[j]=x at *
   generalize m[j]=y at *
   obtain⟨r,hr⟩:=zX (rnk x);obtain⟨q,hq⟩:=zX (rnk y);rw[hr]at HX HST lq;rw[hq]at HY HST lq;clear hr hq;have hcd:=Below.drew (zs wr);have iO:Calls prog 105 [.int .i64 x].toArray wr.drew fun e w'=>∃v,e=.returned v/\(v=.int .i64 r/\w'=wr.drew):=HX.out.mono fun e w' ⟨h1,h2⟩=>⟨_,h1,rfl,h2⟩
   have mR:Calls prog 105 [.int .i64 y].toArray wr.drew fun e w'=>∃v,e=.returned v/\(v=.int .i64 q/\w'=wr.drew):=HY.out.mono fun e w' ⟨h1,h2⟩=>⟨_,h1,rfl,h2⟩
   have had4:Calls prog 63 [.int .i64 r,.int .i64 q].toArray wr.drew fun e w'=>∃v,e=.returned v/\(v=.int .i64 (cmpI r q)/\w'=wr.drew):=(HC.out r q wr.drew).mono fun e w' ⟨h1,h2⟩=>⟨_,h1,rfl,h2⟩
   have hSS:zW (fun w':World=>w'.cell? (a.add j)=some (.int .i64 x)/\w'.cell? (a'.add j)=some (.int .i64 y)) zU wr.drew:=⟨⟨zb hcd hc,zb hcd hc'⟩,trivial⟩
   go_upto_region 6 with fail;clear hc hc';refine wp_region_noPanic ?_;refine zG hSS 20 ?_;refine zT 0 hSS ?_;refine zT 1 hSS ?_;refine zT 2 hSS ?_;refine zT 3 hSS ?_;refine zT 5 hSS ?_;refine zT 6 hSS ?_;refine zT 7 hSS ?_;refine zT 8 hSS ?_;refine zo 4 fun K hK=>?_;refine zkd (by rfl) (.func 105) [.tmp 25] _ (by rfl) 105 _ zxR (by rfl) _ (by rfl) _ iO ?_;rintro v2 w2 ⟨rfl,rfl⟩;refine hK.out _ _ hSS ?_;clear hK K iO;(try simp only[zQ]);refine zo 9 fun K hK=>?_;refine zkd (by rfl) (.func 105) [.tmp 30] _ (by rfl) 105 _ zxR (by rfl) _ (by rfl) _ mR ?_;rintro v2 w2 ⟨rfl,rfl⟩;refine hK.out _ _ hSS ?_;clear hK K mR;(try simp only[zQ]);refine zo 10 fun K hK=>?_;refine zkd (by rfl) (.func 63) [.tmp 26,.tmp 31] _ (by rfl) 63 _ zyU (by rfl) _ (by rfl) _ had4 ?_;rintro v2 w2 ⟨rfl,rfl⟩;refine hK.out _ _ hSS ?_;clear hK K had4;(try simp only[zQ])
   refine zT 11 hSS ?_;refine zd ?_;refine NoPanic.normal ?_;have cB:=zh (zka HB.out hcd);obtain⟨w2,hw2⟩:=zX (wr.drew);rw[hw2]at cB ⊢;clear hSS hcd hw2;obtain⟨z,hz⟩:=zX (cmpI r q);rw[hz]at HST lq ⊢;clear hz;by_cases h0:z=0
   ·subst h0;have e9:((0:Int) != 0)=false:=by simp
    go_wp2_with fail
    go_roundw
    case rel=>exact⟨j+1,by omega,by go_num,cB,zh (lq.out rfl)⟩
    case measure=>simp[intOf];omega
   ·have e9:(z != 0)=true:=by simpa using h0
    have HG:=zh (show cmpL l m=z by rw[HF.out,HST.out,if_pos h0]);go_wp2_with fail;go_ret;exact⟨by rw[HG.out];rfl,cB.out⟩
  ·obtain rfl:j=n:=by omega
   have HG:=zh (show cmpL l m=0 by rw[HF.out];exact zqO (by rw[HN.out,HK.out]) fun i h1 h2=>HO.out i h1 h2 (by have:=HN.out;omega));go_wp2_with fail;go_ret;exact⟨by rw[HG.out];rfl,HB.out⟩
theorem fnWt:IsFn prog 64 f64:=⟨func64,by kernel_rfl,by kernel_rfl⟩
theorem fnOr:IsFn prog 62 f62:=⟨func62,by kernel_rfl,by kernel_rfl⟩
theorem zyT:IsFn prog 65 f65:=⟨func65,by kernel_rfl,by kernel_rfl⟩
theorem bI2L(x y:Int)(w:World):(Instr.buildSlice 30 2 #[(0,.int .i64 x),(1,.int .i64 y)]).run prog w=.ok (.slice (some ⟨w.heap.size,0,none⟩) 2 2) (w.alloc (.cells #[.int .i64 x,.int .i64 y] 3)):=by kernel_rfl
theorem zpn:∀ {a b:List (List Int)} (j:Nat) (h1:j<a.length) (h2:j<b.length),(∀i (h1:i<a.length) (h2:i<b.length),i<j->cmpL a[i] b[i]=0)->zmh a b=if cmpL a[j] b[j]≠0 then cmpL a[j] b[j]else zmh (a.drop (j+1)) (b.drop (j+1))
 | x::a,y::b,0,_,_,_=>rfl
 | x::a,y::b,j+1,h1,h2,h=>by
  have h0:=h 0 (by simp) (by simp) (by omega);simp only[List.getElem_cons_zero]at h0;rw[zmh,if_neg (by rw[h0];simp)];exact zpn j (by simpa using h1) (by simpa using h2) fun i q1 q2 q3=>by
   have:=h (i+1) (by simpa using q1) (by simpa using q2) (by omega);simpa using this
theorem zpm:∀ {a b:List (List Int)},a.length=b.length->(∀i (h1:i<a.length) (h2:i<b.length),cmpL a[i] b[i]=0)->zmh a b=0
 | [],[],_,_=>rfl
 | x::a,y::b,hl,h=>by
  have h0:=h 0 (by simp) (by simp);simp only[List.getElem_cons_zero]at h0;rw[zmh,if_neg (by rw[h0];simp)];exact zpm (by simpa using hl) fun i q1 q2=>by
   have:=h (i+1) (by simpa using q1) (by simpa using q2);simpa using this
 | [],_::_,hl,_=>by simp at hl
 | _::_,[],hl,_=>by simp at hl
theorem zu2(a:Int):cmpI a a=0:=by unfold cmpI;rw[if_neg (by omega),if_neg (by omega)]
theorem zsz(s t:SS)(v u:Value)(w:World)(hv:SV w Any s v)(hu:SV w Any t u)(hs:SmS s)(ht:SmS t)(hl:s.cells.length=t.cells.length):Calls prog 24 #[v,u] w fun e w'=>e=.returned (.bool (znN s t))/\Below w.heap.size w w':=by
 have HV:=zh (fun w' (hb:Below w.heap.size w w')=>zpp s v w' (hv.later hb) hs);have HU:=zh (fun w' (hb:Below w.heap.size w w')=>zpp t u w' (hu.later hb) ht);obtain⟨A,c,B,d,D,e,rfl,hr1,hr2,hr3,-⟩:=hv;obtain⟨A',c',B',d',D',e',rfl,hq1,hq2,hq3,-⟩:=hu;have HR1:=zh (fun w' (hb:Below w.heap.size w w')=>hr1.later hb);have dE:=zh (fun w' (hb:Below w.heap.size w w')=>hq1.later hb);have rR:=zh (fun w' (hb:Below w.heap.size w w')=>zmV s.tin t.tin B B' d d' w' (hr2.later hb) (hq2.later hb) hs.i ht.i);have zg:=zh (fun w' (hb:Below w.heap.size w w')=>zmV s.tout t.tout D D' e e' w' (hr3.later hb) (hq3.later hb) hs.o ht.o);have HS:=zh hs;have HT:=zh ht;have HC:=zh zvL;have HO:=zh zKs;obtain⟨n,hn⟩:=zX (s.cells.length);have hn2:t.cells.length=n:=by omega
 have HN:=zh (And.intro hn hn2);have dn:n<=1000:=by rw[<-hn];exact hs.n
 have dF:=zh (show znN s t=if cmpI (wtS s) (wtS t)≠0 then decide (cmpI (wtS s) (wtS t)<0)else if zmh s.cells t.cells≠0 then decide (zmh s.cells t.cells<0)else decide (orI (cmpL s.tin t.tin) (cmpL s.tout t.tout)<0)from rfl);rw[hn]at HV ⊢;rw[hn2]at HU ⊢;obtain⟨WS,hWS⟩:=zX (wtS s);obtain⟨WT,hWT⟩:=zX (wtS t);rw[hWS]at HV dF;rw[hWT]at HU dF;clear hr1 hr2 hr3 hq1 hq2 hq3 hs ht hn hn2 hl hWS hWT;have hb1:=zkb (zkb (zs w) (.cells #[.slice A n c,.slice B s.tin.length d,.slice D s.tout.length e] 32)) (.cells #[.slice A' n c',.slice B' t.tin.length d',.slice D' t.tout.length e'] 32);obtain⟨N,hN⟩:=zX (w.heap.size);have k0:=zke (heap_alloc_new w (.cells #[.slice A n c,.slice B s.tin.length d,.slice D s.tout.length e] 32)) (.cells #[.slice A' n c',.slice B' t.tin.length d',.slice D' t.tout.length e'] 32)
 have k1:=heap_alloc_new (w.alloc (.cells #[.slice A n c,.slice B s.tin.length d,.slice D s.tout.length e] 32)) (.cells #[.slice A' n c',.slice B' t.tin.length d',.slice D' t.tout.length e'] 32);rw[World.size_alloc]at k1;rw[hN]at k0 k1;obtain⟨w1,hw1⟩:=zX ((w.alloc (.cells #[.slice A n c,.slice B s.tin.length d,.slice D s.tout.length e] 32)).alloc (.cells #[.slice A' n c',.slice B' t.tin.length d',.slice D' t.tout.length e'] 32));rw[hw1]at hb1 k0 k1;have HB1:=zh hb1;have aG:=zh k0;have aB:=zh k1;clear hb1 k0 k1;go_enter func24,ntmps24;go_upto_region 1 with fail;clear hw1 hN;have az:=zh (show ∀w',Below w1.heap.size w1 w'->(fun w':World=>(zN3 w' N (.slice A n c) (.slice B s.tin.length d) (.slice D s.tout.length e))/\zN3 w' (N+1) (.slice A' n c') (.slice B' t.tin.length d') (.slice D' t.tout.length e')) w' from fun w' hb=>⟨zkz (zkc aG.out hb),zkz (zkc aB.out hb)⟩)
 have hcd:=Below.drew (zs w1);have hSS:zW (fun w':World=>(zN3 w' N (.slice A n c) (.slice B s.tin.length d) (.slice D s.tout.length e))/\zN3 w' (N+1) (.slice A' n c') (.slice B' t.tin.length d') (.slice D' t.tout.length e')) zU w1.drew:=⟨az.out _ hcd,trivial⟩
 have had:Calls prog 64 [.agg #[.slice A n c,.slice B s.tin.length d,.slice D s.tout.length e]].toArray w1.drew fun e w'=>∃v,e=.returned v/\(v=.int .i64 WS/\Below w1.heap.size w1 w'):=(HV.out _ (zka HB1.out hcd)).mono fun e w' ⟨h1,h2⟩=>⟨_,h1,rfl,zka hcd h2⟩
 have HUA:=zh (fun w2 (hb:Below w1.heap.size w1 w2)=>show Calls prog 64 [.agg #[.slice A' n c',.slice B' t.tin.length d',.slice D' t.tout.length e']].toArray w2 fun e w'=>∃v,e=.returned v/\(v=.int .i64 WT/\Below w1.heap.size w1 w')from(HU.out _ (zka HB1.out hb)).mono fun e w' ⟨h1,h2⟩=>⟨_,h1,rfl,zka hb h2⟩);have uZ:=zh (fun x y w2=>show Calls prog 63 [.int .i64 x,.int .i64 y].toArray w2 fun e w'=>∃v,e=.returned v/\(v=.int .i64 (cmpI x y)/\w'=w2)from(HC.out x y w2).mono fun e w' ⟨h1,h2⟩=>⟨_,h1,rfl,h2⟩);have HOA:=zh (fun x y b w2 h=>show Calls prog 62 [.slice (some ⟨b,0,none⟩) 2 2].toArray w2 fun e w'=>∃v,e=.returned v/\(v=.int .i64 (orI x y)/\w'=w2)from(HO.out x y b w2 h).mono fun e w' ⟨h1,h2⟩=>⟨_,h1,rfl,h2⟩);refine wp_region_noPanic ?_;refine zG hSS 30 ?_;refine zT 0 hSS ?_;refine zT 2 hSS ?_;refine zT 5 hSS ?_;refine zT 6 hSS ?_;refine zT 7 hSS ?_;refine zT 8 hSS ?_
 refine zT 9 hSS ?_;refine zT 10 hSS ?_;refine zo 1 fun K hK=>?_;refine zkd (by rfl) (.func 64) [.tmp 7] _ (by rfl) 64 _ fnWt (by rfl) _ (by rfl) _ had ?_;rintro v2 w2 ⟨rfl,hb2⟩;refine hK.out _ _ ⟨az.out _ hb2,trivial⟩ ?_;clear hK K had hSS hcd;(try simp only[zQ]);have had:=HUA.out _ hb2;clear hb2;refine zo 3 fun K hK=>?_;refine zkd (by rfl) (.func 64) [.tmp 9] _ (by rfl) 64 _ fnWt (by rfl) _ (by rfl) _ had ?_;rintro v3 w3 ⟨rfl,hb3⟩;refine hK.out _ _ ⟨az.out _ hb3,trivial⟩ ?_;clear hK K had HUA;(try simp only[zQ]);have had:=uZ.out WS WT w3;refine zo 4 fun K hK=>?_;refine zkd (by rfl) (.func 63) [.tmp 8,.tmp 10] _ (by rfl) 63 _ zyU (by rfl) _ (by rfl) _ had ?_;rintro v4 w4 ⟨rfl,rfl⟩;refine hK.out _ _ ⟨az.out _ hb3,trivial⟩ ?_;clear hK K had;(try simp only[zQ]);have had:=uZ.out (n:Int) (n:Int) w4;rw[zu2]at had;obtain⟨z,hz⟩:=zX (cmpI WS WT);rw[hz]at dF ⊢
 clear hz;refine zo 11 fun K hK=>?_;refine zkd (by rfl) (.func 63) [.tmp 14,.tmp 17] _ (by rfl) 63 _ zyU (by rfl) _ (by rfl) _ had ?_;rintro v5 w5 ⟨rfl,rfl⟩;refine hK.out _ _ ⟨az.out _ hb3,trivial⟩ ?_;clear hK K had;(try simp only[zQ]);have hbi:=bI2L;have hb6:=zka hb3 (zkb (zs w5) (.cells #[.int .i64 z,.int .i64 0] 3));have bE:=heap_alloc_new w5 (.cells #[.int .i64 z,.int .i64 0] 3);refine zo 12 fun K hK=>?_;(try simp only[zA,zB,zC]);go_simp;refine hK.out _ _ ⟨az.out _ hb6,trivial⟩ ?_;clear hK K;(try simp only[zQ]);obtain⟨w6,sF⟩:=zX (w5.alloc (.cells #[.int .i64 z,.int .i64 0] 3));rw[sF]at hb6 bE ⊢;have had:=HOA.out z 0 _ w6 bE;rw[show orI z 0=z by unfold orI;split<;>simp_all]at had;clear sF bE hb3;refine zo 13 fun K hK=>?_;refine zkd (by rfl) (.func 62) [.tmp 19] _ (by rfl) 62 _ fnOr (by rfl) _ (by rfl) _ had ?_;rintro v7 w7 ⟨rfl,rfl⟩
 refine hK.out _ _ ⟨az.out _ hb6,trivial⟩ ?_;clear hK K had;(try simp only[zQ]);have hSS:zW (fun w':World=>(zN3 w' N (.slice A n c) (.slice B s.tin.length d) (.slice D s.tout.length e))/\zN3 w' (N+1) (.slice A' n c') (.slice B' t.tin.length d') (.slice D' t.tout.length e')) zU w7:=⟨az.out _ hb6,trivial⟩
 refine zT 14 hSS ?_;refine zd ?_;refine NoPanic.normal ?_;have u7:=zh hb6;clear hSS hb6 hbi;by_cases h0:z=0;rotate_left 1
 ·have e0:(z != 0)=true:=by simpa using h0
  have HF:=zh (show znN s t=decide (z<0) by rw[dF.out,if_pos h0]);go_wp2_with fail;go_ret;exact⟨by rw[HF.out];rfl,zka HB1.out u7.out⟩
 subst h0;have e0:((0:Int) != 0)=false:=by simp
 have HLF:=zh (show znN s t=if zmh s.cells t.cells≠0 then decide (zmh s.cells t.cells<0)else decide (orI (cmpL s.tin t.tin) (cmpL s.tout t.tout)<0) by rw[dF.out,if_neg (by simp)]);have hx7:=az.out _ u7.out;obtain⟨⟨x0,x1,x2⟩,-⟩:=hx7;go_wp2_with fail;clear x0 x1 x2
 go_loopw [28] (fun i wr=>∃j:Nat,j<=n/\i=.int .i64 j/\Hid (Below w1.heap.size w1 wr)/\Hid (∀i (h1:i<s.cells.length) (h2:i<t.cells.length),i<j->cmpL s.cells[i] t.cells[i]=0)) (fun i _=>n-(intOf i).toNat)
 case atStart=>exact⟨0,by omega,rfl,u7,zh fun i _ _ h=>by omega⟩
 case round =>
  obtain⟨j,hj,rfl,fQ,bZ⟩:=hrel;by_cases hlt:j<n
  ·have hj1:(j:Int)<(n:Int):=by omega
   have hj0:(0:Int)<=(j:Int):=by omega
   have hlj:j<s.cells.length:=by rw[HN.out.1];exact hlt
   have sV:j<t.cells.length:=by rw[HN.out.2];exact hlt
   have hbW:=zka HB1.out fQ.out;obtain⟨a,Ax,cx,hA,-,hc,-,hrx⟩:=HR1.out _ hbW j hlj;obtain⟨a',Ay,cy,hA',-,hc',-,pq⟩:=dE.out _ hbW j sV;subst hA hA';have hcd:=Below.drew (zs wr);have hcp:=zmV s.cells[j] t.cells[j] Ax Ay cx cy wr.drew (hrx.later hcd) (pq.later hcd) (HS.out.c _ (List.getElem_mem hlj)) (HT.out.c _ (List.getElem_mem sV));have HST:=zh (zpn j hlj sV bZ.out);have lq:=zh (fun(h:cmpL s.cells[j] t.cells[j]=0)=>show ∀i (h1:i<s.cells.length) (h2:i<t.cells.length),i<j+1->cmpL s.cells[i] t.cells[i]=0 from fun i h1 h2 h3=>by
    by_cases e:i=j
    ·subst e;exact h
    ·exact bZ.out i h1 h2 (by omega))
   have vw:IntKind.i64.wrap ((j:Int)+1)=(j:Int)+1:=IntWalk.i64_in _ (by omega);clear hrx pq;generalize s.cells[j]=x at *
   generalize t.cells[j]=y at *
   obtain⟨z,hz⟩:=zX (cmpL x y);rw[hz]at HST lq hcp;clear hz;have had:Calls prog 65 [.slice Ax x.length cx,.slice Ay y.length cy].toArray wr.drew fun e w'=>∃v,e=.returned v/\(v=.int .i64 z/\Below wr.heap.size wr w'):=hcp.mono fun e w' ⟨h1,h2⟩=>⟨_,h1,rfl,zka hcd h2⟩
   have HS2:=zh (show ∀w',Below wr.heap.size wr w'->(fun w':World=>(fun w':World=>(zN3 w' N (.slice (some a) n c) (.slice B s.tin.length d) (.slice D s.tout.length e))/\zN3 w' (N+1) (.slice (some a') n c') (.slice B' t.tin.length d') (.slice D' t.tout.length e')) w'/\w'.cell? (a.add j)=some (.slice Ax x.length cx)/\w'.cell? (a'.add j)=some (.slice Ay y.length cy)) w' from fun w' hb=>⟨az.out _ (zka fQ.out hb),zb hb hc,zb hb hc'⟩);have hSS:zW (fun w':World=>(fun w':World=>(zN3 w' N (.slice (some a) n c) (.slice B s.tin.length d) (.slice D s.tout.length e))/\zN3 w' (N+1) (.slice (some a') n c') (.slice B' t.tin.length d') (.slice D' t.tout.length e')) w'/\w'.cell? (a.add j)=some (.slice Ax x.length cx)/\w'.cell? (a'.add j)=some (.slice Ay y.length cy)) zU wr.drew:=⟨HS2.out _ hcd,trivial⟩
   clear hcp hc hc';go_upto_region 7 with fail;refine wp_region_noPanic ?_;refine zG hSS 30 ?_;refine zT 0 hSS ?_;refine zT 1 hSS ?_;refine zT 2 hSS ?_;refine zT 3 hSS ?_;refine zT 4 hSS ?_;refine zT 5 hSS ?_;refine zT 6 hSS ?_;refine zT 7 hSS ?_;refine zT 8 hSS ?_;refine zT 9 hSS ?_;refine zo 10 fun K hK=>?_;refine zkd (by rfl) (.func 65) [.tmp 35,.tmp 40] _ (by rfl) 65 _ zyT (by rfl) _ (by rfl) _ had ?_;rintro v8 w8 ⟨rfl,bu⟩;have Bd:=zV hSS (HS2.out _ bu) trivial;refine hK.out _ _ Bd ?_;have dZ:=zh (zka fQ.out bu);clear hK K had hSS hcd bu hbW;(try simp only[zQ]);refine zT 11 Bd ?_;refine zd ?_;refine NoPanic.normal ?_;clear Bd HS2;by_cases h0:z=0
   ·subst h0;go_wp2_with fail
    go_roundw
    case rel=>exact⟨j+1,by omega,by go_num,dZ,zh (lq.out rfl)⟩
    case measure=>simp[intOf];omega
   ·have e9:(z != 0)=true:=by simpa using h0
    have HG:=zh (show znN s t=decide (z<0) by rw[HLF.out,HST.out,if_pos h0,if_pos h0]);go_wp2_with fail;go_ret;exact⟨by rw[HG.out];rfl,zka HB1.out dZ.out⟩
  ·obtain rfl:n=j:=by omega
   have HG:=zh (show znN s t=decide (orI (cmpL s.tin t.tin) (cmpL s.tout t.tout)<0) by
    rw[HLF.out,if_neg];rw[zpm (by rw[HN.out.1,HN.out.2]) fun i h1 h2=>bZ.out i h1 h2 (by have:=HN.out.1;omega)];simp)
   have hcd:=Below.drew (zs wr);have HS2:=zh (show ∀w',Below wr.heap.size wr w'->(fun w':World=>(zN3 w' N (.slice A n c) (.slice B s.tin.length d) (.slice D s.tout.length e))/\zN3 w' (N+1) (.slice A' n c') (.slice B' t.tin.length d') (.slice D' t.tout.length e')) w' from fun w' hb=>az.out _ (zka fQ.out hb));have hSS:zW (fun w':World=>(zN3 w' N (.slice A n c) (.slice B s.tin.length d) (.slice D s.tout.length e))/\zN3 w' (N+1) (.slice A' n c') (.slice B' t.tin.length d') (.slice D' t.tout.length e')) zU wr.drew:=⟨HS2.out _ hcd,trivial⟩
   obtain⟨z1,hz1⟩:=zX (cmpL s.tin t.tin);obtain⟨z2,hz2⟩:=zX (cmpL s.tout t.tout);rw[hz1]at rR HG;rw[hz2]at zg HG;have had:Calls prog 65 [.slice B s.tin.length d,.slice B' t.tin.length d'].toArray wr.drew fun e w'=>∃v,e=.returned v/\(v=.int .i64 z1/\Below wr.heap.size wr w'):=(rR.out _ (zka HB1.out (zka fQ.out hcd))).mono fun e w' ⟨h1,h2⟩=>⟨_,h1,rfl,zka hcd h2⟩
   have HCO2:=zh (fun w2 (hb:Below wr.heap.size wr w2)=>show Calls prog 65 [.slice D s.tout.length e,.slice D' t.tout.length e'].toArray w2 fun e w'=>∃v,e=.returned v/\(v=.int .i64 z2/\Below wr.heap.size wr w')from(zg.out _ (zka HB1.out (zka fQ.out hb))).mono fun e w' ⟨h1,h2⟩=>⟨_,h1,rfl,zka hb h2⟩);clear hz1 hz2;go_upto_region 11 with fail;refine wp_region_noPanic ?_;refine zG hSS 30 ?_;refine zT 0 hSS ?_;refine zT 1 hSS ?_;refine zT 2 hSS ?_;refine zT 3 hSS ?_;refine zT 5 hSS ?_;refine zT 6 hSS ?_;refine zT 7 hSS ?_;refine zT 8 hSS ?_;refine zo 4 fun K hK=>?_;refine zkd (by rfl) (.func 65) [.tmp 48,.tmp 50] _ (by rfl) 65 _ zyT (by rfl) _ (by rfl) _ had ?_;rintro v8 w8 ⟨rfl,bu⟩;refine hK.out _ _ ⟨HS2.out _ bu,trivial⟩ ?_;have had:=HCO2.out _ bu;clear hK K hSS hcd bu;(try simp only[zQ]);refine zo 9 fun K hK=>?_
   refine zkd (by rfl) (.func 65) [.tmp 53,.tmp 55] _ (by rfl) 65 _ zyT (by rfl) _ (by rfl) _ had ?_;rintro v9 w9 ⟨rfl,aS⟩;refine hK.out _ _ ⟨HS2.out _ aS,trivial⟩ ?_;clear hK K had;(try simp only[zQ]);have hbi:=bI2L;have hb6:=zka aS (zkb (zs w9) (.cells #[.int .i64 z1,.int .i64 z2] 3));have bE:=heap_alloc_new w9 (.cells #[.int .i64 z1,.int .i64 z2] 3);refine zo 10 fun K hK=>?_;(try simp only[zA,zB,zC]);go_simp;refine hK.out _ _ ⟨HS2.out _ hb6,trivial⟩ ?_;clear hK K;(try simp only[zQ]);obtain⟨wa,mo⟩:=zX (w9.alloc (.cells #[.int .i64 z1,.int .i64 z2] 3));rw[mo]at hb6 bE ⊢;have had:=HOA.out z1 z2 _ wa bE;clear mo bE aS;refine zo 11 fun K hK=>?_;refine zkd (by rfl) (.func 62) [.tmp 57] _ (by rfl) 62 _ fnOr (by rfl) _ (by rfl) _ had ?_;rintro vb wb ⟨rfl,rfl⟩;refine hK.out _ _ ⟨HS2.out _ hb6,trivial⟩ ?_;clear hK K had;(try simp only[zQ])
   have hSS:zW (fun w':World=>(zN3 w' N (.slice A n c) (.slice B s.tin.length d) (.slice D s.tout.length e))/\zN3 w' (N+1) (.slice A' n c') (.slice B' t.tin.length d') (.slice D' t.tout.length e')) zU wb:=⟨HS2.out _ hb6,trivial⟩
   refine zT 12 hSS ?_;refine zT 13 hSS ?_;refine zd ?_;refine NoPanic.normal ?_;have aH:=zh (zka fQ.out hb6);clear hSS hb6 hbi HS2;go_wp2_with fail;go_ret;exact⟨by rw[HG.out];rfl,zka HB1.out aH.out⟩
attribute [local go_sem] Oper.semAt_some
theorem zqY(x:Int)(w:World)(hx : -1000000<=x/\x<=1000000):Calls prog 128 #[.int .i64 x] w fun e w'=>e=.returned (.int .i64 (rnk x))/\w'=w:=by
 have e1:IntKind.i64.wrap (2*x)=2*x:=IntWalk.i64_in _ (by omega);have e2:IntKind.i64.wrap (2*x-1)=2*x-1:=IntWalk.i64_in _ (by omega);have e3:IntKind.i64.wrap (0-2*x) = -2*x:=by rw[show(0:Int)-2*x = -2*x by omega];exact IntWalk.i64_in _ (by omega)
 go_enter func128,ntmps128;by_cases h:0<x
 ·go_wp2_with fail;go_ret;simp[rnk,h]
 ·go_wp2_with fail;go_ret;exact⟨by rw[show rnk x = -(2*x) by unfold rnk;rw[if_neg (by omega)];omega];rfl,rfl⟩
theorem zr8{A:Option Addr}{m n c:Nat}:(Value.slice A m c).ownBlock=(Value.slice A n c).ownBlock:=by cases A<;>rfl
theorem zkr.addS{W0 wr we w':World}{n0:Nat}{S:Nat->Prop}{v v':Value}{ls ys:List (List Int)}{vs us:List Value}(wX:∀q,S q->q<n0)(hb:Below n0 W0 wr)(hn:n0<=W0.heap.size)(hown:wr.ownsRow n0 30 1 v ls.length vs)(hl:vs.length=ls.length)
  (h2:∀k (hk:k<ls.length) (hv:k<vs.length),∃A c,vs[k]=.slice A ls[k].length c/\ls[k].length<=c/\RowI wr (fun q=>S q/\v.ownBlock≠some q) A ls[k])(kN:us.length=ys.length)(hw:Below wr.heap.size wr we)
  (hy:∀k (hk:k<ys.length) (hv:k<us.length),∃A c,us[k]=.slice A ys[k].length c/\ys[k].length<=c/\RowI we S A ys[k])
  (ho:w'.ownsRow n0 30 1 v' (ls.length+ys.length) (vs++us))(hg:we.grownBy w' v.ownBlock)(aj:v'.ownBlock=v.ownBlock\/v'.ownBlock=some we.heap.size) :
  ∃A' c',v'=.slice A' (ls.length+ys.length) c'/\Hid (Below n0 W0 w')/\Hid (zkr w' n0 S (.slice A' (ls.length+ys.length) c') (ls++ys)):=by
 obtain⟨A',c',rfl,-⟩:=zkf ho;have hs:=hb.size;have hbe:Below n0 W0 we:=hb.trans (hw.mono (by omega));refine⟨A',c',rfl,zh (hbe.grown hg (Nat.le_trans hn hbe.size) fun k hk=>(hown.lt k hk).1),zh ?_⟩;exact zkr.app (W:=we) (S:=S) (S':=S) hl kN
  (fun k hk hv=>by
   obtain⟨A1,c1,e1,e2,e3⟩:=h2 k hk hv;exact⟨A1,c1,e1,e2,e3.later hw⟩) (fun q h _=>h)
  (fun k hk hv=>by
   obtain⟨A1,c1,e1,e2,e3⟩:=hy k hk hv;exact⟨A1,c1,e1,e2,e3.mono fun q h=>⟨h,fun e=>by have:=(hown.lt q e).1;have:=wX q h;omega⟩⟩) ho hg aj
theorem bL2R(A B:Option Addr)(l c m d:Nat)(w:World):(Instr.buildSlice 29 2 #[(0,.slice A l c),(1,.slice B m d)]).run prog w=.ok (.slice (some ⟨w.heap.size,0,none⟩) 2 2) (w.alloc (.cells #[.slice A l c,.slice B m d] 30)):=by kernel_rfl
theorem zv2(w:World)(u v:Value)(E:TypeId):∀ad,(some ⟨w.heap.size,0,none⟩:Option Addr)=some ad->∀j x,[u,v][j]?=some x->(w.alloc (.cells #[u,v] E)).cell? (ad.add j)=some x:=fun ad e j x hj=>by
 injection e with e;subst e;have hk:=heap_alloc_new w (.cells #[u,v] E);rw[Addr.add_lit,Nat.zero_add]
 match j,hj with
 | 0,hj=>simp at hj;subst hj;exact zc hk rfl
 | 1,hj=>simp at hj;subst hj;exact zc hk rfl
theorem zv1(A B:Option Addr)(l c m d:Nat):∀u∈[Value.slice A l c,Value.slice B m d],u.oneCell'=true:=fun u hu=>by
 simp only[List.mem_cons,List.not_mem_nil,or_false]at hu;rcases hu with rfl|rfl<;>rfl
theorem zon(s:SS)(v:Value)(w:World){S:Nat->Prop}(hv:SV w S s v)(hn:s.cells.length<=1000) :
  Calls prog 127 #[v] w fun e w'=>Below w.heap.size w w'/\∃A c,e=.returned (.slice A (s.cells.length+2) c)/\zlj w' (fun q=>S q\/w.heap.size<=q) A (lisS s):=by
 have hv2:=hv.keep (S':=fun q=>S q/\q<w.heap.size) (fun _ h hlt=>⟨h,hlt⟩) fun _ _ _=>rfl;obtain⟨A,c,B,d,D,e,rfl,h1,h2,h3,h4,h5,h6,h7⟩:=hv2;obtain⟨N,hN⟩:=zX (w.heap.size);have hb1:=zkb (zs w) (.cells #[.slice A s.cells.length c,.slice B s.tin.length d,.slice D s.tout.length e] 32);have k1:=heap_alloc_new w (.cells #[.slice A s.cells.length c,.slice B s.tin.length d,.slice D s.tout.length e] 32);have hz1:(w.alloc (.cells #[.slice A s.cells.length c,.slice B s.tin.length d,.slice D s.tout.length e] 32)).heap.size=N+1:=by simp[hN]
 obtain⟨w1,hw1⟩:=zX (w.alloc (.cells #[.slice A s.cells.length c,.slice B s.tin.length d,.slice D s.tout.length e] 32));rw[hw1]at hb1 k1 hz1;rw[hN]at k1 h1 h2 h3;have HB1:=zh hb1;have HZ1:=zh hz1;have aB:=zh k1;have HR:=zh (h1.later hb1);have HI:=zh (And.intro (h2.later hb1) (And.intro (h3.later hb1) (And.intro h5 h6)));have hL1:=bL1R;have hL2:=bL2R;obtain⟨n,hn'⟩:=zX (s.cells.length);have HN:=zh hn';rw[hn']at hn k1 aB hw1 ⊢;clear hv h1 h2 h3 h4 h5 h6 h7 hb1 k1 hz1 hn';go_enter func127,ntmps127;go_wp2_with fail
 try rw[hw1]
 try rw[hN]
 clear hw1 hN
 go_loopw [4,3] (fun i ov wr=>∃j:Nat,j<=n/\i=.int .i64 j/\Hid (Below w1.heap.size w1 wr)/\Hid (zkr wr w1.heap.size (fun q=>S q/\q<N) ov (s.cells.take j))) (fun i _ _=>n-(intOf i).toNat)
 case atStart=>exact⟨0,by omega,rfl,zh zr,zh (zkr.nil _ _ _)⟩
 case round =>
  obtain⟨j,hj,rfl,HB,HR2⟩:=hrel;obtain⟨z0,z1,z2⟩:=zkz (zkc aB.out HB.out);by_cases hlt:j<n
  ·have hj1:(j:Int)<(n:Int):=by omega
   have hj0:(0:Int)<=(j:Int):=by omega
   have hjs:j<s.cells.length:=by rw[HN.out];exact hlt
   obtain⟨a,A',c',rfl,-,h0,hc,hr⟩:=(HR.out.later HB.out) j hjs;obtain⟨l,hl⟩:=zX (s.cells[j]);rw[hl]at h0 hc hr;have rD:=zh (show s.cells.take (j+1)=s.cells.take j++[l] by rw[List.take_succ_eq_append_getElem hjs,hl]);obtain⟨Ao,co,rfl⟩:=HR2.out.slice;obtain⟨vs,hown,hvl,hvs⟩:=HR2.out;have hlj:(s.cells.take j).length=j:=by rw[List.length_take];omega
   have hown0:=hown;rw[hlj]at hown;have hsz:w1.heap.size<=wr.heap.size:=HB.out.size;have ji:=zh (show ∀v3 w3,w3.ownsRow w1.heap.size 30 1 v3 (j+1) (vs++[.slice A' l.length c'])->(wr.alloc (.cells #[.slice A' l.length c'] 30)).grownBy w3 (Value.slice Ao j co).ownBlock->(v3.ownBlock=(Value.slice Ao j co).ownBlock\/v3.ownBlock=some (wr.alloc (.cells #[.slice A' l.length c'] 30)).heap.size) ->
     ∃A9 c9,v3=.slice A9 (j+1) c9/\Hid (Below w1.heap.size w1 w3)/\Hid (zkr w3 w1.heap.size (fun q=>S q/\q<N) (.slice A9 (j+1) c9) (s.cells.take (j+1)))from fun v3 w3 h1 h2 h3=>by
    rw[rD.out];have hz:=HZ1.out;have:=zkr.addS (W0:=w1) (wr:=wr) (we:=wr.alloc (.cells #[.slice A' l.length c'] 30)) (w':=w3) (n0:=w1.heap.size) (S:=fun q=>S q/\q<N) (v:=.slice Ao (s.cells.take j).length co) (v':=v3) (ls:=s.cells.take j) (ys:=[l]) (vs:=vs) (us:=[.slice A' l.length c']) (fun q h=>by have:=h.2;omega) HB.out zl hown0 hvl hvs rfl (zkb zr _)
     (fun k hk hv=>by
      obtain rfl:k=0:=by simpa using hk
      exact⟨A',c',rfl,hc,hr.later (zkb zr _)⟩) (by rw[hlj];exact h1) (by rw[zr8 (n:=j)];exact h2) (by rw[zr8 (n:=j)];exact h3)
    rw[hlj]at this;exact this)
   have hown2:=zkp hown (zkb (zs wr) (.cells #[.slice A' l.length c'] 30));have hs2:w1.heap.size<=(wr.alloc (.cells #[.slice A' l.length c'] 30)).heap.size:=Nat.le_trans hsz (zkb (zs wr) _).size;clear hvl hvs hown hown0 hr hc hl;rw[hlj];go_wp2_with (at_builtin;refine zki rfl (.tmp 12) (.tmp 18) rfl underlying29 zm0 rfl (by decide) (by decide) w1.heap.size (.slice Ao j co) j vs rfl hown2 (some ⟨wr.heap.size,0,none⟩) 1 1 [.slice A' l.length c'] rfl rfl (fun e=>by cases e) (zl1 wr _ _) (zpF _ _ _) (by omega) hs2 ?_;intro v3 w3 ho hg aj;obtain⟨A3,c3,rfl,aH,bL⟩:=ji.out _ _ ho hg aj;clear ho hg aj)
   go_roundw
   case rel=>exact⟨j+1,by omega,by go_num,aH,bL⟩
   case measure=>simp[intOf];omega
  ·obtain rfl:j=n:=by omega
   have hj1:¬ (j:Int)<(j:Int):=by omega
   have hlj:s.cells.take j=s.cells:=by rw[<-HN.out,List.take_length]
   rw[hlj]at HR2;obtain⟨Ao,co,rfl⟩:=HR2.out.slice;obtain⟨vs,hown,hvl,hvs⟩:=HR2.out;have hown0:=hown;rw[HN.out]at hown ⊢;have hsz:w1.heap.size<=wr.heap.size:=HB.out.size;have ji:=zh (show ∀v3 w3,w3.ownsRow w1.heap.size 30 1 v3 (j+2) (vs++[.slice B s.tin.length d,.slice D s.tout.length e])->(wr.alloc (.cells #[.slice B s.tin.length d,.slice D s.tout.length e] 30)).grownBy w3 (Value.slice Ao j co).ownBlock->(v3.ownBlock=(Value.slice Ao j co).ownBlock\/v3.ownBlock=some (wr.alloc (.cells #[.slice B s.tin.length d,.slice D s.tout.length e] 30)).heap.size) ->
     ∃A9 c9,v3=.slice A9 (j+2) c9/\Hid (Below w1.heap.size w1 w3)/\Hid (zkr w3 w1.heap.size (fun q=>S q/\q<N) (.slice A9 (j+2) c9) (lisS s))from fun v3 w3 h1 h2 h3=>by
    have hz:=HZ1.out;obtain⟨i1,i2,i3,i4⟩:=HI.out;have:=zkr.addS (W0:=w1) (wr:=wr) (we:=wr.alloc (.cells #[.slice B s.tin.length d,.slice D s.tout.length e] 30)) (w':=w3) (n0:=w1.heap.size) (S:=fun q=>S q/\q<N) (v:=.slice Ao s.cells.length co) (v':=v3) (ls:=s.cells) (ys:=[s.tin,s.tout]) (vs:=vs) (us:=[.slice B s.tin.length d,.slice D s.tout.length e]) (fun q h=>by have:=h.2;omega) HB.out zl hown0 hvl hvs rfl (zkb zr _)
     (fun k hk hv=>by
      match k,hk with
      | 0,_=>exact⟨B,d,rfl,i3,(i1.later HB.out).later (zkb zr _)⟩
      | 1,_=>exact⟨D,e,rfl,i4,(i2.later HB.out).later (zkb zr _)⟩) (by rw[HN.out];exact h1) (by rw[zr8 (n:=j)];exact h2) (by rw[zr8 (n:=j)];exact h3)
    rw[HN.out]at this;exact this)
   have hown2:=zkp hown (zkb (zs wr) (.cells #[.slice B s.tin.length d,.slice D s.tout.length e] 30));have hs2:w1.heap.size<=(wr.alloc (.cells #[.slice B s.tin.length d,.slice D s.tout.length e] 30)).heap.size:=Nat.le_trans hsz (zkb (zs wr) _).size;clear hvl hvs hown hown0 hlj;go_wp2_with (at_builtin;refine zki rfl (.tmp 20) (.tmp 25) rfl underlying29 zm0 rfl (by decide) (by decide) w1.heap.size (.slice Ao j co) j vs rfl hown2 (some ⟨wr.heap.size,0,none⟩) 2 2 [.slice B s.tin.length d,.slice D s.tout.length e] rfl rfl (fun e=>by cases e) (zv2 wr _ _ _) (zv1 _ _ _ _ _ _) (by omega) hs2 ?_;intro v3 w3 ho hg aj;obtain⟨A3,c3,rfl,aH,bL⟩:=ji.out _ _ ho hg aj;clear ho hg aj)
   go_ret;obtain⟨A8,c8,e8,-,h8⟩:=(bL.out.keep (S':=fun q=>S q\/w.heap.size<=q) (fun q h _=>.inl h.1) fun _ _ _=>rfl).ii fun q h _=>.inr (Nat.le_trans HB1.out.size h);have hll:(lisS s).length=j+2:=by unfold lisS;rw[List.length_append,HN.out];rfl
   injection e8 with e1 e2 e3;subst e1 e3;exact⟨zka HB1.out aH.out,A3,⟨c3,rfl⟩,h8⟩
theorem zoG(s:SS)(v:Value)(w:World)(hv:SV w Any s v)(hs:SmS s) :
  Calls prog 126 #[v] w fun e w'=>e=.returned (.int .i64 (wt (lisS s)))/\Below w.heap.size w w':=by
 have uN:=zh (fun w' (hb:Below w.heap.size w w')=>zon s v w' (hv.later hb) hs.n);obtain⟨A,c,B,d,D,e,rfl⟩:∃A c B d D e,v=.agg #[.slice A s.cells.length c,.slice B s.tin.length d,.slice D s.tout.length e]:=by
  obtain⟨A,c,B,d,D,e,rfl,-⟩:=hv;exact⟨_,_,_,_,_,_,rfl⟩
 have qx:=zh zqY;have hb1:=zkb (zs w) (.cells #[.slice A s.cells.length c,.slice B s.tin.length d,.slice D s.tout.length e] 32);have k1:=heap_alloc_new w (.cells #[.slice A s.cells.length c,.slice B s.tin.length d,.slice D s.tout.length e] 32);obtain⟨w1,hw1⟩:=zX (w.alloc (.cells #[.slice A s.cells.length c,.slice B s.tin.length d,.slice D s.tout.length e] 32));rw[hw1]at hb1 k1;obtain⟨z0,z1,z2⟩:=zkz k1;have HB1:=zh hb1;have gq:=zh (show ∀l∈lisS s,SmI l from fun l hl=>by
  rcases List.mem_append.1 hl with h|h
  ·exact hs.c l h
  ·simp only[List.mem_cons,List.not_mem_nil,or_false]at h;rcases h with rfl|rfl
   ·exact hs.i
   ·exact hs.o)
 have HN:=zh (show(lisS s).length=s.cells.length+2 by simp[lisS]);have dn:=hs.n;clear hv hb1 k1 hs;obtain⟨n,hn⟩:=zX (s.cells.length+2);have qW:n<=1002:=by omega
 rw[hn]at HN;go_enter func126,ntmps126;go_wp2_with fail;refine(uN.out _ HB1.out).mono ?_;rintro e2 w2 ⟨hb2,A2,c2,rfl,hr2⟩;rw[hn];have HB2:=zh (zka HB1.out hb2);have HR:=zh (hr2.keep (S':=Any) (fun _ _ _=>trivial) fun _ _ _=>rfl);obtain⟨LL,lS⟩:=zX (lisS s);have bO:=zh lS;rw[lS]at HR gq HN;clear hb2 hr2 z0 z1 z2 lS hn hw1 uN dn;go_wp2_with fail
 go_loopw [5,4] (fun i x wr=>∃j:Nat,j<=n/\i=.int .i64 j/\x=.int .i64 (wt (LL.take j))/\wr=w2) (fun i _ _=>n-(intOf i).toNat)
 case atStart=>exact⟨0,by omega,rfl,rfl,rfl⟩
 case round =>
  obtain⟨j,hj,rfl,rfl,rfl⟩:=hrel;obtain⟨W9,rfl⟩:∃x,x=wr:=⟨_,rfl⟩
  by_cases hlt:j<n
  ·have hj1:(j:Int)<(n:Int):=by omega
   have hj0:(0:Int)<=(j:Int):=by omega
   have hjl:j<LL.length:=by rw[HN.out];exact hlt
   obtain⟨a,l,Al,cl,rfl,Hl,h0,hlc,hr⟩:=HR.out.nd hjl;have hsm:SmI l:=by rw[<-Hl.out];exact gq.out _ (List.getElem_mem hjl)
   have yN:=zh (show wt (LL.take (j+1))=wt (LL.take j)+lw l by rw[znD hjl,Hl.out]);have iA:=zh hr;have rE:=zh hsm;have hwb:=zx5 (fun q hq=>gq.out q (List.mem_of_mem_take (i:=j) hq));obtain⟨W0,hW0⟩:=zX (wt (LL.take j));rw[hW0]at yN hwb ⊢;obtain⟨m,hm⟩:=zX (l.length);have HM:=zh hm;have hm6:m<=1000000:=by rw[<-hm];exact hsm.1
   rw[hm]at h0;have hwb2:0<=W0/\W0<=1002*2000001000000:=by
    have:(LL.take j).length<=1002:=by rw[List.length_take];omega
    obtain⟨q1,q2⟩:=hwb;refine⟨q1,Int.le_trans q2 ?_⟩;have:((LL.take j).length:Int)<=1002:=by omega
    omega
   clear hr hsm hwb hm hW0 Hl hjl;go_wp2_with fail
   go_loopw [6,4] (fun i x wr=>∃k:Nat,k<=m/\i=.int .i64 k/\x=.int .i64 (W0+lw (l.take k))/\wr=W9) (fun i _ _=>m-(intOf i).toNat)
   case atStart=>exact⟨0,by omega,rfl,by simp[lw],rfl⟩
   case round =>
    obtain⟨k,hk,rfl,rfl,rfl⟩:=hrel;by_cases vE:k<m
    ·have hk1:(k:Int)<(m:Int):=by omega
     have hk0:(0:Int)<=(k:Int):=by omega
     have hkl:k<l.length:=by rw[HM.out];exact vE
     obtain⟨a',e1,-,hx,-⟩:=iA.out k hkl;subst e1;have qR:=rE.out.2 _ (List.getElem_mem hkl);have HT:=zh (show W0+lw (l.take (k+1))=W0+lw (l.take k)+rnk l[k]+1 by rw[znH hkl];omega);have sZ:=zqy (l:=l.take k) ⟨by rw[List.length_take];omega,fun e he=>rE.out.2 e (List.mem_of_mem_take he)⟩;have hRk:=qx.out l[k] wr qR;have hrb:=zrg qR;generalize l[k]=x at *
     obtain⟨r,hr⟩:=zX (rnk x);obtain⟨X,hX⟩:=zX (W0+lw (l.take k));rw[hr]at HT hRk hrb;rw[hX]at HT ⊢;have hXb:0<=X/\X<=3000000000000000:=by omega
     have HRk:=zh hRk;have hw1:IntKind.i64.wrap (X+r)=X+r:=IntWalk.i64_in _ (by omega);have hw2:IntKind.i64.wrap (X+r+1)=X+r+1:=IntWalk.i64_in _ (by omega);clear hr hX sZ hRk qR hkl;go_wp2_with fail;refine HRk.out.mono ?_;rintro e w3 ⟨rfl,rfl⟩;go_wp2_with fail
     go_roundw
     case rel=>exact⟨k+1,by omega,by go_num,by rw[HT.out],trivial⟩
     case measure=>simp[intOf];omega
    ·obtain rfl:k=m:=by omega
     have hk1:¬ (k:Int)<(k:Int):=by omega
     have HE:=zh (show W0+lw (l.take k)=wt (LL.take (j+1)) by rw[yN.out,<-HM.out,List.take_length]);go_wp2_with fail
     go_roundw
     case rel=>exact⟨j+1,by omega,by go_num,by rw[HE.out],trivial⟩
     case measure=>simp[intOf];omega
  ·obtain rfl:j=n:=by omega
   have hj1:¬ (j:Int)<(j:Int):=by omega
   go_wp2_with fail;go_ret;exact⟨by rw[bO.out,<-HN.out,List.take_length];rfl,HB2.out⟩
end
section
open Go Go.RowKit
attribute [local go_sem] Oper.semAt_some
structure SmC(s:SS):Prop where
 n:s.cells.length<=100
 c:∀l∈lisS s,l.length<=1000/\∀e∈l,-1000000<=e/\e<=1000000
theorem SmC.sm{s:SS}(h:SmC s):SmS s :=
 ⟨by have:=h.n;omega,fun l hl=>⟨by have:=(h.c l (List.mem_append_left _ hl)).1;omega,(h.c l (List.mem_append_left _ hl)).2⟩,⟨by have:=(h.c s.tin (by simp[lisS])).1;omega,(h.c s.tin (by simp[lisS])).2⟩,⟨by have:=(h.c s.tout (by simp[lisS])).1;omega,(h.c s.tout (by simp[lisS])).2⟩⟩
structure XY(W0:World)(C:Nat->Prop)(w:World)(Ax:Option Addr)(cx p:Nat)(Ay:Option Addr)(cy q:Nat)(xs ys:List Int):Prop where
 bl:Chg C W0 w
 nw:∀b,W0.heap.size<=b->C b
 x:w.ownsRow 0 3 1 (.slice Ax p cx) p (zkg xs)
 y:w.ownsRow 0 3 1 (.slice Ay q cy) q (zkg ys)
 xC:∀b,(Value.slice Ax p cx).ownBlock=some b->C b
 yC:∀b,(Value.slice Ay q cy).ownBlock=some b->C b
 ne:∀b,(Value.slice Ax p cx).ownBlock=some b->(Value.slice Ay q cy).ownBlock=some b->False
theorem XY.px{W0 w w':World}{C:Nat->Prop}{cx cy p q:Nat}{Ax Ay:Option Addr}{xs ys:List Int}{u:Int}{v':Value}(h:XY W0 C w Ax cx p Ay cy q xs ys)(ho:w'.ownsRow 0 3 1 v' (p+1) (zkg xs++[.int .i64 u]))(hg:(w.alloc (.cells #[.int .i64 u] 3)).grownBy w' (Value.slice Ax p cx).ownBlock)
  (aj:v'.ownBlock=(Value.slice Ax p cx).ownBlock\/v'.ownBlock=some (w.alloc (.cells #[.int .i64 u] 3)).heap.size):∃A c,v'=.slice A (p+1) c/\Hid (XY W0 C w' A c (p+1) Ay cy q (xs++[u]) ys):=by
 obtain⟨A,c,rfl,-⟩:=zkf ho;have bB:=zkb (zs w) (.cells #[.int .i64 u] 3);have hs:=h.bl.size;refine⟨A,c,rfl,zh ⟨(h.bl.trans2 (Chg.of_below (C:=fun _=>False) bB) fun b _ h=>h.elim).trans2 (Chg.row hg) fun b _ hb=>h.xC b hb,h.nw,?_,?_,fun b h1=>?_,h.yC,fun b h1 h2=>?_⟩⟩
 ·have e:zkg (xs++[u])=zkg xs++[.int .i64 u]:=by simp[zkg]
  rw[e];exact ho
 ·refine zms (zkp h.y bB) fun b hb=>hg.block b (Nat.lt_of_lt_of_le (h.y.lt b hb).2 bB.size) fun e=>h.ne b e.symm hb
 ·rcases aj with e|e
  ·exact h.xC b (e▸h1)
  ·rw[e]at h1;injection h1 with h1;exact h.nw b (by have:=bB.size;omega)
 ·rcases aj with e|e
  ·exact h.ne b (e▸h1) h2
  ·rw[e]at h1;injection h1 with h1;have:=(h.y.lt b h2).2;have:=bB.size;omega
theorem XY.py{W0 w w':World}{C:Nat->Prop}{cx cy p q:Nat}{Ax Ay:Option Addr}{xs ys:List Int}{u:Int}{v':Value}(h:XY W0 C w Ax cx p Ay cy q xs ys)(ho:w'.ownsRow 0 3 1 v' (q+1) (zkg ys++[.int .i64 u]))(hg:(w.alloc (.cells #[.int .i64 u] 3)).grownBy w' (Value.slice Ay q cy).ownBlock)
  (aj:v'.ownBlock=(Value.slice Ay q cy).ownBlock\/v'.ownBlock=some (w.alloc (.cells #[.int .i64 u] 3)).heap.size):∃A c,v'=.slice A (q+1) c/\Hid (XY W0 C w' Ax cx p A c (q+1) xs (ys++[u])):=by
 have h':XY W0 C w Ay cy q Ax cx p ys xs:=⟨h.bl,h.nw,h.y,h.x,h.yC,h.xC,fun b h1 h2=>h.ne b h2 h1⟩
 obtain⟨A,c,e,H⟩:=h'.px ho hg aj;have H:=H.out;exact⟨A,c,e,zh ⟨H.bl,H.nw,H.y,H.x,H.yC,H.xC,fun b h1 h2=>H.ne b h2 h1⟩⟩
theorem XY.drew{W0 w:World}{C:Nat->Prop}{cx cy p q:Nat}{Ax Ay:Option Addr}{xs ys:List Int}(h:XY W0 C w Ax cx p Ay cy q xs ys)(n:Nat):XY W0 C (w.drewN n) Ax cx p Ay cy q xs ys :=
 ⟨(h.bl.trans2 (Chg.of_below (C:=fun _=>False) (zkm (zs w) n)) fun b _ h=>h.elim),h.nw,zkp h.x (zkm (zs w) n),zkp h.y (zkm (zs w) n),h.xC,h.yC,h.ne⟩
theorem znG{w:World}{n:Nat}{A:Option Addr}{c:Nat}{xs:List Int}(h:w.ownsRow 0 3 1 (.slice A n c) n (zkg xs)){k:Nat}(hk:k<xs.length):∃a,A=some a/\w.cell? (a.add k)=some (.int .i64 xs[k]):=by
 obtain⟨h1,h2,h3⟩:=zr6 h;rcases A with _|a
 ·have:=h1 rfl;have:=h.1;simp[zkg]at this;omega
 ·exact⟨a,rfl,h2 a rfl k _ (by simp[zkg,hk])⟩
theorem zmr{w:World}{n:Nat}{v:Value}{xs:List Int}(h:w.ownsRow 0 3 1 v n (zkg xs)):xs.length=n:=by
 have:=h.1;simpa[zkg]using this
theorem ztU{w3:World}{C:Nat->Prop}{A:Option Addr}{L:List (List Int)}(h:zlj w3 (fun q=>¬ C q) A L){j:Nat}(hj:j<L.length):∃(a:Addr) (l:List Int) (A':Option Addr) (c':Nat),A=some a/\Hid (L[j]=l)/\l.length<=c'/\∀w',Chg C w3 w'->w'.cell? (a.add j)=some (.slice A' l.length c')/\RowI w' (fun q=>¬ C q) A' l:=by
 obtain⟨a,A',c',rfl,hS,h0,hc,hr⟩:=h j hj;refine⟨a,L[j],A',c',rfl,rfl,hc,fun w' hw=>⟨zkK h0 ?_,hr.keep (fun _ h _=>h) fun q hq hlt=>hw.block q hlt hq⟩⟩;have hlt:a.block<w3.heap.size:=by have:=World.block_lt_of_cell? w3 _ h0;rwa[zkx]at this
 rw[zkx];exact hw.block _ hlt hS
theorem zrP{l:List Int}{k m:Nat}(h:(k=m\/(k=l.length/\k<=m))):l.take k=l.take m:=by
 rcases h with rfl|⟨rfl,h⟩
 ·rfl
 ·rw[List.take_length,List.take_of_length_le h]
theorem zqA{L M:List (List Int)}{j:Nat}(h1:j<L.length)(h2:j<M.length):keyA (L.drop j) (M.drop j)=((L[j].length:Int)::(L[j].take M[j].length).map rnk)++(if L[j].length=M[j].length then keyA (L.drop (j+1)) (M.drop (j+1))else []):=by
 rw[List.drop_eq_getElem_cons h1,List.drop_eq_getElem_cons h2,keyA]
theorem zsj{L M:List (List Int)}{j:Nat}(h:¬ (j<L.length/\j<M.length)):keyA (L.drop j) (M.drop j)=[]:=by
 by_cases h1:j<L.length
 ·have h2:M.drop j=[]:=List.drop_eq_nil_of_le (by omega);rw[h2]
  cases L.drop j<;>rfl
 ·have h2:L.drop j=[]:=List.drop_eq_nil_of_le (by omega);rw[h2];rfl
theorem zop{xs ys:List Int}:∀ {j:Nat},(∀k (h1:k<xs.length) (h2:k<ys.length),k<j->xs[k]=ys[k])->j<=xs.length->j<=ys.length->lexE xs ys=lexE (xs.drop j) (ys.drop j):=by
 intro j
 induction j with
 | zero=>intro _ _ _;simp
 | succ j ih =>
  intro h h1 h2;rw[ih (fun k q1 q2 q3=>h k q1 q2 (by omega)) (by omega) (by omega),List.drop_eq_getElem_cons (by omega),List.drop_eq_getElem_cons (show j<ys.length by omega),lexE];have:=h j (by omega) (by omega) (by omega);rw[if_neg (by omega),if_neg (by omega)]
theorem zpK{xs ys:List Int}{j:Nat}(h:∀k (h1:k<xs.length) (h2:k<ys.length),k<j->xs[k]=ys[k])(h1:j<xs.length)(h2:j<ys.length):lexE xs ys=if xs[j]<ys[j]then -1 else if ys[j]<xs[j]then 1 else lexE (xs.drop (j+1)) (ys.drop (j+1)):=by
 rw[zop h (by omega) (by omega),List.drop_eq_getElem_cons h1,List.drop_eq_getElem_cons h2,lexE]
abbrev stR(w':World)(b:Nat)(A:Option Addr)(l c:Nat)(B:Option Addr)(m d:Nat)(D:Option Addr)(n e:Nat):Prop:=w'.cell? ⟨b,0,none⟩=some (.slice A l c)/\w'.cell? ⟨b,1,none⟩=some (.slice B m d)/\w'.cell? ⟨b,2,none⟩=some (.slice D n e)
theorem bI2R(x y:Int)(w:World):(Instr.buildSlice 30 2 #[(0,.int .i64 x),(1,.int .i64 y)]).run prog w=.ok (.slice (some ⟨w.heap.size,0,none⟩) 2 2) (w.alloc (.cells #[.int .i64 x,.int .i64 y] 3)):=by kernel_rfl
theorem zzX:IsFn prog 126 f126:=⟨func126,by kernel_rfl,by kernel_rfl⟩
theorem zzZ:IsFn prog 127 f127:=⟨func127,by kernel_rfl,by kernel_rfl⟩
def cmF(B:Nat)(wa na wb nb:Int):Nat->Value->List Value->World->Prop
 | 1,v,_,_=>v=.int .i64 wa
 | 5,v,_,w=>∃b,v=.slice (some ⟨b,0,none⟩) 2 2/\B<=b/\w.heap[b]?=some (.cells #[.int .i64 wa,.int .i64 na] 3 (0,0))
 | 7,v,_,_=>v=.int .i64 wb
 | 11,v,_,w=>∃b,v=.slice (some ⟨b,0,none⟩) 2 2/\B<=b/\w.heap[b]?=some (.cells #[.int .i64 wb,.int .i64 nb] 3 (0,0))
 | 12,v,ds,_=>ds=[v]
 | _,_,_,_=>True
def cmD:Nat->List Nat
 | 5=>[1]
 | 11=>[7]
 | 12=>[5]
 | _=>[]
def cmO:Nat->Value->Option Nat
 | 5,v=>v.ownBlock
 | 11,v=>v.ownBlock
 | _,_=>none
theorem zu3{B:Nat}{wa na wb nb:Int}{v:Value}{ds:List Value}{w w':World}(i:Nat)(h:cmF B wa na wb nb i v ds w)(hb:Below w.heap.size w w'):cmF B wa na wb nb i v ds w':=by
 unfold cmF at h ⊢
 split at h<;>try exact h
 all_goals (obtain⟨b,e,h0,h⟩:=h;exact⟨b,e,h0,zkc h hb⟩)
def clF(B0 B2:Nat)(a b:SS):Nat->Value->List Value->World->Prop
 | 1,v,_,w=>∃A c,v=.slice A (a.cells.length+2) c/\zlj w (fun q=>(q<B0\/B2<=q)/\q<w.heap.size) A (lisS a)
 | 3,v,_,w=>∃A c,v=.slice A (b.cells.length+2) c/\zlj w (fun q=>(q<B0\/B2<=q)/\q<w.heap.size) A (lisS b)
 | 4,v,ds,_=>ds=[v]
 | _,_,_,_=>True
def clD:Nat->List Nat
 | 4=>[1]
 | _=>[]
theorem zu4{B0 B2:Nat}{a b:SS}{v:Value}{ds:List Value}{w w':World}(i:Nat)(h:clF B0 B2 a b i v ds w)(hb:Below w.heap.size w w'):clF B0 B2 a b i v ds w':=by
 unfold clF at h ⊢
 split at h<;>try exact h
 all_goals (obtain⟨A,c,e,h⟩:=h;exact⟨A,c,e,h.keep (fun _ h hlt=>⟨h.1,Nat.lt_of_lt_of_le hlt hb.size⟩) fun q _ hlt=>hb.block q hlt⟩)
theorem zrF(a b:SS)(va vb:Value)(w:World)(hva:SV w Any a va)(hvb:SV w Any b vb)(ha:SmC a)(hb:SmC b) :
  Calls prog 92 #[va,vb] w fun e w'=>e=.returned (.int .i64 (cmpE a b))/\Below w.heap.size w w':=by
 have HWA:=zh (fun w' (h:Below w.heap.size w w')=>zoG a va w' (hva.later h) ha.sm);have HWB:=zh (fun w' (h:Below w.heap.size w w')=>zoG b vb w' (hvb.later h) hb.sm);have HLA:=zh (fun w' (h:Below w.heap.size w w')=>zon a va w' ((hva.keep (S':=fun q=>q<w.heap.size) (fun _ _ h=>h) fun _ _ _=>rfl).later h) ha.sm.n);have HLB:=zh (fun w' (h:Below w.heap.size w w')=>zon b vb w' ((hvb.keep (S':=fun q=>q<w.heap.size) (fun _ _ h=>h) fun _ _ _=>rfl).later h) hb.sm.n);have uZ:=zh ha.c;have ma:=zh hb.c;have hna:=ha.n;have hnb:=hb.n;obtain⟨Aa,ca,Ba,da,Da,ea,rfl⟩:∃A c B d D e,va=.agg #[.slice A a.cells.length c,.slice B a.tin.length d,.slice D a.tout.length e]:=by
  obtain⟨A,c,B,d,D,e,rfl,-⟩:=hva;exact⟨_,_,_,_,_,_,rfl⟩
 obtain⟨Ab,cb,Bb,db,Db,eb,rfl⟩:∃A c B d D e,vb=.agg #[.slice A b.cells.length c,.slice B b.tin.length d,.slice D b.tout.length e]:=by
  obtain⟨A,c,B,d,D,e,rfl,-⟩:=hvb;exact⟨_,_,_,_,_,_,rfl⟩
 obtain⟨N,hN⟩:=zX (w.heap.size);have hb1:=zkb (zkb (zs w) (.cells #[.slice Aa a.cells.length ca,.slice Ba a.tin.length da,.slice Da a.tout.length ea] 32)) (.cells #[.slice Ab b.cells.length cb,.slice Bb b.tin.length db,.slice Db b.tout.length eb] 32);have k0:=zke (zln w hN (.cells #[.slice Aa a.cells.length ca,.slice Ba a.tin.length da,.slice Da a.tout.length ea] 32)) (.cells #[.slice Ab b.cells.length cb,.slice Bb b.tin.length db,.slice Db b.tout.length eb] 32);have k1:=zln (w.alloc (.cells #[.slice Aa a.cells.length ca,.slice Ba a.tin.length da,.slice Da a.tout.length ea] 32)) (n:=N+1) (by simp[hN]) (.cells #[.slice Ab b.cells.length cb,.slice Bb b.tin.length db,.slice Db b.tout.length eb] 32)
 obtain⟨w1,hw1⟩:=zX ((w.alloc (.cells #[.slice Aa a.cells.length ca,.slice Ba a.tin.length da,.slice Da a.tout.length ea] 32)).alloc (.cells #[.slice Ab b.cells.length cb,.slice Bb b.tin.length db,.slice Db b.tout.length eb] 32));rw[hw1]at hb1 k0 k1;have HB1:=zh hb1;have aG:=zh k0;have aB:=zh k1;have az:=zh (show ∀w',Below w1.heap.size w1 w'->(fun w':World=>stR w' N Aa a.cells.length ca Ba a.tin.length da Da a.tout.length ea/\stR w' (N+1) Ab b.cells.length cb Bb b.tin.length db Db b.tout.length eb) w' from fun w' hb=>⟨zkz (zkc aG.out hb),zkz (zkc aB.out hb)⟩);clear hva hvb ha hb hb1 k0 k1;go_enter func92,ntmps92;go_upto_region 1 with fail
 try rw[hw1]
 try rw[hN]
 clear hw1 hN;have hI2:=bI2R;have hSS:zW (fun w':World=>stR w' N Aa a.cells.length ca Ba a.tin.length da Da a.tout.length ea/\stR w' (N+1) Ab b.cells.length cb Bb b.tin.length db Db b.tout.length eb) zU w1.drew:=⟨az.out _ zr.drew,trivial⟩
 refine wp_region_noPanic ?_;refine zG hSS 13 ?_;refine zT 0 hSS ?_;refine zT 2 hSS ?_;refine zT 3 hSS ?_;refine zT 4 hSS ?_;refine zT 6 hSS ?_;refine zT 8 hSS ?_;refine zT 9 hSS ?_;refine zT 10 hSS ?_;have hI:(fun w=>Below w1.heap.size w1 w) w1.drew:=zr.drew;clear hSS;refine znn (T:=[(1,13),(5,17),(7,19),(11,23),(12,5)]) (z:=13) (n:=14) cmO cmD 1 (fun w=>Below w1.heap.size w1 w) (cmF w1.heap.size (wt (lisS a)) a.cells.length (wt (lisS b)) b.cells.length) (by kernel_rfl) (by kernel_rfl) (by simp only[putP,Act.put,zD,zE,zF]) (by decide) (by kernel_rfl) (by kernel_rfl) (fun w h=>⟨az.out _ h,trivial⟩) (fun w w' h hb=>zka h hb) (fun i v ds w w' h hb=>zu3 i h hb) (fun q hq=>?_) (fun vs w2 hb2 hF hO=>?_) w1.drew hI
 ·simp only[List.mem_cons,List.not_mem_nil,or_false]at hq;rcases hq with rfl|rfl|rfl|rfl|rfl
  ·intro oi hoi vs K w2 hb2 hd aa;generalize bG:putP vs [(1,13),(5,17),(7,19),(11,23),(12,5)] _=AC at aa ⊢;have hK:=zh aa;clear aa;have had:Calls prog 126 ([.agg #[.slice Aa a.cells.length ca,.slice Ba a.tin.length da,.slice Da a.tout.length ea]].toArray ++ #[]) w2 fun e w'=>∃v,e=.returned v/\(v=.int .i64 (wt (lisS a))/\Below w2.heap.size w2 w') :=
    (HWA.out w2 (zka HB1.out hb2)).mono fun e w' ⟨h1,h2⟩=>⟨_,h1,rfl,h2⟩
   refine zkU hoi (.func 126) [.tmp 12] #[32] (by kernel_rfl) (by kernel_rfl) 126 _ zzX #[] (by rw[<-bG];kernel_rfl) _ (by rw[<-bG];kernel_rfl) _ had ?_;rintro v w3 ⟨hv,hb3⟩;exact hK.out _ _ hb3 (fun b h=>by cases h) hv
  ·intro oi hoi vs K w2 hb2 hd aa;obtain rfl:=Option.some.inj hoi;simp only[putP,Act.put,zA,zB,zC,zD,zE,zF]at aa ⊢;have hK:=zh aa;clear aa hoi;have hv:vs 1=.int .i64 (wt (lisS a)):=hd 1 (by decide);rw[hv]at hK ⊢;go_simp;exact hK.out _ _ (zkb zr _) (fun b h=>by injection h with h;subst h;exact⟨zl,by simp⟩) ⟨w2.heap.size,rfl,hb2.size,heap_alloc_new w2 _⟩
  ·intro oi hoi vs K w2 hb2 hd aa;generalize bG:putP vs [(1,13),(5,17),(7,19),(11,23),(12,5)] _=AC at aa ⊢;have hK:=zh aa;clear aa;have had:Calls prog 126 ([.agg #[.slice Ab b.cells.length cb,.slice Bb b.tin.length db,.slice Db b.tout.length eb]].toArray ++ #[]) w2 fun e w'=>∃v,e=.returned v/\(v=.int .i64 (wt (lisS b))/\Below w2.heap.size w2 w') :=
    (HWB.out w2 (zka HB1.out hb2)).mono fun e w' ⟨h1,h2⟩=>⟨_,h1,rfl,h2⟩
   refine zkU hoi (.func 126) [.tmp 18] #[32] (by kernel_rfl) (by kernel_rfl) 126 _ zzX #[] (by rw[<-bG];kernel_rfl) _ (by rw[<-bG];kernel_rfl) _ had ?_;rintro v w3 ⟨hv,hb3⟩;exact hK.out _ _ hb3 (fun b h=>by cases h) hv
  ·intro oi hoi vs K w2 hb2 hd aa;obtain rfl:=Option.some.inj hoi;simp only[putP,Act.put,zA,zB,zC,zD,zE,zF]at aa ⊢;have hK:=zh aa;clear aa hoi;have hv:vs 7=.int .i64 (wt (lisS b)):=hd 7 (by decide);rw[hv]at hK ⊢;go_simp;exact hK.out _ _ (zkb zr _) (fun b h=>by injection h with h;subst h;exact⟨zl,by simp⟩) ⟨w2.heap.size,rfl,hb2.size,heap_alloc_new w2 _⟩
  ·intro oi hoi vs K w2 hb2 hd aa;obtain rfl:=Option.some.inj hoi;simp only[putP,Act.put,zA,zB,zC,zD,zE,zF]at aa ⊢;have hK:=zh aa;clear aa hoi;go_simp;exact hK.out _ _ zr (fun b h=>by cases h) rfl
 ·obtain⟨bx,hv5,hbx,hkx⟩:=hF (5,17) (by decide);obtain⟨fU,mr,hby,vD⟩:=hF (11,23) (by decide);have mq:[vs 5]=[vs 12]:=hF (12,5) (by decide);have hne:bx≠fU:=fun e=>hO 5 11 (by decide) (by decide) (by decide) bx (by simp only[cmO];simp only at hv5;rw[hv5];rfl) (by simp only[cmO];simp only at mr;rw[mr,e];rfl);simp only[List.cons.injEq,and_true]at mq;simp only at hv5 mr;clear hF hO;simp only[putP,Act.put,zD,zE,zF];rw[<-mq,hv5,mr];generalize vs 1=v1;generalize vs 7=v7;clear hv5 mr mq;refine zp 13 fun K hK=>?_;(try simp only[zA,zB,zC]);go_simp;refine hK.out _ _ (az.out _ hb2) ?_;clear hK K;(try simp only[zQ]);refine zd ?_;refine NoPanic.normal ?_;have HB2:=zh hb2;have HX:=zh (And.intro hbx (And.intro hkx (And.intro hby (And.intro vD hne))));have qo:=zh (fun w' (h:Below w2.heap.size w2 w')=>az.out w' (zka HB2.out h));clear hbx hkx hby vD hne hb2 hI2
  go_upto_region 2 with fail;have hSS:zW (fun w':World=>stR w' N Aa a.cells.length ca Ba a.tin.length da Da a.tout.length ea/\stR w' (N+1) Ab b.cells.length cb Bb b.tin.length db Db b.tout.length eb) zU w2.drew:=⟨qo.out _ zr.drew,trivial⟩
  refine wp_region_noPanic ?_;refine zG hSS 5 ?_;refine zT 0 hSS ?_;refine zT 2 hSS ?_;have hI:(fun w=>Below w2.heap.size w2 w) w2.drew:=zr.drew;clear hSS;refine zoQ (T:=[(1,25),(3,27),(4,7)]) (z:=5) (n:=6) clD 1 (fun w=>Below w2.heap.size w2 w) (clF w.heap.size w2.heap.size a b) (by kernel_rfl) (by kernel_rfl) (by simp only[putP,Act.put,zD,zE,zF]) (by decide) (by kernel_rfl) (by kernel_rfl) (fun w h=>⟨qo.out _ h,trivial⟩) (fun w w' h hb=>zka h hb) (fun i v ds w w' h hb=>zu4 i h hb) (fun q hq=>?_) (fun vs w3 hb3 hF=>?_) w2.drew hI
  ·simp only[List.mem_cons,List.not_mem_nil,or_false]at hq;rcases hq with rfl|rfl|rfl
   ·intro oi hoi vs K w3 hb3 hd aa;generalize bG:putP vs [(1,25),(3,27),(4,7)] _=AC at aa ⊢;have hK:=zh aa;clear aa;have had:Calls prog 127 ([.agg #[.slice Aa a.cells.length ca,.slice Ba a.tin.length da,.slice Da a.tout.length ea]].toArray ++ #[]) w3 fun e w'=>∃v,e=.returned v/\((∃A c,v=.slice A (a.cells.length+2) c/\zlj w' (fun q=>(q<w.heap.size\/w2.heap.size<=q)/\q<w'.heap.size) A (lisS a))/\Below w3.heap.size w3 w') :=
     (HLA.out w3 (zka HB1.out (zka HB2.out hb3))).mono fun e w' ⟨h1,A,c,h2,h3⟩=>⟨_,h2,⟨A,c,rfl,h3.keep (fun q h hlt=>⟨h.imp id fun h=>Nat.le_trans hb3.size h,hlt⟩) fun _ _ _=>rfl⟩,h1⟩
    refine zkU hoi (.func 127) [.tmp 24] #[32] (by kernel_rfl) (by kernel_rfl) 127 _ zzZ #[] (by rw[<-bG];kernel_rfl) _ (by rw[<-bG];kernel_rfl) _ had ?_;rintro v w4 ⟨hv,hb4⟩;exact hK.out _ _ hb4 hv
   ·intro oi hoi vs K w3 hb3 hd aa;generalize bG:putP vs [(1,25),(3,27),(4,7)] _=AC at aa ⊢;have hK:=zh aa;clear aa;have had:Calls prog 127 ([.agg #[.slice Ab b.cells.length cb,.slice Bb b.tin.length db,.slice Db b.tout.length eb]].toArray ++ #[]) w3 fun e w'=>∃v,e=.returned v/\((∃A c,v=.slice A (b.cells.length+2) c/\zlj w' (fun q=>(q<w.heap.size\/w2.heap.size<=q)/\q<w'.heap.size) A (lisS b))/\Below w3.heap.size w3 w') :=
     (HLB.out w3 (zka HB1.out (zka HB2.out hb3))).mono fun e w' ⟨h1,A,c,h2,h3⟩=>⟨_,h2,⟨A,c,rfl,h3.keep (fun q h hlt=>⟨h.imp id fun h=>Nat.le_trans hb3.size h,hlt⟩) fun _ _ _=>rfl⟩,h1⟩
    refine zkU hoi (.func 127) [.tmp 26] #[32] (by kernel_rfl) (by kernel_rfl) 127 _ zzZ #[] (by rw[<-bG];kernel_rfl) _ (by rw[<-bG];kernel_rfl) _ had ?_;rintro v w4 ⟨hv,hb4⟩;exact hK.out _ _ hb4 hv
   ·intro oi hoi vs K w3 hb3 hd aa;obtain rfl:=Option.some.inj hoi;simp only[putP,Act.put,zA,zB,zC,zD,zE,zF]at aa ⊢;have hK:=zh aa;clear aa hoi;go_simp;exact hK.out _ _ zr rfl
  ·obtain⟨A1,c1,hv1,hr1⟩:=hF (1,25) (by decide);obtain⟨A3,c3,hv3,hr3⟩:=hF (3,27) (by decide);have hv4:[vs 1]=[vs 4]:=hF (4,7) (by decide);simp only[List.cons.injEq,and_true]at hv4;simp only at hv1 hv3;clear hF;simp only[putP,Act.put,zD,zE,zF];rw[<-hv4,hv1,hv3];clear hv1 hv3 hv4;refine zp 5 fun K hK=>?_;(try simp only[zA,zB,zC]);go_simp;refine hK.out _ _ (qo.out _ hb3) ?_;clear hK K;(try simp only[zQ]);refine zd ?_;refine NoPanic.normal ?_;have HB3:=zh (zka HB2.out hb3);obtain⟨hbx,hkx,hby,vD,hne⟩:=HX.out;have hbx2:=zko hkx;have hby2:=zko vD;have hB1s:=HB1.out.size;have hB2s:=HB2.out.size;have BP:=zh (hr1.keep (w':=w3) (S':=fun q=>¬ (q=bx\/q=fU\/w3.heap.size<=q)) (fun q hq hlt e=>by have:=hq.1;have:=hq.2;rcases e with e|e|e<;>omega) fun _ _ _=>rfl)
   have dD:=zh (hr3.keep (w':=w3) (S':=fun q=>¬ (q=bx\/q=fU\/w3.heap.size<=q)) (fun q hq hlt e=>by have:=hq.1;have:=hq.2;rcases e with e|e|e<;>omega) fun _ _ _=>rfl);have lW:=zh (show XY w3 (fun q=>q=bx\/q=fU\/w3.heap.size<=q) w3 (some ⟨bx,0,none⟩) 2 2 (some ⟨fU,0,none⟩) 2 2 [wt (lisS a),(a.cells.length:Int)] [wt (lisS b),(b.cells.length:Int)]from
    ⟨Chg.refl _ _,fun b h=>.inr (.inr h),⟨rfl,.inr ⟨bx,2,_,rfl,Nat.zero_le _,zkc hkx hb3,zl,by unfold maxLen;omega,rfl,rfl⟩⟩,⟨rfl,.inr ⟨fU,2,_,rfl,Nat.zero_le _,zkc vD hb3,zl,by unfold maxLen;omega,rfl,rfl⟩⟩,
     fun b h=>by injection h with h;exact .inl h.symm,fun b h=>by injection h with h;exact .inr (.inl h.symm),fun b h1 h2=>by injection h1 with h1;injection h2 with h2;have h1:bx=b:=h1;have h2:fU=b:=h2;omega⟩)
   have bS:=zh (fun w' (h:Chg (fun q=>q=bx\/q=fU\/w3.heap.size<=q) w3 w')=>show Below w.heap.size w w' from(zka HB1.out HB3.out).trans (h.below (zka HB1.out HB3.out).size fun q e=>by have:=HB3.out.size;rcases e with e|e|e<;>omega));obtain⟨C,hC⟩:∃C:Nat->Prop,∀q,(q=bx\/q=fU\/w3.heap.size<=q)=C q:=⟨fun q=>q=bx\/q=fU\/w3.heap.size<=q,fun _=>rfl⟩
   simp only[hC]at BP dD lW bS;have qx:=zh zqY;have bO:=zh (show(lisS a).length=a.cells.length+2 by simp[lisS]);have xL:=zh (show(lisS b).length=b.cells.length+2 by simp[lisS]);obtain⟨L,hL⟩:=zX (lisS a);obtain⟨M,hM⟩:=zX (lisS b);obtain⟨nl,hnl⟩:=zX (a.cells.length+2);obtain⟨nm,hnm⟩:=zX (b.cells.length+2);have Ci:=zh (show[wt (lisS a),(a.cells.length:Int)]++keyA L M=keyE a b by rw[<-hL,<-hM];rfl);have Ch:=zh (show[wt (lisS b),(b.cells.length:Int)]++keyA M L=keyE b a by rw[<-hL,<-hM];rfl);rw[hL]at bO BP uZ;rw[hM]at xL dD ma;rw[hnl]at bO ⊢;rw[hnm]at xL ⊢;have sS:nl<=102:=by omega
   have sQ:nm<=102:=by omega
   obtain⟨x0,hx0⟩:=zX ([wt (lisS a),(a.cells.length:Int)]);obtain⟨y0,hy0⟩:=zX ([wt (lisS b),(b.cells.length:Int)]);rw[hx0]at lW Ci;rw[hy0]at lW Ch;clear hr1 hr3 hbx hkx hby vD hne hbx2 hby2 hB1s hB2s hC hL hM hnl hnm hx0 hy0 hb3 HX HB1 HB2 HB3 az qo HLA HLB HWA HWB aG aB;clear hna hnb;have hI1:=bI1R;go_wp2_with fail
   go_loopw [9,5,6] (fun i xv yv wr=>∃(j p:Nat) (Ax:Option Addr) (cx:Nat) (Ay:Option Addr) (cy:Nat) (xs ys:List Int),j<=nl/\j<=nm/\i=.int .i64 j/\xv=.slice Ax p cx/\yv=.slice Ay p cy/\p<=2+j*1001/\Hid (XY w3 C wr Ax cx p Ay cy p xs ys)/\Hid (xs++keyA (L.drop j) (M.drop j)=keyE a b/\ys++keyA (M.drop j) (L.drop j)=keyE b a)) (fun i _ _ _=>nl+nm-(intOf i).toNat)
   case atStart=>exact⟨0,2,_,_,_,_,_,_,by omega,by omega,rfl,rfl,rfl,by omega,lW,zh ⟨Ci.out,Ch.out⟩⟩
   case round =>
    clear lW Ci Ch;obtain⟨j,p,Ax,cx,Ay,cy,xs,ys,hj1,hj2,rfl,rfl,rfl,hp,lW,HKK⟩:=hrel;obtain⟨W9,rfl⟩:∃x,x=wr:=⟨_,rfl⟩
    by_cases hlt:j<nl/\j<nm
    ·have hja:(j:Int)<(nl:Int):=by omega
     have hjb:(j:Int)<(nm:Int):=by omega
     have hj0:(0:Int)<=(j:Int):=by omega
     have hjl:j<L.length:=by rw[bO.out];exact hlt.1
     have hjm:j<M.length:=by rw[xL.out];exact hlt.2
     obtain⟨al,l,A5,c5,rfl,Hl,hlc,hLj⟩:=ztU BP.out hjl;obtain⟨am,m,A6,c6,rfl,Hm,hmc,hMj⟩:=ztU dD.out hjm;have rM:=zh (zqA hjl hjm);have oQ:=zh (zqA hjm hjl);have hls:=uZ.out _ (List.getElem_mem hjl);have hms:=ma.out _ (List.getElem_mem hjm);rw[Hl.out]at rM oQ hls;rw[Hm.out]at rM oQ hms;have nP:=zh hls.2;have HMS:=zh hms.2;have hl3:=hls.1;have wQ:=hms.1;have rJ:=zh hLj;have wh:=zh hMj;clear hls hms hLj hMj Hl Hm hjl hjm;obtain⟨z1,-⟩:=rJ.out _ lW.out.bl;obtain⟨ll,hll⟩:=zX (l.length);obtain⟨ml,kM⟩:=zX (m.length);have bF:=zh (And.intro hll kM);rw[hll]at z1 hl3;rw[kM]at wQ;have hIx:=bI1R;clear hll kM;go_wp2_with (at_builtin;first
      | (refine zki rfl (.tmp 40) (.tmp 46) rfl underlying30 zlP rfl (by decide) (by decide) 0 (.slice Ax (p) cx) (p) (zkg xs) rfl (zkp lW.out.x (zkb zr _)) (some ⟨W9.heap.size,0,none⟩) 1 1 [.int .i64 (ll:Int)] rfl rfl (fun e=>by cases e) (zl1 W9 _ _) (zoj _) (by omega) (Nat.zero_le _) ?_;intro v9 w9 ho hg aj;obtain⟨Ax1,cx1,rfl,qh⟩:=lW.out.px ho hg aj;clear ho hg aj;have z2:=(wh.out _ qh.out.bl).1;rw[bF.out.2]at z2)
      | (refine zki rfl (.tmp 48) (.tmp 54) rfl underlying30 zlP rfl (by decide) (by decide) 0 (.slice Ay (p) cy) (p) (zkg ys) rfl (zkp qh.out.y (zkb zr _)) (some ⟨w9.heap.size,0,none⟩) 1 1 [.int .i64 (ml:Int)] rfl rfl (fun e=>by cases e) (zl1 w9 _ _) (zoj _) (by omega) (Nat.zero_le _) ?_;intro v9 aV ho hg aj;obtain⟨Ay1,cy1,rfl,bJ⟩:=qh.out.py ho hg aj;clear ho hg aj))
     clear z1 z2 lW qh
     go_loopw [10,5,6] (fun i xv yv wr=>∃(k:Nat) (Ax:Option Addr) (cx:Nat) (Ay:Option Addr) (cy:Nat),k<=ll/\k<=ml/\i=.int .i64 k/\xv=.slice Ax (p+1+k) cx/\yv=.slice Ay (p+1+k) cy/\Hid (XY w3 C wr Ax cx (p+1+k) Ay cy (p+1+k) (xs++[(ll:Int)]++(l.take k).map rnk) (ys++[(ml:Int)]++(m.take k).map rnk))) (fun i _ _ _=>ll+ml-(intOf i).toNat)
     case atStart=>exact⟨0,_,_,_,_,by omega,by omega,rfl,rfl,rfl,by simpa using bJ⟩
     case round =>
      clear bJ;obtain⟨k,CG,Bu,CE,Bt,hk1,hk2,rfl,rfl,rfl,bJ⟩:=hrel;have hk0:(0:Int)<=(k:Int):=by omega
      obtain⟨z1,yh⟩:=rJ.out _ bJ.out.bl;obtain⟨z2,zk⟩:=wh.out _ bJ.out.bl;rw[bF.out.1]at z1;rw[bF.out.2]at z2;by_cases hkk:k<ll/\k<ml
      ·have hka:(k:Int)<(ll:Int):=by omega
       have hkb:(k:Int)<(ml:Int):=by omega
       have hkl:k<l.length:=by rw[bF.out.1];exact hkk.1
       have vE:k<m.length:=by rw[bF.out.2];exact hkk.2
       obtain⟨a5,e5,-,hx,-⟩:=yh k hkl;subst e5;have hrx:=nP.out _ (List.getElem_mem hkl);have pq:=HMS.out _ (List.getElem_mem vE);have yM:=zh (show xs++[(ll:Int)]++(l.take (k+1)).map rnk=(xs++[(ll:Int)]++(l.take k).map rnk)++[rnk l[k]] by rw[List.take_succ_eq_append_getElem hkl,List.map_append,<-List.append_assoc];rfl);have yL:=zh (show ys++[(ml:Int)]++(m.take (k+1)).map rnk=(ys++[(ml:Int)]++(m.take k).map rnk)++[rnk m[k]] by rw[List.take_succ_eq_append_getElem vE,List.map_append,<-List.append_assoc];rfl);obtain⟨lk,hlk⟩:=zX (l[k]);obtain⟨mk,hmk⟩:=zX (m[k]);have Ca:=zh (show ∀w',Chg C w3 w'->∃a6,A6=some a6/\w'.cell? (a6.add k)=some (.int .i64 mk)from fun w' h=>by
        obtain⟨a6,e6,-,hx6,-⟩:=(wh.out w' h).2 k vE;rw[hmk]at hx6;exact⟨a6,e6,hx6⟩)
       rw[hlk]at hx hrx yM;rw[hmk]at pq yL;have kW:=zh (fun w=>qx.out lk w hrx);have HRY:=zh (fun w=>qx.out mk w pq);clear hlk hmk hrx pq yh zk hkl vE;obtain⟨X,hX⟩:=zX (xs++[(ll:Int)]++(l.take k).map rnk);obtain⟨Y,hY⟩:=zX (ys++[(ml:Int)]++(m.take k).map rnk);rw[hX]at yM bJ;rw[hY]at yL bJ;clear hX hY;obtain⟨W8,rfl⟩:∃x,x=wr:=⟨_,rfl⟩
       go_wp2_with fail;refine(kW.out _).mono ?_;rintro e w9 ⟨rfl,rfl⟩;obtain⟨rx,hrx⟩:=zX (rnk lk);rw[hrx]at yM ⊢;clear hrx;go_wp2_with (at_builtin;(refine zki rfl (.tmp 74) (.tmp 83) rfl underlying30 zlP rfl (by decide) (by decide) 0 (.slice CG (p+1+k) Bu) (p+1+k) (zkg X) rfl (zkp bJ.out.x (zkb zr _)) (some ⟨w9.heap.size,0,none⟩) 1 1 [.int .i64 rx] rfl rfl (fun e=>by cases e) (zl1 w9 _ _) (zoj _) (by omega) (Nat.zero_le _) ?_;intro v9 aR ho hg aj;obtain⟨Ax3,cx3,rfl,qg⟩:=bJ.out.px ho hg aj;clear ho hg aj;obtain⟨a6,rfl,hx7⟩:=Ca.out _ qg.out.bl;have z3:=(wh.out _ qg.out.bl).1;rw[bF.out.2]at z3))
       refine(HRY.out _).mono ?_;rintro e jc ⟨rfl,rfl⟩;obtain⟨ry,pq⟩:=zX (rnk mk);rw[pq]at yL ⊢;clear pq;go_wp2_with (at_builtin;(refine zki rfl (.tmp 85) (.tmp 94) rfl underlying30 zlP rfl (by decide) (by decide) 0 (.slice CE (p+1+k) Bt) (p+1+k) (zkg Y) rfl (zkp qg.out.y (zkb zr _)) (some ⟨jc.heap.size,0,none⟩) 1 1 [.int .i64 ry] rfl rfl (fun e=>by cases e) (zl1 jc _ _) (zoj _) (by omega) (Nat.zero_le _) ?_;intro v9 lJ ho hg aj;obtain⟨Ay3,cy3,rfl,HXY4⟩:=qg.out.py ho hg aj;clear ho hg aj))
       go_roundw
       case rel=>exact⟨k+1,_,_,_,_,by omega,by omega,by go_num,rfl,rfl,by rw[yM.out,yL.out];exact HXY4⟩
       case measure=>simp[intOf];omega
      ·have hll9:k=ll\/k=ml:=by omega
       have nI:=zh (show xs++[(ll:Int)]++(l.take k).map rnk=xs++((l.length:Int)::(l.take m.length).map rnk) by
        rw[zrP (l:=l) (k:=k) (m:=m.length) (by have:=bF.out;omega),bF.out.1];simp)
       have xD:=zh (show ys++[(ml:Int)]++(m.take k).map rnk=ys++((m.length:Int)::(m.take l.length).map rnk) by
        rw[zrP (l:=m) (k:=k) (m:=l.length) (by have:=bF.out;omega),bF.out.2];simp)
       obtain⟨X9,hX⟩:=zX (xs++[(ll:Int)]++(l.take k).map rnk);obtain⟨Y9,hY⟩:=zX (ys++[(ml:Int)]++(m.take k).map rnk);obtain⟨p9,hp9⟩:=zX (p+1+k);have hp9b:p9<=2+(j+1)*1001:=by omega
       rw[hX]at bJ nI;rw[hY]at bJ xD;rw[hp9]at bJ ⊢;clear hX hY hp9;by_cases hne:ll=ml
       ·have hnb:((ll:Int) != (ml:Int))=false:=by simp[hne]
        have vZ:=zh hne;have gy:=zh (show X9++keyA (L.drop (j+1)) (M.drop (j+1))=keyE a b/\Y9++keyA (M.drop (j+1)) (L.drop (j+1))=keyE b a by
         have h1:=HKK.out;have h2:=bF.out;rw[rM.out,oQ.out,if_pos (by omega),if_pos (by omega),<-List.append_assoc,<-List.append_assoc,<-nI.out,<-xD.out]at h1;exact h1)
        clear hne;by_cases aL:k<ll
        ·have hka:(k:Int)<(ll:Int):=by omega
         have hkb:¬ (k:Int)<(ml:Int):=by omega
         go_upto_region 13 with fail
         go_quiet (fail)
         have aP:=zh (bJ.out.drew nq);go_wp2_with fail
         go_roundw
         case rel=>exact⟨j+1,p9,_,_,_,_,_,_,by omega,by omega,by go_num,rfl,rfl,hp9b,aP,gy⟩
         case measure=>simp[intOf];omega
        ·have hka:¬ (k:Int)<(ll:Int):=by omega
         go_upto_region 13 with fail
         go_quiet (fail)
         have aP:=zh (bJ.out.drew nq);go_wp2_with fail
         go_roundw
         case rel=>exact⟨j+1,p9,_,_,_,_,_,_,by omega,by omega,by go_num,rfl,rfl,hp9b,aP,gy⟩
         case measure=>simp[intOf];omega
       ·have hnb:((ll:Int) != (ml:Int))=true:=by simp;omega
        have HCM:=zh (show cmpE a b=lexE X9 Y9 by
         have h1:=HKK.out;have h2:=bF.out;rw[rM.out,oQ.out,if_neg (by omega),if_neg (by omega),List.append_nil,List.append_nil,<-nI.out,<-xD.out]at h1;rw[h1.1,h1.2];rfl)
        by_cases aL:k<ll
        ·have hka:(k:Int)<(ll:Int):=by omega
         have hkb:¬ (k:Int)<(ml:Int):=by omega
         go_upto_region 13 with fail
         go_quiet (fail)
         have aP:=zh (bJ.out.drew nq);obtain⟨wq,hwq⟩:=zX (wr.drewN nq);rw[hwq]at aP ⊢;clear hwq rM oQ rJ wh HKK nI xD z1 z2 yh zk bJ;clear nq;go_wp2_with fail
         go_loopw [11] (fun i wr=>∃j:Nat,j<=p9/\i=.int .i64 j/\Hid (XY w3 C wr CG Bu p9 CE Bt p9 X9 Y9)/\Hid (∀k (h1:k<X9.length) (h2:k<Y9.length),k<j->X9[k]=Y9[k])) (fun i _=>p9-(intOf i).toNat)
         case atStart=>exact⟨0,by omega,rfl,aP,zh fun k _ _ h=>by omega⟩
         case round =>
          clear aP;obtain⟨j9,Aw,rfl,aP,il⟩:=hrel;have hlx:=zmr aP.out.x;have pJ:=zmr aP.out.y;by_cases hjp:j9<p9
          ·have hj1:(j9:Int)<(p9:Int):=by omega
           have hj0:(0:Int)<=(j9:Int):=by omega
           have jA:j9<X9.length:=by omega
           have jy:j9<Y9.length:=by omega
           obtain⟨ax,ex,y1⟩:=znG aP.out.x jA;obtain⟨ay,ey,y2⟩:=znG aP.out.y jy;have fE:=zh (zpK il.out jA jy);have gG:=zh (fun(h:X9[j9]=Y9[j9])=>show ∀k (h1:k<X9.length) (h2:k<Y9.length),k<j9+1->X9[k]=Y9[k]from fun k h1 h2 hk=>by
            by_cases e:k<j9
            ·exact il.out k h1 h2 e
            ·obtain rfl:k=j9:=by omega
             exact h)
           obtain⟨xj,hxj⟩:=zX (X9[j9]);obtain⟨yj,hyj⟩:=zX (Y9[j9]);rw[hxj]at y1 fE gG;rw[hyj]at y2 fE gG;subst ex ey;clear hxj hyj jA jy hlx pJ;go_upto_region 17 with fail
           go_quiet (fail)
           have fO:=zh (aP.out.drew nq);by_cases hc1:xj<yj
           ·go_wp2_with fail;go_ret;exact⟨by rw[show cmpE a b = -1 by rw[HCM.out,fE.out,if_pos hc1]];rfl,bS.out _ fO.out.bl⟩
           go_upto_region 19 with fail;have y1':=zb (zkm (zs wr) nq) y1;have y2':=zb (zkm (zs wr) nq) y2;obtain⟨wq,hwq⟩:=zX (wr.drewN nq);rw[hwq]at y1' y2' fO ⊢;clear hwq y1 y2;clear nq
           go_quiet (fail)
           have bC:=zh (fO.out.drew nq);by_cases hc2:yj<xj
           ·go_wp2_with fail;go_ret;exact⟨by rw[show cmpE a b=1 by rw[HCM.out,fE.out,if_neg (by omega),if_pos hc2]];rfl,bS.out _ bC.out.bl⟩
           have jT:=zh (gG.out (by omega));go_wp2_with fail
           go_roundw
           case rel=>exact⟨j9+1,by omega,by go_num,bC,jT⟩
           case measure=>simp[intOf];omega
          ·obtain rfl:j9=p9:=by omega
           have hj1:¬ (j9:Int)<(j9:Int):=by omega
           go_wp2_with fail;go_ret;exact⟨by rw[show cmpE a b=0 by rw[HCM.out,zop il.out (by omega) (by omega),List.drop_eq_nil_of_le (by omega)];rfl];rfl,bS.out _ aP.out.bl⟩
        ·have hka:¬ (k:Int)<(ll:Int):=by omega
         go_upto_region 13 with fail
         go_quiet (fail)
         have aP:=zh (bJ.out.drew nq);obtain⟨wq,hwq⟩:=zX (wr.drewN nq);rw[hwq]at aP ⊢;clear hwq rM oQ rJ wh HKK nI xD z1 z2 yh zk bJ;clear nq;go_wp2_with fail
         go_loopw [11] (fun i wr=>∃j:Nat,j<=p9/\i=.int .i64 j/\Hid (XY w3 C wr CG Bu p9 CE Bt p9 X9 Y9)/\Hid (∀k (h1:k<X9.length) (h2:k<Y9.length),k<j->X9[k]=Y9[k])) (fun i _=>p9-(intOf i).toNat)
         case atStart=>exact⟨0,by omega,rfl,aP,zh fun k _ _ h=>by omega⟩
         case round =>
          clear aP;obtain⟨j9,Aw,rfl,aP,il⟩:=hrel;have hlx:=zmr aP.out.x;have pJ:=zmr aP.out.y;by_cases hjp:j9<p9
          ·have hj1:(j9:Int)<(p9:Int):=by omega
           have hj0:(0:Int)<=(j9:Int):=by omega
           have jA:j9<X9.length:=by omega
           have jy:j9<Y9.length:=by omega
           obtain⟨ax,ex,y1⟩:=znG aP.out.x jA;obtain⟨ay,ey,y2⟩:=znG aP.out.y jy;have fE:=zh (zpK il.out jA jy);have gG:=zh (fun(h:X9[j9]=Y9[j9])=>show ∀k (h1:k<X9.length) (h2:k<Y9.length),k<j9+1->X9[k]=Y9[k]from fun k h1 h2 hk=>by
            by_cases e:k<j9
            ·exact il.out k h1 h2 e
            ·obtain rfl:k=j9:=by omega
             exact h)
           obtain⟨xj,hxj⟩:=zX (X9[j9]);obtain⟨yj,hyj⟩:=zX (Y9[j9]);rw[hxj]at y1 fE gG;rw[hyj]at y2 fE gG;subst ex ey;clear hxj hyj jA jy hlx pJ;go_upto_region 17 with fail
           go_quiet (fail)
           have fO:=zh (aP.out.drew nq);by_cases hc1:xj<yj
           ·go_wp2_with fail;go_ret;exact⟨by rw[show cmpE a b = -1 by rw[HCM.out,fE.out,if_pos hc1]];rfl,bS.out _ fO.out.bl⟩
           go_upto_region 19 with fail;have y1':=zb (zkm (zs wr) nq) y1;have y2':=zb (zkm (zs wr) nq) y2;obtain⟨wq,hwq⟩:=zX (wr.drewN nq);rw[hwq]at y1' y2' fO ⊢;clear hwq y1 y2;clear nq
           go_quiet (fail)
           have bC:=zh (fO.out.drew nq);by_cases hc2:yj<xj
           ·go_wp2_with fail;go_ret;exact⟨by rw[show cmpE a b=1 by rw[HCM.out,fE.out,if_neg (by omega),if_pos hc2]];rfl,bS.out _ bC.out.bl⟩
           have jT:=zh (gG.out (by omega));go_wp2_with fail
           go_roundw
           case rel=>exact⟨j9+1,by omega,by go_num,bC,jT⟩
           case measure=>simp[intOf];omega
          ·obtain rfl:j9=p9:=by omega
           have hj1:¬ (j9:Int)<(j9:Int):=by omega
           go_wp2_with fail;go_ret;exact⟨by rw[show cmpE a b=0 by rw[HCM.out,zop il.out (by omega) (by omega),List.drop_eq_nil_of_le (by omega)];rfl];rfl,bS.out _ aP.out.bl⟩
    ·have aP:=lW;have HCM:=zh (show cmpE a b=lexE xs ys by
      have h1:=HKK.out;rw[zsj (by rw[bO.out,xL.out];exact hlt),zsj (by rw[bO.out,xL.out];omega),List.append_nil,List.append_nil]at h1;rw[h1.1,h1.2];rfl)
     clear HKK lW;by_cases aL:j<nl
     ·have hka:(j:Int)<(nl:Int):=by omega
      have hkb:¬ (j:Int)<(nm:Int):=by omega
      go_wp2_with fail
      go_loopw [11] (fun i wr=>∃j:Nat,j<=p/\i=.int .i64 j/\Hid (XY w3 C wr Ax cx p Ay cy p xs ys)/\Hid (∀k (h1:k<xs.length) (h2:k<ys.length),k<j->xs[k]=ys[k])) (fun i _=>p-(intOf i).toNat)
      case atStart=>exact⟨0,by omega,rfl,aP,zh fun k _ _ h=>by omega⟩
      case round =>
       clear aP;obtain⟨j9,Aw,rfl,aP,il⟩:=hrel;have hlx:=zmr aP.out.x;have pJ:=zmr aP.out.y;by_cases hjp:j9<p
       ·have hj1:(j9:Int)<(p:Int):=by omega
        have hj0:(0:Int)<=(j9:Int):=by omega
        have jA:j9<xs.length:=by omega
        have jy:j9<ys.length:=by omega
        obtain⟨ax,ex,y1⟩:=znG aP.out.x jA;obtain⟨ay,ey,y2⟩:=znG aP.out.y jy;have fE:=zh (zpK il.out jA jy);have gG:=zh (fun(h:xs[j9]=ys[j9])=>show ∀k (h1:k<xs.length) (h2:k<ys.length),k<j9+1->xs[k]=ys[k]from fun k h1 h2 hk=>by
         by_cases e:k<j9
         ·exact il.out k h1 h2 e
         ·obtain rfl:k=j9:=by omega
          exact h)
        obtain⟨xj,hxj⟩:=zX (xs[j9]);obtain⟨yj,hyj⟩:=zX (ys[j9]);rw[hxj]at y1 fE gG;rw[hyj]at y2 fE gG;subst ex ey;clear hxj hyj jA jy hlx pJ;go_upto_region 17 with fail
        go_quiet (fail)
        have fO:=zh (aP.out.drew nq);by_cases hc1:xj<yj
        ·go_wp2_with fail;go_ret;exact⟨by rw[show cmpE a b = -1 by rw[HCM.out,fE.out,if_pos hc1]];rfl,bS.out _ fO.out.bl⟩
        go_upto_region 19 with fail;have y1':=zb (zkm (zs wr) nq) y1;have y2':=zb (zkm (zs wr) nq) y2;obtain⟨wq,hwq⟩:=zX (wr.drewN nq);rw[hwq]at y1' y2' fO ⊢;clear hwq y1 y2;clear nq
        go_quiet (fail)
        have bC:=zh (fO.out.drew nq);by_cases hc2:yj<xj
        ·go_wp2_with fail;go_ret;exact⟨by rw[show cmpE a b=1 by rw[HCM.out,fE.out,if_neg (by omega),if_pos hc2]];rfl,bS.out _ bC.out.bl⟩
        have jT:=zh (gG.out (by omega));go_wp2_with fail
        go_roundw
        case rel=>exact⟨j9+1,by omega,by go_num,bC,jT⟩
        case measure=>simp[intOf];omega
       ·obtain rfl:j9=p:=by omega
        have hj1:¬ (j9:Int)<(j9:Int):=by omega
        go_wp2_with fail;go_ret;exact⟨by rw[show cmpE a b=0 by rw[HCM.out,zop il.out (by omega) (by omega),List.drop_eq_nil_of_le (by omega)];rfl];rfl,bS.out _ aP.out.bl⟩
     ·have hka:¬ (j:Int)<(nl:Int):=by omega
      go_wp2_with fail
      go_loopw [11] (fun i wr=>∃j:Nat,j<=p/\i=.int .i64 j/\Hid (XY w3 C wr Ax cx p Ay cy p xs ys)/\Hid (∀k (h1:k<xs.length) (h2:k<ys.length),k<j->xs[k]=ys[k])) (fun i _=>p-(intOf i).toNat)
      case atStart=>exact⟨0,by omega,rfl,aP,zh fun k _ _ h=>by omega⟩
      case round =>
       clear aP;obtain⟨j9,Aw,rfl,aP,il⟩:=hrel;have hlx:=zmr aP.out.x;have pJ:=zmr aP.out.y;by_cases hjp:j9<p
       ·have hj1:(j9:Int)<(p:Int):=by omega
        have hj0:(0:Int)<=(j9:Int):=by omega
        have jA:j9<xs.length:=by omega
        have jy:j9<ys.length:=by omega
        obtain⟨ax,ex,y1⟩:=znG aP.out.x jA;obtain⟨ay,ey,y2⟩:=znG aP.out.y jy;have fE:=zh (zpK il.out jA jy);have gG:=zh (fun(h:xs[j9]=ys[j9])=>show ∀k (h1:k<xs.length) (h2:k<ys.length),k<j9+1->xs[k]=ys[k]from fun k h1 h2 hk=>by
         by_cases e:k<j9
         ·exact il.out k h1 h2 e
         ·obtain rfl:k=j9:=by omega
          exact h)
        obtain⟨xj,hxj⟩:=zX (xs[j9]);obtain⟨yj,hyj⟩:=zX (ys[j9]);rw[hxj]at y1 fE gG;rw[hyj]at y2 fE gG;subst ex ey;clear hxj hyj jA jy hlx pJ;go_upto_region 17 with fail
        go_quiet (fail)
        have fO:=zh (aP.out.drew nq);by_cases hc1:xj<yj
        ·go_wp2_with fail;go_ret;exact⟨by rw[show cmpE a b = -1 by rw[HCM.out,fE.out,if_pos hc1]];rfl,bS.out _ fO.out.bl⟩
        go_upto_region 19 with fail;have y1':=zb (zkm (zs wr) nq) y1;have y2':=zb (zkm (zs wr) nq) y2;obtain⟨wq,hwq⟩:=zX (wr.drewN nq);rw[hwq]at y1' y2' fO ⊢;clear hwq y1 y2;clear nq
        go_quiet (fail)
        have bC:=zh (fO.out.drew nq);by_cases hc2:yj<xj
        ·go_wp2_with fail;go_ret;exact⟨by rw[show cmpE a b=1 by rw[HCM.out,fE.out,if_neg (by omega),if_pos hc2]];rfl,bS.out _ bC.out.bl⟩
        have jT:=zh (gG.out (by omega));go_wp2_with fail
        go_roundw
        case rel=>exact⟨j9+1,by omega,by go_num,bC,jT⟩
        case measure=>simp[intOf];omega
       ·obtain rfl:j9=p:=by omega
        have hj1:¬ (j9:Int)<(j9:Int):=by omega
        go_wp2_with fail;go_ret;exact⟨by rw[show cmpE a b=0 by rw[HCM.out,zop il.out (by omega) (by omega),List.drop_eq_nil_of_le (by omega)];rfl];rfl,bS.out _ aP.out.bl⟩
end
section
open Go Go.RowKit
theorem znw:∀(a b:List SS),(zlb a b).length=a.length+b.length
 | [],b=>by unfold zlb;simp
 | x::a,[]=>by unfold zlb;simp
 | x::a,y::b=>by
  rw[zlb]
  split
  ·rw[List.length_cons,znw (x::a) b];simp;omega
  ·rw[List.length_cons,znw a (y::b)];simp;omega
 termination_by a b=>a.length+b.length
theorem zo0(b:List SS):zlb [] b=b:=by unfold zlb;rfl
theorem zol(a:List SS):zlb a []=a:=by cases a<;>unfold zlb<;>rfl
theorem znv{s:SS}:∀(a b:List SS),s∈zlb a b->s∈a\/s∈b
 | [],b,h=>.inr (by rwa[zo0]at h)
 | x::a,[],h=>.inl (by rwa[zol]at h)
 | x::a,y::b,h=>by
  rw[zlb]at h
  split at h
  ·rcases List.mem_cons.1 h with rfl|h
   ·exact .inr (by simp)
   ·exact(znv (x::a) b h).imp id (List.mem_cons_of_mem _)
  ·rcases List.mem_cons.1 h with rfl|h
   ·exact .inl (by simp)
   ·exact(znv a (y::b) h).imp (List.mem_cons_of_mem _) id
 termination_by a b=>a.length+b.length
theorem zod:∀(n:Nat) (l:List SS),l.length=n->(zli l).length=n:=by
 intro n
 induction n using Nat.strongRecOn with
 | _ n ih =>
  intro l hl;unfold zli
  split
  ·exact hl
  ·rw[znw,ih (l.length / 2) (by omega) _ (by simp;omega),ih (l.length-l.length / 2) (by omega) _ (by simp)];omega
theorem zqn{s:SS}:∀(n:Nat) (l:List SS),l.length=n->s∈zli l->s∈l:=by
 intro n
 induction n using Nat.strongRecOn with
 | _ n ih =>
  intro l hl h;unfold zli at h
  split at h
  ·exact h
  ·rcases znv _ _ h with h|h
   ·exact List.mem_of_mem_take (ih (l.length / 2) (by omega) _ (by simp;omega) h)
   ·exact List.mem_of_mem_drop (ih (l.length-l.length / 2) (by omega) _ (by simp) h)
theorem ztM{l:List SS}(h:¬ l.length<2):zli l=zlb (zli (l.take (l.length / 2))) (zli (l.drop (l.length / 2))):=by
 rw[zli,dif_neg h]
theorem ztN{l:List SS}(h:l.length<2):zli l=l:=by
 rw[zli,dif_pos h]
def zk8(w:World)(A:Option Addr)(ss:List SS):Prop :=
 ∀k (hk:k<ss.length),∃b o u v x,A=some ⟨b,o,none⟩/\w.cell? ⟨b,o+k*3,none⟩=some u/\w.cell? ⟨b,o+k*3+1,none⟩=some v/\w.cell? ⟨b,o+k*3+2,none⟩=some x/\SV w (fun q=>q<w.heap.size) ss[k] (.agg #[u,v,x])
theorem zk8.later{w w':World}{A:Option Addr}{ss:List SS}(h:zk8 w A ss)(hb:Below w.heap.size w w'):zk8 w' A ss:=fun k hk=>by
 obtain⟨b,o,u,v,x,e,h0,h1,h2,h3⟩:=h k hk;exact⟨b,o,u,v,x,e,zb hb h0,zb hb h1,zb hb h2,h3.keep (fun q _ hq=>Nat.lt_of_lt_of_le hq hb.size) fun q _ hq=>hb.block q hq⟩
theorem zk8.nil(w:World)(A:Option Addr):zk8 w A []:=fun k hk=>by simp at hk
theorem zk8.take{w:World}{A:Option Addr}{ss:List SS}(h:zk8 w A ss)(m:Nat):zk8 w A (ss.take m):=fun k hk=>by
 have hk2:k<ss.length:=by simp at hk;omega
 obtain⟨b,o,u,v,x,e,h0,h1,h2,h3⟩:=h k hk2;exact⟨b,o,u,v,x,e,h0,h1,h2,by rw[List.getElem_take];exact h3⟩
theorem zk8.drop{w:World}{A:Option Addr}{ss:List SS}{c:Nat}(h:zk8 w A ss)(m:Nat)(hc:ss.length<=c):zk8 w (if c=m then A else A.map (·.add (m*3))) (ss.drop m):=by
 by_cases e:c=m
 ·rw[if_pos e,List.drop_eq_nil_of_le (by omega)];exact zk8.nil _ _
 ·rw[if_neg e];intro k hk;have hk2:m+k<ss.length:=by simp at hk;omega
  obtain⟨b,o,u,v,x,rfl,h0,h1,h2,h3⟩:=h (m+k) hk2;have e3:o+m*3+k*3=o+(m+k)*3:=by omega
  refine⟨b,o+m*3,u,v,x,by simp[Addr.add_lit],by rw[e3];exact h0,by rw[e3];exact h1,by rw[e3];exact h2,by rw[List.getElem_drop];exact h3⟩
theorem zk8.head{w:World}{A:Option Addr}{s:SS}{ss:List SS}(h:zk8 w A (s::ss)):∃b o u v x,A=some ⟨b,o,none⟩/\w.cell? ⟨b,o,none⟩=some u/\w.cell? ⟨b,o+1,none⟩=some v/\w.cell? ⟨b,o+2,none⟩=some x/\SV w (fun q=>q<w.heap.size) s (.agg #[u,v,x]):=by
 obtain⟨b,o,u,v,x,e,h0,h1,h2,h3⟩:=h 0 (by simp);exact⟨b,o,u,v,x,e,h0,h1,h2,h3⟩
theorem zk8.tail{w:World}{A:Option Addr}{s:SS}{ss:List SS}{c:Nat}(h:zk8 w A (s::ss))(hc:ss.length+1<=c):zk8 w (if c=1 then A else A.map (·.add (1*3))) ss:=h.drop 1 (by simpa using hc)
theorem zk8.vals{w:World}:∀ {ss:List SS} {A:Option Addr},zk8 w A ss->∃us:List (Value×Value×Value),us.length=ss.length/\(∀ad,A=some ad->∀j u,(zk1 us)[j]?=some u->w.cell? (ad.add j)=some u) /\
  ∀k (hk:k<ss.length) (hv:k<us.length),SV w (fun q=>q<w.heap.size) ss[k] (.agg #[us[k].1,us[k].2.1,us[k].2.2])
 | [],A,_=>⟨[],rfl,fun ad _ j u h=>by simp[zk1]at h,fun k hk=>by simp at hk⟩
 | s::ss,A,h=>by
  obtain⟨b,o,u,v,x,rfl,h0,h1,h2,h3⟩:=h.head;have ht:=h.tail (c:=ss.length+2) (by omega);rw[if_neg (by omega)]at ht;obtain⟨us,hl,hu,hs⟩:=zk8.vals ht;refine⟨(u,v,x)::us,by simp[hl],fun ad e j y hy=>?_,fun k hk hv=>?_⟩
  ·injection e with e;subst e;rw[Addr.add_lit];rw[show zk1 ((u,v,x)::us)=u::v::x::zk1 us from rfl]at hy
   match j,hy with
   | 0,hy=>simp at hy;subst hy;exact h0
   | 1,hy=>simp at hy;subst hy;exact h1
   | 2,hy=>simp at hy;subst hy;exact h2
   | j+3,hy =>
    have:=hu ⟨b,o+3,none⟩ (by simp[Addr.add_lit]) j y (by simpa using hy);rw[Addr.add_lit]at this;rw[show o+(j+3)=o+3+j by omega];exact this
  ·match k,hk,hv with
   | 0,_,_=>exact h3
   | k+1,hk,hv=>exact hs k (by simpa using hk) (by simpa using hv)
theorem SV.one{w:World}{S:Nat->Prop}{s:SS}{u v x:Value}(h:SV w S s (.agg #[u,v,x])):u.oneCell'=true/\v.oneCell'=true/\x.oneCell'=true:=by
 obtain⟨A,c,B,d,D,e,e1,-⟩:=h;injection e1 with e1;simp only[Array.mk.injEq,List.cons.injEq,and_true]at e1;obtain⟨rfl,rfl,rfl⟩:=e1;exact⟨rfl,rfl,rfl⟩
theorem zrL{w:World}{P:Nat->Prop}{ss:List SS}{us:List (Value×Value×Value)}(hl:us.length=ss.length)(hs:∀k (hk:k<ss.length) (hv:k<us.length),SV w P ss[k] (.agg #[us[k].1,us[k].2.1,us[k].2.2])):∀u∈zk1 us,u.oneCell'=true:=fun u hu=>by
 obtain⟨t,ht,hu⟩:=List.mem_flatMap.1 hu;obtain⟨k,hk,rfl⟩:=List.getElem_of_mem ht;have h:=(hs k (by omega) hk).one;simp only[List.mem_cons,List.not_mem_nil,or_false]at hu;rcases hu with rfl|rfl|rfl
 ·exact h.1
 ·exact h.2.1
 ·exact h.2.2
theorem zk7.app{W W5:World}{n0:Nat}{S S':Nat->Prop}{v v':Value}{ls ys:List SS}{vs us:List (Value×Value×Value)}(hl:vs.length=ls.length)(kN:us.length=ys.length)
  (h2:∀k (hk:k<ls.length) (hv:k<vs.length),SV W (fun q=>S q/\v.ownBlock≠some q) ls[k] (.agg #[vs[k].1,vs[k].2.1,vs[k].2.2]))(hS:∀q,S q->q<W.heap.size->S' q)
  (hy:∀k (hk:k<ys.length) (hv:k<us.length),SV W (fun q=>S' q/\v.ownBlock≠some q) ys[k] (.agg #[us[k].1,us[k].2.1,us[k].2.2]))
  (ho:W5.ownsRow n0 32 3 v' (ls.length+ys.length) (zk1 vs++zk1 us))(hg:W.grownBy W5 v.ownBlock)(aj:v'.ownBlock=v.ownBlock\/v'.ownBlock=some W.heap.size):zk7 W5 n0 S' v' (ls++ys):=by
 have hB:∀q,v.ownBlock≠some q->q<W.heap.size->v'.ownBlock≠some q:=fun q h hq e=>by
  rcases aj with e1|e1
  ·exact h (e1▸e)
  ·rw[e1]at e;injection e with e;omega
 have hk:∀q,v.ownBlock≠some q->q<W.heap.size->W5.heap[q]?=W.heap[q]?:=fun q h hq=>hg.block q hq fun e=>h e.symm;have e1:zk1 (vs++us)=zk1 vs++zk1 us:=by simp[zk1]
 refine⟨vs++us,by rw[List.length_append,e1];exact ho,by simp[hl,kN],fun k hk1 hk2=>?_⟩;by_cases hlt:k<ls.length
 ·have hlv:k<vs.length:=by omega
  rw[List.getElem_append_left hlt,List.getElem_append_left hlv];exact(h2 k hlt hlv).keep (fun q h hq=>⟨hS q h.1 hq,hB q h.2 hq⟩) fun q h hq=>hk q h.2 hq
 ·have hk3:k-ls.length<ys.length:=by simp at hk1;omega
  have h9:=hy (k-ls.length) hk3 (by omega);rw[List.getElem_append_right (by omega),List.getElem_append_right (by omega)];simp only[hl];exact h9.keep (fun q h hq=>⟨h.1,hB q h.2 hq⟩) fun q h hq=>hk q h.2 hq
theorem zk7.addS{W0 wr we w':World}{n0:Nat}{S:Nat->Prop}{v v':Value}{ls ys:List SS}{vs us:List (Value×Value×Value)}(wX:∀q,S q->q<n0)(hb:Below n0 W0 wr)(hn:n0<=W0.heap.size)(hown:wr.ownsRow n0 32 3 v ls.length (zk1 vs))(hl:vs.length=ls.length)
  (h2:∀k (hk:k<ls.length) (hv:k<vs.length),SV wr (fun q=>S q/\v.ownBlock≠some q) ls[k] (.agg #[vs[k].1,vs[k].2.1,vs[k].2.2]))(kN:us.length=ys.length)(hw:Below wr.heap.size wr we)
  (hy:∀k (hk:k<ys.length) (hv:k<us.length),SV we S ys[k] (.agg #[us[k].1,us[k].2.1,us[k].2.2]))
  (ho:w'.ownsRow n0 32 3 v' (ls.length+ys.length) (zk1 vs++zk1 us))(hg:we.grownBy w' v.ownBlock)(aj:v'.ownBlock=v.ownBlock\/v'.ownBlock=some we.heap.size) :
  ∃A' c',v'=.slice A' (ls.length+ys.length) c'/\(ls.length+ys.length)<=c'/\Hid (Below n0 W0 w')/\Hid (zk7 w' n0 S (.slice A' (ls.length+ys.length) c') (ls++ys)):=by
 obtain⟨A',c',rfl,hc,-⟩:=zkf ho;have hs:=hb.size;have hbe:Below n0 W0 we:=hb.trans (hw.mono (by omega));refine⟨A',c',rfl,hc,zh (hbe.grown hg (Nat.le_trans hn hbe.size) fun k hk=>(hown.lt k hk).1),zh ?_⟩;exact zk7.app (W:=we) (S:=S) (S':=S) hl kN (fun k hk hv=>(h2 k hk hv).later hw) (fun q h _=>h)
  (fun k hk hv=>(hy k hk hv).keep (fun q h _=>⟨h,fun e=>by have:=(hown.lt q e).1;have:=wX q h;omega⟩) fun _ _ _=>rfl) ho hg aj
theorem zk7.sa{W:World}{n0:Nat}{S:Nat->Prop}{v:Value}{ss:List SS}(h:zk7 W n0 S v ss):∃A c,v=.slice A ss.length c/\ss.length<=c/\zk8 W A ss:=by
 obtain⟨vs,h1,hl,h2⟩:=h;obtain⟨A',c',rfl,hc',-⟩:=zkf h1;refine⟨A',c',rfl,hc',fun i hi=>?_⟩;obtain⟨g,cap,A,c,B,d,D,e,e0,hg1,hg2,x0,x1,x2,hs⟩:=zk7.nd ⟨vs,h1,hl,h2⟩ hi;injection e0 with e1 e2 e3;subst e1;refine⟨g,0,_,_,_,rfl,by rw[Nat.zero_add];exact x0,by rw[Nat.zero_add];exact x1,by rw[Nat.zero_add];exact x2,hs.keep (fun q _ h=>h) fun _ _ _=>rfl⟩
theorem zmA(w:World)(u v x:Value)(E:TypeId):∀ad,(some ⟨w.heap.size,0,none⟩:Option Addr)=some ad->∀j y,[u,v,x][j]?=some y->(w.alloc (.cells #[u,v,x] E)).cell? (ad.add j)=some y:=fun ad e j y hj=>by
 injection e with e;subst e;have hk:=heap_alloc_new w (.cells #[u,v,x] E);rw[Addr.add_lit,Nat.zero_add]
 match j,hj with
 | 0,hj=>simp at hj;subst hj;exact zc hk rfl
 | 1,hj=>simp at hj;subst hj;exact zc hk rfl
 | 2,hj=>simp at hj;subst hj;exact zc hk rfl
theorem zyj(A:Option Addr)(n c h:Nat)(hh:h<=c)(w:World):(Instr.slice 27 (.slice A n c) none (some (.int .i64 (h:Int))) none).run prog w=.ok (.slice A h c) w:=by
 have h1:prog.underlying 27=some (.slice (prog.elem 27)):=by kernel_rfl
 have h2:(sizeOf (prog.elem 27)).run prog w=.ok 3 w:=by kernel_rfl
 refine(run_slice_h (P:=prog) (w:=w) 27 A n c h1 .i64 (h:Int) (by omega) (by omega)).trans ?_;rw[h2];simp[Result.andThen,sliced];intro _
 cases A<;>simp[Addr.add_zero']
theorem zrc(A:Option Addr)(n c k:Nat)(hk:k<=n)(w:World):(Instr.slice 27 (.slice A n c) (some (.int .i64 (k:Int))) none none).run prog w=.ok (.slice (if c=k then A else A.map (·.add (k*3))) (n-k) (c-k)) w:=by
 have h1:prog.underlying 27=some (.slice (prog.elem 27)):=by kernel_rfl
 have h2:(sizeOf (prog.elem 27)).run prog w=.ok 3 w:=by kernel_rfl
 refine(run_slice_l (P:=prog) (w:=w) 27 A n c h1 .i64 (k:Int) (by omega) (by omega)).trans ?_;rw[h2];simp[Result.andThen,sliced]
theorem zzY:IsFn prog 45 Tryz.f45:=⟨func45,by kernel_rfl,by kernel_rfl⟩
theorem zKS:IsFn prog 92 f92:=⟨func92,by kernel_rfl,by kernel_rfl⟩
theorem zk7.later{W W':World}{n0:Nat}{S:Nat->Prop}{v:Value}{ss:List SS}(h:zk7 W n0 S v ss)(hb:Below W.heap.size W W'):zk7 W' n0 S v ss:=h.keep (fun _ h _=>h) fun q _ hq=>hb.block q hq
theorem zk7.many{W0 wr we:World}{n0 e co:Nat}{Ao:Option Addr}{S:Nat->Prop}{acc ys:List SS}{us:List (Value×Value×Value)}(h:zk7 wr n0 S (.slice Ao e co) acc)(he:acc.length=e)(wX:∀q,S q->q<n0)(hb:Below n0 W0 wr)(hn:n0<=W0.heap.size)
  (kN:us.length=ys.length)(hw:Below wr.heap.size wr we)(hy:∀k (hk:k<ys.length) (hv:k<us.length),SV we S ys[k] (.agg #[us[k].1,us[k].2.1,us[k].2.2])){m:Nat}(hm:ys.length=m) :
  ∃xs,we.ownsRow n0 32 3 (.slice Ao e co) e xs/\n0<=we.heap.size/\∀v' w',w'.ownsRow n0 32 3 v' (e+m) (xs++zk1 us)->we.grownBy w' (Value.slice Ao e co).ownBlock->(v'.ownBlock=(Value.slice Ao e co).ownBlock\/v'.ownBlock=some we.heap.size) ->
   ∃A' c',v'=.slice A' (e+m) c'/\e+m<=c'/\Hid (Below n0 W0 w')/\Hid (zk7 w' n0 S (.slice A' (e+m) c') (acc++ys)):=by
 subst he hm;obtain⟨vs,h1,hl,h2⟩:=h;exact⟨zk1 vs,zkp h1 hw,Nat.le_trans (Nat.le_trans hn hb.size) hw.size,fun v' w' g1 g2 g3=>zk7.addS wX hb hn h1 hl h2 kN hw hy g1 g2 g3⟩
theorem zk8.nilA{w:World}{A:Option Addr}{ss:List SS}(h:zk8 w A ss)(hA:A=none):ss.length=0:=by
 subst hA;rcases ss with _|⟨s,ss⟩
 ·rfl
 ·obtain⟨b,o,u,v,x,e,-⟩:=h.head
  cases e
abbrev c3R(w:World)(b o:Nat)(u v x:Value):Prop:=w.cell? ⟨b,o,none⟩=some u/\w.cell? ⟨b,o+1,none⟩=some v/\w.cell? ⟨b,o+2,none⟩=some x
def slN:Value->Nat
 | .slice _ n _=>n
 | _=>0
theorem one3{a b c:Value}(h:a.oneCell'=true/\b.oneCell'=true/\c.oneCell'=true):∀u∈[a,b,c],u.oneCell'=true:=by
 intro u hu;simp only[List.mem_cons,List.not_mem_nil,or_false]at hu;rcases hu with rfl|rfl|rfl
 ·exact h.1
 ·exact h.2.1
 ·exact h.2.2
attribute [local go_sem] Oper.semAt_some
theorem zsK:∀(n:Nat) (ss:List SS) (A:Option Addr) (c:Nat) (w:World),ss.length=n->n<=c->n<=1000->zk8 w A ss->(∀s∈ss,SmC s) ->
  Calls prog 45 #[.slice A n c] w fun e w'=>∃v,e=.returned v/\(∃A' c',v=.slice A' n c'/\n<=c'/\zk8 w' A' (zli ss))/\Below w.heap.size w w':=by
 intro n
 induction n using Nat.strongRecOn with
 | _ n ih =>
 intro ss A c w hl hc hn yg hS;have HA:=zh yg;have lX:=zh hS;have HL:=zh hl;have IH:=zh ih;clear ih yg hS hl;go_enter func45,ntmps45;by_cases h2:n<2
 ·have h2i:(n:Int)<2:=by omega
  go_wp2_with fail;go_ret;exact⟨_,rfl,⟨A,c,rfl,hc,by rw[ztN (by rw[HL.out];exact h2)];exact HA.out⟩,zr⟩
 ·have h2i:¬ (n:Int)<2:=by omega
  go_upto_region 3 with fail;have hSS:zW zU zU w.drew:=⟨trivial,trivial⟩
  obtain⟨m,hm⟩:=zX (n / 2);have hq:IntKind.i64.wrap ((n:Int) / 2)=(m:Int):=by
   rw[IntWalk.i64_in _ (by omega)];omega
  have hmc:(m:Int)<=(c:Int):=by omega
  have vB:(m:Int)<=(n:Int):=by omega
  have hm0:(0:Int)<=(m:Int):=by omega
  have hT:=zyj A n c m (by omega);have hD:=zrc A n c m (by omega);have Ce:=zh (show(ss.take m).length=m by rw[List.length_take,HL.out];omega);have Cb:=zh (show(ss.drop m).length=n-m by rw[List.length_drop,HL.out]);have HR2:=zh (HA.out.drop m (by rw[HL.out];exact hc));have HST:=zh (show zli ss=zlb (zli (ss.take m)) (zli (ss.drop m)) by rw[ztM (by rw[HL.out];exact h2),HL.out,hm]);obtain⟨A2,hA2⟩:=zX ((if c=m then A else A.map (·.add (m*3))));rw[hA2]at HR2;simp only[hA2]at hD;have hm1:m<n:=by omega
  have hm2:n-m<n:=by omega
  clear hA2 hm h2;have HI1:=zh (fun w' (hb:Below w.heap.size w w')=>IH.out m hm1 (ss.take m) A c w' Ce.out (by omega) (by omega) ((HA.out.take m).later hb) fun s h=>lX.out s (List.mem_of_mem_take h));have HI2:=zh (fun w' (hb:Below w.heap.size w w')=>IH.out (n-m) hm2 (ss.drop m) A2 (c-m) w' Cb.out (by omega) (by omega) (HR2.out.later hb) fun s h=>lX.out s (List.mem_of_mem_drop h));have ig:=zh (show(zli (ss.take m)).length=m from zod m _ Ce.out);have HL2:=zh (show(zli (ss.drop m)).length=n-m from zod (n-m) _ Cb.out);have iy:=zh (show ∀s∈zli (ss.take m),SmC s from fun s h=>lX.out s (List.mem_of_mem_take (zqn _ _ rfl h)));have HS2:=zh (show ∀s∈zli (ss.drop m),SmC s from fun s h=>lX.out s (List.mem_of_mem_drop (zqn _ _ rfl h)));obtain⟨L,hLe⟩:=zX (zli (ss.take m));obtain⟨R,hRe⟩:=zX (zli (ss.drop m));rw[hLe]at HI1 ig iy HST
  rw[hRe]at HI2 HL2 HS2 HST;clear hLe hRe IH lX HA HR2 Ce Cb;refine wp_region_noPanic ?_;refine zG hSS 13 ?_;refine zT 0 hSS ?_;refine zT 1 hSS ?_;refine zT 2 hSS ?_;refine zT 3 hSS ?_;refine zT 4 hSS ?_;refine zT 6 hSS ?_;refine zT 7 hSS ?_;refine zT 8 hSS ?_;refine zT 9 hSS ?_;refine zT 10 hSS ?_;clear hT hD;have hb1:=Below.drew (zs w);have had:Calls prog 45 [.slice A m c].toArray w.drew fun e w'=>∃v,e=.returned v/\((∃A' c',v=.slice A' m c'/\m<=c'/\zk8 w' A' L)/\Below w.drew.heap.size w.drew w'):=HI1.out _ hb1;refine zo 5 fun K hK=>?_;refine zkd (by rfl) (.func 45) [.tmp 14] _ (by rfl) 45 _ zzY (by rfl) _ (by rfl) _ had ?_;rintro v2 w2 ⟨⟨A3,c3,rfl,hc3,hr3⟩,hb2⟩;refine hK.out _ _ hSS ?_;clear hK K had;(try simp only[zQ]);have HB2:=zh (zka hb1 hb2);clear hb1 hb2
  have had:Calls prog 45 [.slice A2 (n-m) (c-m)].toArray w2 fun e w'=>∃v,e=.returned v/\((∃A' c',v=.slice A' (n-m) c'/\n-m<=c'/\zk8 w' A' R)/\Below w2.heap.size w2 w'):=HI2.out _ HB2.out;refine zo 11 fun K hK=>?_;refine zkd (by rfl) (.func 45) [.tmp 20] _ (by rfl) 45 _ zzY (by rfl) _ (by rfl) _ had ?_;rintro v3 w3 ⟨⟨A4,c4,rfl,hc4,hr4⟩,hb3⟩;refine hK.out _ _ hSS ?_;clear hK K had;(try simp only[zQ]);refine zT 12 hSS ?_;refine zp 13 fun K hK=>?_;(try simp only[zA,zB,zC]);go_simp;refine hK.out _ _ trivial ?_;clear hK K;(try simp only[zQ]);refine zd ?_;refine NoPanic.normal ?_;have HB3:=zh (zka HB2.out hb3);have HR3:=zh (hr3.later hb3);have HR4:=zh hr4;clear hr3 hr4 hb3 hSS HI1 HI2 HB2 hq hmc vB hm0 h2i;obtain⟨n2,hn2⟩:=zX (n-m);rw[hn2]at HL2 hc4 ⊢;have nM:=zh (show n=m+n2 by omega);clear hn2 hm1 hm2;obtain⟨B3,hB3⟩:=zX (w3.heap.size)
  have HB0:=zh (show Below B3 w3 w3 from zr);have hI:=bSts;go_wp2_with fail
  go_loopw [5,3,4] (fun ov lv rv wr=>∃(Ao:Option Addr) (e co:Nat) (Al:Option Addr) (p cl:Nat) (Ar:Option Addr) (q cr:Nat) (acc ls rs:List SS),ov=.slice Ao e co/\lv=.slice Al p cl/\rv=.slice Ar q cr/\p<=cl/\q<=cr/\e+p+q=n/\Hid (acc.length=e/\ls.length=p/\rs.length=q)/\Hid (Below B3 w3 wr) /\
   Hid (zk7 wr B3 (fun b=>b<B3) (.slice Ao e co) acc)/\Hid (zk8 w3 Al ls)/\Hid (zk8 w3 Ar rs)/\Hid (acc++zlb ls rs=zli ss)/\Hid ((∀s∈ls,SmC s)/\∀s∈rs,SmC s)) (fun ov _ _ _=>n-slN ov)
  case atStart=>exact⟨_,0,_,_,m,_,_,n2,_,[],L,R,rfl,rfl,rfl,hc3,hc4,by have:=nM.out;omega,zh ⟨rfl,ig.out,HL2.out⟩,HB0,zh (zk7.nil _ _ _),HR3,HR4,zh (by rw[HST.out];rfl),zh ⟨iy.out,HS2.out⟩⟩
  case round =>
   clear HR3 HR4 HST iy HS2 ig HL2 hc3 hc4 HB0 nM;obtain⟨Ao,e,co,Al,p,cl,Ar,q,cr,acc,ls,rs,rfl,rfl,rfl,hpc,hqc,hsum,bF,HB,yO,iA,HRR,HM,gq⟩:=hrel;by_cases hpq:0<p/\0<q
   ·have hp0:(0:Int)<(p:Int):=by omega
    have hq0:(0:Int)<(q:Int):=by omega
    obtain⟨x,ls',rfl⟩:∃x l,ls=x::l:=by
     have:=bF.out.2.1
     cases ls with
     | nil=>simp at this;omega
     | cons x l=>exact⟨x,l,rfl⟩
    obtain⟨y,rs',rfl⟩:∃x l,rs=x::l:=by
     have:=bF.out.2.2
     cases rs with
     | nil=>simp at this;omega
     | cons x l=>exact⟨x,l,rfl⟩
    obtain⟨b1,o1,u1,v1,x1,rfl,h10,h11,h12,hs1⟩:=iA.out.head;obtain⟨b2,o2,u2,v2,x2,rfl,h20,h21,h22,hs2⟩:=HRR.out.head;have hsz:=HB.out.size;have HF:=zh (show ∀w',Below B3 w3 w'->c3R w' b2 o2 u2 v2 x2/\c3R w' b1 o1 u1 v1 x1 from fun w' h=>by
     rw[<-hB3]at h;exact⟨⟨zb h h20,zb h h21,zb h h22⟩,zb h h10,zb h h11,zb h h12⟩)
    have iy:=zh (show ∀w',Below B3 w3 w'->SV w' (fun b=>b<B3) x (.agg #[u1,v1,x1])from fun w' h=>by
     rw[<-hB3]at h ⊢;exact hs1.later h)
    have HS2:=zh (show ∀w',Below B3 w3 w'->SV w' (fun b=>b<B3) y (.agg #[u2,v2,x2])from fun w' h=>by
     rw[<-hB3]at h ⊢;exact hs2.later h)
    have HCM:=zh (fun w' (h:Below B3 w3 w')=>zrF y x (.agg #[u2,v2,x2]) (.agg #[u1,v1,x1]) w' (HS2.out _ h).any (iy.out _ h).any (gq.out.2 y (by simp)) (gq.out.1 x (by simp)));have qB:=zh (show acc++(if cmpE y x<0 then y::zlb (x::ls') rs' else x::zlb ls' (y::rs'))=zli ss by have h:=HM.out;rw[zlb]at h;exact h);obtain⟨r,hr⟩:=zX (cmpE y x);rw[hr]at qB;simp only[hr]at HCM;clear hr h10 h11 h12 h20 h21 h22 hs1 hs2;go_upto_region 6 with fail;have hb1:=(HB.out.trans ((zs wr).drew.mono (by omega)))
    have hSS:zW (fun w':World=>c3R w' b2 o2 u2 v2 x2/\c3R w' b1 o1 u1 v1 x1) zU wr.drew:=⟨HF.out _ hb1,trivial⟩
    have had:Calls prog 92 [.agg #[u2,v2,x2],.agg #[u1,v1,x1]].toArray wr.drew fun e w'=>∃v,e=.returned v/\(v=.int .i64 r/\Below wr.drew.heap.size wr.drew w'):=(HCM.out _ hb1).mono fun e w' ⟨h1,h2⟩=>⟨_,h1,rfl,h2⟩
    refine wp_region_noPanic ?_;refine zG hSS 7 ?_;refine zT 0 hSS ?_;refine zT 1 hSS ?_;refine zT 2 hSS ?_;refine zT 3 hSS ?_;refine zT 4 hSS ?_;refine zT 5 hSS ?_;refine zo 6 fun K hK=>?_;refine zkd (by rfl) (.func 92) [.tmp 32,.tmp 35] _ (by rfl) 92 _ zKS (by rfl) _ (by rfl) _ had ?_;rintro v5 w5 ⟨rfl,hb5⟩;have hb6:=hb1.trans (hb5.mono (by have:=hb1.size;omega));refine hK.out _ _ ⟨HF.out _ hb6,trivial⟩ ?_;clear hK K had hSS;(try simp only[zQ]);refine zp 7 fun K hK=>?_;(try simp only[zA,zB,zC]);go_simp;refine hK.out _ _ (HF.out _ hb6) ?_;clear hK K;(try simp only[zQ]);refine zd ?_;refine NoPanic.normal ?_;have aW:=zh hb6;have HRT6:=zh (yO.out.later (((zs wr).drew).trans (hb5.mono (zs wr).drew.size)));clear hb1 hb5 hb6 yO HCM;obtain⟨⟨g20,g21,g22⟩,g10,g11,g12⟩:=HF.out _ aW.out;by_cases hr:r<0
    ·have xM:=zh (show(acc++[y])++zlb (x::ls') rs'=zli ss by have h:=qB.out;rw[if_pos hr]at h;simpa using h);have hD:∀w,(Instr.slice 27 (.slice (some ⟨b2,o2,none⟩) q cr) (some (.int .i64 1)) none none).run prog w=.ok (.slice (if cr=1 then(some ⟨b2,o2,none⟩:Option Addr)else(some ⟨b2,o2,none⟩:Option Addr).map (·.add (1*3))) (q-1) (cr-1)) w:=zrc (some ⟨b2,o2,none⟩) q cr 1 (by omega);have HRR2:=zh (HRR.out.tail (c:=cr) (by have:=bF.out.2.2;simp at this;omega));obtain⟨A7,uw⟩:=zX ((if cr=1 then(some ⟨b2,o2,none⟩:Option Addr)else(some ⟨b2,o2,none⟩:Option Addr).map (·.add (1*3))));simp only[uw]at hD;rw[uw]at HRR2;clear uw;have h1c:=(HS2.out _ aW.out).one;obtain⟨xs,hown,fH,hpush⟩:=HRT6.out.many (W0:=w3) (we:=w5.alloc (.cells #[u2,v2,x2] 32)) (ys:=[y]) (us:=[(u2,v2,x2)]) bF.out.1 (fun _ h=>h) aW.out (by omega) rfl (zkb zr _) (fun k hk hv=>by
      obtain rfl:k=0:=by simpa using hk
      exact(HS2.out _ aW.out).later (zkb zr _)) (m:=1) rfl
     have ji:=zh hpush;clear hpush;clear fH;go_wp2_with (at_builtin;refine zki rfl (.tmp 38) (.tmp 42) rfl underlying27 zmn rfl (by decide) (by decide) B3 (.slice Ao e co) e xs rfl hown (some ⟨w5.heap.size,0,none⟩) 1 1 [u2,v2,x2] rfl rfl (fun e=>by cases e) (zmA w5 _ _ _ _) (one3 h1c) (by omega) (Nat.le_trans (by have:=aW.out.size;omega) (zkb (zs w5) _).size) ?_;intro v9 w9 ho hg aj;obtain⟨A9,c9,rfl,bI,aH,bL⟩:=ji.out _ _ ho hg aj;clear ho hg aj)
     go_roundw
     case rel=>exact⟨A9,e+1,c9,_,p,cl,_,q-1,cr-1,acc++[y],x::ls',rs',rfl,rfl,rfl,hpc,by omega,by omega,zh (by have:=bF.out;simp at this ⊢;omega),aH,bL,iA,HRR2,xM,zh ⟨gq.out.1,fun s h=>gq.out.2 s (by simp[h])⟩⟩
     case measure=>simp[slN];omega
    ·have xM:=zh (show(acc++[x])++zlb ls' (y::rs')=zli ss by have h:=qB.out;rw[if_neg hr]at h;simpa using h);have hD:∀w,(Instr.slice 27 (.slice (some ⟨b1,o1,none⟩) p cl) (some (.int .i64 1)) none none).run prog w=.ok (.slice (if cl=1 then(some ⟨b1,o1,none⟩:Option Addr)else(some ⟨b1,o1,none⟩:Option Addr).map (·.add (1*3))) (p-1) (cl-1)) w:=zrc (some ⟨b1,o1,none⟩) p cl 1 (by omega);have HRL2:=zh (iA.out.tail (c:=cl) (by have:=bF.out.2.1;simp at this;omega));obtain⟨A7,uw⟩:=zX ((if cl=1 then(some ⟨b1,o1,none⟩:Option Addr)else(some ⟨b1,o1,none⟩:Option Addr).map (·.add (1*3))));simp only[uw]at hD;rw[uw]at HRL2;clear uw;have h1c:=(iy.out _ aW.out).one;obtain⟨xs,hown,fH,hpush⟩:=HRT6.out.many (W0:=w3) (we:=w5.alloc (.cells #[u1,v1,x1] 32)) (ys:=[x]) (us:=[(u1,v1,x1)]) bF.out.1 (fun _ h=>h) aW.out (by omega) rfl (zkb zr _) (fun k hk hv=>by
      obtain rfl:k=0:=by simpa using hk
      exact(iy.out _ aW.out).later (zkb zr _)) (m:=1) rfl
     have ji:=zh hpush;clear hpush;clear fH;go_wp2_with (at_builtin;refine zki rfl (.tmp 46) (.tmp 50) rfl underlying27 zmn rfl (by decide) (by decide) B3 (.slice Ao e co) e xs rfl hown (some ⟨w5.heap.size,0,none⟩) 1 1 [u1,v1,x1] rfl rfl (fun e=>by cases e) (zmA w5 _ _ _ _) (one3 h1c) (by omega) (Nat.le_trans (by have:=aW.out.size;omega) (zkb (zs w5) _).size) ?_;intro v9 w9 ho hg aj;obtain⟨A9,c9,rfl,bI,aH,bL⟩:=ji.out _ _ ho hg aj;clear ho hg aj)
     go_roundw
     case rel=>exact⟨A9,e+1,c9,_,p-1,cl-1,_,q,cr,acc++[x],ls',y::rs',rfl,rfl,rfl,by omega,hqc,by omega,zh (by have:=bF.out;simp at this ⊢;omega),aH,bL,HRL2,HRR,xM,zh ⟨fun s h=>gq.out.1 s (by simp[h]),gq.out.2⟩⟩
     case measure=>simp[slN];omega
   ·have xM:=zh (show acc++ls++rs=zli ss by
     have h:=HM.out;have hl:=bF.out;by_cases hp:p=0
     ·obtain rfl:ls=[]:=List.eq_nil_of_length_eq_zero (by omega);rw[zo0]at h;simpa using h
     ·obtain rfl:rs=[]:=List.eq_nil_of_length_eq_zero (by omega);rw[zol]at h;simpa using h)
    have HRT2:=yO;have hsz:=HB.out.size;obtain⟨us,lK,hun0,ek⟩:=iA.out.vals;have hun:∀ad,Al=some ad->∀j u,(zk1 us)[j]?=some u->wr.cell? (ad.add j)=some u:=fun ad h j u hj=>zb (hB3▸HB.out) (hun0 ad h j u hj);have sK:∀k (hk:k<ls.length) (hv:k<us.length),SV wr (fun b=>b<B3) ls[k] (.agg #[us[k].1,us[k].2.1,us[k].2.2]):=fun k hk hv=>by
     have h:=ek k hk hv;rw[hB3]at h;exact h.later (hB3▸HB.out)
    obtain⟨ut,htl,htn0,hts⟩:=HRR.out.vals;have xz:=zh (show ∀w',Below B3 w3 w'->∀ad,Ar=some ad->∀j u,(zk1 ut)[j]?=some u->w'.cell? (ad.add j)=some u from fun w' hw ad h j u hj=>zb (hB3▸hw) (htn0 ad h j u hj));have yN:=zh (show ∀w',Below B3 w3 w'->∀k (hk:k<rs.length) (hv:k<ut.length),SV w' (fun b=>b<B3) rs[k] (.agg #[ut[k].1,ut[k].2.1,ut[k].2.2])from fun w' hw k hk hv=>by
     have h:=hts k hk hv;rw[hB3]at h;exact h.later (hB3▸hw))
    obtain⟨xs,hown,fH,hpush⟩:=yO.out.many (W0:=w3) (we:=wr) (ys:=ls) (us:=us) bF.out.1 (fun _ h=>h) HB.out (by omega) lK zr sK (m:=p) bF.out.2.1;have ji:=zh hpush;have hun1:=zrL lK sK;have hut1:=zrL htl hts;have hul3:(zk1 us).length=p*3:=by rw[zqF,lK,bF.out.2.1]
    have hut3:(zk1 ut).length=q*3:=by rw[zqF,htl,bF.out.2.2]
    have hnL:Al=none->p=0:=fun h=>by rw[<-bF.out.2.1];exact iA.out.nilA h
    have hnR:Ar=none->q=0:=fun h=>by rw[<-bF.out.2.2];exact HRR.out.nilA h
    have HPQ:=zh (show ∀A9 c9 w9,Below B3 w3 w9->zk7 w9 B3 (fun b=>b<B3) (.slice A9 (e+p) c9) (acc++ls)->∃xs,w9.ownsRow B3 32 3 (.slice A9 (e+p) c9) (e+p) xs/\B3<=w9.heap.size/\∀v' w',w'.ownsRow B3 32 3 v' (e+p+q) (xs++zk1 ut)->w9.grownBy w' (Value.slice A9 (e+p) c9).ownBlock->(v'.ownBlock=(Value.slice A9 (e+p) c9).ownBlock\/v'.ownBlock=some w9.heap.size) ->
      ∃A' c',v'=.slice A' (e+p+q) c'/\e+p+q<=c'/\Hid (Below B3 w3 w')/\Hid (zk7 w' B3 (fun b=>b<B3) (.slice A' (e+p+q) c') (acc++ls++rs))from fun A9 c9 w9 aS lL =>
     lL.many (W0:=w3) (we:=w9) (ys:=rs) (us:=ut) (by have:=bF.out;simp;omega) (fun _ h=>h) aS (by omega) htl zr (yN.out _ aS) (m:=q) bF.out.2.2)
    clear hpush ek sK lK htl hts hun0 htn0 gq HM HRT2;have hpb:e+p<=1000000:=by omega
    have hqb:e+p+q<=1000000:=by omega
    have aU:=zh (show ∀A9 c9 w9,Hid (Below B3 w3 w9)->Hid (zk7 w9 B3 (fun b=>b<B3) (.slice A9 (e+p+q) c9) (acc++ls++rs))->e+p+q<=c9->(∃A' c',Value.slice A9 (e+p+q) c9=.slice A' n c'/\n<=c'/\zk8 w9 A' (zli ss))/\Below w.heap.size w w9 from fun A9 c9 w9 h1 h2 h3=>by
     rw[xM.out]at h2;obtain⟨A1,c1,e1,-,h4⟩:=h2.out.sa;injection e1 with e1 e2 e3;subst e1;refine⟨⟨A9,c9,by rw[hsum],by omega,h4⟩,zka HB3.out (hB3▸h1.out)⟩)
    by_cases hp0:0<p
    ·have hpi:(0:Int)<(p:Int):=by omega
     have hqi:¬ (0:Int)<(q:Int):=by omega
     go_wp2_with (at_builtin;first
      | (refine zki rfl (.tmp 54) (.tmp 55) rfl underlying27 zmn rfl (by decide) (by decide) B3 (.slice Ao e co) e xs rfl hown Al p cl (zk1 us) rfl hul3 hnL hun hun1 hpb fH ?_;intro v9 w9 ho hg aj;obtain⟨A9,c9,rfl,bI,aH,bL⟩:=ji.out _ _ ho hg aj;clear ho hg aj;obtain⟨zm,eT,jC,eQ⟩:=HPQ.out _ _ _ aH.out bL.out;have kZ:=zh eQ;clear eQ;have sM:=xz.out _ aH.out)
      | (refine zki rfl (.tmp 56) (.tmp 57) rfl underlying27 zmn rfl (by decide) (by decide) B3 (.slice A9 (e+p) c9) (e+p) zm rfl eT Ar q cr (zk1 ut) rfl hut3 hnR sM hut1 hqb jC ?_;intro v8 w8 ho hg aj;obtain⟨A8,c8,rfl,hc8,dZ,iB⟩:=kZ.out _ _ ho hg aj;clear ho hg aj))
     go_ret;exact⟨_,rfl,by have h:=aU.out _ _ _ dZ iB hc8;rw[hsum]at h;exact h⟩
    ·have hpi:¬ (0:Int)<(p:Int):=by omega
     go_wp2_with (at_builtin;first
      | (refine zki rfl (.tmp 54) (.tmp 55) rfl underlying27 zmn rfl (by decide) (by decide) B3 (.slice Ao e co) e xs rfl hown Al p cl (zk1 us) rfl hul3 hnL hun hun1 hpb fH ?_;intro v9 w9 ho hg aj;obtain⟨A9,c9,rfl,bI,aH,bL⟩:=ji.out _ _ ho hg aj;clear ho hg aj;obtain⟨zm,eT,jC,eQ⟩:=HPQ.out _ _ _ aH.out bL.out;have kZ:=zh eQ;clear eQ;have sM:=xz.out _ aH.out)
      | (refine zki rfl (.tmp 56) (.tmp 57) rfl underlying27 zmn rfl (by decide) (by decide) B3 (.slice A9 (e+p) c9) (e+p) zm rfl eT Ar q cr (zk1 ut) rfl hut3 hnR sM hut1 hqb jC ?_;intro v8 w8 ho hg aj;obtain⟨A8,c8,rfl,hc8,dZ,iB⟩:=kZ.out _ _ ho hg aj;clear ho hg aj))
     go_ret;exact⟨_,rfl,by have h:=aU.out _ _ _ dZ iB hc8;rw[hsum]at h;exact h⟩
end
section
open Go Go.RowKit
theorem zqg(a b:Int)(w:World)(ha:1<=a/\a<=1099511627777)(hb:1<=b/\b<=1099511627777):Calls prog 89 #[.int .i64 a,.int .i64 b] w fun e w'=>e=.returned (.int .i64 (timR a b))/\w'=w:=by
 have e0:(a != 0)=true:=by simp;omega
 have e1:(a==0)=false:=by simp;omega
 have hq:=Int.tdiv_eq_ediv_of_nonneg (a:=1099511627776) (b:=a) (by decide);have hq2:0<=(1099511627776:Int) / a/\(1099511627776:Int) / a<=1099511627776:=⟨Int.ediv_nonneg (by decide) (by omega),Int.ediv_le_self _ (by decide)⟩
 have hw:IntKind.i64.wrap ((1099511627776:Int).tdiv a)=(1099511627776:Int).tdiv a:=IntWalk.i64_in _ (by rw[hq];omega);by_cases h:(1099511627776:Int).tdiv a<b
 ·have HT:=zh (show timR a b=1099511627777 by unfold timR;rw[if_pos ⟨by omega,h⟩]);clear hq hq2;go_enter func89,ntmps89;go_wp2_with fail;go_ret;exact⟨by rw[HT.out];rfl,rfl⟩
 ·have HT:=zh (show timR a b=a*b by unfold timR;rw[if_neg fun h2=>h h2.2]);have hm:IntKind.i64.wrap (a*b)=a*b:=IntWalk.i64_in _ (by have:=zpx ha hb;rw[HT.out]at this;omega);clear hq hq2;go_enter func89,ntmps89;go_wp2_with fail;go_ret;exact⟨by rw[HT.out];rfl,rfl⟩
theorem zqu(b:Int)(n:Nat)(w:World)(hb:1<=b/\b<=2001)(hn:n<=1000):Calls prog 90 #[.int .i64 b,.int .i64 (n:Int)] w fun e w'=>e=.returned (.int .i64 (powR b n))/\w'=w:=by
 have HT:=zh (fun i w'=>zqg (powR b i) b w' (zmd hb i) (by omega));have HB:=zh hb;clear hb;go_enter func90,ntmps90;go_wp2_with fail
 go_loopw [6,5] (fun i s wr=>∃j:Nat,j<=n/\i=.int .i64 j/\s=.int .i64 (powR b j)/\wr=w) (fun i _ _=>n-(intOf i).toNat)
 case atStart=>exact⟨0,by omega,rfl,rfl,rfl⟩
 case round =>
  obtain⟨j,hj,rfl,rfl,rfl⟩:=hrel;by_cases hlt:j<n
  ·have hj1:(j:Int)<(n:Int):=by omega
   have hj0:(0:Int)<=(j:Int):=by omega
   go_wp2_with fail;refine(HT.out j _).mono ?_;rintro e w1 ⟨rfl,rfl⟩;go_wp2_with fail
   go_roundw
   case rel=>exact⟨j+1,by omega,by go_num,rfl,trivial⟩
   case measure=>simp[intOf];omega
  ·obtain rfl:j=n:=by omega
   have hj1:¬ (j:Int)<(j:Int):=by omega
   go_wp2_with fail;go_ret;simp
theorem zvX(b:Int)(n:Nat)(w:World)(hb:1<=b/\b<=2001)(hn:n<=1000):Calls prog 88 #[.int .i64 b,.int .i64 (n:Int)] w fun e w'=>e=.returned (.int .i64 (upR b n))/\w'=w:=by
 have HT:=zh (fun i w' (hi:i<=1000)=>zqu b i w' hb hi);have HB:=zh hb;clear hb;go_enter func88,ntmps88;go_wp2_with fail
 go_loopw [6,5] (fun i s wr=>∃(j:Nat) (x:Int),j<=n+1/\i=.int .i64 j/\s=.int .i64 x/\(0<=x/\x<=1099511627776)/\wr=w/\Hid (upR b n=upA b x ((List.range (n+1)).drop j))) (fun i _ _=>n+1-(intOf i).toNat)
 case atStart=>exact⟨0,0,by omega,rfl,rfl,by omega,rfl,zh rfl⟩
 case round =>
  obtain⟨j,x,hj,rfl,rfl,hx,rfl,HU⟩:=hrel;by_cases hlt:j<=n
  ·have hj1:(j:Int)<=(n:Int):=by omega
   have hj0:(0:Int)<=(j:Int):=by omega
   go_wp2_with fail;refine(HT.out j _ (by omega)).mono ?_;rintro e w1 ⟨rfl,rfl⟩;have hp:=zmd HB.out j;obtain⟨y,hy⟩:=zX (powR b j);have HU2:=zh (show upR b n=if 1099511627776<x+y then 1099511627777 else upA b (x+y) ((List.range (n+1)).drop (j+1)) by
    rw[HU.out,List.drop_eq_getElem_cons (by simp;omega),List.getElem_range,upA,hy])
   rw[hy]at hp ⊢;have hw:IntKind.i64.wrap (x+y)=x+y:=IntWalk.i64_in _ (by omega);by_cases hg:1099511627776<x+y
   ·go_wp2_with fail;go_ret;exact⟨by rw[HU2.out,if_pos hg];rfl,rfl⟩
   ·go_wp2_with fail
    go_roundw
    case rel=>exact⟨j+1,x+y,by omega,by go_num,rfl,by omega,trivial,zh (by rw[HU2.out,if_neg (by omega)])⟩
    case measure=>simp[intOf];omega
  ·obtain rfl:j=n+1:=by omega
   have hj1:¬ ((n+1:Nat):Int)<=(n:Int):=by omega
   go_wp2_with fail;go_ret;exact⟨by rw[HU.out,List.drop_eq_nil_of_le (by simp)];rfl,rfl⟩
theorem ztA{v:VD}(h:vdB v=true):(v.k=1/\v.n=0)\/(v.k=2/\1<=v.n/\v.n<=16)\/(v.k=3/\v.n=0):=by
 unfold vdB at h;by_cases h1:v.k=1\/v.k=3
 ·rw[if_pos h1]at h;have h:=eq_of_beq h;rcases h1 with h1|h1
  ·exact .inl ⟨h1,h⟩
  ·exact .inr (.inr ⟨h1,h⟩)
 ·rw[if_neg h1]at h;by_cases h2:v.k=2
  ·rw[if_pos h2]at h;exact .inr (.inl ⟨h2,of_decide_eq_true h⟩)
  ·rw[if_neg h2]at h;cases h
theorem zsG{vs:List VD}(h:svB vs=true):vs.length<=32/\∀v∈vs,vdB v=true:=by
 unfold svB at h;simp only[Bool.and_eq_true,decide_eq_true_eq,List.all_eq_true]at h;exact h
theorem zte(vs:List VD)(b:BX)(A:Option Addr)(c:Nat)(w:World)(hr:RowV w Any A vs)(hok:(b.ok&&svB vs)=true) :
  Calls prog 43 #[.slice A vs.length c,.int .i64 b.v,.int .i64 b.l,.int .i64 b.i] w fun e w'=>e=.returned (.int .i64 (cntF vs b))/\w'=w:=by
 simp only[Bool.and_eq_true]at hok;have hb:=zlm hok.1;obtain⟨hn,hvd⟩:=zsG hok.2;have HB:=zh hb;have HV:=zh hvd;have HC:=zh (fun i (hi:i<=vs.length)=>zn0 hok.1 (vs.take i));obtain⟨V,hV⟩:=zX (b.v);obtain⟨nl,hnl⟩:∃nl:Nat,b.l=(nl:Int):=⟨b.l.toNat,by omega⟩
 obtain⟨ni,hni⟩:∃ni:Nat,b.i=(ni:Int):=⟨b.i.toNat,by omega⟩
 have dI:=zh (And.intro hV (And.intro hnl hni));have vR:=zh (fun n w' (h:n<=1000)=>zvX (2*V+1) n w' (by omega) h);have yS:=zh (fun n w' (h:n<=1000)=>zqu (2*V+1) n w' (by omega) h);have BL:=zh (fun i v w' (hi:i<=vs.length)=>zqg (cntF (vs.take i) b) (cnt1 b v) w' (zn0 hok.1 (vs.take i)) (zn1 hb.1 v));have rD:=zh (fun i (hi:i<vs.length)=>znd (b:=b) hi);have mf:=zh (fun v=>show cnt1 b v=if v.k=1 then 2*V+1 else if v.k=2 then powR (2*V+1) v.n.toNat else upR (2*V+1) nl by unfold cnt1;rw[hV,hnl];rfl);have bA:=zh (show cntF (vs.take 0) b=upR (2*V+1) ni by unfold cntF;rw[hV,hni];rfl);have e1:IntKind.i64.wrap (2*V)=2*V:=IntWalk.i64_in _ (by omega);have e2:IntKind.i64.wrap (2*V+1)=2*V+1:=IntWalk.i64_in _ (by omega);have sS:nl<=1000:=by omega
 have sU:ni<=1000:=by omega
 have HR:=zh hr;have HT:=zh (show cntF (vs.take vs.length) b=cntF vs b by rw[List.take_length]);obtain⟨CF,hCF⟩:∃CF:Nat->Int,∀i,cntF (vs.take i) b=CF i:=⟨fun i=>cntF (vs.take i) b,fun _=>rfl⟩
 simp only[hCF]at HC BL rD bA HT;rw[<-HT.out,hV,hnl,hni];obtain⟨C1,dz⟩:∃C1:VD->Int,∀v,cnt1 b v=C1 v:=⟨fun v=>cnt1 b v,fun _=>rfl⟩
 simp only[dz]at BL rD mf;clear hok hb hvd hr hV hnl hni hCF dz;obtain⟨n,hn'⟩:=zX (vs.length);have HN:=zh hn';rw[hn']at hn ⊢;clear hn';go_enter func43,ntmps43;go_wp2_with fail;refine(vR.out ni w sU).mono ?_;rintro e w1 ⟨rfl,rfl⟩;rw[<-bA.out];go_wp2_with fail
 go_loopw [10,9] (fun i s wr=>∃j:Nat,j<=n/\i=.int .i64 j/\s=.int .i64 (CF j)/\wr=w1) (fun i _ _=>n-(intOf i).toNat)
 case atStart=>exact⟨0,by omega,rfl,rfl,rfl⟩
 case round =>
  obtain⟨j,hj,rfl,rfl,rfl⟩:=hrel;by_cases hlt:j<n
  ·have hj1:(j:Int)<(n:Int):=by omega
   have hj0:(0:Int)<=(j:Int):=by omega
   have bR:j<vs.length:=by rw[HN.out];exact hlt
   obtain⟨a,v,rfl,-,hv,⟨x0,x1,x2⟩,-⟩:=HR.out.nd bR;have hvb:=ztA (HV.out _ (List.getElem_mem bR));have ou:=BL.out j v wr (by omega);have htk:=rD.out j bR;have hc1:=mf.out v;rw[hv.out]at hvb htk;rw[<-htk]at ou;clear htk hv bR;obtain⟨v0,v1,v2⟩:=v;simp only at x0 x1 x2 hvb hc1;rcases hvb with⟨rfl,rfl⟩|⟨rfl,hn1,hn2⟩|⟨rfl,rfl⟩
   ·rw[if_pos rfl]at hc1;rw[hc1]at ou;have nA:=zh ou;clear ou hc1;go_wp2_with fail;refine nA.out.mono ?_;rintro e w2 ⟨rfl,rfl⟩;go_wp2_with fail
    go_roundw
    case rel=>exact⟨j+1,by omega,by go_num,rfl,trivial⟩
    case measure=>simp[intOf];omega
   ·rw[if_neg (by decide),if_pos rfl]at hc1;obtain⟨m,rfl⟩:∃m:Nat,v2=(m:Int):=⟨v2.toNat,by omega⟩
    rw[show((m:Int)).toNat=m from rfl]at hc1;have hm:m<=1000:=by omega
    rw[hc1]at ou;have nA:=zh ou;clear ou hc1;go_wp2_with fail;refine(yS.out m wr hm).mono ?_;rintro e w2 ⟨rfl,rfl⟩;go_wp2_with fail;refine nA.out.mono ?_;rintro e w2 ⟨rfl,rfl⟩;go_wp2_with fail
    go_roundw
    case rel=>exact⟨j+1,by omega,by go_num,rfl,trivial⟩
    case measure=>simp[intOf];omega
   ·rw[if_neg (by decide),if_neg (by decide)]at hc1;rw[hc1]at ou;have nA:=zh ou;clear ou hc1;go_wp2_with fail;refine(vR.out nl wr sS).mono ?_;rintro e w2 ⟨rfl,rfl⟩;go_wp2_with fail;refine nA.out.mono ?_;rintro e w2 ⟨rfl,rfl⟩;go_wp2_with fail
    go_roundw
    case rel=>exact⟨j+1,by omega,by go_num,rfl,trivial⟩
    case measure=>simp[intOf];omega
  ·obtain rfl:j=n:=by omega
   have hj1:¬ (j:Int)<(j:Int):=by omega
   go_wp2_with fail;go_ret;exact⟨rfl,rfl⟩
theorem zvW{v:VD}(h:(v.k=1/\v.n=0)\/(v.k=2/\1<=v.n/\v.n<=16)\/(v.k=3/\v.n=0)):vdB v=true:=by
 unfold vdB;rcases h with⟨h1,h2⟩|⟨h1,h2⟩|⟨h1,h2⟩
 ·rw[if_pos (.inl h1),h2];rfl
 ·rw[if_neg (by omega),if_pos h1];exact decide_eq_true h2
 ·rw[if_pos (.inr h1),h2];rfl
theorem ztB{v:VD}(h:¬ ((v.k=1/\v.n=0)\/(v.k=2/\1<=v.n/\v.n<=16)\/(v.k=3/\v.n=0))):vdB v=false:=by
 cases e:vdB v with
 | false=>rfl
 | true=>exact absurd (ztA e) h
theorem zye{vs:List VD}{i:Nat}(hi:i<vs.length)(h:vdB vs[i]=false):svB vs=false:=by
 cases e:svB vs with
 | false=>rfl
 | true=>rw[(zsG e).2 _ (List.getElem_mem hi)]at h;cases h
theorem zyf{vs:List VD}{n:Nat}(hn:vs.length=n)(h32:n<=32)(h:∀i (hi:i<vs.length),vdB vs[i]=true):svB vs=true:=by
 unfold svB;simp only[Bool.and_eq_true,decide_eq_true_eq,List.all_eq_true];exact⟨by omega,fun v hv=>by obtain⟨i,hi,rfl⟩:=List.mem_iff_getElem.1 hv;exact h i hi⟩
theorem zyt{b:BX}(h:((0<=b.v/\b.v<=1000)/\(0<=b.l/\b.l<=1000)/\0<=b.i/\b.i<=1000)):b.ok=true:=by
 simp only[BX.ok,okI,Bool.and_eq_true,decide_eq_true_eq];omega
theorem zwn{b:BX}(h:¬ ((0<=b.v/\b.v<=1000)/\(0<=b.l/\b.l<=1000)/\0<=b.i/\b.i<=1000)):b.ok=false:=by
 cases e:b.ok with
 | false=>rfl
 | true=>exact absurd (zlm e) h
theorem ztd(vs:List VD)(b:BX)(A:Option Addr)(c:Nat)(w:World)(hr:RowV w Any A vs)(hl:vs.length<=LV) :
  Calls prog 42 #[.slice A vs.length c,.int .i64 b.v,.int .i64 b.l,.int .i64 b.i] w fun e w'=>e=.returned (.bool (b.ok&&svB vs))/\Below w.heap.size w w':=by
 have hl1:=zkZ hl;have HR:=zh hr;obtain⟨RR,hRR⟩:=zX ((b.ok&&svB vs));have HRR:=zh hRR;rw[hRR];obtain⟨V,hV⟩:=zX (b.v);obtain⟨L,hL⟩:=zX (b.l);obtain⟨I,hI⟩:=zX (b.i);have HKT:=zh (fun h=>zyt (b:=b) h);have jN:=zh (fun h=>zwn (b:=b) h);have ku:=zh (fun(n:Nat)=>zyf (vs:=vs) (n:=n));rw[hV,hL,hI]at HKT jN ⊢;clear hr hl hRR hV hL hI;obtain⟨n,hn⟩:=zX (vs.length);have HN:=zh hn;rw[hn]at hl1 ⊢;clear hn;go_enter func42,ntmps42;by_cases h32:32<n
 ·have h32i:(32:Int)<(n:Int):=by omega
  go_wp2_with fail;go_ret;exact⟨by rw[<-HRR.out,show svB vs=false by { cases e:svB vs with|false=>rfl|true=>have:=(zsG e).1;have:=HN.out;omega },Bool.and_false];rfl,zr⟩
 have h32i:¬ (32:Int)<(n:Int):=by omega
 go_wp2_with fail
 go_loopw [9] (fun i wr=>∃j:Nat,j<=n/\i=.int .i64 j/\Hid (Below w.heap.size w wr)/\Hid (∀i (hi:i<vs.length),i<j->vdB vs[i]=true)) (fun i _=>n-(intOf i).toNat)
 case atStart=>exact⟨0,by omega,rfl,zh zr,zh fun i _ h=>by omega⟩
 case round =>
  obtain⟨j,hj,rfl,ag,HE⟩:=hrel;by_cases hlt:j<n
  ·have hj1:(j:Int)<(n:Int):=by omega
   have hj0:(0:Int)<=(j:Int):=by omega
   have bR:j<vs.length:=by rw[HN.out];exact hlt
   obtain⟨a,v,rfl,-,hv,⟨x0,x1,x2⟩,hfl⟩:=(HR.out.later ag.out).nd bR;have BD:=zh (fun h=>(congrArg vdB hv.out).trans (zvW (v:=v) h));have nz:=zh (fun h=>zye bR ((congrArg vdB hv.out).trans (ztB (v:=v) h)));have HJ:=zh bR;obtain⟨v0,v1,v2⟩:=v;have hk:=hfl.2.1;simp only at x0 x1 x2 BD nz hk;have hk1:=heap_alloc_new wr (.cells #[.string v0,.int .u8 v1,.int .i64 v2] 57);have rT:=zh (zkb ag.out (.cells #[.string v0,.int .u8 v1,.int .i64 v2] 57));obtain⟨wm,yo⟩:=zX (wr.alloc (.cells #[.string v0,.int .u8 v1,.int .i64 v2] 57));rw[yo]at hk1 rT;obtain⟨y0,y1,y2⟩:=zkz hk1;clear hv hfl hk1;by_cases c1:v1<1
   ·go_wp2_with fail;go_ret;exact⟨by rw[<-HRR.out,nz.out (by omega),Bool.and_false];rfl,rT.out⟩
   by_cases c2:3<v1
   ·go_wp2_with fail;go_ret;exact⟨by rw[<-HRR.out,nz.out (by omega),Bool.and_false];rfl,rT.out⟩
   by_cases c3:v1=2
   ·subst c3;by_cases c4:v2<1
    ·go_wp2_with fail;go_ret;exact⟨by rw[<-HRR.out,nz.out (by omega),Bool.and_false];rfl,rT.out⟩
    by_cases c5:16<v2
    ·go_wp2_with fail;go_ret;exact⟨by rw[<-HRR.out,nz.out (by omega),Bool.and_false];rfl,rT.out⟩
    go_wp2_with fail
    go_roundw
    case rel =>
     refine⟨j+1,by omega,by go_num,rT,zh fun i hi hij=>?_⟩;by_cases e:i<j
     ·exact HE.out i hi e
     ·obtain rfl:i=j:=by omega
      exact BD.out (by omega)
    case measure=>simp[intOf];omega
   ·have c3b:(v1==2)=false:=by simpa using c3
    have c3c:(v1 != 2)=true:=by simpa using c3
    by_cases c4:v2=0;rotate_left 1
    ·have c4b:(v2 != 0)=true:=by simpa using c4
     go_wp2_with fail;go_ret;exact⟨by rw[<-HRR.out,nz.out (by omega),Bool.and_false];rfl,rT.out⟩
    ·have c4b:(v2 != 0)=false:=by simpa using c4
     have qP:=zh c4;clear c4;go_wp2_with fail
     go_roundw
     case rel =>
      refine⟨j+1,by omega,by go_num,rT,zh fun i hi hij=>?_⟩;by_cases e:i<j
      ·exact HE.out i hi e
      ·obtain rfl:i=j:=by omega
       exact BD.out (by have:=qP.out;omega)
     case measure=>simp[intOf];omega
  ·obtain rfl:j=n:=by omega
   have hj1:¬ (j:Int)<(j:Int):=by omega
   by_cases g1:0<=V;rotate_left 1
   ·go_wp2_with fail;go_ret;exact⟨by rw[<-HRR.out,show b.ok=false from jN.out (by omega)];rfl,ag.out⟩
   by_cases g2:V<=1000;rotate_left 1
   ·go_wp2_with fail;go_ret;exact⟨by rw[<-HRR.out,show b.ok=false from jN.out (by omega)];rfl,ag.out⟩
   by_cases g3:0<=L;rotate_left 1
   ·go_wp2_with fail;go_ret;exact⟨by rw[<-HRR.out,show b.ok=false from jN.out (by omega)];rfl,ag.out⟩
   by_cases g4:L<=1000;rotate_left 1
   ·go_wp2_with fail;go_ret;exact⟨by rw[<-HRR.out,show b.ok=false from jN.out (by omega)];rfl,ag.out⟩
   by_cases g5:0<=I;rotate_left 1
   ·go_wp2_with fail;go_ret;exact⟨by rw[<-HRR.out,show b.ok=false from jN.out (by omega)];rfl,ag.out⟩
   by_cases g6:I<=1000;rotate_left 1
   ·go_wp2_with fail;go_ret;exact⟨by rw[<-HRR.out,show b.ok=false from jN.out (by omega)];rfl,ag.out⟩
   go_wp2_with fail;go_ret;exact⟨by rw[<-HRR.out,show b.ok=true from HKT.out (by omega),ku.out _ HN.out (by omega) fun i hi=>HE.out i hi (by have:=HN.out;omega)];rfl,ag.out⟩
end
end Go.Proofs.YtembgnhbpmfhpaaGreat
