/-
  Texts of the proof, put together without their remarks: Rpd, Els, Rpe, Rpf, Rpg, Rph, Rpb, Rpi.
-/
import Derived.Test.YtembgnhbpmfhpaaGreatV6
set_option linter.unusedSimpArgs false
set_option linter.unusedVariables false
set_option maxHeartbeats 8000000
set_option maxRecDepth 100000
namespace Go.Proofs.YtembgnhbpmfhpaaGreat
open Tryz
section
open Go Go.RowKit
attribute [local go_sem] Oper.semAt_some
theorem bI0R(w:World):(Instr.buildSlice 30 0 #[]).run prog w=.ok (.slice (some ⟨w.heap.size,0,none⟩) 0 0) (w.alloc (.cells #[] 3)):=by kernel_rfl
theorem bI1R(x:Int)(w:World):(Instr.buildSlice 30 1 #[(0,.int .i64 x)]).run prog w=.ok (.slice (some ⟨w.heap.size,0,none⟩) 1 1) (w.alloc (.cells #[.int .i64 x] 3)):=by kernel_rfl
theorem bL1R(A:Option Addr)(l c:Nat)(w:World):(Instr.buildSlice 29 1 #[(0,.slice A l c)]).run prog w=.ok (.slice (some ⟨w.heap.size,0,none⟩) 1 1) (w.alloc (.cells #[.slice A l c] 30)):=by kernel_rfl
theorem bL0R(w:World):(Instr.buildSlice 29 0 #[]).run prog w=.ok (.slice (some ⟨w.heap.size,0,none⟩) 0 0) (w.alloc (.cells #[] 30)):=by kernel_rfl
theorem zo4(w:World)(E:TypeId)(sz n0:Nat)(h:n0<=w.heap.size):(w.alloc (.cells #[] E)).ownsRow n0 E sz (.slice (some ⟨w.heap.size,0,none⟩) 0 0) 0 [] :=
 ⟨by simp,.inr ⟨w.heap.size,0,#[],rfl,h,heap_alloc_new w _,zl,by unfold maxLen;omega,by simp,by simp⟩⟩
theorem zwo(w:World)(E:TypeId)(n0:Nat)(u:Value)(h:n0<=w.heap.size):(w.alloc (.cells #[u] E)).ownsRow n0 E 1 (.slice (some ⟨w.heap.size,0,none⟩) 1 1) 1 [u] :=
 ⟨by simp,.inr ⟨w.heap.size,1,#[u],rfl,h,heap_alloc_new w _,zl,by unfold maxLen;omega,by simp,by simp⟩⟩
theorem zsl{W0 W W':World}{n0 n m sz:Nat}{E:TypeId}{v v':Value}{xs news:List Value}(hb:Below n0 W0 W)(hn:n0<=W0.heap.size)(hrow:W.ownsRow n0 E sz v n xs)(ho:W'.ownsRow n0 E sz v' (n+m) (xs++news)){ob:Option Nat}(ak:∀b,ob=some b->n0<=b)(hg:W.grownBy W' ob) :
  ∃A c,v'=.slice A (n+m) c/\n+m<=c/\Below n0 W0 W'/\W'.ownsRow n0 E sz (.slice A (n+m) c) (n+m) (xs++news):=by
 obtain⟨A,c,rfl,hc,-⟩:=zkd ho;exact⟨A,c,rfl,hc,hb.grown hg (Nat.le_trans hn hb.size) ak,ho⟩
theorem RowI.nilA{w:World}{S:Nat->Prop}{A:Option Addr}{l:List Int}(h:RowI w S A l)(hA:A=none):l.length=0:=by
 rcases l with _|⟨x,l⟩
 ·rfl
 ·obtain⟨a,h1,-⟩:=h 0 (by simp);rw[hA]at h1;cases h1
theorem RowI.newsA{w:World}{S:Nat->Prop}{A:Option Addr}{l:List Int}(h:RowI w S A l):∀ad,A=some ad->∀j u,(zkg l)[j]?=some u->w.cell? (ad.add j)=some u:=fun ad e=>by subst e;exact h.news.1
theorem zl4(w:World)(u:Value)(E:TypeId):∀ad,(some ⟨w.heap.size,0,none⟩:Option Addr)=some ad->∀j v,[u][j]?=some v->(w.alloc (.cells #[u] E)).cell? (ad.add j)=some v:=fun ad e=>by
 injection e with e;subst e;exact cell_one_new w u E
theorem zon(x:Int):∀u∈[Value.int .i64 x],u.oneCell'=true:=fun u hu=>by rw[List.mem_singleton.1 hu];rfl
theorem zpE(A:Option Addr)(l c:Nat):∀u∈[Value.slice A l c],u.oneCell'=true:=fun u hu=>by rw[List.mem_singleton.1 hu];rfl
theorem zwn{w:World}{base:Nat}{A:Option Addr}{c:Nat}{xs:List Int}{E:TypeId}(h:w.ownsRow base E 1 (.slice A xs.length c) xs.length (zkg xs))(hf:∀x∈xs,I64 x):RowI w (fun b=>base<=b) A xs:=by
 obtain⟨A',c',e,-,hr⟩:=zlF (xs:=xs) h hf;injection e with e1 _ e3;subst e1 e3;exact hr.mono fun b hb=>(h.lt b hb).1
theorem zkq.push1{W0 we w':World}{B:Nat}{An:Option Addr}{cn:Nat}{acc:List (List Int)}{vs:List Value}{y:List Int}{A:Option Addr}{c:Nat}{v':Value}{wr:World}(hl:vs.length=acc.length)
  (h2:∀k (hk:k<acc.length) (hv:k<vs.length),∃A c,vs[k]=.slice A acc[k].length c/\acc[k].length<=c/\RowI wr (fun q=>B<=q/\(Value.slice An acc.length cn).ownBlock≠some q) A acc[k])
  (hown:∀b,(Value.slice An acc.length cn).ownBlock=some b->B<=b/\b<wr.heap.size)(hb:Below B W0 wr)(hB:B<=W0.heap.size)(hw:Below wr.heap.size wr we)(hc:y.length<=c)(hy:RowI we (fun q=>wr.heap.size<=q) A y)
  (ho:w'.ownsRow B 30 1 v' (acc.length+1) (vs++[.slice A y.length c]))(hg:we.grownBy w' (Value.slice An acc.length cn).ownBlock)(ak:v'.ownBlock=(Value.slice An acc.length cn).ownBlock\/v'.ownBlock=some we.heap.size) :
  ∃A' c',v'=.slice A' (acc.length+1) c'/\Hid (Below B W0 w')/\Hid (zkq w' B (fun q=>B<=q) (.slice A' (acc.length+1) c') (acc++[y])):=by
 obtain⟨A',c',rfl,-⟩:=zkd ho;have hs:=hb.size;have hbe:Below B W0 we:=hb.trans (hw.mono (by omega));refine⟨A',c',rfl,zh (hbe.grown hg (Nat.le_trans hB hbe.size) fun k hk=>(hown k hk).1),zh ?_⟩;have:=zkq.app (W:=we) (W5:=w') (n0:=B) (S:=fun q=>B<=q) (S':=fun q=>B<=q) (v:=.slice An acc.length cn) (v':=.slice A' (acc.length+1) c') (ls:=acc) (ys:=[y]) (vs:=vs) (us:=[.slice A y.length c]) hl rfl
  (fun k hk hv=>by
   obtain⟨A1,c1,e1,e2,e3⟩:=h2 k hk hv;exact⟨A1,c1,e1,e2,e3.later hw⟩) (fun q h _=>h)
  (fun k hk hv=>by
   obtain rfl:k=0:=by simpa using hk
   refine⟨A,c,rfl,hc,hy.keep (fun q h hlt=>⟨by omega,fun e=>by have:=(hown q e).2;omega⟩) fun _ _ _=>rfl⟩) ho hg ak
 simpa using this
def tupF(v:Int)(t:List Int):List (List Int):=(rngZ v).map fun x=>t++[x]
theorem zoe{v:Int}:∀ {j:Nat} {t:List Int},t∈tupE v j->t.length=j
 | 0,t,h=>by simp[tupE]at h;rw[h];rfl
 | j+1,t,h=>by
  simp only[tupE,List.mem_flatMap,List.mem_map]at h;obtain⟨r,hr,x,-,rfl⟩:=h;simp[zoe hr]
theorem zpw(v:Int)(t:List Int):(tupF v t).length=(rngZ v).length:=by simp[tupF]
theorem zym{v:Int}{j q m:Nat}{t:List Int}(h:(tupE v j)[q]?=some t)(hm:m<(rngZ v).length):(((tupE v j).take q).flatMap (tupF v)++(tupF v t).take m).length+1<=(tupE v (j+1)).length:=by
 obtain⟨hq,rfl⟩:=List.getElem?_eq_some_iff.1 h;have e:tupE v (j+1)=((tupE v j).take q).flatMap (tupF v)++(tupF v (tupE v j)[q]++((tupE v j).drop (q+1)).flatMap (tupF v)):=by
  have h1:tupE v j=(tupE v j).take q++((tupE v j)[q]::(tupE v j).drop (q+1)):=by rw[<-List.drop_eq_getElem_cons hq,List.take_append_drop]
  calc (tupE v j).flatMap (tupF v)=((tupE v j).take q++((tupE v j)[q]::(tupE v j).drop (q+1))).flatMap (tupF v):=congrArg (fun l=>l.flatMap (tupF v)) h1
   _=_:=by rw[List.flatMap_append,List.flatMap_cons]
 rw[e];simp only[List.length_append,List.length_take,zpw];omega
theorem zv7{v:Int}{j q:Nat}{t:List Int}(h:(tupE v j)[q]?=some t):((tupE v j).take (q+1)).flatMap (tupF v)=((tupE v j).take q).flatMap (tupF v)++tupF v t:=by
 rw[List.take_add_one,h];simp
theorem ztF{v:Int}{t:List Int}{m:Nat}(hm:m<(rngZ v).length):(tupF v t).take (m+1)=(tupF v t).take m++[t++[-v+(m:Int)]]:=by
 rw[List.take_add_one,List.getElem?_eq_getElem (by rw[zpw];exact hm)];simp[tupF,rngZ,Int.sub_eq_add_neg,Int.add_comm]
theorem zsF(v:Int)(n:Nat)(w:World)(hv:0<=v/\v<=1000)(hn:n<=1000)(hm:∀j,j<=n->(tupE v j).length<=1000) :
  Calls prog 91 #[.int .i64 v,.int .i64 (n:Int)] w fun e w'=>Below w.heap.size w w'/\∃u,e=.returned u/\zkq w' w.heap.size (fun q=>w.heap.size<=q) u (tupE v n):=by
 have HM:=zh hm;have hI0:=bI0R;have hI1:=bI1R;have hL1:=bL1R;have hL0:=bL1R none 0 0;have hb1:=zkb (zs w) (.cells #[.slice none 0 0] 30);have ho1:=zwo w 30 w.heap.size (.slice none 0 0) zl;obtain⟨N,hN⟩:=zX (w.heap.size);obtain⟨w1,hw1⟩:=zX (w.alloc (.cells #[.slice none 0 0] 30));rw[hw1]at hb1 ho1;rw[hN]at ho1;have yV:=zh (show zkq w1 N (fun q=>N<=q) (.slice (some ⟨N,0,none⟩) 1 1) (tupE v 0)from⟨_,ho1,rfl,fun k hk hv=>by
  obtain rfl:k=0:=by simpa[tupE]using hk
  exact⟨none,0,rfl,Nat.zero_le _,fun i hi=>by simp[tupE]at hi⟩⟩)
 have HB0:=zh hb1;have HN:=zh hN;clear hm hb1 ho1;go_enter func91,ntmps91;go_wp2_with fail
 try rw[hw1]
 try rw[hN]
 clear hw1
 go_loopw [6,5] (fun i ov wr=>∃j:Nat,j<=n/\i=.int .i64 j/\Hid (Below w.heap.size w wr)/\Hid (zkq wr N (fun q=>N<=q) ov (tupE v j))) (fun i _ _=>n-(intOf i).toNat)
 case atStart=>exact⟨0,by omega,rfl,HB0,yV⟩
 case round =>
  clear HB0 yV;obtain⟨j,hj,rfl,HB,HR⟩:=hrel;obtain⟨W0,rfl⟩:∃x,x=wr:=⟨_,rfl⟩
  obtain⟨Ao,co,rfl⟩:=HR.out.slice;by_cases hlt:j<n
  ·have hj1:(j:Int)<(n:Int):=by omega
   have hj0:(0:Int)<=(j:Int):=by omega
   obtain⟨L,hL⟩:=zX ((tupE v j).length);have HL:=zh hL;rw[hL];have hL3:L<=1000:=by rw[<-hL];exact HM.out j (by omega)
   clear hL;have HB1:=zh (show N<=W0.heap.size by have:=HB.out.size;have:=HN.out;omega);obtain⟨B,hB⟩:=zX (W0.heap.size);have dC:=zh hB;rw[hB]at HB1;have e1:IntKind.i64.wrap (0-v) = -v:=by rw[Int.zero_sub];exact IntWalk.i64_in _ (by omega)
   have HRO:=zh (show ∀w',Below B W0 w'->zkq w' N (fun q=>N<=q/\q<B) (.slice Ao (tupE v j).length co) (tupE v j)from fun w' hb=>HR.out.keep (fun q h hlt=>⟨h,by omega⟩) fun q h hlt=>hb.block q (by omega));have HJ1:=zh (HM.out (j+1) (by omega));clear hB HR;go_wp2_with fail
   go_loopw [8,7] (fun k nv wr2=>∃q:Nat,q<=L/\k=.int .i64 q/\Hid (Below B W0 wr2)/\Hid (zkq wr2 B (fun q=>B<=q) nv (((tupE v j).take q).flatMap (tupF v)))) (fun k _ _=>L-(intOf k).toNat)
   case atStart=>exact⟨0,by omega,rfl,zh zr,zh (zkq.nil _ _ _)⟩
   case round =>
    obtain⟨q,hq,rfl,HB2,HR2⟩:=hrel;obtain⟨An,cn,rfl⟩:=HR2.out.slice;by_cases ku:q<L
    ·have hq1:(q:Int)<(L:Int):=by omega
     have hq0:(0:Int)<=(q:Int):=by omega
     have Az:q<(tupE v j).length:=by rw[HL.out];exact ku
     obtain⟨t,ht⟩:=zX ((tupE v j)[q]);have BJ:=zh (show(tupE v j)[q]?=some t by rw[List.getElem?_eq_getElem Az,ht]);obtain⟨R,hR⟩:=zX ((2*v+1).toNat);have gZ:=zh (show(rngZ v).length=R by rw[zpC,hR]);have hRv:(R:Int)=2*v+1:=by omega
     have HRO2:=zh (show ∀w',Below B W0 w'->∃g cap A c,(Value.slice Ao L co)=.slice (some ⟨g,0,none⟩) L cap/\w'.cell? ⟨g,q,none⟩=some (.slice A t.length c)/\t.length<=c/\RowI w' (fun b=>b<B) A t from fun w' hb=>by
      obtain⟨g,cap,A,c,h1,h2,h3,h4,h5,h6⟩:=(HRO.out w' hb).nd Az;rw[ht]at h4 h5 h6;rw[HL.out]at h1;exact⟨g,cap,A,c,h1,h4,h5,h6.mono fun b hb=>hb.1.2⟩)
     clear Az ht hR;go_wp2_with fail
     go_loopw [9,7] (fun x nv wr3=>∃m:Nat,m<=R/\x=.int .i64 (-v+(m:Int))/\Hid (Below B W0 wr3)/\Hid (zkq wr3 B (fun q=>B<=q) nv (((tupE v j).take q).flatMap (tupF v)++(tupF v t).take m))) (fun x _ _=>R-(intOf x+v).toNat)
     case atStart=>exact⟨0,by omega,by simp,HB2,zh (by simpa using HR2.out)⟩
     case round =>
      clear HR2 HB2;obtain⟨m,hm,rfl,HB3,HR3⟩:=hrel;obtain⟨An,cn,rfl⟩:=HR3.out.slice;by_cases lF:m<R
      ·have hm1 : -v+(m:Int)<=v:=by omega
       obtain⟨g,cap,A,c,hgv,hcg,htc,htr⟩:=HRO2.out wr HB3.out;injection hgv with hg1 hg2 hg3;subst hg1 hg3;obtain⟨vs,hown,hvl,hvs⟩:=HR3.out;obtain⟨acc,hacc⟩:=zX (((tupE v j).take q).flatMap (tupF v)++(tupF v t).take m);have HACC:=zh hacc;rw[hacc]at hown hvl hvs;have hal:acc.length+1<=1000:=by
        have:=zym BJ.out (m:=m) (by rw[gZ.out];exact lF);rw[hacc]at this;have h9:=HJ1.out;omega
       rw[hacc];obtain⟨x,hx⟩:=zX (-v+(m:Int));have HX:=zh hx;have uW:I64 x:=⟨by omega,by omega⟩
       rw[hx]at hm1 ⊢;clear hx hacc;have jZ:=zh (show B<=wr.heap.size by have:=HB3.out.size;have:=dC.out;omega);have BF:=zh (And.intro hvl hvs);have HOW:=zh hown;have qW:=zh htr;have qI:=zkb (zs wr) (.cells #[] 3);have howa:=zo4 wr 3 1 wr.heap.size zl;have hla:t.length<=1000:=by have:=zoe (List.mem_of_getElem? BJ.out);omega
       clear hvl hvs hown htr;have hHA:=fun v' w' ho hg=>zsl (W0:=wr) (n0:=wr.heap.size) (v':=v') (W':=w') (m:=t.length) (news:=zkg t) qI zl howa ho (ob:=(Value.slice (some ⟨wr.heap.size,0,none⟩) 0 0).ownBlock) (fun b hb=>by injection hb with hb;exact Nat.le_of_eq hb) hg;have HHA:=zh hHA;have hcg2:=zb qI hcg;have htl:=fun w' (hb:Below wr.heap.size wr w')=>qW.out.later hb;have hw1:IntKind.i64.wrap (x+1)=x+1:=IntWalk.i64_in _ (by have:=HX.out;omega)
       have ja:=zh (show ∀w2 A2 c2,t.length+1<=c2->Below wr.heap.size wr w2->w2.ownsRow wr.heap.size 3 1 (.slice A2 (t.length+1) c2) (t.length+1) (zkg t++[.int .i64 x])->∀v3 w3,w3.ownsRow B 30 1 v3 (acc.length+1) (vs++[.slice A2 (t.length+1) c2])->(w2.alloc (.cells #[.slice A2 (t.length+1) c2] 30)).grownBy w3 (Value.slice An acc.length cn).ownBlock->(v3.ownBlock=(Value.slice An acc.length cn).ownBlock\/v3.ownBlock=some (w2.alloc (.cells #[.slice A2 (t.length+1) c2] 30)).heap.size) ->
         ∃A' c',v3=.slice A' (acc.length+1) c'/\Hid (Below B W0 w3)/\Hid (zkq w3 B (fun q=>B<=q) (.slice A' (acc.length+1) c') (acc++[t++[x]]))from fun w2 A2 c2 h1 h2 h3 v3 w3 h4 h5 h6=>by
        have hl:(t++[x]).length=t.length+1:=by simp
        have hfl:zkg (t++[x])=zkg t++[.int .i64 x]:=by simp[zkg]
        have h7:=zwn (w:=w2) (base:=wr.heap.size) (A:=A2) (c:=c2) (xs:=t++[x]) (E:=3) (by rw[hl,hfl];exact h3) (fun y hy=>by
         rcases List.mem_append.1 hy with hy|hy
         ·exact qW.out.fits y hy
         ·rw[List.mem_singleton.1 hy];exact uW)
        exact zkq.push1 (y:=t++[x]) (A:=A2) (c:=c2) BF.out.1 BF.out.2 (fun b hb=>HOW.out.lt b hb) HB3.out (Nat.le_of_eq dC.out.symm) (zkb h2 _) (by rw[hl];exact h1) (h7.later (zkb zr _)) (by rw[hl];exact h4) h5 h6)
       go_wp2_with (at_builtin;first
        | (refine zki rfl (.tmp 30) (.tmp 34) rfl underlying30 zlU rfl (by decide) (by decide) wr.heap.size (.slice (some ⟨wr.heap.size,0,none⟩) 0 0) 0 [] rfl howa A t.length c (zkg t) rfl (by simp[zkg]) (RowI.nilA qW.out) (RowI.newsA (htl _ qI)) (zoz t) (by omega) (by simp) ?_;intro v1 w1 ho hg ak;obtain⟨A1,c1,rfl,hc1,hb1,ho1⟩:=HHA.out _ _ ho hg;clear ho hg ak;rw[Nat.zero_add]at ho1 hc1;rw[List.nil_append]at ho1)
        | (refine zki rfl (.tmp 35) (.tmp 37) rfl underlying30 zlU rfl (by decide) (by decide) wr.heap.size (.slice A1 t.length c1) t.length (zkg t) rfl (zkp ho1 (zkb zr _)) (some ⟨w1.heap.size,0,none⟩) 1 1 [.int .i64 x] rfl rfl (fun e=>by cases e) (zl4 w1 _ _) (zon x) (by omega) (Nat.le_trans hb1.size (zkb zr _).size) ?_;intro v2 w2 ho hg ak;obtain⟨A2,c2,rfl,hc2,hb2,ho2⟩:=zsl (zkb hb1 (.cells #[.int .i64 x] 3)) zl (zkp ho1 (zkb zr _)) ho (fun b hb=>(ho1.lt b hb).1) hg;clear ho hg ak)
        | (refine zki rfl (.tmp 29) (.tmp 39) rfl underlying29 znb rfl (by decide) (by decide) B (.slice An acc.length cn) acc.length vs rfl (zkp HOW.out (zkb hb2 _)) (some ⟨w2.heap.size,0,none⟩) 1 1 [.slice A2 (t.length+1) c2] rfl rfl (fun e=>by cases e) (zl4 w2 _ _) (zpE _ _ _) (by omega) (Nat.le_trans jZ.out (zkb hb2 _).size) ?_;intro v3 w3 ho hg ak;obtain⟨A3,c3,rfl,aH,bJ⟩:=ja.out w2 A2 c2 hc2 hb2 ho2 _ _ ho hg ak;clear ho hg ak))
       go_roundw
       case rel =>
        refine⟨m+1,by omega,?_,aH,zh ?_⟩
        ·have:=HX.out;rw[show -v+((m+1:Nat):Int)=x+1 by omega]
        ·have h:=bJ.out;rw[ztF (by rw[gZ.out];exact lF),<-List.append_assoc,HACC.out,HX.out];exact h
       case measure=>have:=HX.out;simp only[intOf];omega
      ·obtain rfl:m=R:=by omega
       have hm1:¬ -v+(m:Int)<=v:=by omega
       go_wp2_with fail
       go_roundw
       case rel =>
        refine⟨q+1,by omega,by go_num,HB3,zh ?_⟩;have h3:=HR3.out;have e:((tupE v j).take (q+1)).flatMap (tupF v)=((tupE v j).take q).flatMap (tupF v)++(tupF v t).take m:=by rw[zv7 BJ.out,List.take_of_length_le (l:=tupF v t) (i:=m) (by rw[zpw,gZ.out];omega)]
        rw[e];exact h3
       case measure=>simp[intOf];omega
    ·obtain rfl:q=L:=by omega
     have hq1:¬ (q:Int)<(q:Int):=by omega
     go_wp2_with fail
     go_roundw
     case rel =>
      refine⟨j+1,by omega,by go_num,zh (HB.out.trans (HB2.out.mono (by have:=dC.out;have:=HB.out.size;omega))),zh ?_⟩;have h2:=HR2.out;rw[show tupE v (j+1)=((tupE v j).take q).flatMap (tupF v) by rw[<-HL.out,List.take_length];rfl];exact(h2.base HB1.out).keep (S':=fun q=>N<=q) (fun q h _=>Nat.le_trans HB1.out h) fun _ _ _=>rfl
     case measure=>simp[intOf];omega
  ·obtain rfl:j=n:=by omega
   have hj1:¬ (j:Int)<(j:Int):=by omega
   go_wp2_with fail;go_ret;exact⟨by rw[<-HN.out];exact HB.out,_,rfl,HR.out⟩
theorem zr3{w:World}{n0 n:Nat}{E:TypeId}{A:Option Addr}{c:Nat}{us:List Value}(h:w.ownsRow n0 E 1 (.slice A n c) n us):(A=none->n=0)/\(∀ad,A=some ad->∀j u,us[j]?=some u->w.cell? (ad.add j)=some u)/\us.length=n*1:=by
 refine⟨fun e=>?_,fun ad e j u hj=>?_,h.1⟩
 ·subst e;rcases h.2 with⟨e1,e2⟩|⟨g,cap,cur,e1,-⟩
  ·exact e2
  ·cases e1
 ·subst e;rcases h.2 with⟨e1,-⟩|⟨g,cap,cur,e1,-⟩
  ·cases e1
  ·injection e1 with e1 e2 e3;injection e1 with e1;subst e1 e3;rw[Addr.add_lit,Nat.zero_add,h.cellAt j (by have:=(List.getElem?_eq_some_iff.1 hj).1;have:=h.1;omega)];exact hj
theorem zkq.join{W0 w1 w':World}{N:Nat}{v v' u:Value}{ls ys:List (List Int)}{vs us:List Value}{wr:World}(hb:Below N W0 wr)(hN:N<=W0.heap.size)(hw:Below wr.heap.size wr w1)(hl:vs.length=ls.length)
  (hown:wr.ownsRow N 30 1 v ls.length vs)(h2:∀k (hk:k<ls.length) (hv:k<vs.length),∃A c,vs[k]=.slice A ls[k].length c/\ls[k].length<=c/\RowI wr (fun q=>N<=q/\v.ownBlock≠some q) A ls[k])
  (kH:us.length=ys.length)(hy:∀k (hk:k<ys.length) (hv:k<us.length),∃A c,us[k]=.slice A ys[k].length c/\ys[k].length<=c/\RowI w1 (fun q=>wr.heap.size<=q/\u.ownBlock≠some q) A ys[k])
  (ho:w'.ownsRow N 30 1 v' (ls.length+ys.length) (vs++us))(hg:w1.grownBy w' v.ownBlock)(ak:v'.ownBlock=v.ownBlock\/v'.ownBlock=some w1.heap.size) :
  ∃A' c',v'=.slice A' (ls.length+ys.length) c'/\Hid (Below N W0 w')/\Hid (zkq w' N (fun q=>N<=q) (.slice A' (ls.length+ys.length) c') (ls++ys)):=by
 obtain⟨A',c',rfl,-⟩:=zkd ho;have hs:=hb.size;have hbe:Below N W0 w1:=hb.trans (hw.mono (by omega));refine⟨A',c',rfl,zh (hbe.grown hg (Nat.le_trans hN hbe.size) fun k hk=>(hown.lt k hk).1),zh ?_⟩;exact zkq.app (W:=w1) (S:=fun q=>N<=q) (S':=fun q=>N<=q) hl kH
  (fun k hk hv=>by
   obtain⟨A1,c1,e1,e2,e3⟩:=h2 k hk hv;exact⟨A1,c1,e1,e2,e3.later hw⟩) (fun q h _=>h)
  (fun k hk hv=>by
   obtain⟨A1,c1,e1,e2,e3⟩:=hy k hk hv;exact⟨A1,c1,e1,e2,e3.keep (fun q h hlt=>⟨by omega,fun e=>by have:=(hown.lt q e).2;omega⟩) fun _ _ _=>rfl⟩) ho hg ak
theorem zzQ{w:World}{P:Nat->Prop}{us:List Value}{ys:List (List Int)}(hl:us.length=ys.length)(hy:∀k (hk:k<ys.length) (hv:k<us.length),∃A c,us[k]=.slice A ys[k].length c/\ys[k].length<=c/\RowI w P A ys[k]):∀u∈us,u.oneCell'=true:=fun u hu=>by
 obtain⟨k,hk,rfl⟩:=List.mem_iff_getElem.1 hu;obtain⟨A,c,e,-⟩:=hy k (by omega) hk;rw[e];rfl
theorem znp{v:Int}{a:Nat}(j:Nat):(List.range (j+1)).flatMap (fun i=>tupE v (a+i))=(List.range j).flatMap (fun i=>tupE v (a+i))++tupE v (a+j):=by
 rw[List.range_succ,List.flatMap_append];simp
theorem zy9{v:Int}{a j K:Nat}(h:j<=K):((List.range j).flatMap (fun i=>tupE v (a+i))).length<=((List.range K).flatMap (fun i=>tupE v (a+i))).length:=by
 induction K with
 | zero =>
  obtain rfl:j=0:=by omega
  exact zl
 | succ K ih =>
  by_cases e:j=K+1
  ·rw[e];exact zl
  ·rw[znp K,List.length_append];have:=ih (by omega);omega
theorem ztG{v:Int}(hv:0<=v):∀ {i j:Nat},i<=j->(tupE v i).length<=(tupE v j).length:=by
 intro i j h
 induction j with
 | zero =>
  obtain rfl:i=0:=by omega
  exact zl
 | succ j ih =>
  by_cases e:i=j+1
  ·rw[e];exact zl
  ·refine Nat.le_trans (ih (by omega)) ?_;have hs:∀l:List (List Int),l.length<=(l.flatMap fun t=>(rngZ v).map fun x=>t++[x]).length:=by
    intro l
    induction l with
    | nil=>exact zl
    | cons t l ih2 =>
     rw[List.flatMap_cons,List.length_append,List.length_map,zpC,List.length_cons];omega
   exact hs _
theorem zrt(v:Int)(a m:Nat)(w:World)(hv:0<=v/\v<=1000)(ha:a<=1000)(wX:m<=1000)(ham:a<=m)(hm:(betE v a m).length<=1000) :
  Calls prog 44 #[.int .i64 v,.int .i64 (a:Int),.int .i64 (m:Int)] w fun e w'=>Below w.heap.size w w'/\∃u,e=.returned u/\zkq w' w.heap.size (fun q=>w.heap.size<=q) u (betE v a m):=by
 obtain⟨K,hK⟩:=zX (m+1-a);have hKm:(a:Int)+(K:Int)=(m:Int)+1:=by omega
 have rM:=zh (show betE v a m=(List.range K).flatMap (fun i=>tupE v (a+i)) by unfold betE;rw[hK]);have fQ:=zh (fun j (hj:j<=K)=>show((List.range j).flatMap (fun i=>tupE v (a+i))).length<=1000 by have:=zy9 (v:=v) (a:=a) hj;have h2:=rM.out;rw[h2]at hm;omega);have HTU:=zh (fun j w' (hj:j<K)=>zsF v (a+j) w' hv (by omega) fun i hi=>by
  have h1:=fQ.out (j+1) hj;rw[znp,List.length_append]at h1;have:=ztG hv.1 hi;omega)
 obtain⟨N,hN⟩:=zX (w.heap.size);have HN:=zh hN;clear hm hN hK;go_enter func44,ntmps44;go_wp2_with fail
 go_loopw [8,7] (fun i ov wr=>∃j:Nat,j<=K/\i=.int .i64 ((a:Int)+(j:Int))/\Hid (Below w.heap.size w wr)/\Hid (zkq wr w.heap.size (fun q=>w.heap.size<=q) ov ((List.range j).flatMap (fun i=>tupE v (a+i))))) (fun i _ _=>K-(intOf i-(a:Int)).toNat)
 case atStart=>exact⟨0,by omega,by simp,zh zr,zh (zkq.nil _ _ _)⟩
 case round =>
  obtain⟨j,hj,rfl,HB,HR⟩:=hrel;obtain⟨Ao,co,rfl⟩:=HR.out.slice;obtain⟨ls,hls⟩:=zX ((List.range j).flatMap (fun i=>tupE v (a+i)));have xQ:=zh hls;rw[hls]at HR ⊢;clear hls;by_cases hlt:j<K
  ·have hj1:(a:Int)+(j:Int)<=(m:Int):=by omega
   have hw1:IntKind.i64.wrap ((a:Int)+(j:Int)+1)=(a:Int)+(j:Int)+1:=IntWalk.i64_in _ (by omega);have HT2:=zh (show Calls _ _ _ _ _ from HTU.out j wr hlt);rw[show(((a+j:Nat)):Int)=(a:Int)+(j:Int) by omega]at HT2;go_wp2_with fail;refine HT2.out.mono ?_;rintro e w1 ⟨hb1,u,rfl,hu⟩;obtain⟨Au,cu,rfl⟩:=hu.slice;obtain⟨us,Ag,lu,dX⟩:=hu;obtain⟨vs,hown,hvl,hvs⟩:=HR.out;obtain⟨hn1,hn2,bV⟩:=zr3 Ag;have hlen:ls.length+(tupE v (a+j)).length<=1000:=by
    have h1:=fQ.out (j+1) (by omega);rw[znp,xQ.out,List.length_append]at h1;exact h1
   have h1c:=zzQ lu dX;have wh:=zh (fun v' w'=>zkq.join (W0:=w) (N:=w.heap.size) (wr:=wr) (w1:=w1) (v':=v') (w':=w') (u:=.slice Au (tupE v (a+j)).length cu) HB.out zl hb1 hvl hown hvs lu dX);obtain⟨ys,hys⟩:=zX (tupE v (a+j));have HYS:=zh hys;rw[hys]at wh hn1 bV hlen Ag ⊢;have hbw:w.heap.size<=w1.heap.size:=Nat.le_trans HB.out.size hb1.size;have howl:=zkp hown hb1;clear hb1 lu dX hown hvl hvs Ag hys;go_wp2_with (at_builtin;refine zki rfl (.tmp 15) (.tmp 18) rfl underlying29 znb rfl (by decide) (by decide) w.heap.size (.slice Ao ls.length co) ls.length vs rfl howl Au ys.length cu us rfl bV hn1 hn2 h1c (by omega) hbw ?_;intro v3 w3 ho hg ak;obtain⟨A3,c3,rfl,aH,bJ⟩:=wh.out _ _ ho hg ak;clear ho hg ak)
   go_roundw
   case rel =>
    refine⟨j+1,by omega,by rw[show(a:Int)+((j+1:Nat):Int)=(a:Int)+(j:Int)+1 by omega],aH,zh ?_⟩;have h:=bJ.out;rw[znp,xQ.out,HYS.out];exact h
   case measure=>simp only[intOf];omega
  ·obtain rfl:j=K:=by omega
   have hj1:¬ (a:Int)+(j:Int)<=(m:Int):=by omega
   go_wp2_with fail;go_ret;exact⟨HB.out,_,rfl,by rw[rM.out,xQ.out];exact HR.out⟩
end
section
open Go Go.RowKit
def SmI(l:List Int):Prop:=l.length<=1000000/\∀e∈l,-1000000<=e/\e<=1000000
theorem zqv{l:List Int}{j:Nat}(hj:j<l.length):lw (l.take (j+1))=lw (l.take j)+(1+rnk l[j]):=by
 rw[List.take_succ_eq_append_getElem hj];unfold lw;rw[List.map_append,List.sum_append];congr 1;simp
theorem ztZ{x:Int}(h : -1000000<=x/\x<=1000000):0<=rnk x/\rnk x<=2000000:=by unfold rnk;split<;>omega
theorem zKJ{l:List Int}(h:SmI l):0<=lw l/\lw l<=l.length*2000001:=by
 have h1:=zxS (l:=l) (h:=2000001) fun e he=>by have:=ztZ (h.2 e he);omega
 omega
structure SmS(s:SS):Prop where
 n:s.cells.length<=1000
 c:∀l∈s.cells,SmI l
 i:SmI s.tin
 o:SmI s.tout
theorem zp7{ls:List (List Int)}{j:Nat}(hj:j<ls.length):wt (ls.take (j+1))=wt (ls.take j)+lw ls[j]:=by
 rw[List.take_succ_eq_append_getElem hj];unfold wt;rw[List.map_append,List.sum_append];congr 1;simp
theorem zxR{l:List Int}(h:SmI l):0<=lw l/\lw l<=2000001000000:=by
 have h1:=zKJ h;have h2:=h.1;omega
theorem zzL:∀ {ls:List (List Int)},(∀l∈ls,SmI l)->0<=wt ls/\wt ls<=ls.length*2000001000000
 | [],_=>by simp[wt]
 | l::ls,h=>by
  have h1:=zxR (h l (List.mem_cons_self ..));have h2:=zzL (ls:=ls) fun x hx=>h x (List.mem_cons_of_mem _ hx);rw[zye,List.length_cons];omega
attribute [local go_sem] Oper.semAt_some
theorem zqU(x:Int)(w:World)(hx : -1000000<=x/\x<=1000000):Calls prog 128 #[.int .i64 x] w fun e w'=>e=.returned (.int .i64 (rnk x))/\w'=w:=by
 have e1:IntKind.i64.wrap (2*x)=2*x:=IntWalk.i64_in _ (by omega);have e2:IntKind.i64.wrap (2*x-1)=2*x-1:=IntWalk.i64_in _ (by omega);have e3:IntKind.i64.wrap (0-2*x) = -2*x:=by rw[show(0:Int)-2*x = -2*x by omega];exact IntWalk.i64_in _ (by omega)
 go_enter func128,ntmps128;by_cases h:0<x
 ·go_wp2_with fail;go_ret;simp[rnk,h]
 ·go_wp2_with fail;go_ret;exact⟨by rw[show rnk x = -(2*x) by unfold rnk;rw[if_neg (by omega)];omega];rfl,rfl⟩
theorem zr7{A:Option Addr}{m n c:Nat}:(Value.slice A m c).ownBlock=(Value.slice A n c).ownBlock:=by cases A<;>rfl
theorem zkq.addS{W0 wr we w':World}{n0:Nat}{S:Nat->Prop}{v v':Value}{ls ys:List (List Int)}{vs us:List Value}(xe:∀q,S q->q<n0)(hb:Below n0 W0 wr)(hn:n0<=W0.heap.size)(hown:wr.ownsRow n0 30 1 v ls.length vs)(hl:vs.length=ls.length)
  (h2:∀k (hk:k<ls.length) (hv:k<vs.length),∃A c,vs[k]=.slice A ls[k].length c/\ls[k].length<=c/\RowI wr (fun q=>S q/\v.ownBlock≠some q) A ls[k])(kH:us.length=ys.length)(hw:Below wr.heap.size wr we)
  (hy:∀k (hk:k<ys.length) (hv:k<us.length),∃A c,us[k]=.slice A ys[k].length c/\ys[k].length<=c/\RowI we S A ys[k])
  (ho:w'.ownsRow n0 30 1 v' (ls.length+ys.length) (vs++us))(hg:we.grownBy w' v.ownBlock)(ak:v'.ownBlock=v.ownBlock\/v'.ownBlock=some we.heap.size) :
  ∃A' c',v'=.slice A' (ls.length+ys.length) c'/\Hid (Below n0 W0 w')/\Hid (zkq w' n0 S (.slice A' (ls.length+ys.length) c') (ls++ys)):=by
 obtain⟨A',c',rfl,-⟩:=zkd ho;have hs:=hb.size;have hbe:Below n0 W0 we:=hb.trans (hw.mono (by omega));refine⟨A',c',rfl,zh (hbe.grown hg (Nat.le_trans hn hbe.size) fun k hk=>(hown.lt k hk).1),zh ?_⟩;exact zkq.app (W:=we) (S:=S) (S':=S) hl kH
  (fun k hk hv=>by
   obtain⟨A1,c1,e1,e2,e3⟩:=h2 k hk hv;exact⟨A1,c1,e1,e2,e3.later hw⟩) (fun q h _=>h)
  (fun k hk hv=>by
   obtain⟨A1,c1,e1,e2,e3⟩:=hy k hk hv;exact⟨A1,c1,e1,e2,e3.mono fun q h=>⟨h,fun e=>by have:=(hown.lt q e).1;have:=xe q h;omega⟩⟩) ho hg ak
theorem bL2R(A B:Option Addr)(l c m d:Nat)(w:World):(Instr.buildSlice 29 2 #[(0,.slice A l c),(1,.slice B m d)]).run prog w=.ok (.slice (some ⟨w.heap.size,0,none⟩) 2 2) (w.alloc (.cells #[.slice A l c,.slice B m d] 30)):=by kernel_rfl
theorem zv6(w:World)(u v:Value)(E:TypeId):∀ad,(some ⟨w.heap.size,0,none⟩:Option Addr)=some ad->∀j x,[u,v][j]?=some x->(w.alloc (.cells #[u,v] E)).cell? (ad.add j)=some x:=fun ad e j x hj=>by
 injection e with e;subst e;have hk:=heap_alloc_new w (.cells #[u,v] E);rw[Addr.add_lit,Nat.zero_add]
 match j,hj with
 | 0,hj=>simp at hj;subst hj;exact zc hk rfl
 | 1,hj=>simp at hj;subst hj;exact zc hk rfl
theorem zv5(A B:Option Addr)(l c m d:Nat):∀u∈[Value.slice A l c,Value.slice B m d],u.oneCell'=true:=fun u hu=>by
 simp only[List.mem_cons,List.not_mem_nil,or_false]at hu;rcases hu with rfl|rfl<;>rfl
theorem zop(s:SS)(v:Value)(w:World){S:Nat->Prop}(hv:SV w S s v)(hn:s.cells.length<=1000) :
  Calls prog 127 #[v] w fun e w'=>Below w.heap.size w w'/\∃A c,e=.returned (.slice A (s.cells.length+2) c)/\zlw w' (fun q=>S q\/w.heap.size<=q) A (lisS s):=by
 have hv2:=hv.keep (S':=fun q=>S q/\q<w.heap.size) (fun _ h hlt=>⟨h,hlt⟩) fun _ _ _=>rfl;obtain⟨A,c,B,d,D,e,rfl,h1,h2,h3,h4,h5,h6,h7⟩:=hv2;obtain⟨N,hN⟩:=zX (w.heap.size);have hb1:=zkb (zs w) (.cells #[.slice A s.cells.length c,.slice B s.tin.length d,.slice D s.tout.length e] 32);have k1:=heap_alloc_new w (.cells #[.slice A s.cells.length c,.slice B s.tin.length d,.slice D s.tout.length e] 32);have hz1:(w.alloc (.cells #[.slice A s.cells.length c,.slice B s.tin.length d,.slice D s.tout.length e] 32)).heap.size=N+1:=by simp[hN]
 obtain⟨w1,hw1⟩:=zX (w.alloc (.cells #[.slice A s.cells.length c,.slice B s.tin.length d,.slice D s.tout.length e] 32));rw[hw1]at hb1 k1 hz1;rw[hN]at k1 h1 h2 h3;have HB1:=zh hb1;have HZ1:=zh hz1;have aA:=zh k1;have HR:=zh (h1.later hb1);have HI:=zh (And.intro (h2.later hb1) (And.intro (h3.later hb1) (And.intro h5 h6)));have hL1:=bL1R;have hL2:=bL2R;obtain⟨n,hn'⟩:=zX (s.cells.length);have HN:=zh hn';rw[hn']at hn k1 aA hw1 ⊢;clear hv h1 h2 h3 h4 h5 h6 h7 hb1 k1 hz1 hn';go_enter func127,ntmps127;go_wp2_with fail
 try rw[hw1]
 try rw[hN]
 clear hw1 hN
 go_loopw [4,3] (fun i ov wr=>∃j:Nat,j<=n/\i=.int .i64 j/\Hid (Below w1.heap.size w1 wr)/\Hid (zkq wr w1.heap.size (fun q=>S q/\q<N) ov (s.cells.take j))) (fun i _ _=>n-(intOf i).toNat)
 case atStart=>exact⟨0,by omega,rfl,zh zr,zh (zkq.nil _ _ _)⟩
 case round =>
  obtain⟨j,hj,rfl,HB,HR2⟩:=hrel;obtain⟨z0,z1,z2⟩:=zky (zkc aA.out HB.out);by_cases hlt:j<n
  ·have hj1:(j:Int)<(n:Int):=by omega
   have hj0:(0:Int)<=(j:Int):=by omega
   have hjs:j<s.cells.length:=by rw[HN.out];exact hlt
   obtain⟨a,A',c',rfl,-,h0,hc,hr⟩:=(HR.out.later HB.out) j hjs;obtain⟨l,hl⟩:=zX (s.cells[j]);rw[hl]at h0 hc hr;have qX:=zh (show s.cells.take (j+1)=s.cells.take j++[l] by rw[List.take_succ_eq_append_getElem hjs,hl]);obtain⟨Ao,co,rfl⟩:=HR2.out.slice;obtain⟨vs,hown,hvl,hvs⟩:=HR2.out;have hlj:(s.cells.take j).length=j:=by rw[List.length_take];omega
   have hown0:=hown;rw[hlj]at hown;have hsz:w1.heap.size<=wr.heap.size:=HB.out.size;have ja:=zh (show ∀v3 w3,w3.ownsRow w1.heap.size 30 1 v3 (j+1) (vs++[.slice A' l.length c'])->(wr.alloc (.cells #[.slice A' l.length c'] 30)).grownBy w3 (Value.slice Ao j co).ownBlock->(v3.ownBlock=(Value.slice Ao j co).ownBlock\/v3.ownBlock=some (wr.alloc (.cells #[.slice A' l.length c'] 30)).heap.size) ->
     ∃A9 c9,v3=.slice A9 (j+1) c9/\Hid (Below w1.heap.size w1 w3)/\Hid (zkq w3 w1.heap.size (fun q=>S q/\q<N) (.slice A9 (j+1) c9) (s.cells.take (j+1)))from fun v3 w3 h1 h2 h3=>by
    rw[qX.out];have hz:=HZ1.out;have:=zkq.addS (W0:=w1) (wr:=wr) (we:=wr.alloc (.cells #[.slice A' l.length c'] 30)) (w':=w3) (n0:=w1.heap.size) (S:=fun q=>S q/\q<N) (v:=.slice Ao (s.cells.take j).length co) (v':=v3) (ls:=s.cells.take j) (ys:=[l]) (vs:=vs) (us:=[.slice A' l.length c']) (fun q h=>by have:=h.2;omega) HB.out zl hown0 hvl hvs rfl (zkb zr _)
     (fun k hk hv=>by
      obtain rfl:k=0:=by simpa using hk
      exact⟨A',c',rfl,hc,hr.later (zkb zr _)⟩) (by rw[hlj];exact h1) (by rw[zr7 (n:=j)];exact h2) (by rw[zr7 (n:=j)];exact h3)
    rw[hlj]at this;exact this)
   have hown2:=zkp hown (zkb (zs wr) (.cells #[.slice A' l.length c'] 30));have hs2:w1.heap.size<=(wr.alloc (.cells #[.slice A' l.length c'] 30)).heap.size:=Nat.le_trans hsz (zkb (zs wr) _).size;clear hvl hvs hown hown0 hr hc hl;rw[hlj];go_wp2_with (at_builtin;refine zki rfl (.tmp 12) (.tmp 18) rfl underlying29 znb rfl (by decide) (by decide) w1.heap.size (.slice Ao j co) j vs rfl hown2 (some ⟨wr.heap.size,0,none⟩) 1 1 [.slice A' l.length c'] rfl rfl (fun e=>by cases e) (zl4 wr _ _) (zpE _ _ _) (by omega) hs2 ?_;intro v3 w3 ho hg ak;obtain⟨A3,c3,rfl,aH,bJ⟩:=ja.out _ _ ho hg ak;clear ho hg ak)
   go_roundw
   case rel=>exact⟨j+1,by omega,by go_num,aH,bJ⟩
   case measure=>simp[intOf];omega
  ·obtain rfl:j=n:=by omega
   have hj1:¬ (j:Int)<(j:Int):=by omega
   have hlj:s.cells.take j=s.cells:=by rw[<-HN.out,List.take_length]
   rw[hlj]at HR2;obtain⟨Ao,co,rfl⟩:=HR2.out.slice;obtain⟨vs,hown,hvl,hvs⟩:=HR2.out;have hown0:=hown;rw[HN.out]at hown ⊢;have hsz:w1.heap.size<=wr.heap.size:=HB.out.size;have ja:=zh (show ∀v3 w3,w3.ownsRow w1.heap.size 30 1 v3 (j+2) (vs++[.slice B s.tin.length d,.slice D s.tout.length e])->(wr.alloc (.cells #[.slice B s.tin.length d,.slice D s.tout.length e] 30)).grownBy w3 (Value.slice Ao j co).ownBlock->(v3.ownBlock=(Value.slice Ao j co).ownBlock\/v3.ownBlock=some (wr.alloc (.cells #[.slice B s.tin.length d,.slice D s.tout.length e] 30)).heap.size) ->
     ∃A9 c9,v3=.slice A9 (j+2) c9/\Hid (Below w1.heap.size w1 w3)/\Hid (zkq w3 w1.heap.size (fun q=>S q/\q<N) (.slice A9 (j+2) c9) (lisS s))from fun v3 w3 h1 h2 h3=>by
    have hz:=HZ1.out;obtain⟨i1,i2,i3,i4⟩:=HI.out;have:=zkq.addS (W0:=w1) (wr:=wr) (we:=wr.alloc (.cells #[.slice B s.tin.length d,.slice D s.tout.length e] 30)) (w':=w3) (n0:=w1.heap.size) (S:=fun q=>S q/\q<N) (v:=.slice Ao s.cells.length co) (v':=v3) (ls:=s.cells) (ys:=[s.tin,s.tout]) (vs:=vs) (us:=[.slice B s.tin.length d,.slice D s.tout.length e]) (fun q h=>by have:=h.2;omega) HB.out zl hown0 hvl hvs rfl (zkb zr _)
     (fun k hk hv=>by
      match k,hk with
      | 0,_=>exact⟨B,d,rfl,i3,(i1.later HB.out).later (zkb zr _)⟩
      | 1,_=>exact⟨D,e,rfl,i4,(i2.later HB.out).later (zkb zr _)⟩) (by rw[HN.out];exact h1) (by rw[zr7 (n:=j)];exact h2) (by rw[zr7 (n:=j)];exact h3)
    rw[HN.out]at this;exact this)
   have hown2:=zkp hown (zkb (zs wr) (.cells #[.slice B s.tin.length d,.slice D s.tout.length e] 30));have hs2:w1.heap.size<=(wr.alloc (.cells #[.slice B s.tin.length d,.slice D s.tout.length e] 30)).heap.size:=Nat.le_trans hsz (zkb (zs wr) _).size;clear hvl hvs hown hown0 hlj;go_wp2_with (at_builtin;refine zki rfl (.tmp 20) (.tmp 25) rfl underlying29 znb rfl (by decide) (by decide) w1.heap.size (.slice Ao j co) j vs rfl hown2 (some ⟨wr.heap.size,0,none⟩) 2 2 [.slice B s.tin.length d,.slice D s.tout.length e] rfl rfl (fun e=>by cases e) (zv6 wr _ _ _) (zv5 _ _ _ _ _ _) (by omega) hs2 ?_;intro v3 w3 ho hg ak;obtain⟨A3,c3,rfl,aH,bJ⟩:=ja.out _ _ ho hg ak;clear ho hg ak)
   go_ret;obtain⟨A8,c8,e8,-,h8⟩:=(bJ.out.keep (S':=fun q=>S q\/w.heap.size<=q) (fun q h _=>.inl h.1) fun _ _ _=>rfl).ii fun q h _=>.inr (Nat.le_trans HB1.out.size h);have hll:(lisS s).length=j+2:=by unfold lisS;rw[List.length_append,HN.out];rfl
   injection e8 with e1 e2 e3;subst e1 e3;exact⟨zka HB1.out aH.out,A3,⟨c3,rfl⟩,h8⟩
theorem zoJ(s:SS)(v:Value)(w:World)(hv:SV w Any s v)(hs:SmS s) :
  Calls prog 126 #[v] w fun e w'=>e=.returned (.int .i64 (wt (lisS s)))/\Below w.heap.size w w':=by
 have rz:=zh (fun w' (hb:Below w.heap.size w w')=>zop s v w' (hv.later hb) hs.n);obtain⟨A,c,B,d,D,e,rfl⟩:∃A c B d D e,v=.agg #[.slice A s.cells.length c,.slice B s.tin.length d,.slice D s.tout.length e]:=by
  obtain⟨A,c,B,d,D,e,rfl,-⟩:=hv;exact⟨_,_,_,_,_,_,rfl⟩
 have qf:=zh zqU;have hb1:=zkb (zs w) (.cells #[.slice A s.cells.length c,.slice B s.tin.length d,.slice D s.tout.length e] 32);have k1:=heap_alloc_new w (.cells #[.slice A s.cells.length c,.slice B s.tin.length d,.slice D s.tout.length e] 32);obtain⟨w1,hw1⟩:=zX (w.alloc (.cells #[.slice A s.cells.length c,.slice B s.tin.length d,.slice D s.tout.length e] 32));rw[hw1]at hb1 k1;obtain⟨z0,z1,z2⟩:=zky k1;have HB1:=zh hb1;have eU:=zh (show ∀l∈lisS s,SmI l from fun l hl=>by
  rcases List.mem_append.1 hl with h|h
  ·exact hs.c l h
  ·simp only[List.mem_cons,List.not_mem_nil,or_false]at h;rcases h with rfl|rfl
   ·exact hs.i
   ·exact hs.o)
 have HN:=zh (show(lisS s).length=s.cells.length+2 by simp[lisS]);have bV:=hs.n;clear hv hb1 k1 hs;obtain⟨n,hn⟩:=zX (s.cells.length+2);have qM:n<=1002:=by omega
 rw[hn]at HN;go_enter func126,ntmps126;go_wp2_with fail;refine(rz.out _ HB1.out).mono ?_;rintro e2 w2 ⟨hb2,A2,c2,rfl,hr2⟩;rw[hn];have HB2:=zh (zka HB1.out hb2);have HR:=zh (hr2.keep (S':=Any) (fun _ _ _=>trivial) fun _ _ _=>rfl);obtain⟨LL,lI⟩:=zX (lisS s);have bH:=zh lI;rw[lI]at HR eU HN;clear hb2 hr2 z0 z1 z2 lI hn hw1 rz bV;go_wp2_with fail
 go_loopw [5,4] (fun i x wr=>∃j:Nat,j<=n/\i=.int .i64 j/\x=.int .i64 (wt (LL.take j))/\wr=w2) (fun i _ _=>n-(intOf i).toNat)
 case atStart=>exact⟨0,by omega,rfl,rfl,rfl⟩
 case round =>
  obtain⟨j,hj,rfl,rfl,rfl⟩:=hrel;obtain⟨W9,rfl⟩:∃x,x=wr:=⟨_,rfl⟩
  by_cases hlt:j<n
  ·have hj1:(j:Int)<(n:Int):=by omega
   have hj0:(0:Int)<=(j:Int):=by omega
   have hjl:j<LL.length:=by rw[HN.out];exact hlt
   obtain⟨a,l,Al,cl,rfl,Hl,h0,hlc,hr⟩:=HR.out.nd hjl;have hsm:SmI l:=by rw[<-Hl.out];exact eU.out _ (List.getElem_mem hjl)
   have yT:=zh (show wt (LL.take (j+1))=wt (LL.take j)+lw l by rw[zp7 hjl,Hl.out]);have gZ:=zh hr;have qY:=zh hsm;have hwb:=zzL (fun q hq=>eU.out q (List.mem_of_mem_take (i:=j) hq));obtain⟨W0,hW0⟩:=zX (wt (LL.take j));rw[hW0]at yT hwb ⊢;obtain⟨m,hm⟩:=zX (l.length);have HM:=zh hm;have hm6:m<=1000000:=by rw[<-hm];exact hsm.1
   rw[hm]at h0;have hwb2:0<=W0/\W0<=1002*2000001000000:=by
    have:(LL.take j).length<=1002:=by rw[List.length_take];omega
    obtain⟨q1,q2⟩:=hwb;refine⟨q1,Int.le_trans q2 ?_⟩;have:((LL.take j).length:Int)<=1002:=by omega
    omega
   clear hr hsm hwb hm hW0 Hl hjl;go_wp2_with fail
   go_loopw [6,4] (fun i x wr=>∃k:Nat,k<=m/\i=.int .i64 k/\x=.int .i64 (W0+lw (l.take k))/\wr=W9) (fun i _ _=>m-(intOf i).toNat)
   case atStart=>exact⟨0,by omega,rfl,by simp[lw],rfl⟩
   case round =>
    obtain⟨k,hk,rfl,rfl,rfl⟩:=hrel;by_cases u7:k<m
    ·have hk1:(k:Int)<(m:Int):=by omega
     have hk0:(0:Int)<=(k:Int):=by omega
     have hkl:k<l.length:=by rw[HM.out];exact u7
     obtain⟨a',e1,-,hx,-⟩:=gZ.out k hkl;subst e1;have qH:=qY.out.2 _ (List.getElem_mem hkl);have HT:=zh (show W0+lw (l.take (k+1))=W0+lw (l.take k)+rnk l[k]+1 by rw[zqv hkl];omega);have kG:=zxR (l:=l.take k) ⟨by rw[List.length_take];omega,fun e he=>qY.out.2 e (List.mem_of_mem_take he)⟩;have hRk:=qf.out l[k] wr qH;have hrb:=ztZ qH;generalize l[k]=x at *
     obtain⟨r,hr⟩:=zX (rnk x);obtain⟨X,hX⟩:=zX (W0+lw (l.take k));rw[hr]at HT hRk hrb;rw[hX]at HT ⊢;have hXb:0<=X/\X<=3000000000000000:=by omega
     have HRk:=zh hRk;have hw1:IntKind.i64.wrap (X+r)=X+r:=IntWalk.i64_in _ (by omega);have hw2:IntKind.i64.wrap (X+r+1)=X+r+1:=IntWalk.i64_in _ (by omega);clear hr hX kG hRk qH hkl;go_wp2_with fail;refine HRk.out.mono ?_;rintro e w3 ⟨rfl,rfl⟩;go_wp2_with fail
     go_roundw
     case rel=>exact⟨k+1,by omega,by go_num,by rw[HT.out],trivial⟩
     case measure=>simp[intOf];omega
    ·obtain rfl:k=m:=by omega
     have hk1:¬ (k:Int)<(k:Int):=by omega
     have HE:=zh (show W0+lw (l.take k)=wt (LL.take (j+1)) by rw[yT.out,<-HM.out,List.take_length]);go_wp2_with fail
     go_roundw
     case rel=>exact⟨j+1,by omega,by go_num,by rw[HE.out],trivial⟩
     case measure=>simp[intOf];omega
  ·obtain rfl:j=n:=by omega
   have hj1:¬ (j:Int)<(j:Int):=by omega
   go_wp2_with fail;go_ret;exact⟨by rw[bH.out,<-HN.out,List.take_length];rfl,HB2.out⟩
end
section
open Go Go.RowKit
attribute [local go_sem] Oper.semAt_some
structure SmC(s:SS):Prop where
 n:s.cells.length<=100
 c:∀l∈lisS s,l.length<=1000/\∀e∈l,-1000000<=e/\e<=1000000
theorem SmC.sm{s:SS}(h:SmC s):SmS s :=
 ⟨by have:=h.n;omega,fun l hl=>⟨by have:=(h.c l (List.mem_append_left _ hl)).1;omega,(h.c l (List.mem_append_left _ hl)).2⟩,⟨by have:=(h.c s.tin (by simp[lisS])).1;omega,(h.c s.tin (by simp[lisS])).2⟩,⟨by have:=(h.c s.tout (by simp[lisS])).1;omega,(h.c s.tout (by simp[lisS])).2⟩⟩
structure XY(W0:World)(C:Nat->Prop)(w:World)(Ax:Option Addr)(cx p:Nat)(Ay:Option Addr)(cy q:Nat)(xs ys:List Int):Prop where
 bl:Chg C W0 w
 nw:∀b,W0.heap.size<=b->C b
 x:w.ownsRow 0 3 1 (.slice Ax p cx) p (zkg xs)
 y:w.ownsRow 0 3 1 (.slice Ay q cy) q (zkg ys)
 xC:∀b,(Value.slice Ax p cx).ownBlock=some b->C b
 yC:∀b,(Value.slice Ay q cy).ownBlock=some b->C b
 ne:∀b,(Value.slice Ax p cx).ownBlock=some b->(Value.slice Ay q cy).ownBlock=some b->False
theorem XY.px{W0 w w':World}{C:Nat->Prop}{cx cy p q:Nat}{Ax Ay:Option Addr}{xs ys:List Int}{u:Int}{v':Value}(h:XY W0 C w Ax cx p Ay cy q xs ys)(ho:w'.ownsRow 0 3 1 v' (p+1) (zkg xs++[.int .i64 u]))(hg:(w.alloc (.cells #[.int .i64 u] 3)).grownBy w' (Value.slice Ax p cx).ownBlock)
  (ak:v'.ownBlock=(Value.slice Ax p cx).ownBlock\/v'.ownBlock=some (w.alloc (.cells #[.int .i64 u] 3)).heap.size):∃A c,v'=.slice A (p+1) c/\Hid (XY W0 C w' A c (p+1) Ay cy q (xs++[u]) ys):=by
 obtain⟨A,c,rfl,-⟩:=zkd ho;have aY:=zkb (zs w) (.cells #[.int .i64 u] 3);have hs:=h.bl.size;refine⟨A,c,rfl,zh ⟨(h.bl.trans2 (Chg.of_below (C:=fun _=>False) aY) fun b _ h=>h.elim).trans2 (Chg.row hg) fun b _ hb=>h.xC b hb,h.nw,?_,?_,fun b h1=>?_,h.yC,fun b h1 h2=>?_⟩⟩
 ·have e:zkg (xs++[u])=zkg xs++[.int .i64 u]:=by simp[zkg]
  rw[e];exact ho
 ·refine zmi (zkp h.y aY) fun b hb=>hg.block b (Nat.lt_of_lt_of_le (h.y.lt b hb).2 aY.size) fun e=>h.ne b e.symm hb
 ·rcases ak with e|e
  ·exact h.xC b (e▸h1)
  ·rw[e]at h1;injection h1 with h1;exact h.nw b (by have:=aY.size;omega)
 ·rcases ak with e|e
  ·exact h.ne b (e▸h1) h2
  ·rw[e]at h1;injection h1 with h1;have:=(h.y.lt b h2).2;have:=aY.size;omega
theorem XY.py{W0 w w':World}{C:Nat->Prop}{cx cy p q:Nat}{Ax Ay:Option Addr}{xs ys:List Int}{u:Int}{v':Value}(h:XY W0 C w Ax cx p Ay cy q xs ys)(ho:w'.ownsRow 0 3 1 v' (q+1) (zkg ys++[.int .i64 u]))(hg:(w.alloc (.cells #[.int .i64 u] 3)).grownBy w' (Value.slice Ay q cy).ownBlock)
  (ak:v'.ownBlock=(Value.slice Ay q cy).ownBlock\/v'.ownBlock=some (w.alloc (.cells #[.int .i64 u] 3)).heap.size):∃A c,v'=.slice A (q+1) c/\Hid (XY W0 C w' Ax cx p A c (q+1) xs (ys++[u])):=by
 have h':XY W0 C w Ay cy q Ax cx p ys xs:=⟨h.bl,h.nw,h.y,h.x,h.yC,h.xC,fun b h1 h2=>h.ne b h2 h1⟩
 obtain⟨A,c,e,H⟩:=h'.px ho hg ak;have H:=H.out;exact⟨A,c,e,zh ⟨H.bl,H.nw,H.y,H.x,H.yC,H.xC,fun b h1 h2=>H.ne b h2 h1⟩⟩
theorem XY.drew{W0 w:World}{C:Nat->Prop}{cx cy p q:Nat}{Ax Ay:Option Addr}{xs ys:List Int}(h:XY W0 C w Ax cx p Ay cy q xs ys)(n:Nat):XY W0 C (w.drewN n) Ax cx p Ay cy q xs ys :=
 ⟨(h.bl.trans2 (Chg.of_below (C:=fun _=>False) (zkm (zs w) n)) fun b _ h=>h.elim),h.nw,zkp h.x (zkm (zs w) n),zkp h.y (zkm (zs w) n),h.xC,h.yC,h.ne⟩
theorem znP{w:World}{n:Nat}{A:Option Addr}{c:Nat}{xs:List Int}(h:w.ownsRow 0 3 1 (.slice A n c) n (zkg xs)){k:Nat}(hk:k<xs.length):∃a,A=some a/\w.cell? (a.add k)=some (.int .i64 xs[k]):=by
 obtain⟨h1,h2,h3⟩:=zr3 h;rcases A with _|a
 ·have:=h1 rfl;have:=h.1;simp[zkg]at this;omega
 ·exact⟨a,rfl,h2 a rfl k _ (by simp[zkg,hk])⟩
theorem zmz{w:World}{n:Nat}{v:Value}{xs:List Int}(h:w.ownsRow 0 3 1 v n (zkg xs)):xs.length=n:=by
 have:=h.1;simpa[zkg]using this
theorem ztX{w3:World}{C:Nat->Prop}{A:Option Addr}{L:List (List Int)}(h:zlw w3 (fun q=>¬ C q) A L){j:Nat}(hj:j<L.length):∃(a:Addr) (l:List Int) (A':Option Addr) (c':Nat),A=some a/\Hid (L[j]=l)/\l.length<=c'/\∀w',Chg C w3 w'->w'.cell? (a.add j)=some (.slice A' l.length c')/\RowI w' (fun q=>¬ C q) A' l:=by
 obtain⟨a,A',c',rfl,hS,h0,hc,hr⟩:=h j hj;refine⟨a,L[j],A',c',rfl,rfl,hc,fun w' hw=>⟨zkN h0 ?_,hr.keep (fun _ h _=>h) fun q hq hlt=>hw.block q hlt hq⟩⟩;have hlt:a.block<w3.heap.size:=by have:=World.block_lt_of_cell? w3 _ h0;rwa[zkz]at this
 rw[zkz];exact hw.block _ hlt hS
theorem zrN{l:List Int}{k m:Nat}(h:(k=m\/(k=l.length/\k<=m))):l.take k=l.take m:=by
 rcases h with rfl|⟨rfl,h⟩
 ·rfl
 ·rw[List.take_length,List.take_of_length_le h]
theorem zqw{L M:List (List Int)}{j:Nat}(h1:j<L.length)(h2:j<M.length):keyA (L.drop j) (M.drop j)=((L[j].length:Int)::(L[j].take M[j].length).map rnk)++(if L[j].length=M[j].length then keyA (L.drop (j+1)) (M.drop (j+1))else []):=by
 rw[List.drop_eq_getElem_cons h1,List.drop_eq_getElem_cons h2,keyA]
theorem zsi{L M:List (List Int)}{j:Nat}(h:¬ (j<L.length/\j<M.length)):keyA (L.drop j) (M.drop j)=[]:=by
 by_cases h1:j<L.length
 ·have h2:M.drop j=[]:=List.drop_eq_nil_of_le (by omega);rw[h2]
  cases L.drop j<;>rfl
 ·have h2:L.drop j=[]:=List.drop_eq_nil_of_le (by omega);rw[h2];rfl
theorem zor{xs ys:List Int}:∀ {j:Nat},(∀k (h1:k<xs.length) (h2:k<ys.length),k<j->xs[k]=ys[k])->j<=xs.length->j<=ys.length->lexE xs ys=lexE (xs.drop j) (ys.drop j):=by
 intro j
 induction j with
 | zero=>intro _ _ _;simp
 | succ j ih =>
  intro h h1 h2;rw[ih (fun k q1 q2 q3=>h k q1 q2 (by omega)) (by omega) (by omega),List.drop_eq_getElem_cons (by omega),List.drop_eq_getElem_cons (show j<ys.length by omega),lexE];have:=h j (by omega) (by omega) (by omega);rw[if_neg (by omega),if_neg (by omega)]
theorem zpI{xs ys:List Int}{j:Nat}(h:∀k (h1:k<xs.length) (h2:k<ys.length),k<j->xs[k]=ys[k])(h1:j<xs.length)(h2:j<ys.length):lexE xs ys=if xs[j]<ys[j]then -1 else if ys[j]<xs[j]then 1 else lexE (xs.drop (j+1)) (ys.drop (j+1)):=by
 rw[zor h (by omega) (by omega),List.drop_eq_getElem_cons h1,List.drop_eq_getElem_cons h2,lexE]
abbrev stR(w':World)(b:Nat)(A:Option Addr)(l c:Nat)(B:Option Addr)(m d:Nat)(D:Option Addr)(n e:Nat):Prop:=w'.cell? ⟨b,0,none⟩=some (.slice A l c)/\w'.cell? ⟨b,1,none⟩=some (.slice B m d)/\w'.cell? ⟨b,2,none⟩=some (.slice D n e)
theorem bI2R(x y:Int)(w:World):(Instr.buildSlice 30 2 #[(0,.int .i64 x),(1,.int .i64 y)]).run prog w=.ok (.slice (some ⟨w.heap.size,0,none⟩) 2 2) (w.alloc (.cells #[.int .i64 x,.int .i64 y] 3)):=by kernel_rfl
theorem zKb:IsFn prog 126 f126:=⟨func126,by kernel_rfl,by kernel_rfl⟩
theorem zKd:IsFn prog 127 f127:=⟨func127,by kernel_rfl,by kernel_rfl⟩
def cmF(B:Nat)(wa na wb nb:Int):Nat->Value->List Value->World->Prop
 | 1,v,_,_=>v=.int .i64 wa
 | 5,v,_,w=>∃b,v=.slice (some ⟨b,0,none⟩) 2 2/\B<=b/\w.heap[b]?=some (.cells #[.int .i64 wa,.int .i64 na] 3 (0,0))
 | 7,v,_,_=>v=.int .i64 wb
 | 11,v,_,w=>∃b,v=.slice (some ⟨b,0,none⟩) 2 2/\B<=b/\w.heap[b]?=some (.cells #[.int .i64 wb,.int .i64 nb] 3 (0,0))
 | 12,v,ds,_=>ds=[v]
 | _,_,_,_=>True
def cmD:Nat->List Nat
 | 5=>[1]
 | 11=>[7]
 | 12=>[5]
 | _=>[]
def cmO:Nat->Value->Option Nat
 | 5,v=>v.ownBlock
 | 11,v=>v.ownBlock
 | _,_=>none
theorem zu6{B:Nat}{wa na wb nb:Int}{v:Value}{ds:List Value}{w w':World}(i:Nat)(h:cmF B wa na wb nb i v ds w)(hb:Below w.heap.size w w'):cmF B wa na wb nb i v ds w':=by
 unfold cmF at h ⊢
 split at h<;>try exact h
 all_goals (obtain⟨b,e,h0,h⟩:=h;exact⟨b,e,h0,zkc h hb⟩)
def clF(B0 B2:Nat)(a b:SS):Nat->Value->List Value->World->Prop
 | 1,v,_,w=>∃A c,v=.slice A (a.cells.length+2) c/\zlw w (fun q=>(q<B0\/B2<=q)/\q<w.heap.size) A (lisS a)
 | 3,v,_,w=>∃A c,v=.slice A (b.cells.length+2) c/\zlw w (fun q=>(q<B0\/B2<=q)/\q<w.heap.size) A (lisS b)
 | 4,v,ds,_=>ds=[v]
 | _,_,_,_=>True
def clD:Nat->List Nat
 | 4=>[1]
 | _=>[]
theorem zu8{B0 B2:Nat}{a b:SS}{v:Value}{ds:List Value}{w w':World}(i:Nat)(h:clF B0 B2 a b i v ds w)(hb:Below w.heap.size w w'):clF B0 B2 a b i v ds w':=by
 unfold clF at h ⊢
 split at h<;>try exact h
 all_goals (obtain⟨A,c,e,h⟩:=h;exact⟨A,c,e,h.keep (fun _ h hlt=>⟨h.1,Nat.lt_of_lt_of_le hlt hb.size⟩) fun q _ hlt=>hb.block q hlt⟩)
theorem zrE(a b:SS)(va vb:Value)(w:World)(hva:SV w Any a va)(hvb:SV w Any b vb)(ha:SmC a)(hb:SmC b) :
  Calls prog 92 #[va,vb] w fun e w'=>e=.returned (.int .i64 (cmpE a b))/\Below w.heap.size w w':=by
 have HWA:=zh (fun w' (h:Below w.heap.size w w')=>zoJ a va w' (hva.later h) ha.sm);have HWB:=zh (fun w' (h:Below w.heap.size w w')=>zoJ b vb w' (hvb.later h) hb.sm);have xU:=zh (fun w' (h:Below w.heap.size w w')=>zop a va w' ((hva.keep (S':=fun q=>q<w.heap.size) (fun _ _ h=>h) fun _ _ _=>rfl).later h) ha.sm.n);have xR:=zh (fun w' (h:Below w.heap.size w w')=>zop b vb w' ((hvb.keep (S':=fun q=>q<w.heap.size) (fun _ _ h=>h) fun _ _ _=>rfl).later h) hb.sm.n);have zq:=zh ha.c;have lT:=zh hb.c;have hna:=ha.n;have hnb:=hb.n;obtain⟨Aa,ca,Ba,da,Da,ea,rfl⟩:∃A c B d D e,va=.agg #[.slice A a.cells.length c,.slice B a.tin.length d,.slice D a.tout.length e]:=by
  obtain⟨A,c,B,d,D,e,rfl,-⟩:=hva;exact⟨_,_,_,_,_,_,rfl⟩
 obtain⟨Ab,cb,Bb,db,Db,eb,rfl⟩:∃A c B d D e,vb=.agg #[.slice A b.cells.length c,.slice B b.tin.length d,.slice D b.tout.length e]:=by
  obtain⟨A,c,B,d,D,e,rfl,-⟩:=hvb;exact⟨_,_,_,_,_,_,rfl⟩
 obtain⟨N,hN⟩:=zX (w.heap.size);have hb1:=zkb (zkb (zs w) (.cells #[.slice Aa a.cells.length ca,.slice Ba a.tin.length da,.slice Da a.tout.length ea] 32)) (.cells #[.slice Ab b.cells.length cb,.slice Bb b.tin.length db,.slice Db b.tout.length eb] 32);have k0:=zke (zl8 w hN (.cells #[.slice Aa a.cells.length ca,.slice Ba a.tin.length da,.slice Da a.tout.length ea] 32)) (.cells #[.slice Ab b.cells.length cb,.slice Bb b.tin.length db,.slice Db b.tout.length eb] 32);have k1:=zl8 (w.alloc (.cells #[.slice Aa a.cells.length ca,.slice Ba a.tin.length da,.slice Da a.tout.length ea] 32)) (n:=N+1) (by simp[hN]) (.cells #[.slice Ab b.cells.length cb,.slice Bb b.tin.length db,.slice Db b.tout.length eb] 32)
 obtain⟨w1,hw1⟩:=zX ((w.alloc (.cells #[.slice Aa a.cells.length ca,.slice Ba a.tin.length da,.slice Da a.tout.length ea] 32)).alloc (.cells #[.slice Ab b.cells.length cb,.slice Bb b.tin.length db,.slice Db b.tout.length eb] 32));rw[hw1]at hb1 k0 k1;have HB1:=zh hb1;have aD:=zh k0;have aA:=zh k1;have az:=zh (show ∀w',Below w1.heap.size w1 w'->(fun w':World=>stR w' N Aa a.cells.length ca Ba a.tin.length da Da a.tout.length ea/\stR w' (N+1) Ab b.cells.length cb Bb b.tin.length db Db b.tout.length eb) w' from fun w' hb=>⟨zky (zkc aD.out hb),zky (zkc aA.out hb)⟩);clear hva hvb ha hb hb1 k0 k1;go_enter func92,ntmps92;go_upto_region 1 with fail
 try rw[hw1]
 try rw[hN]
 clear hw1 hN;have hI2:=bI2R;have hSS:zW (fun w':World=>stR w' N Aa a.cells.length ca Ba a.tin.length da Da a.tout.length ea/\stR w' (N+1) Ab b.cells.length cb Bb b.tin.length db Db b.tout.length eb) zU w1.drew:=⟨az.out _ zr.drew,trivial⟩
 refine wp_region_noPanic ?_;refine zG hSS 13 ?_;refine zT 0 hSS ?_;refine zT 2 hSS ?_;refine zT 3 hSS ?_;refine zT 4 hSS ?_;refine zT 6 hSS ?_;refine zT 8 hSS ?_;refine zT 9 hSS ?_;refine zT 10 hSS ?_;have hI:(fun w=>Below w1.heap.size w1 w) w1.drew:=zr.drew;clear hSS;refine zoU (T:=[(1,13),(5,17),(7,19),(11,23),(12,5)]) (z:=13) (n:=14) cmO cmD 1 (fun w=>Below w1.heap.size w1 w) (cmF w1.heap.size (wt (lisS a)) a.cells.length (wt (lisS b)) b.cells.length) (by kernel_rfl) (by kernel_rfl) (by simp only[putP,Act.put,zD,zE,zF]) (by decide) (by kernel_rfl) (by kernel_rfl) (fun w h=>⟨az.out _ h,trivial⟩) (fun w w' h hb=>zka h hb) (fun i v ds w w' h hb=>zu6 i h hb) (fun q hq=>?_) (fun vs w2 hb2 hF hO=>?_) w1.drew hI
 ·simp only[List.mem_cons,List.not_mem_nil,or_false]at hq;rcases hq with rfl|rfl|rfl|rfl|rfl
  ·intro oi hoi vs K w2 hb2 hd aa;generalize bu:putP vs [(1,13),(5,17),(7,19),(11,23),(12,5)] _=AC at aa ⊢;have hK:=zh aa;clear aa;have had:Calls prog 126 ([.agg #[.slice Aa a.cells.length ca,.slice Ba a.tin.length da,.slice Da a.tout.length ea]].toArray ++ #[]) w2 fun e w'=>∃v,e=.returned v/\(v=.int .i64 (wt (lisS a))/\Below w2.heap.size w2 w') :=
    (HWA.out w2 (zka HB1.out hb2)).mono fun e w' ⟨h1,h2⟩=>⟨_,h1,rfl,h2⟩
   refine zle hoi (.func 126) [.tmp 12] #[32] (by kernel_rfl) (by kernel_rfl) 126 _ zKb #[] (by rw[<-bu];kernel_rfl) _ (by rw[<-bu];kernel_rfl) _ had ?_;rintro v w3 ⟨hv,hb3⟩;exact hK.out _ _ hb3 (fun b h=>by cases h) hv
  ·intro oi hoi vs K w2 hb2 hd aa;obtain rfl:=Option.some.inj hoi;simp only[putP,Act.put,zA,zB,zC,zD,zE,zF]at aa ⊢;have hK:=zh aa;clear aa hoi;have hv:vs 1=.int .i64 (wt (lisS a)):=hd 1 (by decide);rw[hv]at hK ⊢;go_simp;exact hK.out _ _ (zkb zr _) (fun b h=>by injection h with h;subst h;exact⟨zl,by simp⟩) ⟨w2.heap.size,rfl,hb2.size,heap_alloc_new w2 _⟩
  ·intro oi hoi vs K w2 hb2 hd aa;generalize bu:putP vs [(1,13),(5,17),(7,19),(11,23),(12,5)] _=AC at aa ⊢;have hK:=zh aa;clear aa;have had:Calls prog 126 ([.agg #[.slice Ab b.cells.length cb,.slice Bb b.tin.length db,.slice Db b.tout.length eb]].toArray ++ #[]) w2 fun e w'=>∃v,e=.returned v/\(v=.int .i64 (wt (lisS b))/\Below w2.heap.size w2 w') :=
    (HWB.out w2 (zka HB1.out hb2)).mono fun e w' ⟨h1,h2⟩=>⟨_,h1,rfl,h2⟩
   refine zle hoi (.func 126) [.tmp 18] #[32] (by kernel_rfl) (by kernel_rfl) 126 _ zKb #[] (by rw[<-bu];kernel_rfl) _ (by rw[<-bu];kernel_rfl) _ had ?_;rintro v w3 ⟨hv,hb3⟩;exact hK.out _ _ hb3 (fun b h=>by cases h) hv
  ·intro oi hoi vs K w2 hb2 hd aa;obtain rfl:=Option.some.inj hoi;simp only[putP,Act.put,zA,zB,zC,zD,zE,zF]at aa ⊢;have hK:=zh aa;clear aa hoi;have hv:vs 7=.int .i64 (wt (lisS b)):=hd 7 (by decide);rw[hv]at hK ⊢;go_simp;exact hK.out _ _ (zkb zr _) (fun b h=>by injection h with h;subst h;exact⟨zl,by simp⟩) ⟨w2.heap.size,rfl,hb2.size,heap_alloc_new w2 _⟩
  ·intro oi hoi vs K w2 hb2 hd aa;obtain rfl:=Option.some.inj hoi;simp only[putP,Act.put,zA,zB,zC,zD,zE,zF]at aa ⊢;have hK:=zh aa;clear aa hoi;go_simp;exact hK.out _ _ zr (fun b h=>by cases h) rfl
 ·obtain⟨bx,hv5,hbx,hkx⟩:=hF (5,17) (by decide);obtain⟨fJ,lX,hby,uZ⟩:=hF (11,23) (by decide);have lW:[vs 5]=[vs 12]:=hF (12,5) (by decide);have hne:bx≠fJ:=fun e=>hO 5 11 (by decide) (by decide) (by decide) bx (by simp only[cmO];simp only at hv5;rw[hv5];rfl) (by simp only[cmO];simp only at lX;rw[lX,e];rfl);simp only[List.cons.injEq,and_true]at lW;simp only at hv5 lX;clear hF hO;simp only[putP,Act.put,zD,zE,zF];rw[<-lW,hv5,lX];generalize vs 1=v1;generalize vs 7=v7;clear hv5 lX lW;refine zp 13 fun K hK=>?_;(try simp only[zA,zB,zC]);go_simp;refine hK.out _ _ (az.out _ hb2) ?_;clear hK K;(try simp only[zQ]);refine zd ?_;refine NoPanic.normal ?_;have HB2:=zh hb2;have HX:=zh (And.intro hbx (And.intro hkx (And.intro hby (And.intro uZ hne))));have qa:=zh (fun w' (h:Below w2.heap.size w2 w')=>az.out w' (zka HB2.out h));clear hbx hkx hby uZ hne hb2 hI2
  go_upto_region 2 with fail;have hSS:zW (fun w':World=>stR w' N Aa a.cells.length ca Ba a.tin.length da Da a.tout.length ea/\stR w' (N+1) Ab b.cells.length cb Bb b.tin.length db Db b.tout.length eb) zU w2.drew:=⟨qa.out _ zr.drew,trivial⟩
  refine wp_region_noPanic ?_;refine zG hSS 5 ?_;refine zT 0 hSS ?_;refine zT 2 hSS ?_;have hI:(fun w=>Below w2.heap.size w2 w) w2.drew:=zr.drew;clear hSS;refine zoV (T:=[(1,25),(3,27),(4,7)]) (z:=5) (n:=6) clD 1 (fun w=>Below w2.heap.size w2 w) (clF w.heap.size w2.heap.size a b) (by kernel_rfl) (by kernel_rfl) (by simp only[putP,Act.put,zD,zE,zF]) (by decide) (by kernel_rfl) (by kernel_rfl) (fun w h=>⟨qa.out _ h,trivial⟩) (fun w w' h hb=>zka h hb) (fun i v ds w w' h hb=>zu8 i h hb) (fun q hq=>?_) (fun vs w3 hb3 hF=>?_) w2.drew hI
  ·simp only[List.mem_cons,List.not_mem_nil,or_false]at hq;rcases hq with rfl|rfl|rfl
   ·intro oi hoi vs K w3 hb3 hd aa;generalize bu:putP vs [(1,25),(3,27),(4,7)] _=AC at aa ⊢;have hK:=zh aa;clear aa;have had:Calls prog 127 ([.agg #[.slice Aa a.cells.length ca,.slice Ba a.tin.length da,.slice Da a.tout.length ea]].toArray ++ #[]) w3 fun e w'=>∃v,e=.returned v/\((∃A c,v=.slice A (a.cells.length+2) c/\zlw w' (fun q=>(q<w.heap.size\/w2.heap.size<=q)/\q<w'.heap.size) A (lisS a))/\Below w3.heap.size w3 w') :=
     (xU.out w3 (zka HB1.out (zka HB2.out hb3))).mono fun e w' ⟨h1,A,c,h2,h3⟩=>⟨_,h2,⟨A,c,rfl,h3.keep (fun q h hlt=>⟨h.imp id fun h=>Nat.le_trans hb3.size h,hlt⟩) fun _ _ _=>rfl⟩,h1⟩
    refine zle hoi (.func 127) [.tmp 24] #[32] (by kernel_rfl) (by kernel_rfl) 127 _ zKd #[] (by rw[<-bu];kernel_rfl) _ (by rw[<-bu];kernel_rfl) _ had ?_;rintro v w4 ⟨hv,hb4⟩;exact hK.out _ _ hb4 hv
   ·intro oi hoi vs K w3 hb3 hd aa;generalize bu:putP vs [(1,25),(3,27),(4,7)] _=AC at aa ⊢;have hK:=zh aa;clear aa;have had:Calls prog 127 ([.agg #[.slice Ab b.cells.length cb,.slice Bb b.tin.length db,.slice Db b.tout.length eb]].toArray ++ #[]) w3 fun e w'=>∃v,e=.returned v/\((∃A c,v=.slice A (b.cells.length+2) c/\zlw w' (fun q=>(q<w.heap.size\/w2.heap.size<=q)/\q<w'.heap.size) A (lisS b))/\Below w3.heap.size w3 w') :=
     (xR.out w3 (zka HB1.out (zka HB2.out hb3))).mono fun e w' ⟨h1,A,c,h2,h3⟩=>⟨_,h2,⟨A,c,rfl,h3.keep (fun q h hlt=>⟨h.imp id fun h=>Nat.le_trans hb3.size h,hlt⟩) fun _ _ _=>rfl⟩,h1⟩
    refine zle hoi (.func 127) [.tmp 26] #[32] (by kernel_rfl) (by kernel_rfl) 127 _ zKd #[] (by rw[<-bu];kernel_rfl) _ (by rw[<-bu];kernel_rfl) _ had ?_;rintro v w4 ⟨hv,hb4⟩;exact hK.out _ _ hb4 hv
   ·intro oi hoi vs K w3 hb3 hd aa;obtain rfl:=Option.some.inj hoi;simp only[putP,Act.put,zA,zB,zC,zD,zE,zF]at aa ⊢;have hK:=zh aa;clear aa hoi;go_simp;exact hK.out _ _ zr rfl
  ·obtain⟨A1,c1,hv1,hr1⟩:=hF (1,25) (by decide);obtain⟨A3,c3,hv3,hr3⟩:=hF (3,27) (by decide);have hv4:[vs 1]=[vs 4]:=hF (4,7) (by decide);simp only[List.cons.injEq,and_true]at hv4;simp only at hv1 hv3;clear hF;simp only[putP,Act.put,zD,zE,zF];rw[<-hv4,hv1,hv3];clear hv1 hv3 hv4;refine zp 5 fun K hK=>?_;(try simp only[zA,zB,zC]);go_simp;refine hK.out _ _ (qa.out _ hb3) ?_;clear hK K;(try simp only[zQ]);refine zd ?_;refine NoPanic.normal ?_;have HB3:=zh (zka HB2.out hb3);obtain⟨hbx,hkx,hby,uZ,hne⟩:=HX.out;have hbx2:=zko hkx;have hby2:=zko uZ;have hB1s:=HB1.out.size;have hB2s:=HB2.out.size;have vR:=zh (hr1.keep (w':=w3) (S':=fun q=>¬ (q=bx\/q=fJ\/w3.heap.size<=q)) (fun q hq hlt e=>by have:=hq.1;have:=hq.2;rcases e with e|e|e<;>omega) fun _ _ _=>rfl)
   have dz:=zh (hr3.keep (w':=w3) (S':=fun q=>¬ (q=bx\/q=fJ\/w3.heap.size<=q)) (fun q hq hlt e=>by have:=hq.1;have:=hq.2;rcases e with e|e|e<;>omega) fun _ _ _=>rfl);have lM:=zh (show XY w3 (fun q=>q=bx\/q=fJ\/w3.heap.size<=q) w3 (some ⟨bx,0,none⟩) 2 2 (some ⟨fJ,0,none⟩) 2 2 [wt (lisS a),(a.cells.length:Int)] [wt (lisS b),(b.cells.length:Int)]from
    ⟨Chg.refl _ _,fun b h=>.inr (.inr h),⟨rfl,.inr ⟨bx,2,_,rfl,Nat.zero_le _,zkc hkx hb3,zl,by unfold maxLen;omega,rfl,rfl⟩⟩,⟨rfl,.inr ⟨fJ,2,_,rfl,Nat.zero_le _,zkc uZ hb3,zl,by unfold maxLen;omega,rfl,rfl⟩⟩,
     fun b h=>by injection h with h;exact .inl h.symm,fun b h=>by injection h with h;exact .inr (.inl h.symm),fun b h1 h2=>by injection h1 with h1;injection h2 with h2;have h1:bx=b:=h1;have h2:fJ=b:=h2;omega⟩)
   have bU:=zh (fun w' (h:Chg (fun q=>q=bx\/q=fJ\/w3.heap.size<=q) w3 w')=>show Below w.heap.size w w' from(zka HB1.out HB3.out).trans (h.below (zka HB1.out HB3.out).size fun q e=>by have:=HB3.out.size;rcases e with e|e|e<;>omega));obtain⟨C,hC⟩:∃C:Nat->Prop,∀q,(q=bx\/q=fJ\/w3.heap.size<=q)=C q:=⟨fun q=>q=bx\/q=fJ\/w3.heap.size<=q,fun _=>rfl⟩
   simp only[hC]at vR dz lM bU;have qf:=zh zqU;have bH:=zh (show(lisS a).length=a.cells.length+2 by simp[lisS]);have xO:=zh (show(lisS b).length=b.cells.length+2 by simp[lisS]);obtain⟨L,hL⟩:=zX (lisS a);obtain⟨M,hM⟩:=zX (lisS b);obtain⟨nl,hnl⟩:=zX (a.cells.length+2);obtain⟨nm,hnm⟩:=zX (b.cells.length+2);have Ci:=zh (show[wt (lisS a),(a.cells.length:Int)]++keyA L M=keyE a b by rw[<-hL,<-hM];rfl);have Ch:=zh (show[wt (lisS b),(b.cells.length:Int)]++keyA M L=keyE b a by rw[<-hL,<-hM];rfl);rw[hL]at bH vR zq;rw[hM]at xO dz lT;rw[hnl]at bH ⊢;rw[hnm]at xO ⊢;have sI:nl<=102:=by omega
   have sH:nm<=102:=by omega
   obtain⟨x0,hx0⟩:=zX ([wt (lisS a),(a.cells.length:Int)]);obtain⟨y0,hy0⟩:=zX ([wt (lisS b),(b.cells.length:Int)]);rw[hx0]at lM Ci;rw[hy0]at lM Ch;clear hr1 hr3 hbx hkx hby uZ hne hbx2 hby2 hB1s hB2s hC hL hM hnl hnm hx0 hy0 hb3 HX HB1 HB2 HB3 az qa xU xR HWA HWB aD aA;clear hna hnb;have hI1:=bI1R;go_wp2_with fail
   go_loopw [9,5,6] (fun i xv yv wr=>∃(j p:Nat) (Ax:Option Addr) (cx:Nat) (Ay:Option Addr) (cy:Nat) (xs ys:List Int),j<=nl/\j<=nm/\i=.int .i64 j/\xv=.slice Ax p cx/\yv=.slice Ay p cy/\p<=2+j*1001/\Hid (XY w3 C wr Ax cx p Ay cy p xs ys)/\Hid (xs++keyA (L.drop j) (M.drop j)=keyE a b/\ys++keyA (M.drop j) (L.drop j)=keyE b a)) (fun i _ _ _=>nl+nm-(intOf i).toNat)
   case atStart=>exact⟨0,2,_,_,_,_,_,_,by omega,by omega,rfl,rfl,rfl,by omega,lM,zh ⟨Ci.out,Ch.out⟩⟩
   case round =>
    clear lM Ci Ch;obtain⟨j,p,Ax,cx,Ay,cy,xs,ys,hj1,hj2,rfl,rfl,rfl,hp,lM,HKK⟩:=hrel;obtain⟨W9,rfl⟩:∃x,x=wr:=⟨_,rfl⟩
    by_cases hlt:j<nl/\j<nm
    ·have hja:(j:Int)<(nl:Int):=by omega
     have hjb:(j:Int)<(nm:Int):=by omega
     have hj0:(0:Int)<=(j:Int):=by omega
     have hjl:j<L.length:=by rw[bH.out];exact hlt.1
     have hjm:j<M.length:=by rw[xO.out];exact hlt.2
     obtain⟨al,l,A5,c5,rfl,Hl,hlc,hLj⟩:=ztX vR.out hjl;obtain⟨am,m,A6,c6,rfl,Hm,hmc,hMj⟩:=ztX dz.out hjm;have oJ:=zh (zqw hjl hjm);have oH:=zh (zqw hjm hjl);have hls:=zq.out _ (List.getElem_mem hjl);have hms:=lT.out _ (List.getElem_mem hjm);rw[Hl.out]at oJ oH hls;rw[Hm.out]at oJ oH hms;have xQ:=zh hls.2;have HMS:=zh hms.2;have hl3:=hls.1;have wX:=hms.1;have ru:=zh hLj;have vY:=zh hMj;clear hls hms hLj hMj Hl Hm hjl hjm;obtain⟨z1,-⟩:=ru.out _ lM.out.bl;obtain⟨ll,hll⟩:=zX (l.length);obtain⟨ml,lF⟩:=zX (m.length);have bA:=zh (And.intro hll lF);rw[hll]at z1 hl3;rw[lF]at wX;have hIx:=bI1R;clear hll lF;go_wp2_with (at_builtin;first
      | (refine zki rfl (.tmp 40) (.tmp 46) rfl underlying30 zlU rfl (by decide) (by decide) 0 (.slice Ax (p) cx) (p) (zkg xs) rfl (zkp lM.out.x (zkb zr _)) (some ⟨W9.heap.size,0,none⟩) 1 1 [.int .i64 (ll:Int)] rfl rfl (fun e=>by cases e) (zl4 W9 _ _) (zon _) (by omega) (Nat.zero_le _) ?_;intro v9 w9 ho hg ak;obtain⟨Ax1,cx1,rfl,pY⟩:=lM.out.px ho hg ak;clear ho hg ak;have z2:=(vY.out _ pY.out.bl).1;rw[bA.out.2]at z2)
      | (refine zki rfl (.tmp 48) (.tmp 54) rfl underlying30 zlU rfl (by decide) (by decide) 0 (.slice Ay (p) cy) (p) (zkg ys) rfl (zkp pY.out.y (zkb zr _)) (some ⟨w9.heap.size,0,none⟩) 1 1 [.int .i64 (ml:Int)] rfl rfl (fun e=>by cases e) (zl4 w9 _ _) (zon _) (by omega) (Nat.zero_le _) ?_;intro v9 aT ho hg ak;obtain⟨Ay1,cy1,rfl,bG⟩:=pY.out.py ho hg ak;clear ho hg ak))
     clear z1 z2 lM pY
     go_loopw [10,5,6] (fun i xv yv wr=>∃(k:Nat) (Ax:Option Addr) (cx:Nat) (Ay:Option Addr) (cy:Nat),k<=ll/\k<=ml/\i=.int .i64 k/\xv=.slice Ax (p+1+k) cx/\yv=.slice Ay (p+1+k) cy/\Hid (XY w3 C wr Ax cx (p+1+k) Ay cy (p+1+k) (xs++[(ll:Int)]++(l.take k).map rnk) (ys++[(ml:Int)]++(m.take k).map rnk))) (fun i _ _ _=>ll+ml-(intOf i).toNat)
     case atStart=>exact⟨0,_,_,_,_,by omega,by omega,rfl,rfl,rfl,by simpa using bG⟩
     case round =>
      clear bG;obtain⟨k,CK,Bu,CJ,Br,hk1,hk2,rfl,rfl,rfl,bG⟩:=hrel;have hk0:(0:Int)<=(k:Int):=by omega
      obtain⟨z1,yt⟩:=ru.out _ bG.out.bl;obtain⟨z2,zu⟩:=vY.out _ bG.out.bl;rw[bA.out.1]at z1;rw[bA.out.2]at z2;by_cases hkk:k<ll/\k<ml
      ·have hka:(k:Int)<(ll:Int):=by omega
       have hkb:(k:Int)<(ml:Int):=by omega
       have hkl:k<l.length:=by rw[bA.out.1];exact hkk.1
       have u7:k<m.length:=by rw[bA.out.2];exact hkk.2
       obtain⟨a5,e5,-,hx,-⟩:=yt k hkl;subst e5;have hrx:=xQ.out _ (List.getElem_mem hkl);have uX:=HMS.out _ (List.getElem_mem u7);have yS:=zh (show xs++[(ll:Int)]++(l.take (k+1)).map rnk=(xs++[(ll:Int)]++(l.take k).map rnk)++[rnk l[k]] by rw[List.take_succ_eq_append_getElem hkl,List.map_append,<-List.append_assoc];rfl);have yR:=zh (show ys++[(ml:Int)]++(m.take (k+1)).map rnk=(ys++[(ml:Int)]++(m.take k).map rnk)++[rnk m[k]] by rw[List.take_succ_eq_append_getElem u7,List.map_append,<-List.append_assoc];rfl);obtain⟨lk,hlk⟩:=zX (l[k]);obtain⟨mk,hmk⟩:=zX (m[k]);have Ca:=zh (show ∀w',Chg C w3 w'->∃a6,A6=some a6/\w'.cell? (a6.add k)=some (.int .i64 mk)from fun w' h=>by
        obtain⟨a6,e6,-,hx6,-⟩:=(vY.out w' h).2 k u7;rw[hmk]at hx6;exact⟨a6,e6,hx6⟩)
       rw[hlk]at hx hrx yS;rw[hmk]at uX yR;have kP:=zh (fun w=>qf.out lk w hrx);have HRY:=zh (fun w=>qf.out mk w uX);clear hlk hmk hrx uX yt zu hkl u7;obtain⟨X,hX⟩:=zX (xs++[(ll:Int)]++(l.take k).map rnk);obtain⟨Y,hY⟩:=zX (ys++[(ml:Int)]++(m.take k).map rnk);rw[hX]at yS bG;rw[hY]at yR bG;clear hX hY;obtain⟨W8,rfl⟩:∃x,x=wr:=⟨_,rfl⟩
       go_wp2_with fail;refine(kP.out _).mono ?_;rintro e w9 ⟨rfl,rfl⟩;obtain⟨rx,hrx⟩:=zX (rnk lk);rw[hrx]at yS ⊢;clear hrx;go_wp2_with (at_builtin;(refine zki rfl (.tmp 74) (.tmp 83) rfl underlying30 zlU rfl (by decide) (by decide) 0 (.slice CK (p+1+k) Bu) (p+1+k) (zkg X) rfl (zkp bG.out.x (zkb zr _)) (some ⟨w9.heap.size,0,none⟩) 1 1 [.int .i64 rx] rfl rfl (fun e=>by cases e) (zl4 w9 _ _) (zon _) (by omega) (Nat.zero_le _) ?_;intro v9 aQ ho hg ak;obtain⟨Ax3,cx3,rfl,pX⟩:=bG.out.px ho hg ak;clear ho hg ak;obtain⟨a6,rfl,hx7⟩:=Ca.out _ pX.out.bl;have z3:=(vY.out _ pX.out.bl).1;rw[bA.out.2]at z3))
       refine(HRY.out _).mono ?_;rintro e iW ⟨rfl,rfl⟩;obtain⟨ry,uX⟩:=zX (rnk mk);rw[uX]at yR ⊢;clear uX;go_wp2_with (at_builtin;(refine zki rfl (.tmp 85) (.tmp 94) rfl underlying30 zlU rfl (by decide) (by decide) 0 (.slice CJ (p+1+k) Br) (p+1+k) (zkg Y) rfl (zkp pX.out.y (zkb zr _)) (some ⟨iW.heap.size,0,none⟩) 1 1 [.int .i64 ry] rfl rfl (fun e=>by cases e) (zl4 iW _ _) (zon _) (by omega) (Nat.zero_le _) ?_;intro v9 lh ho hg ak;obtain⟨Ay3,cy3,rfl,HXY4⟩:=pX.out.py ho hg ak;clear ho hg ak))
       go_roundw
       case rel=>exact⟨k+1,_,_,_,_,by omega,by omega,by go_num,rfl,rfl,by rw[yS.out,yR.out];exact HXY4⟩
       case measure=>simp[intOf];omega
      ·have hll9:k=ll\/k=ml:=by omega
       have mY:=zh (show xs++[(ll:Int)]++(l.take k).map rnk=xs++((l.length:Int)::(l.take m.length).map rnk) by
        rw[zrN (l:=l) (k:=k) (m:=m.length) (by have:=bA.out;omega),bA.out.1];simp)
       have xI:=zh (show ys++[(ml:Int)]++(m.take k).map rnk=ys++((m.length:Int)::(m.take l.length).map rnk) by
        rw[zrN (l:=m) (k:=k) (m:=l.length) (by have:=bA.out;omega),bA.out.2];simp)
       obtain⟨X9,hX⟩:=zX (xs++[(ll:Int)]++(l.take k).map rnk);obtain⟨Y9,hY⟩:=zX (ys++[(ml:Int)]++(m.take k).map rnk);obtain⟨p9,hp9⟩:=zX (p+1+k);have hp9b:p9<=2+(j+1)*1001:=by omega
       rw[hX]at bG mY;rw[hY]at bG xI;rw[hp9]at bG ⊢;clear hX hY hp9;by_cases hne:ll=ml
       ·have hnb:((ll:Int) != (ml:Int))=false:=by simp[hne]
        have vX:=zh hne;have iq:=zh (show X9++keyA (L.drop (j+1)) (M.drop (j+1))=keyE a b/\Y9++keyA (M.drop (j+1)) (L.drop (j+1))=keyE b a by
         have h1:=HKK.out;have h2:=bA.out;rw[oJ.out,oH.out,if_pos (by omega),if_pos (by omega),<-List.append_assoc,<-List.append_assoc,<-mY.out,<-xI.out]at h1;exact h1)
        clear hne;by_cases aI:k<ll
        ·have hka:(k:Int)<(ll:Int):=by omega
         have hkb:¬ (k:Int)<(ml:Int):=by omega
         go_upto_region 13 with fail
         go_quiet (fail)
         have aP:=zh (bG.out.drew nq);go_wp2_with fail
         go_roundw
         case rel=>exact⟨j+1,p9,_,_,_,_,_,_,by omega,by omega,by go_num,rfl,rfl,hp9b,aP,iq⟩
         case measure=>simp[intOf];omega
        ·have hka:¬ (k:Int)<(ll:Int):=by omega
         go_upto_region 13 with fail
         go_quiet (fail)
         have aP:=zh (bG.out.drew nq);go_wp2_with fail
         go_roundw
         case rel=>exact⟨j+1,p9,_,_,_,_,_,_,by omega,by omega,by go_num,rfl,rfl,hp9b,aP,iq⟩
         case measure=>simp[intOf];omega
       ·have hnb:((ll:Int) != (ml:Int))=true:=by simp;omega
        have HCM:=zh (show cmpE a b=lexE X9 Y9 by
         have h1:=HKK.out;have h2:=bA.out;rw[oJ.out,oH.out,if_neg (by omega),if_neg (by omega),List.append_nil,List.append_nil,<-mY.out,<-xI.out]at h1;rw[h1.1,h1.2];rfl)
        by_cases aI:k<ll
        ·have hka:(k:Int)<(ll:Int):=by omega
         have hkb:¬ (k:Int)<(ml:Int):=by omega
         go_upto_region 13 with fail
         go_quiet (fail)
         have aP:=zh (bG.out.drew nq);obtain⟨wq,hwq⟩:=zX (wr.drewN nq);rw[hwq]at aP ⊢;clear hwq oJ oH ru vY HKK mY xI z1 z2 yt zu bG;clear nq;go_wp2_with fail
         go_loopw [11] (fun i wr=>∃j:Nat,j<=p9/\i=.int .i64 j/\Hid (XY w3 C wr CK Bu p9 CJ Br p9 X9 Y9)/\Hid (∀k (h1:k<X9.length) (h2:k<Y9.length),k<j->X9[k]=Y9[k])) (fun i _=>p9-(intOf i).toNat)
         case atStart=>exact⟨0,by omega,rfl,aP,zh fun k _ _ h=>by omega⟩
         case round =>
          clear aP;obtain⟨j9,AU,rfl,aP,jM⟩:=hrel;have hlx:=zmz aP.out.x;have o9:=zmz aP.out.y;by_cases hjp:j9<p9
          ·have hj1:(j9:Int)<(p9:Int):=by omega
           have hj0:(0:Int)<=(j9:Int):=by omega
           have jl:j9<X9.length:=by omega
           have jk:j9<Y9.length:=by omega
           obtain⟨ax,ex,y1⟩:=znP aP.out.x jl;obtain⟨ay,ey,y2⟩:=znP aP.out.y jk;have eX:=zh (zpI jM.out jl jk);have fU:=zh (fun(h:X9[j9]=Y9[j9])=>show ∀k (h1:k<X9.length) (h2:k<Y9.length),k<j9+1->X9[k]=Y9[k]from fun k h1 h2 hk=>by
            by_cases e:k<j9
            ·exact jM.out k h1 h2 e
            ·obtain rfl:k=j9:=by omega
             exact h)
           obtain⟨xj,hxj⟩:=zX (X9[j9]);obtain⟨yj,hyj⟩:=zX (Y9[j9]);rw[hxj]at y1 eX fU;rw[hyj]at y2 eX fU;subst ex ey;clear hxj hyj jl jk hlx o9;go_upto_region 17 with fail
           go_quiet (fail)
           have fF:=zh (aP.out.drew nq);by_cases hc1:xj<yj
           ·go_wp2_with fail;go_ret;exact⟨by rw[show cmpE a b = -1 by rw[HCM.out,eX.out,if_pos hc1]];rfl,bU.out _ fF.out.bl⟩
           go_upto_region 19 with fail;have y1':=zb (zkm (zs wr) nq) y1;have y2':=zb (zkm (zs wr) nq) y2;obtain⟨wq,hwq⟩:=zX (wr.drewN nq);rw[hwq]at y1' y2' fF ⊢;clear hwq y1 y2;clear nq
           go_quiet (fail)
           have bC:=zh (fF.out.drew nq);by_cases hc2:yj<xj
           ·go_wp2_with fail;go_ret;exact⟨by rw[show cmpE a b=1 by rw[HCM.out,eX.out,if_neg (by omega),if_pos hc2]];rfl,bU.out _ bC.out.bl⟩
           have jL:=zh (fU.out (by omega));go_wp2_with fail
           go_roundw
           case rel=>exact⟨j9+1,by omega,by go_num,bC,jL⟩
           case measure=>simp[intOf];omega
          ·obtain rfl:j9=p9:=by omega
           have hj1:¬ (j9:Int)<(j9:Int):=by omega
           go_wp2_with fail;go_ret;exact⟨by rw[show cmpE a b=0 by rw[HCM.out,zor jM.out (by omega) (by omega),List.drop_eq_nil_of_le (by omega)];rfl];rfl,bU.out _ aP.out.bl⟩
        ·have hka:¬ (k:Int)<(ll:Int):=by omega
         go_upto_region 13 with fail
         go_quiet (fail)
         have aP:=zh (bG.out.drew nq);obtain⟨wq,hwq⟩:=zX (wr.drewN nq);rw[hwq]at aP ⊢;clear hwq oJ oH ru vY HKK mY xI z1 z2 yt zu bG;clear nq;go_wp2_with fail
         go_loopw [11] (fun i wr=>∃j:Nat,j<=p9/\i=.int .i64 j/\Hid (XY w3 C wr CK Bu p9 CJ Br p9 X9 Y9)/\Hid (∀k (h1:k<X9.length) (h2:k<Y9.length),k<j->X9[k]=Y9[k])) (fun i _=>p9-(intOf i).toNat)
         case atStart=>exact⟨0,by omega,rfl,aP,zh fun k _ _ h=>by omega⟩
         case round =>
          clear aP;obtain⟨j9,AU,rfl,aP,jM⟩:=hrel;have hlx:=zmz aP.out.x;have o9:=zmz aP.out.y;by_cases hjp:j9<p9
          ·have hj1:(j9:Int)<(p9:Int):=by omega
           have hj0:(0:Int)<=(j9:Int):=by omega
           have jl:j9<X9.length:=by omega
           have jk:j9<Y9.length:=by omega
           obtain⟨ax,ex,y1⟩:=znP aP.out.x jl;obtain⟨ay,ey,y2⟩:=znP aP.out.y jk;have eX:=zh (zpI jM.out jl jk);have fU:=zh (fun(h:X9[j9]=Y9[j9])=>show ∀k (h1:k<X9.length) (h2:k<Y9.length),k<j9+1->X9[k]=Y9[k]from fun k h1 h2 hk=>by
            by_cases e:k<j9
            ·exact jM.out k h1 h2 e
            ·obtain rfl:k=j9:=by omega
             exact h)
           obtain⟨xj,hxj⟩:=zX (X9[j9]);obtain⟨yj,hyj⟩:=zX (Y9[j9]);rw[hxj]at y1 eX fU;rw[hyj]at y2 eX fU;subst ex ey;clear hxj hyj jl jk hlx o9;go_upto_region 17 with fail
           go_quiet (fail)
           have fF:=zh (aP.out.drew nq);by_cases hc1:xj<yj
           ·go_wp2_with fail;go_ret;exact⟨by rw[show cmpE a b = -1 by rw[HCM.out,eX.out,if_pos hc1]];rfl,bU.out _ fF.out.bl⟩
           go_upto_region 19 with fail;have y1':=zb (zkm (zs wr) nq) y1;have y2':=zb (zkm (zs wr) nq) y2;obtain⟨wq,hwq⟩:=zX (wr.drewN nq);rw[hwq]at y1' y2' fF ⊢;clear hwq y1 y2;clear nq
           go_quiet (fail)
           have bC:=zh (fF.out.drew nq);by_cases hc2:yj<xj
           ·go_wp2_with fail;go_ret;exact⟨by rw[show cmpE a b=1 by rw[HCM.out,eX.out,if_neg (by omega),if_pos hc2]];rfl,bU.out _ bC.out.bl⟩
           have jL:=zh (fU.out (by omega));go_wp2_with fail
           go_roundw
           case rel=>exact⟨j9+1,by omega,by go_num,bC,jL⟩
           case measure=>simp[intOf];omega
          ·obtain rfl:j9=p9:=by omega
           have hj1:¬ (j9:Int)<(j9:Int):=by omega
           go_wp2_with fail;go_ret;exact⟨by rw[show cmpE a b=0 by rw[HCM.out,zor jM.out (by omega) (by omega),List.drop_eq_nil_of_le (by omega)];rfl];rfl,bU.out _ aP.out.bl⟩
    ·have aP:=lM;have HCM:=zh (show cmpE a b=lexE xs ys by
      have h1:=HKK.out;rw[zsi (by rw[bH.out,xO.out];exact hlt),zsi (by rw[bH.out,xO.out];omega),List.append_nil,List.append_nil]at h1;rw[h1.1,h1.2];rfl)
     clear HKK lM;by_cases aI:j<nl
     ·have hka:(j:Int)<(nl:Int):=by omega
      have hkb:¬ (j:Int)<(nm:Int):=by omega
      go_wp2_with fail
      go_loopw [11] (fun i wr=>∃j:Nat,j<=p/\i=.int .i64 j/\Hid (XY w3 C wr Ax cx p Ay cy p xs ys)/\Hid (∀k (h1:k<xs.length) (h2:k<ys.length),k<j->xs[k]=ys[k])) (fun i _=>p-(intOf i).toNat)
      case atStart=>exact⟨0,by omega,rfl,aP,zh fun k _ _ h=>by omega⟩
      case round =>
       clear aP;obtain⟨j9,AU,rfl,aP,jM⟩:=hrel;have hlx:=zmz aP.out.x;have o9:=zmz aP.out.y;by_cases hjp:j9<p
       ·have hj1:(j9:Int)<(p:Int):=by omega
        have hj0:(0:Int)<=(j9:Int):=by omega
        have jl:j9<xs.length:=by omega
        have jk:j9<ys.length:=by omega
        obtain⟨ax,ex,y1⟩:=znP aP.out.x jl;obtain⟨ay,ey,y2⟩:=znP aP.out.y jk;have eX:=zh (zpI jM.out jl jk);have fU:=zh (fun(h:xs[j9]=ys[j9])=>show ∀k (h1:k<xs.length) (h2:k<ys.length),k<j9+1->xs[k]=ys[k]from fun k h1 h2 hk=>by
         by_cases e:k<j9
         ·exact jM.out k h1 h2 e
         ·obtain rfl:k=j9:=by omega
          exact h)
        obtain⟨xj,hxj⟩:=zX (xs[j9]);obtain⟨yj,hyj⟩:=zX (ys[j9]);rw[hxj]at y1 eX fU;rw[hyj]at y2 eX fU;subst ex ey;clear hxj hyj jl jk hlx o9;go_upto_region 17 with fail
        go_quiet (fail)
        have fF:=zh (aP.out.drew nq);by_cases hc1:xj<yj
        ·go_wp2_with fail;go_ret;exact⟨by rw[show cmpE a b = -1 by rw[HCM.out,eX.out,if_pos hc1]];rfl,bU.out _ fF.out.bl⟩
        go_upto_region 19 with fail;have y1':=zb (zkm (zs wr) nq) y1;have y2':=zb (zkm (zs wr) nq) y2;obtain⟨wq,hwq⟩:=zX (wr.drewN nq);rw[hwq]at y1' y2' fF ⊢;clear hwq y1 y2;clear nq
        go_quiet (fail)
        have bC:=zh (fF.out.drew nq);by_cases hc2:yj<xj
        ·go_wp2_with fail;go_ret;exact⟨by rw[show cmpE a b=1 by rw[HCM.out,eX.out,if_neg (by omega),if_pos hc2]];rfl,bU.out _ bC.out.bl⟩
        have jL:=zh (fU.out (by omega));go_wp2_with fail
        go_roundw
        case rel=>exact⟨j9+1,by omega,by go_num,bC,jL⟩
        case measure=>simp[intOf];omega
       ·obtain rfl:j9=p:=by omega
        have hj1:¬ (j9:Int)<(j9:Int):=by omega
        go_wp2_with fail;go_ret;exact⟨by rw[show cmpE a b=0 by rw[HCM.out,zor jM.out (by omega) (by omega),List.drop_eq_nil_of_le (by omega)];rfl];rfl,bU.out _ aP.out.bl⟩
     ·have hka:¬ (j:Int)<(nl:Int):=by omega
      go_wp2_with fail
      go_loopw [11] (fun i wr=>∃j:Nat,j<=p/\i=.int .i64 j/\Hid (XY w3 C wr Ax cx p Ay cy p xs ys)/\Hid (∀k (h1:k<xs.length) (h2:k<ys.length),k<j->xs[k]=ys[k])) (fun i _=>p-(intOf i).toNat)
      case atStart=>exact⟨0,by omega,rfl,aP,zh fun k _ _ h=>by omega⟩
      case round =>
       clear aP;obtain⟨j9,AU,rfl,aP,jM⟩:=hrel;have hlx:=zmz aP.out.x;have o9:=zmz aP.out.y;by_cases hjp:j9<p
       ·have hj1:(j9:Int)<(p:Int):=by omega
        have hj0:(0:Int)<=(j9:Int):=by omega
        have jl:j9<xs.length:=by omega
        have jk:j9<ys.length:=by omega
        obtain⟨ax,ex,y1⟩:=znP aP.out.x jl;obtain⟨ay,ey,y2⟩:=znP aP.out.y jk;have eX:=zh (zpI jM.out jl jk);have fU:=zh (fun(h:xs[j9]=ys[j9])=>show ∀k (h1:k<xs.length) (h2:k<ys.length),k<j9+1->xs[k]=ys[k]from fun k h1 h2 hk=>by
         by_cases e:k<j9
         ·exact jM.out k h1 h2 e
         ·obtain rfl:k=j9:=by omega
          exact h)
        obtain⟨xj,hxj⟩:=zX (xs[j9]);obtain⟨yj,hyj⟩:=zX (ys[j9]);rw[hxj]at y1 eX fU;rw[hyj]at y2 eX fU;subst ex ey;clear hxj hyj jl jk hlx o9;go_upto_region 17 with fail
        go_quiet (fail)
        have fF:=zh (aP.out.drew nq);by_cases hc1:xj<yj
        ·go_wp2_with fail;go_ret;exact⟨by rw[show cmpE a b = -1 by rw[HCM.out,eX.out,if_pos hc1]];rfl,bU.out _ fF.out.bl⟩
        go_upto_region 19 with fail;have y1':=zb (zkm (zs wr) nq) y1;have y2':=zb (zkm (zs wr) nq) y2;obtain⟨wq,hwq⟩:=zX (wr.drewN nq);rw[hwq]at y1' y2' fF ⊢;clear hwq y1 y2;clear nq
        go_quiet (fail)
        have bC:=zh (fF.out.drew nq);by_cases hc2:yj<xj
        ·go_wp2_with fail;go_ret;exact⟨by rw[show cmpE a b=1 by rw[HCM.out,eX.out,if_neg (by omega),if_pos hc2]];rfl,bU.out _ bC.out.bl⟩
        have jL:=zh (fU.out (by omega));go_wp2_with fail
        go_roundw
        case rel=>exact⟨j9+1,by omega,by go_num,bC,jL⟩
        case measure=>simp[intOf];omega
       ·obtain rfl:j9=p:=by omega
        have hj1:¬ (j9:Int)<(j9:Int):=by omega
        go_wp2_with fail;go_ret;exact⟨by rw[show cmpE a b=0 by rw[HCM.out,zor jM.out (by omega) (by omega),List.drop_eq_nil_of_le (by omega)];rfl];rfl,bU.out _ aP.out.bl⟩
end
section
open Go Go.RowKit
theorem znH:∀(a b:List SS),(zll a b).length=a.length+b.length
 | [],b=>by unfold zll;simp
 | x::a,[]=>by unfold zll;simp
 | x::a,y::b=>by
  rw[zll]
  split
  ·rw[List.length_cons,znH (x::a) b];simp;omega
  ·rw[List.length_cons,znH a (y::b)];simp;omega
 termination_by a b=>a.length+b.length
theorem zo5(b:List SS):zll [] b=b:=by unfold zll;rfl
theorem zoo(a:List SS):zll a []=a:=by cases a<;>unfold zll<;>rfl
theorem znG{s:SS}:∀(a b:List SS),s∈zll a b->s∈a\/s∈b
 | [],b,h=>.inr (by rwa[zo5]at h)
 | x::a,[],h=>.inl (by rwa[zoo]at h)
 | x::a,y::b,h=>by
  rw[zll]at h
  split at h
  ·rcases List.mem_cons.1 h with rfl|h
   ·exact .inr (by simp)
   ·exact(znG (x::a) b h).imp id (List.mem_cons_of_mem _)
  ·rcases List.mem_cons.1 h with rfl|h
   ·exact .inl (by simp)
   ·exact(znG a (y::b) h).imp (List.mem_cons_of_mem _) id
 termination_by a b=>a.length+b.length
theorem zoi:∀(n:Nat) (l:List SS),l.length=n->(zlt l).length=n:=by
 intro n
 induction n using Nat.strongRecOn with
 | _ n ih =>
  intro l hl;unfold zlt
  split
  ·exact hl
  ·rw[znH,ih (l.length / 2) (by omega) _ (by simp;omega),ih (l.length-l.length / 2) (by omega) _ (by simp)];omega
theorem zqi{s:SS}:∀(n:Nat) (l:List SS),l.length=n->s∈zlt l->s∈l:=by
 intro n
 induction n using Nat.strongRecOn with
 | _ n ih =>
  intro l hl h;unfold zlt at h
  split at h
  ·exact h
  ·rcases znG _ _ h with h|h
   ·exact List.mem_of_mem_take (ih (l.length / 2) (by omega) _ (by simp;omega) h)
   ·exact List.mem_of_mem_drop (ih (l.length-l.length / 2) (by omega) _ (by simp) h)
theorem ztP{l:List SS}(h:¬ l.length<2):zlt l=zll (zlt (l.take (l.length / 2))) (zlt (l.drop (l.length / 2))):=by
 rw[zlt,dif_neg h]
theorem ztQ{l:List SS}(h:l.length<2):zlt l=l:=by
 rw[zlt,dif_pos h]
def zlj(w:World)(A:Option Addr)(ss:List SS):Prop :=
 ∀k (hk:k<ss.length),∃b o u v x,A=some ⟨b,o,none⟩/\w.cell? ⟨b,o+k*3,none⟩=some u/\w.cell? ⟨b,o+k*3+1,none⟩=some v/\w.cell? ⟨b,o+k*3+2,none⟩=some x/\SV w (fun q=>q<w.heap.size) ss[k] (.agg #[u,v,x])
theorem zlj.later{w w':World}{A:Option Addr}{ss:List SS}(h:zlj w A ss)(hb:Below w.heap.size w w'):zlj w' A ss:=fun k hk=>by
 obtain⟨b,o,u,v,x,e,h0,h1,h2,h3⟩:=h k hk;exact⟨b,o,u,v,x,e,zb hb h0,zb hb h1,zb hb h2,h3.keep (fun q _ hq=>Nat.lt_of_lt_of_le hq hb.size) fun q _ hq=>hb.block q hq⟩
theorem zlj.nil(w:World)(A:Option Addr):zlj w A []:=fun k hk=>by simp at hk
theorem zlj.take{w:World}{A:Option Addr}{ss:List SS}(h:zlj w A ss)(m:Nat):zlj w A (ss.take m):=fun k hk=>by
 have hk2:k<ss.length:=by simp at hk;omega
 obtain⟨b,o,u,v,x,e,h0,h1,h2,h3⟩:=h k hk2;exact⟨b,o,u,v,x,e,h0,h1,h2,by rw[List.getElem_take];exact h3⟩
theorem zlj.drop{w:World}{A:Option Addr}{ss:List SS}{c:Nat}(h:zlj w A ss)(m:Nat)(hc:ss.length<=c):zlj w (if c=m then A else A.map (·.add (m*3))) (ss.drop m):=by
 by_cases e:c=m
 ·rw[if_pos e,List.drop_eq_nil_of_le (by omega)];exact zlj.nil _ _
 ·rw[if_neg e];intro k hk;have hk2:m+k<ss.length:=by simp at hk;omega
  obtain⟨b,o,u,v,x,rfl,h0,h1,h2,h3⟩:=h (m+k) hk2;have e3:o+m*3+k*3=o+(m+k)*3:=by omega
  refine⟨b,o+m*3,u,v,x,by simp[Addr.add_lit],by rw[e3];exact h0,by rw[e3];exact h1,by rw[e3];exact h2,by rw[List.getElem_drop];exact h3⟩
theorem zlj.head{w:World}{A:Option Addr}{s:SS}{ss:List SS}(h:zlj w A (s::ss)):∃b o u v x,A=some ⟨b,o,none⟩/\w.cell? ⟨b,o,none⟩=some u/\w.cell? ⟨b,o+1,none⟩=some v/\w.cell? ⟨b,o+2,none⟩=some x/\SV w (fun q=>q<w.heap.size) s (.agg #[u,v,x]):=by
 obtain⟨b,o,u,v,x,e,h0,h1,h2,h3⟩:=h 0 (by simp);exact⟨b,o,u,v,x,e,h0,h1,h2,h3⟩
theorem zlj.tail{w:World}{A:Option Addr}{s:SS}{ss:List SS}{c:Nat}(h:zlj w A (s::ss))(hc:ss.length+1<=c):zlj w (if c=1 then A else A.map (·.add (1*3))) ss:=h.drop 1 (by simpa using hc)
theorem zlj.vals{w:World}:∀ {ss:List SS} {A:Option Addr},zlj w A ss->∃us:List (Value×Value×Value),us.length=ss.length/\(∀ad,A=some ad->∀j u,(zk8 us)[j]?=some u->w.cell? (ad.add j)=some u) /\
  ∀k (hk:k<ss.length) (hv:k<us.length),SV w (fun q=>q<w.heap.size) ss[k] (.agg #[us[k].1,us[k].2.1,us[k].2.2])
 | [],A,_=>⟨[],rfl,fun ad _ j u h=>by simp[zk8]at h,fun k hk=>by simp at hk⟩
 | s::ss,A,h=>by
  obtain⟨b,o,u,v,x,rfl,h0,h1,h2,h3⟩:=h.head;have ht:=h.tail (c:=ss.length+2) (by omega);rw[if_neg (by omega)]at ht;obtain⟨us,hl,hu,hs⟩:=zlj.vals ht;refine⟨(u,v,x)::us,by simp[hl],fun ad e j y hy=>?_,fun k hk hv=>?_⟩
  ·injection e with e;subst e;rw[Addr.add_lit];rw[show zk8 ((u,v,x)::us)=u::v::x::zk8 us from rfl]at hy
   match j,hy with
   | 0,hy=>simp at hy;subst hy;exact h0
   | 1,hy=>simp at hy;subst hy;exact h1
   | 2,hy=>simp at hy;subst hy;exact h2
   | j+3,hy =>
    have:=hu ⟨b,o+3,none⟩ (by simp[Addr.add_lit]) j y (by simpa using hy);rw[Addr.add_lit]at this;rw[show o+(j+3)=o+3+j by omega];exact this
  ·match k,hk,hv with
   | 0,_,_=>exact h3
   | k+1,hk,hv=>exact hs k (by simpa using hk) (by simpa using hv)
theorem SV.one{w:World}{S:Nat->Prop}{s:SS}{u v x:Value}(h:SV w S s (.agg #[u,v,x])):u.oneCell'=true/\v.oneCell'=true/\x.oneCell'=true:=by
 obtain⟨A,c,B,d,D,e,e1,-⟩:=h;injection e1 with e1;simp only[Array.mk.injEq,List.cons.injEq,and_true]at e1;obtain⟨rfl,rfl,rfl⟩:=e1;exact⟨rfl,rfl,rfl⟩
theorem zrJ{w:World}{P:Nat->Prop}{ss:List SS}{us:List (Value×Value×Value)}(hl:us.length=ss.length)(hs:∀k (hk:k<ss.length) (hv:k<us.length),SV w P ss[k] (.agg #[us[k].1,us[k].2.1,us[k].2.2])):∀u∈zk8 us,u.oneCell'=true:=fun u hu=>by
 obtain⟨t,ht,hu⟩:=List.mem_flatMap.1 hu;obtain⟨k,hk,rfl⟩:=List.getElem_of_mem ht;have h:=(hs k (by omega) hk).one;simp only[List.mem_cons,List.not_mem_nil,or_false]at hu;rcases hu with rfl|rfl|rfl
 ·exact h.1
 ·exact h.2.1
 ·exact h.2.2
theorem zli.app{W W5:World}{n0:Nat}{S S':Nat->Prop}{v v':Value}{ls ys:List SS}{vs us:List (Value×Value×Value)}(hl:vs.length=ls.length)(kH:us.length=ys.length)
  (h2:∀k (hk:k<ls.length) (hv:k<vs.length),SV W (fun q=>S q/\v.ownBlock≠some q) ls[k] (.agg #[vs[k].1,vs[k].2.1,vs[k].2.2]))(hS:∀q,S q->q<W.heap.size->S' q)
  (hy:∀k (hk:k<ys.length) (hv:k<us.length),SV W (fun q=>S' q/\v.ownBlock≠some q) ys[k] (.agg #[us[k].1,us[k].2.1,us[k].2.2]))
  (ho:W5.ownsRow n0 32 3 v' (ls.length+ys.length) (zk8 vs++zk8 us))(hg:W.grownBy W5 v.ownBlock)(ak:v'.ownBlock=v.ownBlock\/v'.ownBlock=some W.heap.size):zli W5 n0 S' v' (ls++ys):=by
 have hB:∀q,v.ownBlock≠some q->q<W.heap.size->v'.ownBlock≠some q:=fun q h hq e=>by
  rcases ak with e1|e1
  ·exact h (e1▸e)
  ·rw[e1]at e;injection e with e;omega
 have hk:∀q,v.ownBlock≠some q->q<W.heap.size->W5.heap[q]?=W.heap[q]?:=fun q h hq=>hg.block q hq fun e=>h e.symm;have e1:zk8 (vs++us)=zk8 vs++zk8 us:=by simp[zk8]
 refine⟨vs++us,by rw[List.length_append,e1];exact ho,by simp[hl,kH],fun k hk1 hk2=>?_⟩;by_cases hlt:k<ls.length
 ·have hlv:k<vs.length:=by omega
  rw[List.getElem_append_left hlt,List.getElem_append_left hlv];exact(h2 k hlt hlv).keep (fun q h hq=>⟨hS q h.1 hq,hB q h.2 hq⟩) fun q h hq=>hk q h.2 hq
 ·have hk3:k-ls.length<ys.length:=by simp at hk1;omega
  have h9:=hy (k-ls.length) hk3 (by omega);rw[List.getElem_append_right (by omega),List.getElem_append_right (by omega)];simp only[hl];exact h9.keep (fun q h hq=>⟨h.1,hB q h.2 hq⟩) fun q h hq=>hk q h.2 hq
theorem zli.addS{W0 wr we w':World}{n0:Nat}{S:Nat->Prop}{v v':Value}{ls ys:List SS}{vs us:List (Value×Value×Value)}(xe:∀q,S q->q<n0)(hb:Below n0 W0 wr)(hn:n0<=W0.heap.size)(hown:wr.ownsRow n0 32 3 v ls.length (zk8 vs))(hl:vs.length=ls.length)
  (h2:∀k (hk:k<ls.length) (hv:k<vs.length),SV wr (fun q=>S q/\v.ownBlock≠some q) ls[k] (.agg #[vs[k].1,vs[k].2.1,vs[k].2.2]))(kH:us.length=ys.length)(hw:Below wr.heap.size wr we)
  (hy:∀k (hk:k<ys.length) (hv:k<us.length),SV we S ys[k] (.agg #[us[k].1,us[k].2.1,us[k].2.2]))
  (ho:w'.ownsRow n0 32 3 v' (ls.length+ys.length) (zk8 vs++zk8 us))(hg:we.grownBy w' v.ownBlock)(ak:v'.ownBlock=v.ownBlock\/v'.ownBlock=some we.heap.size) :
  ∃A' c',v'=.slice A' (ls.length+ys.length) c'/\(ls.length+ys.length)<=c'/\Hid (Below n0 W0 w')/\Hid (zli w' n0 S (.slice A' (ls.length+ys.length) c') (ls++ys)):=by
 obtain⟨A',c',rfl,hc,-⟩:=zkd ho;have hs:=hb.size;have hbe:Below n0 W0 we:=hb.trans (hw.mono (by omega));refine⟨A',c',rfl,hc,zh (hbe.grown hg (Nat.le_trans hn hbe.size) fun k hk=>(hown.lt k hk).1),zh ?_⟩;exact zli.app (W:=we) (S:=S) (S':=S) hl kH (fun k hk hv=>(h2 k hk hv).later hw) (fun q h _=>h)
  (fun k hk hv=>(hy k hk hv).keep (fun q h _=>⟨h,fun e=>by have:=(hown.lt q e).1;have:=xe q h;omega⟩) fun _ _ _=>rfl) ho hg ak
theorem zli.sa{W:World}{n0:Nat}{S:Nat->Prop}{v:Value}{ss:List SS}(h:zli W n0 S v ss):∃A c,v=.slice A ss.length c/\ss.length<=c/\zlj W A ss:=by
 obtain⟨vs,h1,hl,h2⟩:=h;obtain⟨A',c',rfl,hc',-⟩:=zkd h1;refine⟨A',c',rfl,hc',fun i hi=>?_⟩;obtain⟨g,cap,A,c,B,d,D,e,e0,hg1,hg2,x0,x1,x2,hs⟩:=zli.nd ⟨vs,h1,hl,h2⟩ hi;injection e0 with e1 e2 e3;subst e1;refine⟨g,0,_,_,_,rfl,by rw[Nat.zero_add];exact x0,by rw[Nat.zero_add];exact x1,by rw[Nat.zero_add];exact x2,hs.keep (fun q _ h=>h) fun _ _ _=>rfl⟩
theorem zmG(w:World)(u v x:Value)(E:TypeId):∀ad,(some ⟨w.heap.size,0,none⟩:Option Addr)=some ad->∀j y,[u,v,x][j]?=some y->(w.alloc (.cells #[u,v,x] E)).cell? (ad.add j)=some y:=fun ad e j y hj=>by
 injection e with e;subst e;have hk:=heap_alloc_new w (.cells #[u,v,x] E);rw[Addr.add_lit,Nat.zero_add]
 match j,hj with
 | 0,hj=>simp at hj;subst hj;exact zc hk rfl
 | 1,hj=>simp at hj;subst hj;exact zc hk rfl
 | 2,hj=>simp at hj;subst hj;exact zc hk rfl
theorem zyv(A:Option Addr)(n c h:Nat)(hh:h<=c)(w:World):(Instr.slice 27 (.slice A n c) none (some (.int .i64 (h:Int))) none).run prog w=.ok (.slice A h c) w:=by
 have h1:prog.underlying 27=some (.slice (prog.elem 27)):=by kernel_rfl
 have h2:(sizeOf (prog.elem 27)).run prog w=.ok 3 w:=by kernel_rfl
 refine(run_slice_h (P:=prog) (w:=w) 27 A n c h1 .i64 (h:Int) (by omega) (by omega)).trans ?_;rw[h2];simp[Result.andThen,sliced];intro _
 cases A<;>simp[Addr.add_zero']
theorem zq9(A:Option Addr)(n c k:Nat)(hk:k<=n)(w:World):(Instr.slice 27 (.slice A n c) (some (.int .i64 (k:Int))) none none).run prog w=.ok (.slice (if c=k then A else A.map (·.add (k*3))) (n-k) (c-k)) w:=by
 have h1:prog.underlying 27=some (.slice (prog.elem 27)):=by kernel_rfl
 have h2:(sizeOf (prog.elem 27)).run prog w=.ok 3 w:=by kernel_rfl
 refine(run_slice_l (P:=prog) (w:=w) 27 A n c h1 .i64 (k:Int) (by omega) (by omega)).trans ?_;rw[h2];simp[Result.andThen,sliced]
theorem zKc:IsFn prog 45 Tryz.f45:=⟨func45,by kernel_rfl,by kernel_rfl⟩
theorem zK2:IsFn prog 92 f92:=⟨func92,by kernel_rfl,by kernel_rfl⟩
theorem zli.later{W W':World}{n0:Nat}{S:Nat->Prop}{v:Value}{ss:List SS}(h:zli W n0 S v ss)(hb:Below W.heap.size W W'):zli W' n0 S v ss:=h.keep (fun _ h _=>h) fun q _ hq=>hb.block q hq
theorem zli.many{W0 wr we:World}{n0 e co:Nat}{Ao:Option Addr}{S:Nat->Prop}{acc ys:List SS}{us:List (Value×Value×Value)}(h:zli wr n0 S (.slice Ao e co) acc)(he:acc.length=e)(xe:∀q,S q->q<n0)(hb:Below n0 W0 wr)(hn:n0<=W0.heap.size)
  (kH:us.length=ys.length)(hw:Below wr.heap.size wr we)(hy:∀k (hk:k<ys.length) (hv:k<us.length),SV we S ys[k] (.agg #[us[k].1,us[k].2.1,us[k].2.2])){m:Nat}(hm:ys.length=m) :
  ∃xs,we.ownsRow n0 32 3 (.slice Ao e co) e xs/\n0<=we.heap.size/\∀v' w',w'.ownsRow n0 32 3 v' (e+m) (xs++zk8 us)->we.grownBy w' (Value.slice Ao e co).ownBlock->(v'.ownBlock=(Value.slice Ao e co).ownBlock\/v'.ownBlock=some we.heap.size) ->
   ∃A' c',v'=.slice A' (e+m) c'/\e+m<=c'/\Hid (Below n0 W0 w')/\Hid (zli w' n0 S (.slice A' (e+m) c') (acc++ys)):=by
 subst he hm;obtain⟨vs,h1,hl,h2⟩:=h;exact⟨zk8 vs,zkp h1 hw,Nat.le_trans (Nat.le_trans hn hb.size) hw.size,fun v' w' g1 g2 g3=>zli.addS xe hb hn h1 hl h2 kH hw hy g1 g2 g3⟩
theorem zlj.nilA{w:World}{A:Option Addr}{ss:List SS}(h:zlj w A ss)(hA:A=none):ss.length=0:=by
 subst hA;rcases ss with _|⟨s,ss⟩
 ·rfl
 ·obtain⟨b,o,u,v,x,e,-⟩:=h.head
  cases e
abbrev c3R(w:World)(b o:Nat)(u v x:Value):Prop:=w.cell? ⟨b,o,none⟩=some u/\w.cell? ⟨b,o+1,none⟩=some v/\w.cell? ⟨b,o+2,none⟩=some x
def slN:Value->Nat
 | .slice _ n _=>n
 | _=>0
theorem one3{a b c:Value}(h:a.oneCell'=true/\b.oneCell'=true/\c.oneCell'=true):∀u∈[a,b,c],u.oneCell'=true:=by
 intro u hu;simp only[List.mem_cons,List.not_mem_nil,or_false]at hu;rcases hu with rfl|rfl|rfl
 ·exact h.1
 ·exact h.2.1
 ·exact h.2.2
attribute [local go_sem] Oper.semAt_some
theorem zsM:∀(n:Nat) (ss:List SS) (A:Option Addr) (c:Nat) (w:World),ss.length=n->n<=c->n<=1000->zlj w A ss->(∀s∈ss,SmC s) ->
  Calls prog 45 #[.slice A n c] w fun e w'=>∃v,e=.returned v/\(∃A' c',v=.slice A' n c'/\n<=c'/\zlj w' A' (zlt ss))/\Below w.heap.size w w':=by
 intro n
 induction n using Nat.strongRecOn with
 | _ n ih =>
 intro ss A c w hl hc hn yo hS;have HA:=zh yo;have iK:=zh hS;have HL:=zh hl;have IH:=zh ih;clear ih yo hS hl;go_enter func45,ntmps45;by_cases h2:n<2
 ·have h2i:(n:Int)<2:=by omega
  go_wp2_with fail;go_ret;exact⟨_,rfl,⟨A,c,rfl,hc,by rw[ztQ (by rw[HL.out];exact h2)];exact HA.out⟩,zr⟩
 ·have h2i:¬ (n:Int)<2:=by omega
  go_upto_region 3 with fail;have hSS:zW zU zU w.drew:=⟨trivial,trivial⟩
  obtain⟨m,hm⟩:=zX (n / 2);have hq:IntKind.i64.wrap ((n:Int) / 2)=(m:Int):=by
   rw[IntWalk.i64_in _ (by omega)];omega
  have hmc:(m:Int)<=(c:Int):=by omega
  have uY:(m:Int)<=(n:Int):=by omega
  have hm0:(0:Int)<=(m:Int):=by omega
  have hT:=zyv A n c m (by omega);have hD:=zq9 A n c m (by omega);have Ce:=zh (show(ss.take m).length=m by rw[List.length_take,HL.out];omega);have Cb:=zh (show(ss.drop m).length=n-m by rw[List.length_drop,HL.out]);have HR2:=zh (HA.out.drop m (by rw[HL.out];exact hc));have HST:=zh (show zlt ss=zll (zlt (ss.take m)) (zlt (ss.drop m)) by rw[ztP (by rw[HL.out];exact h2),HL.out,hm]);obtain⟨A2,hA2⟩:=zX ((if c=m then A else A.map (·.add (m*3))));rw[hA2]at HR2;simp only[hA2]at hD;have hm1:m<n:=by omega
  have hm2:n-m<n:=by omega
  clear hA2 hm h2;have HI1:=zh (fun w' (hb:Below w.heap.size w w')=>IH.out m hm1 (ss.take m) A c w' Ce.out (by omega) (by omega) ((HA.out.take m).later hb) fun s h=>iK.out s (List.mem_of_mem_take h));have HI2:=zh (fun w' (hb:Below w.heap.size w w')=>IH.out (n-m) hm2 (ss.drop m) A2 (c-m) w' Cb.out (by omega) (by omega) (HR2.out.later hb) fun s h=>iK.out s (List.mem_of_mem_drop h));have iP:=zh (show(zlt (ss.take m)).length=m from zoi m _ Ce.out);have HL2:=zh (show(zlt (ss.drop m)).length=n-m from zoi (n-m) _ Cb.out);have gY:=zh (show ∀s∈zlt (ss.take m),SmC s from fun s h=>iK.out s (List.mem_of_mem_take (zqi _ _ rfl h)));have HS2:=zh (show ∀s∈zlt (ss.drop m),SmC s from fun s h=>iK.out s (List.mem_of_mem_drop (zqi _ _ rfl h)));obtain⟨L,hLe⟩:=zX (zlt (ss.take m));obtain⟨R,hRe⟩:=zX (zlt (ss.drop m));rw[hLe]at HI1 iP gY HST
  rw[hRe]at HI2 HL2 HS2 HST;clear hLe hRe IH iK HA HR2 Ce Cb;refine wp_region_noPanic ?_;refine zG hSS 13 ?_;refine zT 0 hSS ?_;refine zT 1 hSS ?_;refine zT 2 hSS ?_;refine zT 3 hSS ?_;refine zT 4 hSS ?_;refine zT 6 hSS ?_;refine zT 7 hSS ?_;refine zT 8 hSS ?_;refine zT 9 hSS ?_;refine zT 10 hSS ?_;clear hT hD;have hb1:=Below.drew (zs w);have had:Calls prog 45 [.slice A m c].toArray w.drew fun e w'=>∃v,e=.returned v/\((∃A' c',v=.slice A' m c'/\m<=c'/\zlj w' A' L)/\Below w.drew.heap.size w.drew w'):=HI1.out _ hb1;refine zo 5 fun K hK=>?_;refine zkf (by rfl) (.func 45) [.tmp 14] _ (by rfl) 45 _ zKc (by rfl) _ (by rfl) _ had ?_;rintro v2 w2 ⟨⟨A3,c3,rfl,hc3,hr3⟩,hb2⟩;refine hK.out _ _ hSS ?_;clear hK K had;(try simp only[zQ]);have HB2:=zh (zka hb1 hb2);clear hb1 hb2
  have had:Calls prog 45 [.slice A2 (n-m) (c-m)].toArray w2 fun e w'=>∃v,e=.returned v/\((∃A' c',v=.slice A' (n-m) c'/\n-m<=c'/\zlj w' A' R)/\Below w2.heap.size w2 w'):=HI2.out _ HB2.out;refine zo 11 fun K hK=>?_;refine zkf (by rfl) (.func 45) [.tmp 20] _ (by rfl) 45 _ zKc (by rfl) _ (by rfl) _ had ?_;rintro v3 w3 ⟨⟨A4,c4,rfl,hc4,hr4⟩,hb3⟩;refine hK.out _ _ hSS ?_;clear hK K had;(try simp only[zQ]);refine zT 12 hSS ?_;refine zp 13 fun K hK=>?_;(try simp only[zA,zB,zC]);go_simp;refine hK.out _ _ trivial ?_;clear hK K;(try simp only[zQ]);refine zd ?_;refine NoPanic.normal ?_;have HB3:=zh (zka HB2.out hb3);have HR3:=zh (hr3.later hb3);have HR4:=zh hr4;clear hr3 hr4 hb3 hSS HI1 HI2 HB2 hq hmc uY hm0 h2i;obtain⟨n2,hn2⟩:=zX (n-m);rw[hn2]at HL2 hc4 ⊢;have ny:=zh (show n=m+n2 by omega);clear hn2 hm1 hm2;obtain⟨B3,hB3⟩:=zX (w3.heap.size)
  have HB0:=zh (show Below B3 w3 w3 from zr);have hI:=bSts;go_wp2_with fail
  go_loopw [5,3,4] (fun ov lv rv wr=>∃(Ao:Option Addr) (e co:Nat) (Al:Option Addr) (p cl:Nat) (Ar:Option Addr) (q cr:Nat) (acc ls rs:List SS),ov=.slice Ao e co/\lv=.slice Al p cl/\rv=.slice Ar q cr/\p<=cl/\q<=cr/\e+p+q=n/\Hid (acc.length=e/\ls.length=p/\rs.length=q)/\Hid (Below B3 w3 wr) /\
   Hid (zli wr B3 (fun b=>b<B3) (.slice Ao e co) acc)/\Hid (zlj w3 Al ls)/\Hid (zlj w3 Ar rs)/\Hid (acc++zll ls rs=zlt ss)/\Hid ((∀s∈ls,SmC s)/\∀s∈rs,SmC s)) (fun ov _ _ _=>n-slN ov)
  case atStart=>exact⟨_,0,_,_,m,_,_,n2,_,[],L,R,rfl,rfl,rfl,hc3,hc4,by have:=ny.out;omega,zh ⟨rfl,iP.out,HL2.out⟩,HB0,zh (zli.nil _ _ _),HR3,HR4,zh (by rw[HST.out];rfl),zh ⟨gY.out,HS2.out⟩⟩
  case round =>
   clear HR3 HR4 HST gY HS2 iP HL2 hc3 hc4 HB0 ny;obtain⟨Ao,e,co,Al,p,cl,Ar,q,cr,acc,ls,rs,rfl,rfl,rfl,hpc,hqc,hsum,bA,HB,yU,gZ,HRR,HM,eU⟩:=hrel;by_cases hpq:0<p/\0<q
   ·have hp0:(0:Int)<(p:Int):=by omega
    have hq0:(0:Int)<(q:Int):=by omega
    obtain⟨x,ls',rfl⟩:∃x l,ls=x::l:=by
     have:=bA.out.2.1
     cases ls with
     | nil=>simp at this;omega
     | cons x l=>exact⟨x,l,rfl⟩
    obtain⟨y,rs',rfl⟩:∃x l,rs=x::l:=by
     have:=bA.out.2.2
     cases rs with
     | nil=>simp at this;omega
     | cons x l=>exact⟨x,l,rfl⟩
    obtain⟨b1,o1,u1,v1,x1,rfl,h10,h11,h12,hs1⟩:=gZ.out.head;obtain⟨b2,o2,u2,v2,x2,rfl,h20,h21,h22,hs2⟩:=HRR.out.head;have hsz:=HB.out.size;have HF:=zh (show ∀w',Below B3 w3 w'->c3R w' b2 o2 u2 v2 x2/\c3R w' b1 o1 u1 v1 x1 from fun w' h=>by
     rw[<-hB3]at h;exact⟨⟨zb h h20,zb h h21,zb h h22⟩,zb h h10,zb h h11,zb h h12⟩)
    have gY:=zh (show ∀w',Below B3 w3 w'->SV w' (fun b=>b<B3) x (.agg #[u1,v1,x1])from fun w' h=>by
     rw[<-hB3]at h ⊢;exact hs1.later h)
    have HS2:=zh (show ∀w',Below B3 w3 w'->SV w' (fun b=>b<B3) y (.agg #[u2,v2,x2])from fun w' h=>by
     rw[<-hB3]at h ⊢;exact hs2.later h)
    have HCM:=zh (fun w' (h:Below B3 w3 w')=>zrE y x (.agg #[u2,v2,x2]) (.agg #[u1,v1,x1]) w' (HS2.out _ h).any (gY.out _ h).any (eU.out.2 y (by simp)) (eU.out.1 x (by simp)));have qw:=zh (show acc++(if cmpE y x<0 then y::zll (x::ls') rs' else x::zll ls' (y::rs'))=zlt ss by have h:=HM.out;rw[zll]at h;exact h);obtain⟨r,hr⟩:=zX (cmpE y x);rw[hr]at qw;simp only[hr]at HCM;clear hr h10 h11 h12 h20 h21 h22 hs1 hs2;go_upto_region 6 with fail;have hb1:=(HB.out.trans ((zs wr).drew.mono (by omega)))
    have hSS:zW (fun w':World=>c3R w' b2 o2 u2 v2 x2/\c3R w' b1 o1 u1 v1 x1) zU wr.drew:=⟨HF.out _ hb1,trivial⟩
    have had:Calls prog 92 [.agg #[u2,v2,x2],.agg #[u1,v1,x1]].toArray wr.drew fun e w'=>∃v,e=.returned v/\(v=.int .i64 r/\Below wr.drew.heap.size wr.drew w'):=(HCM.out _ hb1).mono fun e w' ⟨h1,h2⟩=>⟨_,h1,rfl,h2⟩
    refine wp_region_noPanic ?_;refine zG hSS 7 ?_;refine zT 0 hSS ?_;refine zT 1 hSS ?_;refine zT 2 hSS ?_;refine zT 3 hSS ?_;refine zT 4 hSS ?_;refine zT 5 hSS ?_;refine zo 6 fun K hK=>?_;refine zkf (by rfl) (.func 92) [.tmp 32,.tmp 35] _ (by rfl) 92 _ zK2 (by rfl) _ (by rfl) _ had ?_;rintro v5 w5 ⟨rfl,hb5⟩;have hb6:=hb1.trans (hb5.mono (by have:=hb1.size;omega));refine hK.out _ _ ⟨HF.out _ hb6,trivial⟩ ?_;clear hK K had hSS;(try simp only[zQ]);refine zp 7 fun K hK=>?_;(try simp only[zA,zB,zC]);go_simp;refine hK.out _ _ (HF.out _ hb6) ?_;clear hK K;(try simp only[zQ]);refine zd ?_;refine NoPanic.normal ?_;have aU:=zh hb6;have HRT6:=zh (yU.out.later (((zs wr).drew).trans (hb5.mono (zs wr).drew.size)));clear hb1 hb5 hb6 yU HCM;obtain⟨⟨g20,g21,g22⟩,g10,g11,g12⟩:=HF.out _ aU.out;by_cases hr:r<0
    ·have xP:=zh (show(acc++[y])++zll (x::ls') rs'=zlt ss by have h:=qw.out;rw[if_pos hr]at h;simpa using h);have hD:∀w,(Instr.slice 27 (.slice (some ⟨b2,o2,none⟩) q cr) (some (.int .i64 1)) none none).run prog w=.ok (.slice (if cr=1 then(some ⟨b2,o2,none⟩:Option Addr)else(some ⟨b2,o2,none⟩:Option Addr).map (·.add (1*3))) (q-1) (cr-1)) w:=zq9 (some ⟨b2,o2,none⟩) q cr 1 (by omega);have HRR2:=zh (HRR.out.tail (c:=cr) (by have:=bA.out.2.2;simp at this;omega));obtain⟨A7,uf⟩:=zX ((if cr=1 then(some ⟨b2,o2,none⟩:Option Addr)else(some ⟨b2,o2,none⟩:Option Addr).map (·.add (1*3))));simp only[uf]at hD;rw[uf]at HRR2;clear uf;have h1c:=(HS2.out _ aU.out).one;obtain⟨xs,hown,eZ,hpush⟩:=HRT6.out.many (W0:=w3) (we:=w5.alloc (.cells #[u2,v2,x2] 32)) (ys:=[y]) (us:=[(u2,v2,x2)]) bA.out.1 (fun _ h=>h) aU.out (by omega) rfl (zkb zr _) (fun k hk hv=>by
      obtain rfl:k=0:=by simpa using hk
      exact(HS2.out _ aU.out).later (zkb zr _)) (m:=1) rfl
     have ja:=zh hpush;clear hpush;clear eZ;go_wp2_with (at_builtin;refine zki rfl (.tmp 38) (.tmp 42) rfl underlying27 zmv rfl (by decide) (by decide) B3 (.slice Ao e co) e xs rfl hown (some ⟨w5.heap.size,0,none⟩) 1 1 [u2,v2,x2] rfl rfl (fun e=>by cases e) (zmG w5 _ _ _ _) (one3 h1c) (by omega) (Nat.le_trans (by have:=aU.out.size;omega) (zkb (zs w5) _).size) ?_;intro v9 w9 ho hg ak;obtain⟨A9,c9,rfl,bF,aH,bJ⟩:=ja.out _ _ ho hg ak;clear ho hg ak)
     go_roundw
     case rel=>exact⟨A9,e+1,c9,_,p,cl,_,q-1,cr-1,acc++[y],x::ls',rs',rfl,rfl,rfl,hpc,by omega,by omega,zh (by have:=bA.out;simp at this ⊢;omega),aH,bJ,gZ,HRR2,xP,zh ⟨eU.out.1,fun s h=>eU.out.2 s (by simp[h])⟩⟩
     case measure=>simp[slN];omega
    ·have xP:=zh (show(acc++[x])++zll ls' (y::rs')=zlt ss by have h:=qw.out;rw[if_neg hr]at h;simpa using h);have hD:∀w,(Instr.slice 27 (.slice (some ⟨b1,o1,none⟩) p cl) (some (.int .i64 1)) none none).run prog w=.ok (.slice (if cl=1 then(some ⟨b1,o1,none⟩:Option Addr)else(some ⟨b1,o1,none⟩:Option Addr).map (·.add (1*3))) (p-1) (cl-1)) w:=zq9 (some ⟨b1,o1,none⟩) p cl 1 (by omega);have HRL2:=zh (gZ.out.tail (c:=cl) (by have:=bA.out.2.1;simp at this;omega));obtain⟨A7,uf⟩:=zX ((if cl=1 then(some ⟨b1,o1,none⟩:Option Addr)else(some ⟨b1,o1,none⟩:Option Addr).map (·.add (1*3))));simp only[uf]at hD;rw[uf]at HRL2;clear uf;have h1c:=(gY.out _ aU.out).one;obtain⟨xs,hown,eZ,hpush⟩:=HRT6.out.many (W0:=w3) (we:=w5.alloc (.cells #[u1,v1,x1] 32)) (ys:=[x]) (us:=[(u1,v1,x1)]) bA.out.1 (fun _ h=>h) aU.out (by omega) rfl (zkb zr _) (fun k hk hv=>by
      obtain rfl:k=0:=by simpa using hk
      exact(gY.out _ aU.out).later (zkb zr _)) (m:=1) rfl
     have ja:=zh hpush;clear hpush;clear eZ;go_wp2_with (at_builtin;refine zki rfl (.tmp 46) (.tmp 50) rfl underlying27 zmv rfl (by decide) (by decide) B3 (.slice Ao e co) e xs rfl hown (some ⟨w5.heap.size,0,none⟩) 1 1 [u1,v1,x1] rfl rfl (fun e=>by cases e) (zmG w5 _ _ _ _) (one3 h1c) (by omega) (Nat.le_trans (by have:=aU.out.size;omega) (zkb (zs w5) _).size) ?_;intro v9 w9 ho hg ak;obtain⟨A9,c9,rfl,bF,aH,bJ⟩:=ja.out _ _ ho hg ak;clear ho hg ak)
     go_roundw
     case rel=>exact⟨A9,e+1,c9,_,p-1,cl-1,_,q,cr,acc++[x],ls',y::rs',rfl,rfl,rfl,by omega,hqc,by omega,zh (by have:=bA.out;simp at this ⊢;omega),aH,bJ,HRL2,HRR,xP,zh ⟨fun s h=>eU.out.1 s (by simp[h]),eU.out.2⟩⟩
     case measure=>simp[slN];omega
   ·have xP:=zh (show acc++ls++rs=zlt ss by
     have h:=HM.out;have hl:=bA.out;by_cases hp:p=0
     ·obtain rfl:ls=[]:=List.eq_nil_of_length_eq_zero (by omega);rw[zo5]at h;simpa using h
     ·obtain rfl:rs=[]:=List.eq_nil_of_length_eq_zero (by omega);rw[zoo]at h;simpa using h)
    have HRT2:=yU;have hsz:=HB.out.size;obtain⟨us,lu,hun0,dX⟩:=gZ.out.vals;have hun:∀ad,Al=some ad->∀j u,(zk8 us)[j]?=some u->wr.cell? (ad.add j)=some u:=fun ad h j u hj=>zb (hB3▸HB.out) (hun0 ad h j u hj);have su:∀k (hk:k<ls.length) (hv:k<us.length),SV wr (fun b=>b<B3) ls[k] (.agg #[us[k].1,us[k].2.1,us[k].2.2]):=fun k hk hv=>by
     have h:=dX k hk hv;rw[hB3]at h;exact h.later (hB3▸HB.out)
    obtain⟨ut,htl,htn0,hts⟩:=HRR.out.vals;have xE:=zh (show ∀w',Below B3 w3 w'->∀ad,Ar=some ad->∀j u,(zk8 ut)[j]?=some u->w'.cell? (ad.add j)=some u from fun w' hw ad h j u hj=>zb (hB3▸hw) (htn0 ad h j u hj));have yT:=zh (show ∀w',Below B3 w3 w'->∀k (hk:k<rs.length) (hv:k<ut.length),SV w' (fun b=>b<B3) rs[k] (.agg #[ut[k].1,ut[k].2.1,ut[k].2.2])from fun w' hw k hk hv=>by
     have h:=hts k hk hv;rw[hB3]at h;exact h.later (hB3▸hw))
    obtain⟨xs,hown,eZ,hpush⟩:=yU.out.many (W0:=w3) (we:=wr) (ys:=ls) (us:=us) bA.out.1 (fun _ h=>h) HB.out (by omega) lu zr su (m:=p) bA.out.2.1;have ja:=zh hpush;have hun1:=zrJ lu su;have hut1:=zrJ htl hts;have hul3:(zk8 us).length=p*3:=by rw[zqB,lu,bA.out.2.1]
    have hut3:(zk8 ut).length=q*3:=by rw[zqB,htl,bA.out.2.2]
    have hnL:Al=none->p=0:=fun h=>by rw[<-bA.out.2.1];exact gZ.out.nilA h
    have hnR:Ar=none->q=0:=fun h=>by rw[<-bA.out.2.2];exact HRR.out.nilA h
    have HPQ:=zh (show ∀A9 c9 w9,Below B3 w3 w9->zli w9 B3 (fun b=>b<B3) (.slice A9 (e+p) c9) (acc++ls)->∃xs,w9.ownsRow B3 32 3 (.slice A9 (e+p) c9) (e+p) xs/\B3<=w9.heap.size/\∀v' w',w'.ownsRow B3 32 3 v' (e+p+q) (xs++zk8 ut)->w9.grownBy w' (Value.slice A9 (e+p) c9).ownBlock->(v'.ownBlock=(Value.slice A9 (e+p) c9).ownBlock\/v'.ownBlock=some w9.heap.size) ->
      ∃A' c',v'=.slice A' (e+p+q) c'/\e+p+q<=c'/\Hid (Below B3 w3 w')/\Hid (zli w' B3 (fun b=>b<B3) (.slice A' (e+p+q) c') (acc++ls++rs))from fun A9 c9 w9 aZ lC =>
     lC.many (W0:=w3) (we:=w9) (ys:=rs) (us:=ut) (by have:=bA.out;simp;omega) (fun _ h=>h) aZ (by omega) htl zr (yT.out _ aZ) (m:=q) bA.out.2.2)
    clear hpush dX su lu htl hts hun0 htn0 eU HM HRT2;have hpb:e+p<=1000000:=by omega
    have hqb:e+p+q<=1000000:=by omega
    have aS:=zh (show ∀A9 c9 w9,Hid (Below B3 w3 w9)->Hid (zli w9 B3 (fun b=>b<B3) (.slice A9 (e+p+q) c9) (acc++ls++rs))->e+p+q<=c9->(∃A' c',Value.slice A9 (e+p+q) c9=.slice A' n c'/\n<=c'/\zlj w9 A' (zlt ss))/\Below w.heap.size w w9 from fun A9 c9 w9 h1 h2 h3=>by
     rw[xP.out]at h2;obtain⟨A1,c1,e1,-,h4⟩:=h2.out.sa;injection e1 with e1 e2 e3;subst e1;refine⟨⟨A9,c9,by rw[hsum],by omega,h4⟩,zka HB3.out (hB3▸h1.out)⟩)
    by_cases hp0:0<p
    ·have hpi:(0:Int)<(p:Int):=by omega
     have hqi:¬ (0:Int)<(q:Int):=by omega
     go_wp2_with (at_builtin;first
      | (refine zki rfl (.tmp 54) (.tmp 55) rfl underlying27 zmv rfl (by decide) (by decide) B3 (.slice Ao e co) e xs rfl hown Al p cl (zk8 us) rfl hul3 hnL hun hun1 hpb eZ ?_;intro v9 w9 ho hg ak;obtain⟨A9,c9,rfl,bF,aH,bJ⟩:=ja.out _ _ ho hg ak;clear ho hg ak;obtain⟨zw,eu,jm,ek⟩:=HPQ.out _ _ _ aH.out bJ.out;have kS:=zh ek;clear ek;have sw:=xE.out _ aH.out)
      | (refine zki rfl (.tmp 56) (.tmp 57) rfl underlying27 zmv rfl (by decide) (by decide) B3 (.slice A9 (e+p) c9) (e+p) zw rfl eu Ar q cr (zk8 ut) rfl hut3 hnR sw hut1 hqb jm ?_;intro v8 w8 ho hg ak;obtain⟨A8,c8,rfl,hc8,eY,ig⟩:=kS.out _ _ ho hg ak;clear ho hg ak))
     go_ret;exact⟨_,rfl,by have h:=aS.out _ _ _ eY ig hc8;rw[hsum]at h;exact h⟩
    ·have hpi:¬ (0:Int)<(p:Int):=by omega
     go_wp2_with (at_builtin;first
      | (refine zki rfl (.tmp 54) (.tmp 55) rfl underlying27 zmv rfl (by decide) (by decide) B3 (.slice Ao e co) e xs rfl hown Al p cl (zk8 us) rfl hul3 hnL hun hun1 hpb eZ ?_;intro v9 w9 ho hg ak;obtain⟨A9,c9,rfl,bF,aH,bJ⟩:=ja.out _ _ ho hg ak;clear ho hg ak;obtain⟨zw,eu,jm,ek⟩:=HPQ.out _ _ _ aH.out bJ.out;have kS:=zh ek;clear ek;have sw:=xE.out _ aH.out)
      | (refine zki rfl (.tmp 56) (.tmp 57) rfl underlying27 zmv rfl (by decide) (by decide) B3 (.slice A9 (e+p) c9) (e+p) zw rfl eu Ar q cr (zk8 ut) rfl hut3 hnR sw hut1 hqb jm ?_;intro v8 w8 ho hg ak;obtain⟨A8,c8,rfl,hc8,eY,ig⟩:=kS.out _ _ ho hg ak;clear ho hg ak))
     go_ret;exact⟨_,rfl,by have h:=aS.out _ _ _ eY ig hc8;rw[hsum]at h;exact h⟩
end
section
open Go Go.RowKit
theorem zqe(a b:Int)(w:World)(ha:1<=a/\a<=1099511627777)(hb:1<=b/\b<=1099511627777):Calls prog 89 #[.int .i64 a,.int .i64 b] w fun e w'=>e=.returned (.int .i64 (timR a b))/\w'=w:=by
 have e0:(a != 0)=true:=by simp;omega
 have e1:(a==0)=false:=by simp;omega
 have hq:=Int.tdiv_eq_ediv_of_nonneg (a:=1099511627776) (b:=a) (by decide);have hq2:0<=(1099511627776:Int) / a/\(1099511627776:Int) / a<=1099511627776:=⟨Int.ediv_nonneg (by decide) (by omega),Int.ediv_le_self _ (by decide)⟩
 have hw:IntKind.i64.wrap ((1099511627776:Int).tdiv a)=(1099511627776:Int).tdiv a:=IntWalk.i64_in _ (by rw[hq];omega);by_cases h:(1099511627776:Int).tdiv a<b
 ·have HT:=zh (show timR a b=1099511627777 by unfold timR;rw[if_pos ⟨by omega,h⟩]);clear hq hq2;go_enter func89,ntmps89;go_wp2_with fail;go_ret;exact⟨by rw[HT.out];rfl,rfl⟩
 ·have HT:=zh (show timR a b=a*b by unfold timR;rw[if_neg fun h2=>h h2.2]);have hm:IntKind.i64.wrap (a*b)=a*b:=IntWalk.i64_in _ (by have:=zpx ha hb;rw[HT.out]at this;omega);clear hq hq2;go_enter func89,ntmps89;go_wp2_with fail;go_ret;exact⟨by rw[HT.out];rfl,rfl⟩
theorem zqr(b:Int)(n:Nat)(w:World)(hb:1<=b/\b<=2001)(hn:n<=1000):Calls prog 90 #[.int .i64 b,.int .i64 (n:Int)] w fun e w'=>e=.returned (.int .i64 (powR b n))/\w'=w:=by
 have HT:=zh (fun i w'=>zqe (powR b i) b w' (zmh hb i) (by omega));have HB:=zh hb;clear hb;go_enter func90,ntmps90;go_wp2_with fail
 go_loopw [6,5] (fun i s wr=>∃j:Nat,j<=n/\i=.int .i64 j/\s=.int .i64 (powR b j)/\wr=w) (fun i _ _=>n-(intOf i).toNat)
 case atStart=>exact⟨0,by omega,rfl,rfl,rfl⟩
 case round =>
  obtain⟨j,hj,rfl,rfl,rfl⟩:=hrel;by_cases hlt:j<n
  ·have hj1:(j:Int)<(n:Int):=by omega
   have hj0:(0:Int)<=(j:Int):=by omega
   go_wp2_with fail;refine(HT.out j _).mono ?_;rintro e w1 ⟨rfl,rfl⟩;go_wp2_with fail
   go_roundw
   case rel=>exact⟨j+1,by omega,by go_num,rfl,trivial⟩
   case measure=>simp[intOf];omega
  ·obtain rfl:j=n:=by omega
   have hj1:¬ (j:Int)<(j:Int):=by omega
   go_wp2_with fail;go_ret;simp
theorem zv0(b:Int)(n:Nat)(w:World)(hb:1<=b/\b<=2001)(hn:n<=1000):Calls prog 88 #[.int .i64 b,.int .i64 (n:Int)] w fun e w'=>e=.returned (.int .i64 (upR b n))/\w'=w:=by
 have HT:=zh (fun i w' (hi:i<=1000)=>zqr b i w' hb hi);have HB:=zh hb;clear hb;go_enter func88,ntmps88;go_wp2_with fail
 go_loopw [6,5] (fun i s wr=>∃(j:Nat) (x:Int),j<=n+1/\i=.int .i64 j/\s=.int .i64 x/\(0<=x/\x<=1099511627776)/\wr=w/\Hid (upR b n=upA b x ((List.range (n+1)).drop j))) (fun i _ _=>n+1-(intOf i).toNat)
 case atStart=>exact⟨0,0,by omega,rfl,rfl,by omega,rfl,zh rfl⟩
 case round =>
  obtain⟨j,x,hj,rfl,rfl,hx,rfl,HU⟩:=hrel;by_cases hlt:j<=n
  ·have hj1:(j:Int)<=(n:Int):=by omega
   have hj0:(0:Int)<=(j:Int):=by omega
   go_wp2_with fail;refine(HT.out j _ (by omega)).mono ?_;rintro e w1 ⟨rfl,rfl⟩;have hp:=zmh HB.out j;obtain⟨y,hy⟩:=zX (powR b j);have HU2:=zh (show upR b n=if 1099511627776<x+y then 1099511627777 else upA b (x+y) ((List.range (n+1)).drop (j+1)) by
    rw[HU.out,List.drop_eq_getElem_cons (by simp;omega),List.getElem_range,upA,hy])
   rw[hy]at hp ⊢;have hw:IntKind.i64.wrap (x+y)=x+y:=IntWalk.i64_in _ (by omega);by_cases hg:1099511627776<x+y
   ·go_wp2_with fail;go_ret;exact⟨by rw[HU2.out,if_pos hg];rfl,rfl⟩
   ·go_wp2_with fail
    go_roundw
    case rel=>exact⟨j+1,x+y,by omega,by go_num,rfl,by omega,trivial,zh (by rw[HU2.out,if_neg (by omega)])⟩
    case measure=>simp[intOf];omega
  ·obtain rfl:j=n+1:=by omega
   have hj1:¬ ((n+1:Nat):Int)<=(n:Int):=by omega
   go_wp2_with fail;go_ret;exact⟨by rw[HU.out,List.drop_eq_nil_of_le (by simp)];rfl,rfl⟩
theorem ztA{v:VD}(h:vdB v=true):(v.k=1/\v.n=0)\/(v.k=2/\1<=v.n/\v.n<=16)\/(v.k=3/\v.n=0):=by
 unfold vdB at h;by_cases h1:v.k=1\/v.k=3
 ·rw[if_pos h1]at h;have h:=eq_of_beq h;rcases h1 with h1|h1
  ·exact .inl ⟨h1,h⟩
  ·exact .inr (.inr ⟨h1,h⟩)
 ·rw[if_neg h1]at h;by_cases h2:v.k=2
  ·rw[if_pos h2]at h;exact .inr (.inl ⟨h2,of_decide_eq_true h⟩)
  ·rw[if_neg h2]at h;cases h
theorem zsI{vs:List VD}(h:svB vs=true):vs.length<=32/\∀v∈vs,vdB v=true:=by
 unfold svB at h;simp only[Bool.and_eq_true,decide_eq_true_eq,List.all_eq_true]at h;exact h
theorem zti(vs:List VD)(b:BX)(A:Option Addr)(c:Nat)(w:World)(hr:RowV w Any A vs)(hok:(b.ok&&svB vs)=true) :
  Calls prog 43 #[.slice A vs.length c,.int .i64 b.v,.int .i64 b.l,.int .i64 b.i] w fun e w'=>e=.returned (.int .i64 (cntF vs b))/\w'=w:=by
 simp only[Bool.and_eq_true]at hok;have hb:=zlE hok.1;obtain⟨hn,hvd⟩:=zsI hok.2;have HB:=zh hb;have HV:=zh hvd;have HC:=zh (fun i (hi:i<=vs.length)=>zn5 hok.1 (vs.take i));obtain⟨V,hV⟩:=zX (b.v);obtain⟨nl,hnl⟩:∃nl:Nat,b.l=(nl:Int):=⟨b.l.toNat,by omega⟩
 obtain⟨ni,hni⟩:∃ni:Nat,b.i=(ni:Int):=⟨b.i.toNat,by omega⟩
 have dC:=zh (And.intro hV (And.intro hnl hni));have vN:=zh (fun n w' (h:n<=1000)=>zv0 (2*V+1) n w' (by omega) h);have yY:=zh (fun n w' (h:n<=1000)=>zqr (2*V+1) n w' (by omega) h);have BK:=zh (fun i v w' (hi:i<=vs.length)=>zqe (cntF (vs.take i) b) (cnt1 b v) w' (zn5 hok.1 (vs.take i)) (zn6 hb.1 v));have qX:=zh (fun i (hi:i<vs.length)=>znn (b:=b) hi);have lU:=zh (fun v=>show cnt1 b v=if v.k=1 then 2*V+1 else if v.k=2 then powR (2*V+1) v.n.toNat else upR (2*V+1) nl by unfold cnt1;rw[hV,hnl];rfl);have bB:=zh (show cntF (vs.take 0) b=upR (2*V+1) ni by unfold cntF;rw[hV,hni];rfl);have e1:IntKind.i64.wrap (2*V)=2*V:=IntWalk.i64_in _ (by omega);have e2:IntKind.i64.wrap (2*V+1)=2*V+1:=IntWalk.i64_in _ (by omega);have sI:nl<=1000:=by omega
 have sJ:ni<=1000:=by omega
 have HR:=zh hr;have HT:=zh (show cntF (vs.take vs.length) b=cntF vs b by rw[List.take_length]);obtain⟨CF,hCF⟩:∃CF:Nat->Int,∀i,cntF (vs.take i) b=CF i:=⟨fun i=>cntF (vs.take i) b,fun _=>rfl⟩
 simp only[hCF]at HC BK qX bB HT;rw[<-HT.out,hV,hnl,hni];obtain⟨C1,di⟩:∃C1:VD->Int,∀v,cnt1 b v=C1 v:=⟨fun v=>cnt1 b v,fun _=>rfl⟩
 simp only[di]at BK qX lU;clear hok hb hvd hr hV hnl hni hCF di;obtain⟨n,hn'⟩:=zX (vs.length);have HN:=zh hn';rw[hn']at hn ⊢;clear hn';go_enter func43,ntmps43;go_wp2_with fail;refine(vN.out ni w sJ).mono ?_;rintro e w1 ⟨rfl,rfl⟩;rw[<-bB.out];go_wp2_with fail
 go_loopw [10,9] (fun i s wr=>∃j:Nat,j<=n/\i=.int .i64 j/\s=.int .i64 (CF j)/\wr=w1) (fun i _ _=>n-(intOf i).toNat)
 case atStart=>exact⟨0,by omega,rfl,rfl,rfl⟩
 case round =>
  obtain⟨j,hj,rfl,rfl,rfl⟩:=hrel;by_cases hlt:j<n
  ·have hj1:(j:Int)<(n:Int):=by omega
   have hj0:(0:Int)<=(j:Int):=by omega
   have dw:j<vs.length:=by rw[HN.out];exact hlt
   obtain⟨a,v,rfl,-,hv,⟨x0,x1,x2⟩,-⟩:=HR.out.nd dw;have hvb:=ztA (HV.out _ (List.getElem_mem dw));have nU:=BK.out j v wr (by omega);have htk:=qX.out j dw;have hc1:=lU.out v;rw[hv.out]at hvb htk;rw[<-htk]at nU;clear htk hv dw;obtain⟨v0,v1,v2⟩:=v;simp only at x0 x1 x2 hvb hc1;rcases hvb with⟨rfl,rfl⟩|⟨rfl,hn1,hn2⟩|⟨rfl,rfl⟩
   ·rw[if_pos rfl]at hc1;rw[hc1]at nU;have mR:=zh nU;clear nU hc1;go_wp2_with fail;refine mR.out.mono ?_;rintro e w2 ⟨rfl,rfl⟩;go_wp2_with fail
    go_roundw
    case rel=>exact⟨j+1,by omega,by go_num,rfl,trivial⟩
    case measure=>simp[intOf];omega
   ·rw[if_neg (by decide),if_pos rfl]at hc1;obtain⟨m,rfl⟩:∃m:Nat,v2=(m:Int):=⟨v2.toNat,by omega⟩
    rw[show((m:Int)).toNat=m from rfl]at hc1;have hm:m<=1000:=by omega
    rw[hc1]at nU;have mR:=zh nU;clear nU hc1;go_wp2_with fail;refine(yY.out m wr hm).mono ?_;rintro e w2 ⟨rfl,rfl⟩;go_wp2_with fail;refine mR.out.mono ?_;rintro e w2 ⟨rfl,rfl⟩;go_wp2_with fail
    go_roundw
    case rel=>exact⟨j+1,by omega,by go_num,rfl,trivial⟩
    case measure=>simp[intOf];omega
   ·rw[if_neg (by decide),if_neg (by decide)]at hc1;rw[hc1]at nU;have mR:=zh nU;clear nU hc1;go_wp2_with fail;refine(vN.out nl wr sI).mono ?_;rintro e w2 ⟨rfl,rfl⟩;go_wp2_with fail;refine mR.out.mono ?_;rintro e w2 ⟨rfl,rfl⟩;go_wp2_with fail
    go_roundw
    case rel=>exact⟨j+1,by omega,by go_num,rfl,trivial⟩
    case measure=>simp[intOf];omega
  ·obtain rfl:j=n:=by omega
   have hj1:¬ (j:Int)<(j:Int):=by omega
   go_wp2_with fail;go_ret;exact⟨rfl,rfl⟩
theorem zvY{v:VD}(h:(v.k=1/\v.n=0)\/(v.k=2/\1<=v.n/\v.n<=16)\/(v.k=3/\v.n=0)):vdB v=true:=by
 unfold vdB;rcases h with⟨h1,h2⟩|⟨h1,h2⟩|⟨h1,h2⟩
 ·rw[if_pos (.inl h1),h2];rfl
 ·rw[if_neg (by omega),if_pos h1];exact decide_eq_true h2
 ·rw[if_pos (.inr h1),h2];rfl
theorem ztB{v:VD}(h:¬ ((v.k=1/\v.n=0)\/(v.k=2/\1<=v.n/\v.n<=16)\/(v.k=3/\v.n=0))):vdB v=false:=by
 cases e:vdB v with
 | false=>rfl
 | true=>exact absurd (ztA e) h
theorem zyo{vs:List VD}{i:Nat}(hi:i<vs.length)(h:vdB vs[i]=false):svB vs=false:=by
 cases e:svB vs with
 | false=>rfl
 | true=>rw[(zsI e).2 _ (List.getElem_mem hi)]at h;cases h
theorem zyp{vs:List VD}{n:Nat}(hn:vs.length=n)(h32:n<=32)(h:∀i (hi:i<vs.length),vdB vs[i]=true):svB vs=true:=by
 unfold svB;simp only[Bool.and_eq_true,decide_eq_true_eq,List.all_eq_true];exact⟨by omega,fun v hv=>by obtain⟨i,hi,rfl⟩:=List.mem_iff_getElem.1 hv;exact h i hi⟩
theorem zyH{b:BX}(h:((0<=b.v/\b.v<=1000)/\(0<=b.l/\b.l<=1000)/\0<=b.i/\b.i<=1000)):b.ok=true:=by
 simp only[BX.ok,okI,Bool.and_eq_true,decide_eq_true_eq];omega
theorem zwu{b:BX}(h:¬ ((0<=b.v/\b.v<=1000)/\(0<=b.l/\b.l<=1000)/\0<=b.i/\b.i<=1000)):b.ok=false:=by
 cases e:b.ok with
 | false=>rfl
 | true=>exact absurd (zlE e) h
theorem zth(vs:List VD)(b:BX)(A:Option Addr)(c:Nat)(w:World)(hr:RowV w Any A vs)(hl:vs.length<=LV) :
  Calls prog 42 #[.slice A vs.length c,.int .i64 b.v,.int .i64 b.l,.int .i64 b.i] w fun e w'=>e=.returned (.bool (b.ok&&svB vs))/\Below w.heap.size w w':=by
 have hl1:=zlk hl;have HR:=zh hr;obtain⟨RR,hRR⟩:=zX ((b.ok&&svB vs));have HRR:=zh hRR;rw[hRR];obtain⟨V,hV⟩:=zX (b.v);obtain⟨L,hL⟩:=zX (b.l);obtain⟨I,hI⟩:=zX (b.i);have HKT:=zh (fun h=>zyH (b:=b) h);have jG:=zh (fun h=>zwu (b:=b) h);have mU:=zh (fun(n:Nat)=>zyp (vs:=vs) (n:=n));rw[hV,hL,hI]at HKT jG ⊢;clear hr hl hRR hV hL hI;obtain⟨n,hn⟩:=zX (vs.length);have HN:=zh hn;rw[hn]at hl1 ⊢;clear hn;go_enter func42,ntmps42;by_cases h32:32<n
 ·have h32i:(32:Int)<(n:Int):=by omega
  go_wp2_with fail;go_ret;exact⟨by rw[<-HRR.out,show svB vs=false by { cases e:svB vs with|false=>rfl|true=>have:=(zsI e).1;have:=HN.out;omega },Bool.and_false];rfl,zr⟩
 have h32i:¬ (32:Int)<(n:Int):=by omega
 go_wp2_with fail
 go_loopw [9] (fun i wr=>∃j:Nat,j<=n/\i=.int .i64 j/\Hid (Below w.heap.size w wr)/\Hid (∀i (hi:i<vs.length),i<j->vdB vs[i]=true)) (fun i _=>n-(intOf i).toNat)
 case atStart=>exact⟨0,by omega,rfl,zh zr,zh fun i _ h=>by omega⟩
 case round =>
  obtain⟨j,hj,rfl,ag,HE⟩:=hrel;by_cases hlt:j<n
  ·have hj1:(j:Int)<(n:Int):=by omega
   have hj0:(0:Int)<=(j:Int):=by omega
   have dw:j<vs.length:=by rw[HN.out];exact hlt
   obtain⟨a,v,rfl,-,hv,⟨x0,x1,x2⟩,hfl⟩:=(HR.out.later ag.out).nd dw;have BD:=zh (fun h=>(congrArg vdB hv.out).trans (zvY (v:=v) h));have mQ:=zh (fun h=>zyo dw ((congrArg vdB hv.out).trans (ztB (v:=v) h)));have HJ:=zh dw;obtain⟨v0,v1,v2⟩:=v;have hk:=hfl.2.1;simp only at x0 x1 x2 BD mQ hk;have hk1:=heap_alloc_new wr (.cells #[.string v0,.int .u8 v1,.int .i64 v2] 57);have rH:=zh (zkb ag.out (.cells #[.string v0,.int .u8 v1,.int .i64 v2] 57));obtain⟨wm,yz⟩:=zX (wr.alloc (.cells #[.string v0,.int .u8 v1,.int .i64 v2] 57));rw[yz]at hk1 rH;obtain⟨y0,y1,y2⟩:=zky hk1;clear hv hfl hk1;by_cases c1:v1<1
   ·go_wp2_with fail;go_ret;exact⟨by rw[<-HRR.out,mQ.out (by omega),Bool.and_false];rfl,rH.out⟩
   by_cases c2:3<v1
   ·go_wp2_with fail;go_ret;exact⟨by rw[<-HRR.out,mQ.out (by omega),Bool.and_false];rfl,rH.out⟩
   by_cases c3:v1=2
   ·subst c3;by_cases c4:v2<1
    ·go_wp2_with fail;go_ret;exact⟨by rw[<-HRR.out,mQ.out (by omega),Bool.and_false];rfl,rH.out⟩
    by_cases c5:16<v2
    ·go_wp2_with fail;go_ret;exact⟨by rw[<-HRR.out,mQ.out (by omega),Bool.and_false];rfl,rH.out⟩
    go_wp2_with fail
    go_roundw
    case rel =>
     refine⟨j+1,by omega,by go_num,rH,zh fun i hi hij=>?_⟩;by_cases e:i<j
     ·exact HE.out i hi e
     ·obtain rfl:i=j:=by omega
      exact BD.out (by omega)
    case measure=>simp[intOf];omega
   ·have c3b:(v1==2)=false:=by simpa using c3
    have c3c:(v1 != 2)=true:=by simpa using c3
    by_cases c4:v2=0;rotate_left 1
    ·have c4b:(v2 != 0)=true:=by simpa using c4
     go_wp2_with fail;go_ret;exact⟨by rw[<-HRR.out,mQ.out (by omega),Bool.and_false];rfl,rH.out⟩
    ·have c4b:(v2 != 0)=false:=by simpa using c4
     have rG:=zh c4;clear c4;go_wp2_with fail
     go_roundw
     case rel =>
      refine⟨j+1,by omega,by go_num,rH,zh fun i hi hij=>?_⟩;by_cases e:i<j
      ·exact HE.out i hi e
      ·obtain rfl:i=j:=by omega
       exact BD.out (by have:=rG.out;omega)
     case measure=>simp[intOf];omega
  ·obtain rfl:j=n:=by omega
   have hj1:¬ (j:Int)<(j:Int):=by omega
   by_cases g1:0<=V;rotate_left 1
   ·go_wp2_with fail;go_ret;exact⟨by rw[<-HRR.out,show b.ok=false from jG.out (by omega)];rfl,ag.out⟩
   by_cases g2:V<=1000;rotate_left 1
   ·go_wp2_with fail;go_ret;exact⟨by rw[<-HRR.out,show b.ok=false from jG.out (by omega)];rfl,ag.out⟩
   by_cases g3:0<=L;rotate_left 1
   ·go_wp2_with fail;go_ret;exact⟨by rw[<-HRR.out,show b.ok=false from jG.out (by omega)];rfl,ag.out⟩
   by_cases g4:L<=1000;rotate_left 1
   ·go_wp2_with fail;go_ret;exact⟨by rw[<-HRR.out,show b.ok=false from jG.out (by omega)];rfl,ag.out⟩
   by_cases g5:0<=I;rotate_left 1
   ·go_wp2_with fail;go_ret;exact⟨by rw[<-HRR.out,show b.ok=false from jG.out (by omega)];rfl,ag.out⟩
   by_cases g6:I<=1000;rotate_left 1
   ·go_wp2_with fail;go_ret;exact⟨by rw[<-HRR.out,show b.ok=false from jG.out (by omega)];rfl,ag.out⟩
   go_wp2_with fail;go_ret;exact⟨by rw[<-HRR.out,show b.ok=true from HKT.out (by omega),mU.out _ HN.out (by omega) fun i hi=>HE.out i hi (by have:=HN.out;omega)];rfl,ag.out⟩
def GdL(l:List Int):Prop:=l.length<=1000/\∀e∈l,-1000<=e/\e<=1000
def GdS(k:Nat)(s:SS):Prop:=s.cells.length<=k/\(∀l∈s.cells,GdL l)/\GdL s.tin/\s.tout=[]
theorem zwi{v x:Int}(h:x∈rngZ v) : -v<=x/\x<=v:=by
 unfold rngZ at h;obtain⟨i,hi,rfl⟩:=List.mem_map.1 h;rw[List.mem_range]at hi;omega
theorem zrK{v x:Int}:∀ {n:Nat} {l:List Int},l∈tupE v n->x∈l -> -v<=x/\x<=v
 | 0,l,h,hx=>by
  rw[tupE,List.mem_singleton]at h;subst h;simp at hx
 | n+1,l,h,hx=>by
  rw[tupE]at h;obtain⟨t,ht,h⟩:=List.mem_flatMap.1 h;obtain⟨y,hy,rfl⟩:=List.mem_map.1 h;rcases List.mem_append.1 hx with hx|hx
  ·exact zrK ht hx
  ·rw[List.mem_singleton]at hx;subst hx;exact zwi hy
theorem zpX{v:Int}{a m:Nat}(hv:0<=v/\v<=1000)(hm:m<=1000){l:List Int}(h:l∈betE v a m):GdL l:=by
 unfold betE at h;obtain⟨i,hi,h⟩:=List.mem_flatMap.1 h;rw[List.mem_range]at hi;exact⟨by rw[zoe h];omega,fun e he=>by have:=zrK h he;omega⟩
theorem zyM{b:BX}{v:VD}(hb:b.ok=true)(hv:vdB v=true){l:List Int}(h:l∈lstE b v):GdL l:=by
 have hk:=zlE hb;unfold lstE at h
 split at h
 ·exact zpX hk.1 (by omega) h
 ·split at h
  ·have:=ztA hv;exact zpX hk.1 (by omega) h
  ·exact zpX hk.1 (by omega) h
def nwS(n j:Nat)(s:SS)(x:List Int):SS:=if j=n then⟨s.cells,x,[]⟩else⟨s.cells++[x],[],[]⟩
def lsJ(vs:List VD)(b:BX)(j:Nat):List (List Int):=if h:j<vs.length then lstE b vs[j]else betE b.v 0 b.i.toNat
def stJ(vs:List VD)(b:BX)(j:Nat):List SS:=if j<=vs.length then stgF b (vs.take j)else allU vs b
theorem zrT{vs:List VD}{b:BX}{j:Nat}(h:j<=vs.length):stJ vs b (j+1)=(stJ vs b j).flatMap fun s=>(lsJ vs b j).map (nwS vs.length j s):=by
 unfold stJ lsJ;rw[if_pos h];by_cases hj:j<vs.length
 ·rw[if_pos (by omega),dif_pos hj,zqh hj];unfold stg nwS;simp only[show ¬ j=vs.length by omega,if_false]
 ·obtain rfl:j=vs.length:=by omega
  rw[if_neg (by omega),dif_neg hj,List.take_length];unfold allU nwS;simp only[if_true]
theorem zwa(vs:List VD)(b:BX):stJ vs b (vs.length+1)=allU vs b:=by
 unfold stJ;rw[if_neg (by omega)]
theorem zyt{vs:List VD}{b:BX}(h:RefB vs b)(j:Nat):(stJ vs b j).length<=60:=by
 unfold stJ
 split
 ·exact(h.st j ‹_›).2
 ·exact h.all.2
theorem zyN{vs:List VD}{b:BX}(h:RefB vs b)(j:Nat):(lsJ vs b j).length<=60:=by
 unfold lsJ
 split
 ·exact(h.one j ‹_›).2
 ·exact h.inp.2
theorem zxT{vs:List VD}{b:BX}(hb:b.ok=true)(hv:svB vs=true){j:Nat}{l:List Int}(h:l∈lsJ vs b j):GdL l:=by
 unfold lsJ at h
 split at h
 ·exact zyM hb ((zsI hv).2 _ (List.getElem_mem _)) h
 ·have hk:=zlE hb;exact zpX hk.1 (by omega) h
theorem zxP{n j k:Nat}{s:SS}{x:List Int}(hs:GdS k s)(hx:GdL x):GdS (k+1) (nwS n j s x):=by
 unfold nwS
 split
 ·exact⟨Nat.le_succ_of_le hs.1,hs.2.1,hx,rfl⟩
 ·refine⟨by simp;exact hs.1,fun l hl=>?_,⟨by simp,fun e he=>by simp at he⟩,rfl⟩;rcases List.mem_append.1 hl with hl|hl
  ·exact hs.2.1 l hl
  ·rw[List.mem_singleton]at hl;subst hl;exact hx
theorem zxO{vs:List VD}{b:BX}(hb:b.ok=true)(hv:svB vs=true):∀ {j:Nat},j<=vs.length+1->∀s∈stJ vs b j,GdS j s
 | 0,_,s,h=>by
  unfold stJ at h;rw[if_pos (Nat.zero_le _)]at h;simp[stgF]at h;subst h;exact⟨by simp[nilS],by simp[nilS],⟨by simp[nilS],by simp[nilS]⟩,rfl⟩
 | j+1,hj,s,h=>by
  rw[zrT (by omega)]at h;obtain⟨t,ht,h⟩:=List.mem_flatMap.1 h;obtain⟨x,hx,rfl⟩:=List.mem_map.1 h;exact zxP (zxO hb hv (by omega) t ht) (zxT hb hv hx)
theorem GdS.sm{k:Nat}{s:SS}(h:GdS k s)(hk:k<=98):SmC s :=
 ⟨by have:=h.1;omega,fun l hl=>by
  simp only[lisS,List.mem_append,List.mem_cons,List.not_mem_nil,or_false]at hl;have hg:GdL l:=by
   rcases hl with hl|rfl|rfl
   ·exact h.2.1 l hl
   ·exact h.2.2.1
   ·rw[h.2.2.2];exact⟨by simp,fun e he=>by simp at he⟩
  exact⟨hg.1,fun e he=>by have:=hg.2 e he;omega⟩⟩
theorem GdS.lim{k:Nat}{s:SS}(h:GdS k s)(hk:k<=98):s.Lim :=
 ⟨by have:=h.1;unfold LI;omega,fun l hl=>by have:=(h.2.1 l hl).1;unfold LI;omega,by have:=h.2.2.1.1;unfold LI;omega,by rw[h.2.2.2];unfold LI;simp⟩
theorem zlw.vals{w:World}{S:Nat->Prop}{A:Option Addr}{ls:List (List Int)}(h:zlw w S A ls):∃us:List Value,us.length=ls.length/\(A=none->ls.length=0)/\(∀ad,A=some ad->∀j u,us[j]?=some u->w.cell? (ad.add j)=some u)/\(∀u∈us,u.oneCell'=true) /\
  ∀k (hk:k<ls.length) (hv:k<us.length),∃A c,us[k]=.slice A ls[k].length c/\ls[k].length<=c/\RowI w S A ls[k]:=by
 have h0:∀i:Nat,∃u:Value,i<ls.length->∃(hi:i<ls.length) (a:Addr) (A':Option Addr) (c':Nat),A=some a/\u=.slice A' ls[i].length c'/\w.cell? (a.add i)=some u/\ls[i].length<=c'/\RowI w S A' ls[i]:=fun i=>by
  by_cases hi:i<ls.length
  ·obtain⟨a,A',c',h1,h2,h3,h4,h5⟩:=h i hi;exact⟨_,fun _=>⟨hi,a,A',c',h1,rfl,h3,h4,h5⟩⟩
  ·exact⟨undef,fun h=>absurd h hi⟩
 obtain⟨f,hf⟩:=Classical.skolem.1 h0;refine⟨(List.range ls.length).map f,by simp,fun e=>?_,fun ad e j u hj=>?_,fun u hu=>?_,fun k hk hv=>?_⟩
 ·rcases Nat.eq_zero_or_pos ls.length with h0|h0
  ·exact h0
  ·obtain⟨a,A',c',h1,-⟩:=h 0 h0;rw[e]at h1
   cases h1
 ·have hj2:j<ls.length:=by
   obtain⟨h1,-⟩:=List.getElem?_eq_some_iff.1 hj;simpa using h1
  obtain⟨_,a,A',c',h1,h2,h3,-⟩:=hf j hj2;simp[hj2]at hj;rw[e]at h1;injection h1 with h1;subst h1 hj;exact h3
 ·obtain⟨i,hi,rfl⟩:=List.mem_map.1 hu;rw[List.mem_range]at hi;obtain⟨_,a,A',c',h1,h2,-⟩:=hf i hi;rw[h2];rfl
 ·obtain⟨_,a,A',c',h1,h2,h3,h4,h5⟩:=hf k hk;refine⟨A',c',?_,h4,h5⟩;simp only[List.getElem_map,List.getElem_range];exact h2
theorem zli.manyA{W0 wr we:World}{n0 e co:Nat}{Ao:Option Addr}{acc ys:List SS}{us:List (Value×Value×Value)}(h:zli wr n0 Any (.slice Ao e co) acc)(he:acc.length=e)(hb:Below n0 W0 wr)(hn:n0<=W0.heap.size)
  (kH:us.length=ys.length)(hw:Below wr.heap.size wr we)(hy:∀k (hk:k<ys.length) (hv:k<us.length),SV we (fun q=>q<n0\/wr.heap.size<=q) ys[k] (.agg #[us[k].1,us[k].2.1,us[k].2.2])){m:Nat}(hm:ys.length=m) :
  ∃xs,we.ownsRow n0 32 3 (.slice Ao e co) e xs/\n0<=we.heap.size/\∀v' w',w'.ownsRow n0 32 3 v' (e+m) (xs++zk8 us)->we.grownBy w' (Value.slice Ao e co).ownBlock->(v'.ownBlock=(Value.slice Ao e co).ownBlock\/v'.ownBlock=some we.heap.size) ->
   ∃A' c',v'=.slice A' (e+m) c'/\e+m<=c'/\Hid (Below n0 W0 w')/\Hid (zli w' n0 Any (.slice A' (e+m) c') (acc++ys)):=by
 subst he hm;obtain⟨vs,h1,hl,h2⟩:=h;refine⟨zk8 vs,zkp h1 hw,Nat.le_trans (Nat.le_trans hn hb.size) hw.size,fun v' w' g1 g2 g3=>?_⟩;obtain⟨A',c',rfl,hc,-⟩:=zkd g1;have hs:=hb.size;have hbe:Below n0 W0 we:=hb.trans (hw.mono (by omega));refine⟨A',c',rfl,hc,zh (hbe.grown g2 (Nat.le_trans hn hbe.size) fun k hk=>(h1.lt k hk).1),zh ?_⟩;exact zli.app (W:=we) (S:=Any) (S':=Any) hl kH (fun k hk hv=>(h2 k hk hv).later hw) (fun q h _=>h)
  (fun k hk hv=>(hy k hk hv).keep (fun q h _=>⟨trivial,fun e=>by have:=h1.lt q e;omega⟩) fun _ _ _=>rfl) g1 g2 g3
theorem zm7{ops:Array Oper}{o:Oper}{a:Act}{W:World}{K:Act->World->Prop}{Q:Exit->Act->World->Prop}{F:Prop}{tS E:TypeId}{z:Value}{sz fJ:Nat}(hgd:o.guard=none)(s x:Operand)
  (ho:o.op=.call { callee:=.builtin .append,args := #[s,x],argTypes := #[tS,tS] })(hu:prog.underlying tS=some (.slice E))(hin:(prog.info? E).map (fun i=>(i.zero,i.size,i.bytes))=some (some z,sz,fJ))(hzc:z.cells.size=sz)(hsz:0<sz)(hby:fJ<=100)
  (base:Nat)(v:Value)(n:Nat)(xs:List Value)(hs:a.eval s=v)(hrow:W.ownsRow base E sz v n xs)
  (ad:Addr)(m c:Nat)(news:List Value)(hx:a.eval x=.slice (some ad) m c)(hl:news.length=m*sz)(hc:∀j u,news[j]?=some u->W.cell? (ad.add j)=some u)(h1c:∀u∈news,u.oneCell'=true)(hm:n+m<=1000000)(hb:base<=W.heap.size)
  (h:∀v' w',w'.ownsRow base E sz v' (n+m) (xs++news)->W.grownBy w' v.ownBlock->(v'.ownBlock=v.ownBlock\/v'.ownBlock=some W.heap.size)->K (a.put o.dst v') w') :
  if Region.wanted o (yielded ops a.tmps)=true then Oper.wp prog o a W K Q else F:=by
 obtain⟨i,hi,hz0,hz1,hz2⟩:=info_parts hin;have h9:(n+m)*fJ<=1000000*100:=Nat.mul_le_mul hm hby;exact zkT hgd s x tS ho base E i z sz fJ hu hi hz0 hz1 hz2 hzc hsz v n xs hs hrow ad m c news hx hl hc h1c (by unfold maxLen;omega) (by omega) hb h
theorem zkq.copy{wr w2:World}{B2:Nat}{v':Value}{ls:List (List Int)}{us:List Value}(hl:us.length=ls.length)(hB:B2<=wr.heap.size)
  (hs:∀k (hk:k<ls.length) (hv:k<us.length),∃A c,us[k]=.slice A ls[k].length c/\ls[k].length<=c/\RowI wr (fun q=>q<B2) A ls[k])
  (ho:w2.ownsRow wr.heap.size 30 1 v' (0+ls.length) ([]++us))(hg:(wr.alloc (.cells #[] 30)).grownBy w2 (some wr.heap.size))(ak:v'.ownBlock=some wr.heap.size\/v'.ownBlock=some (wr.alloc (.cells #[] 30)).heap.size) :
  Below wr.heap.size wr w2/\zkq w2 wr.heap.size (fun q=>q<B2) v' ls:=by
 have aY:=zkb (zs wr) (.cells #[] 30);refine⟨aY.grown hg aY.size fun k hk=>by injection hk with hk;omega,?_⟩;have:=zkq.app (W:=wr.alloc (.cells #[] 30)) (W5:=w2) (n0:=wr.heap.size) (S:=fun q=>q<B2) (S':=fun q=>q<B2) (v:=.slice (some ⟨wr.heap.size,0,none⟩) 0 0) (v':=v') (ls:=[]) (ys:=ls) (vs:=[]) (us:=us) rfl hl
  (fun k hk=>by simp at hk) (fun _ h _=>h) (fun k hk hv=>by
   obtain⟨A,c,e1,e2,e3⟩:=hs k hk hv;exact⟨A,c,e1,e2,(e3.later aY).keep (fun q h _=>⟨h,fun e=>by injection e with e;have e:wr.heap.size=q:=e;omega⟩) fun _ _ _=>rfl⟩) ho hg ak
 simpa using this
theorem zkq.copy2{wr:World}{B2 l5:Nat}{ls:List (List Int)}{us:List Value}(hl:us.length=ls.length)(hl5:ls.length=l5)(hB:B2<=wr.heap.size)
  (hs:∀k (hk:k<ls.length) (hv:k<us.length),∃A c,us[k]=.slice A ls[k].length c/\ls[k].length<=c/\RowI wr (fun q=>q<B2) A ls[k])(v':Value)(w2:World)
  (ho:w2.ownsRow wr.heap.size 30 1 v' (0+l5) ([]++us))(hg:(wr.alloc (.cells #[] 30)).grownBy w2 (Value.slice (some ⟨wr.heap.size,0,none⟩) 0 0).ownBlock)(ak:v'.ownBlock=(Value.slice (some ⟨wr.heap.size,0,none⟩) 0 0).ownBlock\/v'.ownBlock=some (wr.alloc (.cells #[] 30)).heap.size) :
  ∃A' c',v'=.slice A' l5 c'/\Hid (Below wr.heap.size wr w2)/\Hid (zkq w2 wr.heap.size (fun q=>q<B2) (.slice A' l5 c') ls):=by
 obtain⟨A',c',rfl,-⟩:=zkd ho;subst hl5;obtain⟨h1,h2⟩:=zkq.copy hl hB hs ho hg ak;rw[Nat.zero_add]at h2;exact⟨A',c',by rw[Nat.zero_add],zh h1,zh h2⟩
theorem zkq.more{W:World}{n0 B2 l c Nb lx cx:Nat}{A Ax:Option Addr}{ls:List (List Int)}{x:List Int}(h:zkq W n0 (fun q=>q<B2) (.slice A l c) ls)(hl:ls.length=l)(hB:B2<=n0)(hx:RowI W (fun q=>q<B2) Ax x)(hlx:x.length=lx)(hcx:lx<=cx)(hN:Nb<W.heap.size)(hne:(Value.slice A l c).ownBlock≠some Nb)(hn0:n0<=W.heap.size) :
  ∃vs,W.ownsRow n0 30 1 (.slice A l c) l vs/\∀v' w',w'.ownsRow n0 30 1 v' (l+1) (vs++[.slice Ax lx cx])->W.grownBy w' (Value.slice A l c).ownBlock->(v'.ownBlock=(Value.slice A l c).ownBlock\/v'.ownBlock=some W.heap.size) ->
   ∃A' c',v'=.slice A' (l+1) c'/\Hid (Below n0 W w')/\Hid (zkq w' n0 (fun q=>q<B2) (.slice A' (l+1) c') (ls++[x]))/\Hid (w'.heap[Nb]?=W.heap[Nb]?)/\Hid ((Value.slice A' (l+1) c').ownBlock≠some Nb):=by
 subst hl hlx;obtain⟨vs,h1,h2,h3⟩:=h;refine⟨vs,h1,fun v' w' g1 g2 g3=>?_⟩;obtain⟨A',c',rfl,-⟩:=zkd g1;refine⟨A',c',rfl,zh ((Below.refl n0 W).grown g2 hn0 fun k hk=>(h1.lt k hk).1),zh ?_,zh (g2.block Nb hN fun e=>hne e.symm),zh fun e=>?_⟩
 ·exact zkq.app (W:=W) (W5:=w') (S:=fun q=>q<B2) (S':=fun q=>q<B2) (ys:=[x]) (us:=[.slice Ax x.length cx]) h2 rfl h3 (fun _ h _=>h) (fun k hk hv=>by
   obtain rfl:k=0:=by simpa using hk
   exact⟨Ax,cx,rfl,hcx,hx.keep (fun q h _=>⟨h,fun e=>by have:=(h1.lt q e).1;omega⟩) fun _ _ _=>rfl⟩) g1 g2 g3
 ·rcases g3 with g3|g3
  ·exact hne (g3▸e)
  ·rw[g3]at e;injection e with e;omega
theorem zz0{w':World}{n0 B2 n j l5 c9 lx cx:Nat}{A9 Ax:Option Addr}{s:SS}{x:List Int}(hj:j=n)(h:zkq w' n0 (fun q=>q<B2) (.slice A9 l5 c9) s.cells)(hl:s.cells.length=l5)(hx:RowI w' (fun q=>q<B2) Ax x)(hlx:x.length=lx)(hcx:lx<=cx)(hlim:(nwS n j s x).Lim) :
  SV w' (fun q=>q<B2\/n0<=q) (nwS n j s x) (.agg #[.slice A9 l5 c9,.slice Ax lx cx,.slice none 0 0]):=by
 subst hl hlx;have e:nwS n j s x=⟨s.cells,x,[]⟩:=by unfold nwS;rw[if_pos hj]
 rw[e]at hlim ⊢;obtain⟨A,c,e1,hc,h2⟩:=(h.keep (S':=fun q=>q<B2\/n0<=q) (fun q h _=>.inl h) fun _ _ _=>rfl).ii fun q h _=>.inr h;injection e1 with e1 e2 e3;subst e1 e3;exact⟨A9,c9,Ax,cx,none,0,rfl,h2,hx.keep (fun q h _=>.inl h) fun _ _ _=>rfl,fun i hi=>by simp at hi,hc,hcx,Nat.zero_le _,hlim⟩
theorem zzZ{w':World}{n0 B2 n j l5 c9:Nat}{A9:Option Addr}{s:SS}{x:List Int}(hj:¬ j=n)(h:zkq w' n0 (fun q=>q<B2) (.slice A9 (l5+1) c9) (s.cells++[x]))(hl:s.cells.length=l5)(hlim:(nwS n j s x).Lim) :
  SV w' (fun q=>q<B2\/n0<=q) (nwS n j s x) (.agg #[.slice A9 (l5+1) c9,.slice none 0 0,.slice none 0 0]):=by
 subst hl;have e:nwS n j s x=⟨s.cells++[x],[],[]⟩:=by unfold nwS;rw[if_neg hj]
 rw[e]at hlim ⊢;obtain⟨A,c,e1,hc,h2⟩:=(h.keep (S':=fun q=>q<B2\/n0<=q) (fun q h _=>.inl h) fun _ _ _=>rfl).ii fun q h _=>.inr h;have hll:(s.cells++[x]).length=s.cells.length+1:=by simp
 rw[hll]at e1 hc;injection e1 with e1 e2 e3;subst e1 e3;exact⟨A9,c9,none,0,none,0,by simp,h2,fun i hi=>by simp at hi,fun i hi=>by simp at hi,by simpa using hc,Nat.zero_le _,Nat.zero_le _,hlim⟩
end
end Go.Proofs.YtembgnhbpmfhpaaGreat
