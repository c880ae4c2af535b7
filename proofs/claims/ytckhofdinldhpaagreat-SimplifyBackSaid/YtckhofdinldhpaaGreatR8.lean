/-
  Texts of the proof, put together without their remarks: Iz, ScA, ClW, ScC, Clone, Wk, ScR.
-/
import Derived.Test.YtckhofdinldhpaaGreatR7
import Derived.ArgAppend
set_option linter.unusedSimpArgs false
set_option linter.unusedVariables false
set_option maxHeartbeats 8000000
set_option maxRecDepth 100000
namespace Go.Proofs.YtckhofdinldhpaaGreat
open Go Go.RowKit
theorem zsn {G:List PR->T->Prop} {g:Nat} (hS:IStC G g) {C:RC} (hC:C.Ok) {W:World} {r:RS} (h:RI C W r) (t:T) (v:Value) (back:Bool) (hv:NV C.w Any t v) (hk0:t.k=50) (i:Nat) (hi:prcI C.p.prs t.s=some i) (q:PR) (hq:C.p.prs[i]?=some q) (hG1:∀ u∈q.b.ks,G C.p.prs u)
  (o:Out) (ho:caO C.p.prs C.F g back i q (t.ks.map (·.s)) r=o) (hog:o ≠ .gas) :
  Calls Tryz.prog 157 #[.pointer (some ⟨C.rb,0,none⟩),v,.bool back] W (RunP C W o):=by
 have aA:=hog
 cases back
 ·skip
  obtain⟨k,n,s,ks⟩:=t;obtain rfl:k=50:=hk0;obtain⟨A,c,rfl,-,hlk,hlc,-⟩:=hv.open_;have hb0:=zkb (Below.refl W.heap.size W) (.cells #[.int .u8 50,.int .i64 n,.string s,.slice A ks.length c] 29);obtain⟨x0,x1,x2,x3⟩:=box4 (heap_alloc_new W (.cells #[.int .u8 50,.int .i64 n,.string s,.slice A ks.length c] 29));have aM:=zh (Kpt.of_below (n0:=C.n0) (kb:=C.kb) hb0);have aI:=zh (show Calls Tryz.prog 198 #[.pointer (some ⟨C.rb,0,none⟩),.agg #[.int .u8 50,.int .i64 n,.string s,.slice A ks.length c],.bool false] (W.alloc (.cells #[.int .u8 50,.int .i64 n,.string s,.slice A ks.length c] 29)) (RunP C _ o) from ho▸(zo5 hS hC (h.later hb0) _ _ false hv i hi q hq hG1 (ho▸hog)));clear hv hb0 h aA hG1 ho hi hq;go_enter Tryz.func157,Tryz.ntmps157;go_wp2_with fail;refine aI.out.mono ?_;rintro e w1 ⟨hk1,hb1,ho1⟩
  cases o with
  | gas=>exact absurd rfl hog
  | err x =>
   subst ho1;exact⟨rfl,aM.out.trans hk1,hb1,rfl⟩
  | ok r1 =>
   obtain⟨⟨u,rfl⟩,hr1⟩:=ho1;have HR:=zh hr1;have aD:=zh (aM.out.trans hk1);have HB1:=zh hb1;clear x0 x1 x2 x3 hr1 hk1 hb1;go_wp2_with fail;go_end0;exact⟨aD.out,HB1.out,⟨_,rfl⟩,HR.out⟩
 ·skip
  obtain⟨k,n,s,ks⟩:=t;obtain rfl:k=50:=hk0;obtain⟨A,c,rfl,-,hlk,hlc,-⟩:=hv.open_;have hb0:=zkb (Below.refl W.heap.size W) (.cells #[.int .u8 50,.int .i64 n,.string s,.slice A ks.length c] 29);obtain⟨x0,x1,x2,x3⟩:=box4 (heap_alloc_new W (.cells #[.int .u8 50,.int .i64 n,.string s,.slice A ks.length c] 29));have aM:=zh (Kpt.of_below (n0:=C.n0) (kb:=C.kb) hb0);have aI:=zh (show Calls Tryz.prog 198 #[.pointer (some ⟨C.rb,0,none⟩),.agg #[.int .u8 50,.int .i64 n,.string s,.slice A ks.length c],.bool true] (W.alloc (.cells #[.int .u8 50,.int .i64 n,.string s,.slice A ks.length c] 29)) (RunP C _ o) from ho▸(zo5 hS hC (h.later hb0) _ _ true hv i hi q hq hG1 (ho▸hog)));clear hv hb0 h aA hG1 ho hi hq;go_enter Tryz.func157,Tryz.ntmps157;go_wp2_with fail;refine aI.out.mono ?_;rintro e w1 ⟨hk1,hb1,ho1⟩
  cases o with
  | gas=>exact absurd rfl hog
  | err x =>
   subst ho1;exact⟨rfl,aM.out.trans hk1,hb1,rfl⟩
  | ok r1 =>
   obtain⟨⟨u,rfl⟩,hr1⟩:=ho1;have HR:=zh hr1;have aD:=zh (aM.out.trans hk1);have HB1:=zh hb1;clear x0 x1 x2 x3 hr1 hk1 hb1;go_wp2_with fail;go_end0;exact⟨aD.out,HB1.out,⟨_,rfl⟩,HR.out⟩
theorem zsm {G:List PR->T->Prop} {g:Nat} (hS:IStC G g) {C:RC} (hC:C.Ok) {W:World} {r:RS} (h:RI C W r) (t:T) (v:Value) (back:Bool) (hv:NV C.w Any t v) (hk0:t.k=51) (i:Nat) (hi:prcI C.p.prs t.s=some i) (q:PR) (hq:C.p.prs[i]?=some q) (hG1:∀ u∈q.b.ks,G C.p.prs u)
  (o:Out) (ho:caO C.p.prs C.F g (!back) i q (t.ks.map (·.s)) r=o) (hog:o ≠ .gas) :
  Calls Tryz.prog 157 #[.pointer (some ⟨C.rb,0,none⟩),v,.bool back] W (RunP C W o):=by
 have aA:=hog
 cases back
 ·skip
  change caO C.p.prs C.F g true i q (t.ks.map (·.s)) r=o at ho;obtain⟨k,n,s,ks⟩:=t;obtain rfl:k=51:=hk0;obtain⟨A,c,rfl,-,hlk,hlc,-⟩:=hv.open_;have hb0:=zkb (Below.refl W.heap.size W) (.cells #[.int .u8 51,.int .i64 n,.string s,.slice A ks.length c] 29);obtain⟨x0,x1,x2,x3⟩:=box4 (heap_alloc_new W (.cells #[.int .u8 51,.int .i64 n,.string s,.slice A ks.length c] 29));have aM:=zh (Kpt.of_below (n0:=C.n0) (kb:=C.kb) hb0);have aI:=zh (show Calls Tryz.prog 198 #[.pointer (some ⟨C.rb,0,none⟩),.agg #[.int .u8 51,.int .i64 n,.string s,.slice A ks.length c],.bool true] (W.alloc (.cells #[.int .u8 51,.int .i64 n,.string s,.slice A ks.length c] 29)) (RunP C _ o) from ho▸(zo5 hS hC (h.later hb0) _ _ true hv i hi q hq hG1 (ho▸hog)));clear hv hb0 h aA hG1 ho hi hq;go_enter Tryz.func157,Tryz.ntmps157;go_wp2_with fail;refine aI.out.mono ?_;rintro e w1 ⟨hk1,hb1,ho1⟩
  cases o with
  | gas=>exact absurd rfl hog
  | err x =>
   subst ho1;exact⟨rfl,aM.out.trans hk1,hb1,rfl⟩
  | ok r1 =>
   obtain⟨⟨u,rfl⟩,hr1⟩:=ho1;have HR:=zh hr1;have aD:=zh (aM.out.trans hk1);have HB1:=zh hb1;clear x0 x1 x2 x3 hr1 hk1 hb1;go_wp2_with fail;go_end0;exact⟨aD.out,HB1.out,⟨_,rfl⟩,HR.out⟩
 ·skip
  change caO C.p.prs C.F g false i q (t.ks.map (·.s)) r=o at ho;obtain⟨k,n,s,ks⟩:=t;obtain rfl:k=51:=hk0;obtain⟨A,c,rfl,-,hlk,hlc,-⟩:=hv.open_;have hb0:=zkb (Below.refl W.heap.size W) (.cells #[.int .u8 51,.int .i64 n,.string s,.slice A ks.length c] 29);obtain⟨x0,x1,x2,x3⟩:=box4 (heap_alloc_new W (.cells #[.int .u8 51,.int .i64 n,.string s,.slice A ks.length c] 29));have aM:=zh (Kpt.of_below (n0:=C.n0) (kb:=C.kb) hb0);have aI:=zh (show Calls Tryz.prog 198 #[.pointer (some ⟨C.rb,0,none⟩),.agg #[.int .u8 51,.int .i64 n,.string s,.slice A ks.length c],.bool false] (W.alloc (.cells #[.int .u8 51,.int .i64 n,.string s,.slice A ks.length c] 29)) (RunP C _ o) from ho▸(zo5 hS hC (h.later hb0) _ _ false hv i hi q hq hG1 (ho▸hog)));clear hv hb0 h aA hG1 ho hi hq;go_enter Tryz.func157,Tryz.ntmps157;go_wp2_with fail;refine aI.out.mono ?_;rintro e w1 ⟨hk1,hb1,ho1⟩
  cases o with
  | gas=>exact absurd rfl hog
  | err x =>
   subst ho1;exact⟨rfl,aM.out.trans hk1,hb1,rfl⟩
  | ok r1 =>
   obtain⟨⟨u,rfl⟩,hr1⟩:=ho1;have HR:=zh hr1;have aD:=zh (aM.out.trans hk1);have HB1:=zh hb1;clear x0 x1 x2 x3 hr1 hk1 hb1;go_wp2_with fail;go_end0;exact⟨aD.out,HB1.out,⟨_,rfl⟩,HR.out⟩
structure GC (G:List PR->T->Prop):Prop where
 two:∀ prs t,G prs t->(t.k=52\/t.k=53)->t.ks.length=4/\(∀ u∈(kid t 1).ks,G prs u)/\∀ u∈(kid t 2).ks,G prs u
 loc:∀ prs t,G prs t->t.k=54->t.ks.length=3/\∀ u∈(kid t 1).ks,G prs u
 stk:∀ prs t,G prs t->t.k=55->t.ks.length=1/\∀ u∈(kid t 0).ks,G prs u
 cal:∀ prs t,G prs t->(t.k=50\/t.k=51)->∃ i q,prcI prs t.s=some i/\prs[i]?=some q/\∀ u∈q.b.ks,G prs u
theorem getD_some {prs:List PR} {i:Nat} {q:PR} (h:prs[i]?=some q):prs.getD i ⟨⟨#[]⟩,[],nil0⟩=q:=by
 rw[List.getD_eq_getElem?_getD,h];rfl
theorem zth {G:List PR->T->Prop} (hG:GC G):∀ g,IStC G g
 | 0=>fun C hC W r h t v back hv nW hg=>absurd rfl hg
 | g+1=>fun C hC W r h t v back hv nW hg=>by
  have hS:=zth hG g;by_cases dL:t.k=52
  ·obtain⟨h1,h2,h3⟩:=hG.two _ _ nW (.inl dL);have e:zkk C.p.prs C.F (g+1) back t r=brO C.p.prs C.F g back t r:=by rw[zkk,if_pos dL];rfl
   rw[e] at hg ⊢;exact zzA hS hC h t v back hv dL h1 h2 h3 _ rfl hg
  by_cases eD:t.k=53
  ·obtain⟨h1,h2,h3⟩:=hG.two _ _ nW (.inr eD);have e:zkk C.p.prs C.F (g+1) back t r=lpO C.p.prs C.F g back t r:=by rw[zkk,if_neg dL,if_pos eD];rfl
   rw[e] at hg ⊢;exact zu2 hS hC h t v back hv eD h1 h2 h3 _ rfl hg
  by_cases bu:t.k=54
  ·obtain⟨h1,h2⟩:=hG.loc _ _ nW bu;have e:zkk C.p.prs C.F (g+1) back t r=loO C.p.prs C.F g back t r:=by rw[zkk,if_neg dL,if_neg eD,if_pos bu];rfl
   rw[e] at hg ⊢;exact zuf hS hC h t v back hv bu h1 h2 _ rfl hg
  by_cases cK:t.k=55
  ·obtain⟨h1,h2⟩:=hG.stk _ _ nW cK;have e:zkk C.p.prs C.F (g+1) back t r=lsO C.p.prs C.F g back t r:=by rw[zkk,if_neg dL,if_neg eD,if_neg bu,if_pos cK];rfl
   rw[e] at hg ⊢;exact zzz hS hC h t v back hv cK h1 h2 hg
  by_cases h5:t.k=50\/t.k=51
  ·obtain⟨i,q,hi,hq,hb⟩:=hG.cal _ _ nW h5;have e:zkk C.p.prs C.F (g+1) back t r=caO C.p.prs C.F g (back != decide (t.k=51)) i q (t.ks.map (·.s)) r:=by
    rw[zkk,if_neg dL,if_neg eD,if_neg bu,if_neg cK,if_pos h5,hi];dsimp only;rw[getD_some hq];rfl
   rw[e] at hg ⊢;rcases h5 with h50|iH
   ·have e2:(back != decide (t.k=51))=back:=by rw[show decide (t.k=51)=false by simp[h50]];cases back<;>rfl
    rw[e2] at hg ⊢;exact zsn hS hC h t v back hv h50 i hi q hq hb _ rfl hg
   ·have e2:(back != decide (t.k=51)) = !back:=by rw[show decide (t.k=51)=true by simp[iH]];cases back<;>rfl
    rw[e2] at hg ⊢;exact zsm hS hC h t v back hv iH i hi q hq hb _ rfl hg
  ·have e:zkk C.p.prs C.F (g+1) back t r=basO C.F back t r:=by
    rw[zkk,if_neg dL,if_neg eD,if_neg bu,if_neg cK,if_neg h5];rfl
   rw[e];exact zxr hC h t v back hv ⟨dL,eD,bu,cK,fun h=>h5 (.inl h),fun h=>h5 (.inr h)⟩
theorem zwA {G:List PR->T->Prop} (hG:GC G) (g:Nat) {C:RC} (hC:C.Ok) {W:World} {r:RS} (h:RI C W r) (t:T) (v:Value) (back:Bool) (hv:NV C.w Any t v) (nW:∀ u∈t.ks,G C.p.prs u) (aA:runO C.p.prs C.F g back t r ≠ .gas) :
  Calls Tryz.prog 118 #[.pointer (some ⟨C.rb,0,none⟩),v,.bool back] W (RunP C W (runO C.p.prs C.F g back t r)) :=
 zlA (zth hG g) hC h t v back hv nW aA
end Go.Proofs.YtckhofdinldhpaaGreat
namespace Go.Proofs.YtckhofdinldhpaaGreat
open Go.RowKit
def zld (ps:List PR) (k:Int) (s:ByteArray) (l:Nat) (vs:List VD):Int :=
 if k=2 then useE vs s 1 else if k=3 then useE vs s 2 else if k=4\/k=5\/k=44\/k=45 then useE vs s 3 else if k=54\/k=55 then zmR vs s
 else if k=50\/k=51 then (match idxP ps s with
  | none=>6
  | some i=>match ps[i]? with
   | none=>6
   | some r=>if l=r.ps.length then 0 else 7)
 else 0
theorem zwa (p:PG) (t:T) (vs:List VD) (A:Option Addr) (c:Nat) (S S' S'':Nat->Prop) (v1 v2:Value) (w:World) (hv1:PV w S p v1) (hv2:NV w S' t v2) (hrow:RowV w S'' A vs) (hl:vs.length<=LV) :
  Calls Tryz.prog 137 #[v1,v2,.slice A vs.length c] w fun e w'=>e=.returned (.int .i64 (zld p.prs t.k t.s t.ks.length vs))/\Below w.heap.size w w':=by
 have hvv:=hv1;obtain⟨A1,c1,A2,c2,A3,c3,rfl,hr⟩:=hv1;have bX:=zh hr.procs;have hlp:=zlE hr.lp;obtain⟨L1,hL1⟩:∃ L,p.vs.length=L:=⟨_,rfl⟩
 obtain⟨L2,hL2⟩:∃ L,p.prs.length=L:=⟨_,rfl⟩
 obtain⟨k,hk⟩:∃ k,p.m.k=k:=⟨_,rfl⟩
 obtain⟨n,hn⟩:∃ n,p.m.n=n:=⟨_,rfl⟩
 obtain⟨s,hs⟩:∃ s,p.m.s=s:=⟨_,rfl⟩
 obtain⟨l3,hl3⟩:∃ l,p.m.ks.length=l:=⟨_,rfl⟩
 rw[hL1,hL2,hk,hn,hs,hl3];rw[hL1,hL2,hk,hn,hs,hl3] at hvv;rw[hL2] at hlp;have HL2:=zh hL2;have HV:=zh hvv;clear hr hvv hL1 hL2 hk hn hs hl3;obtain⟨B,tc,rfl,_,hlk,_,_⟩:=hv2.open_;have ak:=zkx hlk;have ae:=zh hrow;have HL:=zh hl;clear hrow hl hv2 hlk;generalize t.k=tk,t.n=tn,t.s=ts,t.ks.length=tl at *
 obtain⟨R,hR⟩:∃ R,zld p.prs tk ts tl vs=R:=⟨_,rfl⟩
 rw[hR];have HR:=zh hR;clear hR;have hb0:∀ o o',Below w.heap.size w ((w.alloc o).alloc o'):=fun o o'=>((Below.refl _ _).alloc (Nat.le_refl _) _).alloc (by simp) _;have HB0:=zh hb0;clear hb0;by_cases h2:tk=2
 ·subst h2;have HN:=zh (show R=useE vs ts 1 by rw[<-HR.out];simp[zld]);go_enter Tryz.func137,Tryz.ntmps137;go_wp2_with fail;refine(zoo vs A c ts 1 S'' _ (ae.out.later (HB0.out _ _)) HL.out).mono ?_;rintro e w1 ⟨rfl,aa⟩;rw[<-HN.out];have HB:=zh (zka (HB0.out _ _) aa);clear aa;go_wp2_with fail;go_ret;exact⟨rfl,HB.out⟩
 have f2:(tk==2)=false:=by simpa using h2
 by_cases h3:tk=3
 ·subst h3;have HN:=zh (show R=useE vs ts 2 by rw[<-HR.out];simp[zld]);go_enter Tryz.func137,Tryz.ntmps137;go_wp2_with fail;refine(zoo vs A c ts 2 S'' _ (ae.out.later (HB0.out _ _)) HL.out).mono ?_;rintro e w1 ⟨rfl,aa⟩;rw[<-HN.out];have HB:=zh (zka (HB0.out _ _) aa);clear aa;go_wp2_with fail;go_ret;exact⟨rfl,HB.out⟩
 have f3:(tk==3)=false:=by simpa using h3
 by_cases h4:tk=4
 ·subst h4;have HN:=zh (show R=useE vs ts 3 by rw[<-HR.out];simp[zld]);go_enter Tryz.func137,Tryz.ntmps137;go_wp2_with fail;refine(zoo vs A c ts 3 S'' _ (ae.out.later (HB0.out _ _)) HL.out).mono ?_;rintro e w1 ⟨rfl,aa⟩;rw[<-HN.out];have HB:=zh (zka (HB0.out _ _) aa);clear aa;go_wp2_with fail;go_ret;exact⟨rfl,HB.out⟩
 have f4:(tk==4)=false:=by simpa using h4
 by_cases h5:tk=5
 ·subst h5;have HN:=zh (show R=useE vs ts 3 by rw[<-HR.out];simp[zld]);go_enter Tryz.func137,Tryz.ntmps137;go_wp2_with fail;refine(zoo vs A c ts 3 S'' _ (ae.out.later (HB0.out _ _)) HL.out).mono ?_;rintro e w1 ⟨rfl,aa⟩;rw[<-HN.out];have HB:=zh (zka (HB0.out _ _) aa);clear aa;go_wp2_with fail;go_ret;exact⟨rfl,HB.out⟩
 have f5:(tk==5)=false:=by simpa using h5
 by_cases lU:tk=44
 ·subst lU;have HN:=zh (show R=useE vs ts 3 by rw[<-HR.out];simp[zld]);go_enter Tryz.func137,Tryz.ntmps137;go_wp2_with fail;refine(zoo vs A c ts 3 S'' _ (ae.out.later (HB0.out _ _)) HL.out).mono ?_;rintro e w1 ⟨rfl,aa⟩;rw[<-HN.out];have HB:=zh (zka (HB0.out _ _) aa);clear aa;go_wp2_with fail;go_ret;exact⟨rfl,HB.out⟩
 have f44:(tk==44)=false:=by simpa using lU
 by_cases h45:tk=45
 ·subst h45;have HN:=zh (show R=useE vs ts 3 by rw[<-HR.out];simp[zld]);go_enter Tryz.func137,Tryz.ntmps137;go_wp2_with fail;refine(zoo vs A c ts 3 S'' _ (ae.out.later (HB0.out _ _)) HL.out).mono ?_;rintro e w1 ⟨rfl,aa⟩;rw[<-HN.out];have HB:=zh (zka (HB0.out _ _) aa);clear aa;go_wp2_with fail;go_ret;exact⟨rfl,HB.out⟩
 have f45:(tk==45)=false:=by simpa using h45
 by_cases bu:tk=54
 ·subst bu;have HN:=zh (show R=zmR vs ts by rw[<-HR.out];simp[zld]);go_enter Tryz.func137,Tryz.ntmps137;go_wp2_with fail;refine(zpC vs A c ts S'' _ (ae.out.later (HB0.out _ _)) HL.out).mono ?_;rintro e w1 ⟨rfl,aa⟩;rw[<-HN.out];have HB:=zh (zka (HB0.out _ _) aa);clear aa;go_wp2_with fail;go_ret;exact⟨rfl,HB.out⟩
 have f54:(tk==54)=false:=by simpa using bu
 by_cases cK:tk=55
 ·subst cK;have HN:=zh (show R=zmR vs ts by rw[<-HR.out];simp[zld]);go_enter Tryz.func137,Tryz.ntmps137;go_wp2_with fail;refine(zpC vs A c ts S'' _ (ae.out.later (HB0.out _ _)) HL.out).mono ?_;rintro e w1 ⟨rfl,aa⟩;rw[<-HN.out];have HB:=zh (zka (HB0.out _ _) aa);clear aa;go_wp2_with fail;go_ret;exact⟨rfl,HB.out⟩
 have f55:(tk==55)=false:=by simpa using cK
 by_cases h50:tk=50
 ·subst h50;have HN:=zh (show R=(match idxP p.prs ts with|none=>6|some i=>match p.prs[i]? with|none=>6|some r=>if tl=r.ps.length then 0 else 7) by rw[<-HR.out];simp[zld]);go_enter Tryz.func137,Tryz.ntmps137;go_wp2_with fail;refine(zok p S _ ts _ (HV.out.later (HB0.out _ _))).mono ?_;rintro e w1 ⟨rfl,aa⟩;have hbl:=zka (HB0.out _ _) aa;have hP:=zkd (zkl (heap_alloc_new w (.cells #[.slice A1 L1 c1,.slice A2 L2 c2,.int .u8 k,.int .i64 n,.string s,.slice A3 l3 c3] 35)) _) aa;have hN:=zkd (heap_alloc_new (w.alloc (.cells #[.slice A1 L1 c1,.slice A2 L2 c2,.int .u8 k,.int .i64 n,.string s,.slice A3 l3 c3] 35)) (.cells #[.int .u8 50,.int .i64 tn,.string ts,.slice B tl tc] 29)) aa;simp only[World.size_alloc] at hN
  cases hi:idxP p.prs ts with
  | none =>
   have e1:zlJ p.prs ts = -1:=by simp[zlJ,hi]
   rw[e1];have aF:=zh (show R=6 by rw[HN.out,hi]);have HB:=zh hbl;clear aa hi e1 hP hN hbl;go_wp2_with fail;go_ret;exact⟨by rw[aF.out];rfl,HB.out⟩
  | some i =>
   have e1:zlJ p.prs ts=i:=by simp[zlJ,hi]
   rw[e1];have hi2:i<p.prs.length:=(List.findIdx?_eq_some_iff_getElem.1 hi).1;have hiL:i<L2:=by rw[<-HL2.out];exact hi2
   obtain⟨a,r,P1,d1,P2,d2,rfl,_,Hr,⟨_,q1,_⟩,hpr⟩:=(bX.out.later hbl).nd hi2;obtain⟨rl,hrl⟩:∃ l,r.ps.length=l:=⟨_,rfl⟩
   have hlr:=zlE hpr.lp;rw[hrl] at q1 hlr;have aF:=zh (show R=if tl=rl then 0 else 7 by rw[HN.out,hi];simp only;rw[List.getElem?_eq_getElem hi2,Hr.out,<-hrl]);obtain⟨a0,a1,a2,a3,a4,a5⟩:=box6 hP;obtain⟨b0,b1,b2,b3⟩:=box4 hN;have HB:=zh hbl;clear aa hi e1 hP hN hbl hrl hpr;go_wp2_with fail
   go_region_held3 (fun w'=>(w'.cell? ⟨w.heap.size+1,3,none⟩=some (.slice B tl tc)/\w'.cell? ⟨w.heap.size,1,none⟩=some (.slice (some a) L2 c2)/\w'.cell? ⟨(a.add (i*6)).block,(a.add (i*6)).off+1,none⟩=some (.slice P1 rl d1))) (exact⟨b3,a1,q1⟩) (fail)
   by_cases hq:tl=rl
   ·have g1:(tl==rl)=true:=by simpa using hq
    have g2:(tl != rl)=false:=by simpa using hq
    have g3:((tl:Int)==(rl:Int))=true:=by simp;omega
    have g4:((tl:Int) != (rl:Int))=false:=by simp;omega
    have bZ:=zh (show R=0 by rw[aF.out,if_pos hq]);clear hq;go_wp2_with fail;go_ret;exact⟨by rw[bZ.out];rfl,HB.out.drew⟩
   ·have g1:(tl==rl)=false:=by simpa using hq
    have g2:(tl != rl)=true:=by simpa using hq
    have g3:((tl:Int)==(rl:Int))=false:=by simp;omega
    have g4:((tl:Int) != (rl:Int))=true:=by simp;omega
    have bZ:=zh (show R=7 by rw[aF.out,if_neg hq]);clear hq;go_wp2_with fail;go_ret;exact⟨by rw[bZ.out];rfl,HB.out.drew⟩
 have f50:(tk==50)=false:=by simpa using h50
 by_cases iH:tk=51
 ·subst iH;have HN:=zh (show R=(match idxP p.prs ts with|none=>6|some i=>match p.prs[i]? with|none=>6|some r=>if tl=r.ps.length then 0 else 7) by rw[<-HR.out];simp[zld]);go_enter Tryz.func137,Tryz.ntmps137;go_wp2_with fail;refine(zok p S _ ts _ (HV.out.later (HB0.out _ _))).mono ?_;rintro e w1 ⟨rfl,aa⟩;have hbl:=zka (HB0.out _ _) aa;have hP:=zkd (zkl (heap_alloc_new w (.cells #[.slice A1 L1 c1,.slice A2 L2 c2,.int .u8 k,.int .i64 n,.string s,.slice A3 l3 c3] 35)) _) aa;have hN:=zkd (heap_alloc_new (w.alloc (.cells #[.slice A1 L1 c1,.slice A2 L2 c2,.int .u8 k,.int .i64 n,.string s,.slice A3 l3 c3] 35)) (.cells #[.int .u8 51,.int .i64 tn,.string ts,.slice B tl tc] 29)) aa;simp only[World.size_alloc] at hN
  cases hi:idxP p.prs ts with
  | none =>
   have e1:zlJ p.prs ts = -1:=by simp[zlJ,hi]
   rw[e1];have aF:=zh (show R=6 by rw[HN.out,hi]);have HB:=zh hbl;clear aa hi e1 hP hN hbl;go_wp2_with fail;go_ret;exact⟨by rw[aF.out];rfl,HB.out⟩
  | some i =>
   have e1:zlJ p.prs ts=i:=by simp[zlJ,hi]
   rw[e1];have hi2:i<p.prs.length:=(List.findIdx?_eq_some_iff_getElem.1 hi).1;have hiL:i<L2:=by rw[<-HL2.out];exact hi2
   obtain⟨a,r,P1,d1,P2,d2,rfl,_,Hr,⟨_,q1,_⟩,hpr⟩:=(bX.out.later hbl).nd hi2;obtain⟨rl,hrl⟩:∃ l,r.ps.length=l:=⟨_,rfl⟩
   have hlr:=zlE hpr.lp;rw[hrl] at q1 hlr;have aF:=zh (show R=if tl=rl then 0 else 7 by rw[HN.out,hi];simp only;rw[List.getElem?_eq_getElem hi2,Hr.out,<-hrl]);obtain⟨a0,a1,a2,a3,a4,a5⟩:=box6 hP;obtain⟨b0,b1,b2,b3⟩:=box4 hN;have HB:=zh hbl;clear aa hi e1 hP hN hbl hrl hpr;go_wp2_with fail
   go_region_held3 (fun w'=>(w'.cell? ⟨w.heap.size+1,3,none⟩=some (.slice B tl tc)/\w'.cell? ⟨w.heap.size,1,none⟩=some (.slice (some a) L2 c2)/\w'.cell? ⟨(a.add (i*6)).block,(a.add (i*6)).off+1,none⟩=some (.slice P1 rl d1))) (exact⟨b3,a1,q1⟩) (fail)
   by_cases hq:tl=rl
   ·have g1:(tl==rl)=true:=by simpa using hq
    have g2:(tl != rl)=false:=by simpa using hq
    have g3:((tl:Int)==(rl:Int))=true:=by simp;omega
    have g4:((tl:Int) != (rl:Int))=false:=by simp;omega
    have bZ:=zh (show R=0 by rw[aF.out,if_pos hq]);clear hq;go_wp2_with fail;go_ret;exact⟨by rw[bZ.out];rfl,HB.out.drew⟩
   ·have g1:(tl==rl)=false:=by simpa using hq
    have g2:(tl != rl)=true:=by simpa using hq
    have g3:((tl:Int)==(rl:Int))=false:=by simp;omega
    have g4:((tl:Int) != (rl:Int))=true:=by simp;omega
    have bZ:=zh (show R=7 by rw[aF.out,if_neg hq]);clear hq;go_wp2_with fail;go_ret;exact⟨by rw[bZ.out];rfl,HB.out.drew⟩
 have f51:(tk==51)=false:=by simpa using iH
 have HN:=zh (show R=0 by rw[<-HR.out];simp[zld,h2,h3,h4,h5,lU,h45,bu,cK,h50,iH]);clear h2 h3 h4 h5 lU h45 bu cK h50 iH;go_enter Tryz.func137,Tryz.ntmps137;go_wp2_with fail;go_ret;exact⟨by rw[HN.out];rfl,HB0.out _ _⟩
def argE (ps:List PR) (s:ByteArray) (l i:Nat) (m:ByteArray) (vs:List VD):Int:=match zlj vs m with
 | none=>6
 | some v=>match idxP ps s with
  | none=>0
  | some j=>match ps[j]? with
   | none=>0
   | some r=>if l=r.ps.length then (match r.ps[i]? with
    | none=>0
    | some q=>if v.k=q.k/\v.n=q.n then 0 else 7) else 0
theorem box3 {w:World} {b:Nat} {E:TypeId} {u0 u1 u2:Value} (h:w.heap[b]?=some (.cells #[u0,u1,u2] E (0,0))):w.cell? ⟨b,0,none⟩=some u0/\w.cell? ⟨b,1,none⟩=some u1/\w.cell? ⟨b,2,none⟩=some u2 :=
 ⟨zc h rfl,zc h rfl,zc h rfl⟩
theorem zoN (p:PG) (t:T) (i:Nat) (hi:i<t.ks.length) (vs:List VD) (A:Option Addr) (c:Nat) (S S' S'':Nat->Prop) (v1 v2:Value) (w:World) (hv1:PV w S p v1) (hv2:NV w S' t v2) (hrow:RowV w S'' A vs) (hl:vs.length<=LV) :
  Calls Tryz.prog 139 #[v1,v2,.int .i64 i,.slice A vs.length c] w fun e w'=>e=.returned (.int .i64 (argE p.prs t.s t.ks.length i t.ks[i].s vs))/\Below w.heap.size w w':=by
 have hvv:=hv1;obtain⟨A1,c1,A2,c2,A3,c3,rfl,hr⟩:=hv1;have bX:=zh hr.procs;have hlp:=zlE hr.lp;obtain⟨L1,hL1⟩:∃ L,p.vs.length=L:=⟨_,rfl⟩
 obtain⟨L2,hL2⟩:∃ L,p.prs.length=L:=⟨_,rfl⟩
 obtain⟨k,hk⟩:∃ k,p.m.k=k:=⟨_,rfl⟩
 obtain⟨n,hn⟩:∃ n,p.m.n=n:=⟨_,rfl⟩
 obtain⟨s,hs⟩:∃ s,p.m.s=s:=⟨_,rfl⟩
 obtain⟨l3,hl3⟩:∃ l,p.m.ks.length=l:=⟨_,rfl⟩
 rw[hL1,hL2,hk,hn,hs,hl3];rw[hL1,hL2,hk,hn,hs,hl3] at hvv;rw[hL2] at hlp;have HL2:=zh hL2;have HV:=zh hvv;clear hr hvv hL1 hL2 hk hn hs hl3;obtain⟨B,tc,rfl,_,hlk,_,gq⟩:=hv2.open_;have ak:=zkx hlk;have ae:=zh hrow;have HL:=zh hl;obtain⟨b,u,B1,f1,rfl,_,Hu,⟨z0,z1,z2,z3⟩,-⟩:=gq.nd hi;rw[Hu.out];clear hrow hl hv2 hlk gq z0 z1 z3;obtain⟨us,hus⟩:∃ us,u.s=us:=⟨_,rfl⟩
 rw[hus] at z2 ⊢;clear hus Hu;generalize t.k=tk,t.n=tn,t.s=ts,t.ks.length=tl at *
 obtain⟨R,hR⟩:∃ R,argE p.prs ts tl i us vs=R:=⟨_,rfl⟩
 rw[hR];have HR:=zh hR;clear hR;have hb0:∀ o o',Below w.heap.size w ((w.alloc o).alloc o'):=fun o o'=>((Below.refl _ _).alloc (Nat.le_refl _) _).alloc (by simp) _;have HB0:=zh hb0;have z2':=fun o o'=>zke (zke z2 o) o';clear hb0 z2;go_enter Tryz.func139,Tryz.ntmps139;go_wp2_with fail;refine(zo7 vs A c us S'' _ (ae.out.later (HB0.out _ _)) HL.out).mono ?_;rintro e w1 ⟨rfl,aa⟩;have hbl:=zka (HB0.out _ _) aa;have hP:=zkd (zkl (heap_alloc_new w (.cells #[.slice A1 L1 c1,.slice A2 L2 c2,.int .u8 k,.int .i64 n,.string s,.slice A3 l3 c3] 35)) _) aa;have hN:=zkd (heap_alloc_new (w.alloc (.cells #[.slice A1 L1 c1,.slice A2 L2 c2,.int .u8 k,.int .i64 n,.string s,.slice A3 l3 c3] 35)) (.cells #[.int .u8 tk,.int .i64 tn,.string ts,.slice (some b) tl tc] 29)) aa;simp only[World.size_alloc] at hN
 cases hf:zlj vs us with
 | none =>
  have HN:=zh (show R=6 by rw[<-HR.out];simp[argE,hf]);have HB:=zh (zkb hbl (.cells #[.string ⟨#[]⟩,.int .u8 0,.int .i64 0] 83));clear hf aa hP hN hbl z2';go_wp2_with fail;go_ret;exact⟨by rw[HN.out];rfl,HB.out⟩
 | some v =>
  obtain⟨vm,vk,vl⟩:=v;have hq2:=zkb hbl (.cells #[.string vm,.int .u8 vk,.int .i64 vl] 83);have hP2:=zkl hP (.cells #[.string vm,.int .u8 vk,.int .i64 vl] 83);have qa:=zkl hN (.cells #[.string vm,.int .u8 vk,.int .i64 vl] 83);have hV2:=heap_alloc_new w1 (.cells #[.string vm,.int .u8 vk,.int .i64 vl] 83);have HR2:=zh (show R=(match idxP p.prs ts with
   | none=>0
   | some j=>match p.prs[j]? with
    | none=>0
    | some r=>if tl=r.ps.length then (match r.ps[i]? with
     | none=>0
     | some q=>if vk=q.k/\vl=q.n then 0 else 7) else 0) by rw[<-HR.out];simp[argE,hf])
  obtain⟨a0,a1,a2,a3,a4,a5⟩:=box6 hP2;obtain⟨b0,b1,b2,b3⟩:=box4 qa;have jh:=zh hP2;have aF:=zh qa;have nz:=zh hV2;have qH:=zh hq2;clear hf aa hP hN hbl z2' hP2 qa hV2 hq2 HR;go_wp2_with fail;refine(zok p S _ ts _ (HV.out.later qH.out)).mono ?_;rintro e w2 ⟨rfl,ag⟩;have hbl:=zka qH.out ag;have hP:=zkd jh.out ag;have hN:=zkd aF.out ag;have hV:=zkd nz.out ag;clear a0 a1 a2 a3 a4 a5 b0 b1 b2 b3 jh aF nz qH ag
  cases hi2:idxP p.prs ts with
  | none =>
   have e1:zlJ p.prs ts = -1:=by simp[zlJ,hi2]
   rw[e1];have bZ:=zh (show R=0 by rw[HR2.out,hi2]);have HB:=zh hbl;clear hi2 e1 hP hN hV hbl;go_wp2_with fail;refine wp_region_noPanic ?_;refine zkc (fun _=>True) (fun _=>True) 20 (by kernel_rfl) ?_;have hSS:(fun _:World=>True) w2.drew/\(fun _:World=>True) w2.drew:=⟨trivial,trivial⟩
   refine zT 0 hSS ?_;(try simp only[zQ]);refine zT 1 hSS ?_;(try simp only[zQ]);refine zT 2 hSS ?_;(try simp only[zQ]);refine zkJ (i:=3) (v:=undef) rfl (by kernel_rfl) (by kernel_rfl) (by kernel_rfl) (by decide) (fun _ _ _ h=>h) (Or.inr ⟨by rfl,rfl⟩) hSS ?_;(try simp only[zQ]);refine zkJ (i:=4) (v:=undef) rfl (by kernel_rfl) (by kernel_rfl) (by kernel_rfl) (by decide) (fun _ _ _ h=>h) (Or.inr ⟨by rfl,rfl⟩) hSS ?_;(try simp only[zQ]);refine zkJ (i:=5) (v:=undef) rfl (by kernel_rfl) (by kernel_rfl) (by kernel_rfl) (by decide) (fun _ _ _ h=>h) (Or.inr ⟨by rfl,rfl⟩) hSS ?_;(try simp only[zQ]);refine zkJ (i:=6) (v:=undef) rfl (by kernel_rfl) (by kernel_rfl) (by kernel_rfl) (by decide) (fun _ _ _ h=>h) (Or.inr ⟨by rfl,rfl⟩) hSS ?_;(try simp only[zQ])
   refine zkJ (i:=7) (v:=undef) rfl (by kernel_rfl) (by kernel_rfl) (by kernel_rfl) (by decide) (fun _ _ _ h=>h) (Or.inr ⟨by rfl,rfl⟩) hSS ?_;(try simp only[zQ]);refine zkJ (i:=8) (v:=undef) rfl (by kernel_rfl) (by kernel_rfl) (by kernel_rfl) (by decide) (fun _ _ _ h=>h) (Or.inr ⟨by rfl,rfl⟩) hSS ?_;(try simp only[zQ]);refine zkJ (i:=9) (v:=undef) rfl (by kernel_rfl) (by kernel_rfl) (by kernel_rfl) (by decide) (fun _ _ _ h=>h) (Or.inr ⟨by rfl,rfl⟩) hSS ?_;(try simp only[zQ]);refine zkJ (i:=10) (v:=undef) rfl (by kernel_rfl) (by kernel_rfl) (by kernel_rfl) (by decide) (fun _ _ _ h=>h) (Or.inr ⟨by rfl,rfl⟩) hSS ?_;(try simp only[zQ]);refine zkJ (i:=11) (v:=undef) rfl (by kernel_rfl) (by kernel_rfl) (by kernel_rfl) (by decide) (fun _ _ _ h=>h) (Or.inr ⟨by rfl,rfl⟩) hSS ?_;(try simp only[zQ])
   refine zkJ (i:=12) (v:=undef) rfl (by kernel_rfl) (by kernel_rfl) (by kernel_rfl) (by decide) (fun _ _ _ h=>h) (Or.inr ⟨by rfl,rfl⟩) hSS ?_;(try simp only[zQ]);refine zkJ (i:=13) (v:=undef) rfl (by kernel_rfl) (by kernel_rfl) (by kernel_rfl) (by decide) (fun _ _ _ h=>h) (Or.inr ⟨by rfl,rfl⟩) hSS ?_;(try simp only[zQ]);refine zT 14 hSS ?_;(try simp only[zQ]);refine zd ?_;refine NoPanic.normal ?_;clear hSS;go_wp2_with fail;go_ret;exact⟨by rw[bZ.out];rfl,HB.out.drew⟩
  | some j =>
   have e1:zlJ p.prs ts=j:=by simp[zlJ,hi2]
   rw[e1];have hj2:j<p.prs.length:=(List.findIdx?_eq_some_iff_getElem.1 hi2).1;have mF:j<L2:=by rw[<-HL2.out];exact hj2
   obtain⟨a,r,P1,d1,P2,d2,rfl,_,Hr,⟨_,q1,_⟩,hpr⟩:=(bX.out.later hbl).nd hj2;obtain⟨rl,hrl⟩:∃ l,r.ps.length=l:=⟨_,rfl⟩
   have hlr:=zlE hpr.lp;have HPW:=zh hpr.row;rw[hrl] at q1 hlr;have HR3:=zh (show R=if tl=rl then (match r.ps[i]? with
     | none=>0
     | some q=>if vk=q.k/\vl=q.n then 0 else 7) else 0 by rw[HR2.out,hi2];simp only;rw[List.getElem?_eq_getElem hj2,Hr.out,<-hrl])
   have qE:=zh hrl;obtain⟨a0,a1,a2,a3,a4,a5⟩:=box6 hP;obtain⟨b0,b1,b2,b3⟩:=box4 hN;have dD:=zh hV;have HB:=zh hbl;have hj0:decide ((j:Int)<0)=false:=by simp
   clear hi2 e1 hP hN hbl hrl hpr hV;go_wp2_with fail
   go_region_held3 (fun w'=>(w'.cell? ⟨w.heap.size+1,3,none⟩=some (.slice (some b) tl tc)/\w'.cell? ⟨w.heap.size,1,none⟩=some (.slice (some a) L2 c2)/\w'.cell? ⟨(a.add (j*6)).block,(a.add (j*6)).off+1,none⟩=some (.slice P1 rl d1))) (exact⟨b3,a1,q1⟩) (fail)
   by_cases hq:tl=rl
   ·have g1:(tl==rl)=true:=by simpa using hq
    have g2:(tl != rl)=false:=by simpa using hq
    have g3:((tl:Int)==(rl:Int))=true:=by simp;omega
    have g4:((tl:Int) != (rl:Int))=false:=by simp;omega
    have hir:i<r.ps.length:=by rw[qE.out];omega
    have hir':i<rl:=by omega
    obtain⟨e,q,rfl,_,Hq,⟨y0,y1,y2⟩,tJ⟩:=(HPW.out.later (Below.refl _ _).drew).nd hir;have HR4:=zh (show R=if vk=q.k/\vl=q.n then 0 else 7 by rw[HR3.out,if_pos hq,List.getElem?_eq_getElem hir,Hq.out]);obtain⟨qm,qk,ql⟩:=q;simp only at y0 y1 y2 HR4;have hV3:=box3 dD.out;obtain⟨x0,x1,x2⟩:=hV3;have dh:=zh (zkb HB.out.drew (.cells #[.string qm,.int .u8 qk,.int .i64 ql] 83));have hlt9:=zki dD.out;clear hq Hq tJ HPW dD;by_cases hk1:vk=qk
    ·have k1:(vk==qk)=true:=by simpa using hk1
     have k2:(vk != qk)=false:=by simpa using hk1
     by_cases hk2:vl=ql
     ·have k3:(vl==ql)=true:=by simpa using hk2
      have k4:(vl != ql)=false:=by simpa using hk2
      have bZ:=zh (show R=0 by rw[HR4.out,if_pos ⟨hk1,hk2⟩]);clear hk1 hk2;go_wp2_with fail;go_ret;exact⟨by rw[bZ.out];rfl,dh.out⟩
     ·have k3:(vl==ql)=false:=by simpa using hk2
      have k4:(vl != ql)=true:=by simpa using hk2
      have bZ:=zh (show R=7 by rw[HR4.out,if_neg (fun h=>hk2 h.2)]);clear hk1 hk2;go_wp2_with fail;go_ret;exact⟨by rw[bZ.out];rfl,dh.out⟩
    ·have k1:(vk==qk)=false:=by simpa using hk1
     have k2:(vk != qk)=true:=by simpa using hk1
     have bZ:=zh (show R=7 by rw[HR4.out,if_neg (fun h=>hk1 h.1)]);clear hk1;go_wp2_with fail;go_ret;exact⟨by rw[bZ.out];rfl,dh.out⟩
   ·have g1:(tl==rl)=false:=by simpa using hq
    have g2:(tl != rl)=true:=by simpa using hq
    have g3:((tl:Int)==(rl:Int))=false:=by simp;omega
    have g4:((tl:Int) != (rl:Int))=true:=by simp;omega
    have bZ:=zh (show R=0 by rw[HR3.out,if_neg hq]);clear hq;go_wp2_with fail;go_ret;exact⟨by rw[bZ.out];rfl,HB.out.drew⟩
theorem zKh (w:World):(Instr.buildSlice 22 0 #[]).run Tryz.prog w=.ok (.slice (some ⟨w.heap.size,0,none⟩) 0 0) (w.alloc (.cells #[] 83)):=by kernel_rfl
theorem zK2 (a:Addr) (l c:Nat) (w:World):(binOp BinOp.eql 22 (.slice (some a) l c) (.slice none 0 0)).run Tryz.prog w=.ok (.bool false) w:=by kernel_rfl
theorem zz8 (l c:Nat) (w:World):(binOp BinOp.eql 22 (.slice none l c) (.slice none 0 0)).run Tryz.prog w=.ok (.bool true) w:=by kernel_rfl
theorem RowV.news {w:World} {S:Nat->Prop} {a:Addr}:∀ {vs:List VD},RowV w S (some a) vs->∃ news:List Value,news.length=vs.length*3/\(∀ j u,news[j]?=some u->w.cell? (a.add j)=some u)/\(∀ u∈news,u.oneCell'=true) /\
  ∀ i (hi:i<vs.length),news[i*3]?=some (.string vs[i].s)/\news[i*3+1]?=some (.int .u8 vs[i].k)/\news[i*3+2]?=some (.int .i64 vs[i].n):=by
 intro vs
 induction vs generalizing a with
 | nil=>exact fun _=>⟨[],rfl,fun j u h=>by simp at h,fun u h=>by simp at h,fun i hi=>absurd hi (by simp)⟩
 | cons t us ih =>
  intro h;obtain⟨a',e,hS,hc,_⟩:=h 0 (by simp);injection e with e;subst e;obtain⟨news,hl,hcell,h1,hns⟩:=ih (a:=a.add 3) (fun i hi=>by
   obtain⟨a'',e,hS',hc,hf⟩:=h (i+1) (by simpa using hi);injection e with e;subst e;refine⟨_,rfl,by rw[zkW];exact hS',?_,by simpa using hf⟩;rw[zwH,show 3+i*3=(i+1)*3 by omega];simpa using hc)
  obtain⟨c0,c1,c2⟩:=hc;simp only[Nat.zero_mul] at c0 c1 c2;refine⟨.string t.s :: .int .u8 t.k :: .int .i64 t.n::news,by simp[hl];omega,fun j u hj=>?_,fun u hu=>?_,fun i hi=>?_⟩
  ·rcases j with _|_|_|j
   ·simp at hj;subst hj;exact c0
   ·simp at hj;subst hj;exact c1
   ·simp at hj;subst hj;exact c2
   ·have:=hcell j u (by simpa using hj);rw[zwH] at this;rw[show j+1+1+1=3+j by omega];exact this
  ·simp only[List.mem_cons] at hu;rcases hu with rfl|rfl|rfl|hu
   ·rfl
   ·rfl
   ·rfl
   ·exact h1 u hu
  ·rcases i with _|i
   ·exact⟨rfl,rfl,rfl⟩
   ·obtain⟨e0,e1,e2⟩:=hns i (by simpa using hi);refine⟨?_,?_,?_⟩
    ·rw[show(i+1)*3=i*3+1+1+1 by omega];simpa using e0
    ·rw[show(i+1)*3+1=i*3+1+1+1+1 by omega];simpa using e1
    ·rw[show(i+1)*3+2=i*3+2+1+1+1 by omega];simpa using e2
theorem zxe (A:Option Addr) (l c:Nat) (hlc:l<=c) (hl:l<=LI) (w:World):Calls Tryz.prog 165 #[.slice A l c] w fun e w'=>e=.returned (.slice A l l)/\w=w':=by
 have hl':=zqG hl;have h1:(l:Int)<=(c:Int):=by omega
 clear hl;go_enter Tryz.func165,Tryz.ntmps165;go_wp2_with fail;go_ret;exact⟨rfl,rfl⟩
theorem zse (A:Option Addr) (l c:Nat) (hlc:l<=c) (hl:l<=LV) (w:World):Calls Tryz.prog 166 #[.slice A l c] w fun e w'=>e=.returned (.slice A l l)/\w=w':=by
 have hl':=zlE hl;have h1:(l:Int)<=(c:Int):=by omega
 clear hl;go_enter Tryz.func166,Tryz.ntmps166;go_wp2_with fail;go_ret;exact⟨rfl,rfl⟩
theorem zmu {P:Program} {w:World} {ops:Array Oper} {o:Oper} {a:Act} {K:Act->World->Prop} {Q:Exit->Act->World->Prop} {F:Prop} (hgd:o.guard=none) (s x:Operand) (t:TypeId)
  (hop:o.op=Op.call { callee:=Callee.builtin Builtin.append,args := #[s,x],argTypes := #[t,t] }) (e:TypeId) (i:TypeInfo) (z:Value) (size bytes:Nat) (h1:P.underlying t=some (.slice e)) (h2:P.info? e=some i) (h3:i.zero=some z) (h4:i.size=size) (h5:i.bytes=bytes) (h6:z.cells.size=size) (h7:0<size)
  (ao:Option Addr) (n cap:Nat) (olds:List Value) (hs:a.eval s=.slice ao n cap) (hnone:ao=none->n=0/\cap=0) (hlo:olds.length=n*size) (holds:∀ b,ao=some b->∀ j u,olds[j]?=some u->w.cell? (b.add j)=some u)
  (ad:Addr) (m c:Nat) (news:List Value) (hx:a.eval x=.slice (some ad) m c) (hn:news.length=m*size) (hc:∀ j u,news[j]?=some u->w.cell? (ad.add j)=some u) (h1c:∀ u∈news,u.oneCell'=true)
  (hfull:cap<n+m) (b1:n+m<=maxLen) (b2:(n+m)*bytes<=140737488355328)
  (hK:∀ v' w',w'.ownsRow w.heap.size e size v' (n+m) (olds++news)->w.grownBy w' none->K (a.put o.dst v') w') :
  if Region.wanted o (yielded ops a.tmps)=true then Oper.wp P o a w K Q else F:=by
 have hw:Region.wanted o (yielded ops a.tmps)=true:=by simp[Region.wanted,hgd]
 rw[if_pos hw]
 cases ao with
 | some b =>
  obtain⟨v',w',hrun,r1,r2⟩:=run_append_arg_grows (P:=P) w t o.type e i z size bytes h1 h2 h3 h4 h5 h6 h7 b n cap olds hlo (holds b rfl) ad m c news hn hc hfull b1 b2;unfold Oper.wp;simp[execOp,hop,resolve,invoke,builtin,hs,hx,hrun,Result.andThen];exact hK v' w' r1 r2
 | none =>
  obtain⟨rfl,rfl⟩:=hnone rfl;obtain rfl:olds=[]:=List.eq_nil_of_length_eq_zero (by simpa using hlo);obtain⟨v',w',hrun,r1,r2,_⟩:=run_append_own (P:=P) w w.heap.size t o.type e i z size bytes h1 h2 h3 h4 h5 h6 h7 (.slice none 0 0) 0 [] (World.ownsRow_nil w _ e size) ad m c news hn hc h1c b1 b2 (Nat.le_refl _);unfold Oper.wp;simp[execOp,hop,resolve,invoke,builtin,hs,hx,hrun,Result.andThen];exact hK v' w' r1 r2
theorem zpP (q:List Int) (A:Option Addr) (c:Nat) (i:Int) (hi:I64 i) (S:Nat->Prop) (w:World) (hrow:RowI w S A q) (hlc:q.length<=c) (hl:q.length<=100000) :
  Calls Tryz.prog 138 #[.slice A q.length c,.int .i64 i] w (NewI w (q++[i])):=by
 obtain⟨i0,hi0,hz0,hz1,hz2⟩:=info_parts zpy;have ae:=zh hrow;have HI:=zh hi;have hbI:=zpQ;have hm1:q.length+1<=maxLen:=by unfold maxLen;omega
 have hm2:(q.length+1)*8<=140737488355328:=by omega
 have hnone:A=none->q.length=0/\q.length=0:=fun h=>by
  subst h
  cases q with
  | nil=>simp
  | cons x xs=>obtain⟨_,h,_⟩:=hrow 0 (by simp);cases h
 have hold:∀ b,A=some b->∀ (j:Nat) u,(q.map fun x=>Value.int .i64 x)[j]?=some u->(w.alloc (.cells #[.int .i64 i] 3)).cell? (b.add j)=some u:=fun b hb j u hj=>by
  subst hb;exact zke (hrow.news.1 j u hj) _
 have hnew:∀ (j:Nat) (u:Value),[Value.int .i64 i][j]?=some u->(w.alloc (.cells #[.int .i64 i] 3)).cell? ((⟨w.heap.size,0,none⟩:Addr).add j)=some u:=fun j u h=>by
  have:=zk3 w 3 [Value.int .i64 i] j u h;simpa using this
 clear hrow hi;go_enter Tryz.func138,Tryz.ntmps138;go_wp2_with fail;refine(zxe A q.length c hlc (by unfold LI;omega) _).mono ?_;rintro e w' ⟨rfl,rfl⟩;go_wp2_with (at_builtin;refine wpList_append_grows (P:=Tryz.prog) _ rfl (.tmp 6) (.tmp 8) 24 rfl 3 i0 _ 1 8 Tryz.underlying24 hi0 hz0 hz1 hz2 rfl (by decide) A q.length q.length _ rfl hnone (by simp) hold ⟨w.heap.size,0,none⟩ 1 1 [.int .i64 i] rfl rfl hnew (by intro u hu;simp at hu;subst hu;rfl) (by omega) hm1 hm2 ?_;intro v' w' h2 h3)
 have h2':w'.ownsRow (w.heap.size+1) 3 1 v' (q++[i]).length ((q++[i]).map (fun x=>Value.int .i64 x)):=by
  have:=h2;simp only[World.size_alloc] at this;simpa using this
 have hbl:Below w.heap.size w w':=((Below.refl w.heap.size w).alloc (Nat.le_refl _) _).grown h3 (by simp) (fun g e=>by cases e);obtain⟨A',c',rfl,hcc,aU⟩:=zly h2' (by
  intro x hx;simp only[List.mem_append,List.mem_singleton] at hx;rcases hx with hx|rfl
  ·exact ae.out.fits x hx
  ·exact HI.out)
 have dM:=zh (aU.mono (S':=From w.heap.size) fun b hb=>by have:=(h2'.lt b hb).1;show w.heap.size<=b;omega);have HB:=zh hbl;have HC:=zh hcc;clear h2 h2' h3 hbl hold hnew aU hcc hnone;go_wp2_with fail;go_ret;exact⟨A',c',rfl,dM.out,HC.out,HB.out⟩
theorem zKg (s:ByteArray) (k:Int) (w:World):(Instr.build 83 #[(0,.string s),(1,.int .u8 k)]).run Tryz.prog w=.ok (.agg #[.string s,.int .u8 k,.int .i64 0]) w:=by kernel_rfl
theorem zyw (a0 a1 a2:Value) (w:World):(Instr.buildSlice 22 1 #[(0,.agg #[a0,a1,a2])]).run Tryz.prog w=.ok (.slice (some ⟨w.heap.size,0,none⟩) 1 1) (w.alloc (.cells #[a0,a1,a2] 83)):=by kernel_rfl
def zlz (k:Int) (s:ByteArray) (i:Nat) (vs:List VD):List VD:=if k=54/\i=1 then vs++[⟨s,1,0⟩] else if k=55/\i=0 then vs++[⟨s,3,0⟩] else vs
def zyP (w:World) (S:Nat->Prop) (vs:List VD) (e:Ending) (w':World):Prop:=∃ A' c',e=.returned (.slice A' vs.length c')/\RowV w' (fun b=>S b\/w.heap.size<=b) A' vs/\vs.length<=c'/\Below w.heap.size w w'
theorem zrA {w w':World} {base:Nat} {E:TypeId} {v:Value} {vs:List VD} {u:VD} {news:List Value} (hn:∀ i (hi:i<vs.length),news[i*3]?=some (.string vs[i].s)/\news[i*3+1]?=some (.int .u8 vs[i].k)/\news[i*3+2]?=some (.int .i64 vs[i].n))
  (hl:news.length=vs.length*3) (hf:∀ i (hi:i<vs.length),FldV vs[i]) (hu:FldV u) (h:w'.ownsRow base E 3 v (vs.length+1) (news++[.string u.s,.int .u8 u.k,.int .i64 u.n])) :
  ∃ A c,v=.slice A (vs++[u]).length c/\(vs++[u]).length<=c/\RowV w' (fun b=>base<=b) A (vs++[u]):=by
 rcases h.2 with⟨_,h0⟩|⟨g,cap,cur,rfl,hb,hg,hc,hm,hz,hx⟩
 ·omega
 ·refine⟨some ⟨g,0,none⟩,cap,by simp,by simpa using hc,fun i hi=>?_⟩;have ha:(⟨g,0,none⟩:Addr).add (i*3)=⟨g,i*3,none⟩:=by unfold Addr.add;split<;>simp_all
  have hcell:∀ j x,(news++[Value.string u.s,.int .u8 u.k,.int .i64 u.n])[j]?=some x->w'.cell? ⟨g,j,none⟩=some x:=fun j x hj=>by
   have hlt:=(List.getElem?_eq_some_iff.1 hj).1;rw[h.cellAt j (by simp at hlt;omega)];exact hj
  refine⟨⟨g,0,none⟩,rfl,hb,?_,?_⟩
  ·rw[ha];by_cases e:i<vs.length
   ·obtain⟨e0,e1,e2⟩:=hn i e;rw[List.getElem_append_left e];exact⟨hcell (i*3) _ (by rw[List.getElem?_append_left (by omega)];exact e0),hcell (i*3+1) _ (by rw[List.getElem?_append_left (by omega)];exact e1),hcell (i*3+2) _ (by rw[List.getElem?_append_left (by omega)];exact e2)⟩
   ·have e':i=vs.length:=by simp at hi;omega
    subst e';simp only[List.getElem_append_right (Nat.le_refl _),Nat.sub_self,List.getElem_cons_zero];exact⟨hcell (vs.length*3) _ (by rw[List.getElem?_append_right (by omega)];simp[hl]),hcell (vs.length*3+1) _ (by rw[List.getElem?_append_right (by omega)];simp[hl]),hcell (vs.length*3+2) _ (by rw[List.getElem?_append_right (by omega)];simp[hl])⟩
  ·by_cases e:i<vs.length
   ·rw[List.getElem_append_left e];exact hf i e
   ·have e':i=vs.length:=by simp at hi;omega
    subst e';simpa using hu
theorem zvR (t:T) (i:Nat) (hi64:i<=4000000000) (vs:List VD) (A:Option Addr) (c:Nat) (S S':Nat->Prop) (v:Value) (w:World) (hv:NV w S' t v) (hrow:RowV w S A vs) (hlc:vs.length<=c) (hl:vs.length<=100000) :
  Calls Tryz.prog 140 #[v,.int .i64 i,.slice A vs.length c] w (zyP w S (zlz t.k t.s i vs)):=by
 obtain⟨i0,hi0,hz0,hz1,hz2⟩:=info_parts zuV;obtain⟨B,tc,rfl,hft,-⟩:=hv.open_;have ae:=zh hrow;have lC:=zh hlc;have nM:=zh hft;have hb2:=zKg;have hbs:=zyw;have hm1:vs.length+1<=maxLen:=by unfold maxLen;omega
 have hm2:(vs.length+1)*32<=140737488355328:=by omega
 have hlv:vs.length<=LV:=by unfold LV;omega
 obtain⟨news,hnl,hnc,hn1,nS⟩:∃ news:List Value,news.length=vs.length*3/\(∀ b,A=some b->∀ (j:Nat) u,news[j]?=some u->w.cell? (b.add j)=some u)/\(A=none->vs.length=0/\vs.length=0)/\(∀ i (hi:i<vs.length),news[i*3]?=some (.string vs[i].s)/\news[i*3+1]?=some (.int .u8 vs[i].k)/\news[i*3+2]?=some (.int .i64 vs[i].n)):=by
  cases A with
  | none =>
   have h0:vs=[]:=by
    cases vs with
    | nil=>rfl
    | cons x xs=>obtain⟨_,h,_⟩:=hrow 0 (by simp);cases h
   subst h0;exact⟨[],rfl,(fun b h=>by cases h),(fun _=>⟨rfl,rfl⟩),fun i hi=>absurd hi (by simp)⟩
  | some a =>
   obtain⟨news,h1,h2,_,h4⟩:=hrow.news;exact⟨news,h1,(fun b h=>by injection h with h;subst h;exact h2),(fun h=>by cases h),h4⟩
 have xE:=zh nS;have HFV:=zh (show ∀ i (hi:i<vs.length),FldV vs[i] from fun i hi=>(hrow i hi).choose_spec.2.2.2);clear hrow hlc hft hv nS;generalize t.k=tk,t.n=tn,t.s=ts,t.ks.length=tl at *
 obtain⟨V,hV⟩:∃ V,zlz tk ts i vs=V:=⟨_,rfl⟩
 rw[hV];have HV:=zh hV;clear hV;have key:∀ (kd:Int) (hkd:kd=1\/kd=3) (W':World) (v':Value),(((w.alloc (.cells #[.int .u8 tk,.int .i64 tn,.string ts,.slice B tl tc] 29)).alloc (.cells #[.string ts,.int .u8 kd,.int .i64 0] 83)).drew).grownBy W' none ->
   W'.ownsRow ((w.alloc (.cells #[.int .u8 tk,.int .i64 tn,.string ts,.slice B tl tc] 29)).alloc (.cells #[.string ts,.int .u8 kd,.int .i64 0] 83)).drew.heap.size 83 3 v' (vs.length+1) (news++[.string ts,.int .u8 kd,.int .i64 0])->V=vs++[⟨ts,kd,0⟩]->zyP w S V (.returned v') W':=by
  intro kd hkd W' v' hg ho hVV;subst hVV;obtain⟨A',c',rfl,hcc,hrr⟩:=zrA (w:=w) (u:=⟨ts,kd,0⟩) xE.out hnl HFV.out ⟨nM.out.2.2,(show(0:Int)<=kd/\kd<256 by rcases hkd with rfl|rfl<;>decide),(by decide:(-9223372036854775808:Int)<=0/\(0:Int)<=9223372036854775807)⟩ ho;refine⟨A',c',rfl,hrr.mono fun b hb=>.inr ?_,hcc,?_⟩
  ·simp at hb;omega
  ·exact((((Below.refl w.heap.size w).alloc (Nat.le_refl _) _).alloc (by simp) _).drew).grown hg (by simp;omega) (fun g e=>by cases e)
 have HKEY:=zh key;have hnc':∀ o o' b,A=some b->∀ (j:Nat) u,news[j]?=some u->((w.alloc o).alloc o').drew.cell? (b.add j)=some u:=fun o o' b hb j u hj=>zke (zke (hnc b hb j u hj) o) o';have hnw:∀ (kd:Int) (j:Nat) (u:Value),[Value.string ts,.int .u8 kd,.int .i64 0][j]?=some u->((w.alloc (.cells #[.int .u8 tk,.int .i64 tn,.string ts,.slice B tl tc] 29)).alloc (.cells #[.string ts,.int .u8 kd,.int .i64 0] 83)).drew.cell? ((⟨w.heap.size+1,0,none⟩:Addr).add j)=some u:=fun kd j u h=>by
  have:=zk3 (w.alloc (.cells #[.int .u8 tk,.int .i64 tn,.string ts,.slice B tl tc] 29)) 83 [Value.string ts,.int .u8 kd,.int .i64 0] j u h;simpa using this
 have HNC:=zh hnc';have sH:=zh hnw;clear key hnc hnc' hnw;by_cases bu:tk=54/\i=1
 ·obtain⟨rfl,rfl⟩:=bu;have tZ:=zh (show V=vs++[⟨ts,1,0⟩] by rw[<-HV.out];simp[zlz]);go_enter Tryz.func140,Tryz.ntmps140;go_wp2_with fail
  go_region_held3 (fun w'=>w'.cell? ⟨w.heap.size,2,none⟩=some (.string ts))
   (first|exact hk5|(simp;done))
   (first
    | (refine zmu (by rfl) (.tmp 16) (.tmp 20) 22 (by rfl) 83 i0 _ 3 32 Tryz.underlying22 hi0 hz0 hz1 hz2 rfl (by decide) A vs.length vs.length news (by rfl) hn1 hnl (HNC.out _ _) ⟨w.heap.size+1,0,none⟩ 1 1 [.string ts,.int .u8 1,.int .i64 0] (by rfl) rfl (sH.out 1) (by intro u hu;simp at hu;rcases hu with rfl|rfl|rfl<;>rfl) (by omega) hm1 hm2 ?_;intro v' w' h2 h3;have HF:=zh (HKEY.out 1 (.inl rfl) w' v' h3 h2 tZ.out);have hk5:w'.cell? ⟨w.heap.size,2,none⟩=some (.string ts):=(World.cell?_of_block (a:=⟨w.heap.size,2,none⟩) (h3.block _ (by simp;omega) (by simp))).trans (by simp);clear h2 h3)
    | (go_at_call 166;refine(zse A vs.length c lC.out hlv _).mono ?_;rintro e wq ⟨rfl,rfl⟩)
    | fail)
  all_goals
   clear hk5;go_wp2_with fail;go_ret;exact HF.out
 by_cases cK:tk=55/\i=0
 ·obtain⟨rfl,rfl⟩:=cK;have tZ:=zh (show V=vs++[⟨ts,3,0⟩] by rw[<-HV.out];simp[zlz]);go_enter Tryz.func140,Tryz.ntmps140;go_wp2_with fail
  go_region_held3 (fun w'=>w'.cell? ⟨w.heap.size,2,none⟩=some (.string ts))
   (first|exact hk5|(simp;done))
   (first
    | (refine zmu (by rfl) (.tmp 31) (.tmp 35) 22 (by rfl) 83 i0 _ 3 32 Tryz.underlying22 hi0 hz0 hz1 hz2 rfl (by decide) A vs.length vs.length news (by rfl) hn1 hnl (HNC.out _ _) ⟨w.heap.size+1,0,none⟩ 1 1 [.string ts,.int .u8 3,.int .i64 0] (by rfl) rfl (sH.out 3) (by intro u hu;simp at hu;rcases hu with rfl|rfl|rfl<;>rfl) (by omega) hm1 hm2 ?_;intro v' w' h2 h3;have HF:=zh (HKEY.out 3 (.inr rfl) w' v' h3 h2 tZ.out);have hk5:w'.cell? ⟨w.heap.size,2,none⟩=some (.string ts):=(World.cell?_of_block (a:=⟨w.heap.size,2,none⟩) (h3.block _ (by simp;omega) (by simp))).trans (by simp);clear h2 h3)
    | (go_at_call 166;refine(zse A vs.length c lC.out hlv _).mono ?_;rintro e wq ⟨rfl,rfl⟩)
    | fail)
  all_goals
   clear hk5;go_wp2_with fail;go_ret;exact HF.out
 have tZ:=zh (show V=vs by rw[<-HV.out];unfold zlz;rw[if_neg bu,if_neg cK]);have HF:=zh (show ∀ o,zyP w S V (.returned (.slice A vs.length c)) (w.alloc o) from fun o=>by
  rw[tZ.out];exact⟨A,c,rfl,(ae.out.later ((Below.refl _ _).alloc (Nat.le_refl _) _)).mono fun b hb=>.inl hb,lC.out,(Below.refl _ _).alloc (Nat.le_refl _) _⟩)
 by_cases vZ:tk=54
 ·subst vZ;have hne:¬ i=1:=fun e=>bu ⟨rfl,e⟩;have e1:(i==1)=false:=by simpa using hne
  have e2:((i:Int)==1)=false:=by simp;omega
  clear bu cK hne;go_enter Tryz.func140,Tryz.ntmps140;go_wp2_with fail;go_ret;exact HF.out _
 have f54:(tk==54)=false:=by simpa using vZ
 by_cases vY:tk=55
 ·subst vY;have hne:¬ i=0:=fun e=>cK ⟨rfl,e⟩;have e1:(i==0)=false:=by simpa using hne
  have e2:((i:Int)==0)=false:=by simp;omega
  clear bu cK hne;go_enter Tryz.func140,Tryz.ntmps140;go_wp2_with fail;go_ret;exact HF.out _
 have f55:(tk==55)=false:=by simpa using vY
 clear bu cK vZ vY;go_enter Tryz.func140,Tryz.ntmps140;go_wp2_with fail;go_ret;exact HF.out _
theorem zmE (t:T):∀ (v:Value) (w:World),NV w Any t v->Calls Tryz.prog 76 #[v] w (znV w t):=by
 obtain⟨i0,hi0,hz0,hz1,hz2⟩:=info_parts zn7
 induction t using T.ind with
 | _ k n s ks ih =>
 intro v w hv;obtain⟨A,c,rfl,hf,hlk,hlc,hrow⟩:=hv.open_;simp only[T.k_nd,T.n_nd,T.s_nd,T.ks_nd] at *
 have ak:=zkx hlk;generalize hlen:ks.length=l at *
 have HL:=zh hlen;clear hlen hv;have hbs:=zr3;go_enter Tryz.func76,Tryz.ntmps76;go_wp2
 go_loopw [3,9] (fun x i wr=>∃ j:Nat,j<=l/\i=.int .i64 j/\OwnN wr (w.heap.size+2) 29 (From (w.heap.size+2)) x (ks.take j) /\
   Below (w.heap.size+2) ((w.alloc (.cells #[.int .u8 k,.int .i64 n,.string s,.slice A l c] 29)).alloc (.cells #[.int .u8 0,.int .i64 0,.string ⟨#[]⟩,.slice none 0 0] 29)) wr) (fun _ i _=>l-(intOf i).toNat)
 case atStart=>exact⟨0,Nat.zero_le _,rfl,OwnN.nil _ _ _ _,Below.refl _ _⟩
 case round =>
  obtain⟨j,hj,rfl,hown,hb⟩:=hrel;have hb0:Below w.heap.size w wr:=(((Below.refl _ _).alloc (Nat.le_refl _) _).alloc (by simp) _).trans (hb.mono (by omega));have hsz:w.heap.size+2<=wr.heap.size:=by have:=hb.size;simpa using this
  by_cases hlt:j<l
  ·have hi:j<ks.length:=by rw[HL.out];exact hlt
   obtain⟨a,t,A',c',rfl,_,Ht,c0,c1,c2,c3,hn⟩:=(hrow.later hb0).get hi;have ih1:=zh (ih ks[j] (List.getElem_mem hi));rw[Ht.out] at ih1;clear ih hrow;go_wp2_with fail;refine(ih1.out _ _ ?_).mono ?_
   ·exact hn.later ((Below.refl _ _).alloc (Nat.le_refl _) _)
   rintro e w1 ⟨k1,n1,s1,A1,l1,c1',rfl,hn1,hb1⟩;have hb2:Below wr.heap.size wr w1:=((Below.refl _ _).alloc (Nat.le_refl _) _).trans (hb1.mono (by simp));have hb3:=hb.trans (hb2.mono hsz);have hown1:=hown.later hb2;have hA:NV w1 (fun b=>From (w.heap.size+2) b/\some b≠u3.ownBlock) t (nv k1 n1 s1 A1 l1 c1'):=hn1.mono fun b hb=>by
    have hb':wr.heap.size+1<=b:=by simpa using hb
    refine⟨by show w.heap.size+2<=b;omega,fun e=>?_⟩;have:=(hown.block b e.symm).2;omega
   have hlen1:(ks.take j).length+1<=LK:=by rw[List.length_take];exact Nat.le_trans (by omega) hlk
   have hbase:w.heap.size+2<=w1.heap.size:=Nat.le_trans hsz hb2.size;have htk:ks.take (j+1)=ks.take j++[t]:=by rw[List.take_succ_eq_append_getElem hi,Ht.out]
   have HT:=zh htk;have hblk:=hown.block;have HB:=zh hblk;clear htk hown hb1 hblk;go_wp2_with (at_builtin;refine zmm rfl (.tmp 13) (.tmp 16) 27 rfl 29 i0 _ Tryz.underlying27 hi0 hz0 hz1 hz2 rfl (w.heap.size+2) (From (w.heap.size+2)) u3 _ rfl hown1 t k1 n1 s1 A1 l1 c1' rfl hA hlen1 hbase ?_;intro v' w' hown' hg' o7)
   go_roundw
   case rel=>exact⟨j+1,by omega,by go_num,by rw[HT.out];exact hown',hb3.grown hg' hbase (fun g hg=>(HB.out g hg).1)⟩
   case measure=>simp[intOf];omega
  ·have hj':j=l:=by omega
   subst hj';have hl:ks.length=j:=HL.out;rw[List.take_of_length_le (by omega)] at hown;obtain⟨A2,c2,hv2,hc2,hr2,ha2⟩:=hown.row;rw[hl] at hv2;have HR:=zh (hr2.mono (S':=From (w.heap.size+2)) fun b hb=>by
    rcases hb with hb|hb
    ·exact hb
    ·exact(hown.block b hb).1)
   have HC:=zh hc2;have HF:=zh hf;subst hv2;clear ha2 hr2 hown hc2 hl ih hrow hf;have g0:wr.cell? ⟨w.heap.size,0,none⟩=some (.int .u8 k):=(hb.cell (p:=⟨w.heap.size,0,none⟩) (by simp)).trans (by simp);have g1:wr.cell? ⟨w.heap.size,1,none⟩=some (.int .i64 n):=(hb.cell (p:=⟨w.heap.size,1,none⟩) (by simp)).trans (by simp);have g2:wr.cell? ⟨w.heap.size,2,none⟩=some (.string s):=(hb.cell (p:=⟨w.heap.size,2,none⟩) (by simp)).trans (by simp);have g3:wr.cell? ⟨w.heap.size,3,none⟩=some (.slice A j c):=(hb.cell (p:=⟨w.heap.size,3,none⟩) (by simp)).trans (by simp);have f3:wr.frozen? ⟨w.heap.size,3,none⟩=false:=(hb.frozen (p:=⟨w.heap.size,3,none⟩) (by simp)).trans (by simp);have r0:wr.cell? ⟨w.heap.size+1,0,none⟩=some (.int .u8 0):=(hb.cell (p:=⟨w.heap.size+1,0,none⟩) (by simp)).trans (by simp)
   have r1:wr.cell? ⟨w.heap.size+1,1,none⟩=some (.int .i64 0):=(hb.cell (p:=⟨w.heap.size+1,1,none⟩) (by simp)).trans (by simp);have r2:wr.cell? ⟨w.heap.size+1,2,none⟩=some (.string ⟨#[]⟩):=(hb.cell (p:=⟨w.heap.size+1,2,none⟩) (by simp)).trans (by simp);have r3:wr.cell? ⟨w.heap.size+1,3,none⟩=some (.slice none 0 0):=(hb.cell (p:=⟨w.heap.size+1,3,none⟩) (by simp)).trans (by simp);have q0:wr.frozen? ⟨w.heap.size+1,0,none⟩=false:=(hb.frozen (p:=⟨w.heap.size+1,0,none⟩) (by simp)).trans (by simp);have q1:wr.frozen? ⟨w.heap.size+1,1,none⟩=false:=(hb.frozen (p:=⟨w.heap.size+1,1,none⟩) (by simp)).trans (by simp);have q2:wr.frozen? ⟨w.heap.size+1,2,none⟩=false:=(hb.frozen (p:=⟨w.heap.size+1,2,none⟩) (by simp)).trans (by simp);have q3:wr.frozen? ⟨w.heap.size+1,3,none⟩=false:=(hb.frozen (p:=⟨w.heap.size+1,3,none⟩) (by simp)).trans (by simp);go_wp2_with fail
   refine bodyPost_ret (v:=nv k n s A2 j c2) (by simp[results,Tryz.results76,go_sem,r0,r1,r2,r3]) rfl ⟨k,n,s,A2,j,c2,rfl,?_,?_⟩
   ·rw[<-HL.out];refine NV.shut HF.out (by rw[HL.out];exact hlk) HC.out (HR.out.keep (fun b hb _=>Nat.le_trans (Nat.le_add_right _ 2) hb) fun b hb _=>?_);have hb':w.heap.size+2<=b:=hb;rw[Below.heap_setCell _ _ _ _ (by simp;omega),Below.heap_setCell _ _ _ _ (by simp;omega),Below.heap_setCell _ _ _ _ (by simp;omega),Below.heap_setCell _ _ _ _ (by simp;omega),Below.heap_setCell _ _ _ _ (by simp;omega)]
   ·exact((((hb0.setCell (by simp) _).setCell (by simp) _).setCell (by simp) _).setCell (by simp) _).setCell (by simp) _
end Go.Proofs.YtckhofdinldhpaaGreat
namespace Go.Proofs.YtckhofdinldhpaaGreat
open Go Go.RowKit
mutual
/-- The nodes of a tree,in pre-order. -/
def po:T->List T
 | .nd k n s ks=>.nd k n s ks::pos ks
def pos:List T->List T
 | []=>[]
 | t::ts=>po t++pos ts
end
theorem zot:∀ a b:List T,pos (a++b)=pos a++pos b
 | [],b=>by simp[pos]
 | t::ts,b=>by simp[pos,zot ts b]
theorem ztq {ks:List T} {j:Nat} (h:j<ks.length):pos (ks.take (j+1))=pos (ks.take j)++po ks[j]:=by
 rw[List.take_succ_eq_append_getElem h,zot];simp[pos]
theorem zzG {ks:List T} {j:Nat} (h:j<ks.length):pos (ks.take j)++po ks[j] <+: pos ks:=by
 have e:pos ks=pos (ks.take (j+1))++pos (ks.drop (j+1)):=by rw[<-zot,List.take_append_drop]
 rw[e,ztq h];exact⟨_,rfl⟩
mutual
/-- The depth of a tree. -/
def dep:T->Nat
 | .nd _ _ _ ks=>1+deps ks
def deps:List T->Nat
 | []=>0
 | t::ts=>max (dep t) (deps ts)
end
theorem zoL {t:T}:∀ {ks:List T},t∈ks->dep t<=deps ks
 | u::us,h=>by
  simp only[List.mem_cons] at h;rcases h with rfl|h
  ·simp only[deps];omega
  ·have:=zoL h;simp only[deps];omega
structure It (C:Nat->Prop) (W:World) (n0 l yb pb vb:Nat) (pv:Value) (q:List Int):Prop where
 y:W.heap[yb]?=some (.cells #[.func (.yield l) #[] #[]] 218 (0,0))
 v:W.heap[vb]?=some (.cells #[.func (.func 168) #[] #[.pointer (some ⟨yb,0,none⟩),.pointer (some ⟨pb,0,none⟩),.pointer (some ⟨vb,0,none⟩)]] 105 (0,0))
 p:W.heap[pb]?=some (.cells #[pv] 24 (0,0))
 row:W.ownsRow n0 3 1 pv q.length (q.map fun x=>Value.int .i64 x)
 fits:∀ x∈q,I64 x
 gy:n0<=yb
 gp:n0<=pb
 gv:n0<=vb
 nyp:yb≠pb
 nvp:vb≠pb
 ry:pv.ownBlock≠some yb
 rp:pv.ownBlock≠some pb
 rv:pv.ownBlock≠some vb
 cy:¬ C yb
 cp:¬ C pb
 cv:¬ C vb
 cr:∀ b,pv.ownBlock=some b->¬ C b
section
variable {C C' D:Nat->Prop} {W W':World} {n0 l yb pb vb:Nat} {pv pv':Value} {q q':List Int}
theorem It.lt (h:It C W n0 l yb pb vb pv q):yb<W.heap.size/\pb<W.heap.size/\vb<W.heap.size/\∀ b,pv.ownBlock=some b->n0<=b/\b<W.heap.size:=⟨zki h.y,zki h.p,zki h.v,h.row.lt⟩
theorem It.chg (h:It C W n0 l yb pb vb pv q) (hc:Chg D W W') (hD:∀ b,b=yb\/b=pb\/b=vb\/pv.ownBlock=some b->¬ D b) (hC:∀ b,b=yb\/b=pb\/b=vb\/pv.ownBlock=some b->¬ C' b):It C' W' n0 l yb pb vb pv q :=
 { h with
  y:=hc.keep h.y (hD _ (.inl rfl))
  v:=hc.keep h.v (hD _ (.inr (.inr (.inl rfl))))
  p:=hc.keep h.p (hD _ (.inr (.inl rfl)))
  row:=by
   obtain⟨e1,h2⟩:=h.row;refine⟨e1,?_⟩;rcases h2 with h2|⟨g,cap,cur,rfl,hb,hg,h3⟩
   ·exact .inl h2
   ·exact .inr ⟨g,cap,cur,rfl,hb,hc.keep hg (hD _ (.inr (.inr (.inr rfl)))),h3⟩
  cy:=hC _ (.inl rfl)
  cp:=hC _ (.inr (.inl rfl))
  cv:=hC _ (.inr (.inr (.inl rfl)))
  cr:=fun b hb=>hC _ (.inr (.inr (.inr hb))) }
theorem It.later (h:It C W n0 l yb pb vb pv q) (hb:Below W.heap.size W W'):It C W' n0 l yb pb vb pv q :=
 h.chg (D:=fun _=>False) (Chg.of_below hb) (fun _ _ h=>h) (fun b hb=>by
  rcases hb with rfl|rfl|rfl|hb
  ·exact h.cy
  ·exact h.cp
  ·exact h.cv
  ·exact h.cr b hb)
theorem It.put (h:It C W n0 l yb pb vb pv q) (ho:W'.ownsRow n0 3 1 pv' q'.length (q'.map fun x=>Value.int .i64 x)) (hq:∀ x∈q',I64 x) (hg:W.grownBy W' pv.ownBlock)
  (aR:∀ b,pv'.ownBlock=some b->pv.ownBlock=some b\/W.heap.size<=b) (hC:∀ b,C b->b<W.heap.size):It C (W'.setCell ⟨pb,0,none⟩ pv') n0 l yb pb vb pv' q':=by
 have hlt:=h.lt;have hc:Chg (fun b=>b=pb\/pv.ownBlock=some b) W (W'.setCell ⟨pb,0,none⟩ pv'):=((Chg.row hg).mono fun _ _ h=>.inr h).setCell (.inl (.inl rfl)) _;have hp':W'.heap[pb]?=some (.cells #[pv] 24 (0,0)):=(hg.block _ (zki h.p) (fun e=>h.rp e.symm)).trans h.p;have jy:pv'.ownBlock≠some pb:=fun e=>by
  rcases aR _ e with e|e
  ·exact h.rp e
  ·have:=hlt.2.1;omega
 refine { h with
  y:=hc.keep h.y (fun hh=>by rcases hh with hh|hh;exact h.nyp hh;exact h.ry hh)
  v:=hc.keep h.v (fun hh=>by rcases hh with hh|hh;exact h.nvp hh;exact h.rv hh)
  p:=by have:=heap_setCell_same W' pb 0 _ _ pv' hp';simpa using this
  row:=?_
  fits:=hq
  ry:=fun e=>by
   rcases aR _ e with e|e
   ·exact h.ry e
   ·have:=hlt.1;omega
  rp:=jy
  rv:=fun e=>by
   rcases aR _ e with e|e
   ·exact h.rv e
   ·have:=hlt.2.2.1;omega
  cr:=fun b hb hcb=>by
   rcases aR _ hb with e|e
   ·exact h.cr b e hcb
   ·have:=hC b hcb;omega }
 obtain⟨e1,h2⟩:=ho;refine⟨e1,?_⟩;rcases h2 with h2|⟨g,cap,cur,rfl,hb,hg',h3⟩
 ·exact .inl h2
 ·refine .inr ⟨g,cap,cur,rfl,hb,?_,h3⟩;rw[Below.heap_setCell _ _ _ _ (fun e=>jy (by subst e;rfl))];exact hg'
end
def VisP (J Jx:List T->(Nat->Prop)->World->Prop) (n0 l yb pb vb:Nat) (pre xs:List T) (C:Nat->Prop) (pv:Value) (q:List Int) (W:World) (e:Ending) (W':World):Prop :=
 (e=.returned (.bool true)/\∃ C' pv',J (pre++xs) C' W'/\It C' W' n0 l yb pb vb pv' q/\(∀ b,C' b->C b\/W.heap.size<=b)/\(∀ b,pv'.ownBlock=some b->pv.ownBlock=some b\/W.heap.size<=b)/\Chg (fun b=>C b\/b=pb\/pv.ownBlock=some b) W W') \/
 (e=.returned (.bool false)/\∃ pre' C',Jx pre' C' W'/\Chg (fun b=>C b\/b=pb\/pv.ownBlock=some b) W W')
def VInv (J:List T->(Nat->Prop)->World->Prop) (n0 l yb pb vb:Nat) (pre:List T) (t:T) (done:List T) (C:Nat->Prop) (pv:Value) (q:List Int) (W0 wr:World) (C':Nat->Prop) (pv':Value):Prop :=
 J (pre++(t::done)) C' wr/\It C' wr n0 l yb pb vb pv' q/\(∀ b,C' b->C b\/W0.heap.size<=b)/\(∀ b,pv'.ownBlock=some b->pv.ownBlock=some b\/W0.heap.size<=b)/\Chg (fun b=>C b\/b=pb\/pv.ownBlock=some b) W0 wr
theorem zye:IsFn Tryz.prog 76 Tryz.f76:=⟨Tryz.func76,by kernel_rfl,by kernel_rfl⟩
def zLI (w:World) (xs:List Int) (v:Value) (w':World):Prop:=∃ A' c',v=.slice A' xs.length c'/\RowI w' (From w.heap.size) A' xs/\xs.length<=c'/\Below w.heap.size w w'
theorem zn8 {P:Program} {f:FuncId} {args:Array Value} {w:World} {xs:List Int} (h:Calls P f args w (NewI w xs)):Calls P f args w fun e w'=>∃ v,e=.returned v/\zLI w xs v w' :=
 h.mono fun _ _ ⟨A,c,he,hn⟩=>⟨_,he,A,c,rfl,hn⟩
theorem zuU (n l n0 yb pb vb:Nat) (R:Nat->Prop) (xs:List T) (J Jx:List T->(Nat->Prop)->World->Prop) (hJ:∀ pre C W W',J pre C W->Chg (fun b=>¬ C b) W W'->J pre C W') (kQ:∀ pre C W,J pre C W->∀ b,C b->b<W.heap.size)
  (hR:∀ b,R b->b<n0) (hl0:l<n0)
  (hY:∀ pre x C W pv v,J pre C W->(pre++[x]) <+: xs->(∃ A m c,pv=.slice A m c)->NV W (fun b=>l<b) x v ->
   YieldAt (Fw none) (n-1) Tryz.prog l #[pv,v] W fun e W' =>
    (e=.returned (.bool true)/\∃ C',J (pre++[x]) C' W'/\(∀ b,C' b->C b\/W.heap.size<=b)/\Chg C W W') \/
    (e=.returned (.bool false)/\∃ C',Jx (pre++[x]) C' W'/\Chg C W W')) (t:T) :
  ∀ (pre:List T) (C:Nat->Prop) (W:World) (pv:Value) (q:List Int) (v:Value),J pre C W->It C W n0 l yb pb vb pv q->NV W R t v->(∀ b,C b->¬ R b)->(pre++po t) <+: xs->q.length+dep t<=1000 ->
   Calls Tryz.prog 168 #[v,.pointer (some ⟨yb,0,none⟩),.pointer (some ⟨pb,0,none⟩),.pointer (some ⟨vb,0,none⟩)] W (VisP J Jx n0 l yb pb vb pre (po t) C pv q W):=by
 have HJ:=zh hJ;have iP:=zh kQ;have HY:=zh hY;have HRR:=zh hR;clear hJ kQ hY hR;obtain⟨i0,hi0,hz0,hz1,hz2⟩:=info_parts zpy
 induction t using T.ind with
 | _ k nn s ks ih =>
 intro pre C W pv q v hj hit hv qc hpre hdep;have nK:=zh ih;have vH:=zh hj;have HIT:=zh hit;have HV:=zh hv;have HCR:=zh qc;have HPRE:=zh hpre;obtain⟨A,c,rfl,hf,hlk,hlc,hrow⟩:=hv.open_;simp only[T.k_nd,T.n_nd,T.s_nd,T.ks_nd] at *
 have ak:=zkx hlk;have ae:=zh hrow;have hlts:=hit.lt;obtain⟨Ap,cp,rfl,hcp,aU⟩:=zly hit.row hit.fits;have dM:=zh aU;have HLT:=zh hlts;have uP:=hlts.1;have hlp:=hlts.2.1;have hlv:=hlts.2.2.1;clear ih hj hit hv qc hpre hrow aU hlts hcp hlc;simp only[dep] at hdep;have mi:q.length<=1000:=by omega
 go_enter Tryz.func168,Tryz.ntmps168;go_upto_region 1 with fail;have hbW:=(Below.refl W.heap.size W).alloc (Nat.le_refl _) (.cells #[.int .u8 k,.int .i64 nn,.string s,.slice A ks.length c] 29);obtain⟨W0,hW0⟩:∃ W0,W.alloc (.cells #[.int .u8 k,.int .i64 nn,.string s,.slice A ks.length c] 29)=W0:=⟨_,rfl⟩
 rw[hW0] at hbW ⊢;have hnb:W0.heap[W.heap.size]?=some (.cells #[.int .u8 k,.int .i64 nn,.string s,.slice A ks.length c] 29 (0,0)):=by rw[<-hW0];exact heap_alloc_new W _
 have HZ0:=zh (show W0.heap.size=W.heap.size+1 by rw[<-hW0];simp);have aN:=zh hbW;have sI:=zh hnb;have fM:=zh (HIT.out.later hbW);have HS:=zh (show ∀ w':World,w'.heap[yb]?=W0.heap[yb]?->w'.heap[pb]?=W0.heap[pb]?->w'.heap[W.heap.size]?=W0.heap[W.heap.size]?->(fun w':World=>(w'.cell? ⟨yb,0,none⟩=some (.func (.yield l) #[] #[]))/\(w'.cell? ⟨pb,0,none⟩=some (.slice Ap q.length cp))/\(w'.cell? ⟨W.heap.size,0,none⟩=some (.int .u8 k)/\w'.cell? ⟨W.heap.size,1,none⟩=some (.int .i64 nn)/\w'.cell? ⟨W.heap.size,2,none⟩=some (.string s)/\w'.cell? ⟨W.heap.size,3,none⟩=some (.slice A ks.length c))) w' from fun w' h1 h2 h3=>⟨zc (h1.trans fM.out.y) rfl,zc (h2.trans fM.out.p) rfl,box4 (h3.trans hnb)⟩)
 have jf:=zh (show ∀ w':World,Below W0.heap.size W0 w'->(fun w':World=>(w'.cell? ⟨yb,0,none⟩=some (.func (.yield l) #[] #[]))/\(w'.cell? ⟨pb,0,none⟩=some (.slice Ap q.length cp))/\(w'.cell? ⟨W.heap.size,0,none⟩=some (.int .u8 k)/\w'.cell? ⟨W.heap.size,1,none⟩=some (.int .i64 nn)/\w'.cell? ⟨W.heap.size,2,none⟩=some (.string s)/\w'.cell? ⟨W.heap.size,3,none⟩=some (.slice A ks.length c))) w' from fun w' h=>HS.out w' (h.block _ (by have:=fM.out.lt.1;omega)) (h.block _ (by have:=fM.out.lt.2.1;omega)) (h.block _ (zki hnb)));clear hW0 hbW hnb;have hdr:=(Below.refl W0.heap.size W0).drew
 have hSS:(fun w':World=>(w'.cell? ⟨yb,0,none⟩=some (.func (.yield l) #[] #[]))/\(w'.cell? ⟨pb,0,none⟩=some (.slice Ap q.length cp))/\(w'.cell? ⟨W.heap.size,0,none⟩=some (.int .u8 k)/\w'.cell? ⟨W.heap.size,1,none⟩=some (.int .i64 nn)/\w'.cell? ⟨W.heap.size,2,none⟩=some (.string s)/\w'.cell? ⟨W.heap.size,3,none⟩=some (.slice A ks.length c))) W0.drew:=jf.out _ hdr;refine wp_region_noPanic ?_;refine(wpIn_wide (n:=n)).1 ?_;refine zqJ (ro:=none) (fun w':World=>(w'.cell? ⟨yb,0,none⟩=some (.func (.yield l) #[] #[]))/\(w'.cell? ⟨pb,0,none⟩=some (.slice Ap q.length cp))/\(w'.cell? ⟨W.heap.size,0,none⟩=some (.int .u8 k)/\w'.cell? ⟨W.heap.size,1,none⟩=some (.int .i64 nn)/\w'.cell? ⟨W.heap.size,2,none⟩=some (.string s)/\w'.cell? ⟨W.heap.size,3,none⟩=some (.slice A ks.length c))) (by kernel_rfl) ?_
 refine znX (i:=0) (v:=?_) rfl (by kernel_rfl) (by kernel_rfl) (by kernel_rfl) (by kernel_rfl) (fun _ _ _ h=>h) (Or.inl ⟨by rfl,?_⟩) hSS ?_;rotate_left 1
 ·(intro w hSw;(try dsimp only at hSw);(try simp only[zA,zB,zC]);go_simp;(try with_reducible rfl))
 (try simp only[zQ]);refine znX (i:=1) (v:=?_) rfl (by kernel_rfl) (by kernel_rfl) (by kernel_rfl) (by kernel_rfl) (fun _ _ _ h=>h) (Or.inl ⟨by rfl,?_⟩) hSS ?_;rotate_left 1
 ·(intro w hSw;(try dsimp only at hSw);(try simp only[zA,zB,zC]);go_simp;(try with_reducible rfl))
 (try simp only[zQ]);refine znX (i:=3) (v:=?_) rfl (by kernel_rfl) (by kernel_rfl) (by kernel_rfl) (by kernel_rfl) (fun _ _ _ h=>h) (Or.inl ⟨by rfl,?_⟩) hSS ?_;rotate_left 1
 ·(intro w hSw;(try dsimp only at hSw);(try simp only[zA,zB,zC]);go_simp;(try with_reducible rfl))
 (try simp only[zQ]);refine zuR (i:=2) (by kernel_rfl) rfl (by kernel_rfl) (by rfl) (fun K hK=>?_);refine zlM (by rfl) (.func 49) (.tmp 9) _ (by rfl) 49 _ znq (by rfl) _ (by rfl) _ (zn8 (zqI q Ap cp _ _ ((dM.out.later aN.out).later hdr) (by unfold LI;omega))) ?_;rintro v2 w2 ⟨A2,c2,rfl,_,_,ag⟩;have b2:=zka hdr ag;have aB:(fun w':World=>(w'.cell? ⟨yb,0,none⟩=some (.func (.yield l) #[] #[]))/\(w'.cell? ⟨pb,0,none⟩=some (.slice Ap q.length cp))/\(w'.cell? ⟨W.heap.size,0,none⟩=some (.int .u8 k)/\w'.cell? ⟨W.heap.size,1,none⟩=some (.int .i64 nn)/\w'.cell? ⟨W.heap.size,2,none⟩=some (.string s)/\w'.cell? ⟨W.heap.size,3,none⟩=some (.slice A ks.length c))) w2:=jf.out _ b2;refine hK.out _ _ aB ?_;clear hK K hSS;(try simp only[zQ]);refine zuR (i:=4) (by kernel_rfl) rfl (by kernel_rfl) (by rfl) (fun K hK=>?_)
 refine zlM (by rfl) (.func 76) (.tmp 11) _ (by rfl) 76 _ zye (by rfl) _ (by rfl) _ (zvx (zmE (.nd k nn s ks) _ _ ((HV.out.later aN.out).later b2).any)) ?_;rintro v3 w3 ⟨k3,n3,s3,A3,l3,c3,rfl,gu,az⟩;have b3:=zka b2 az;have aW:(fun w':World=>(w'.cell? ⟨yb,0,none⟩=some (.func (.yield l) #[] #[]))/\(w'.cell? ⟨pb,0,none⟩=some (.slice Ap q.length cp))/\(w'.cell? ⟨W.heap.size,0,none⟩=some (.int .u8 k)/\w'.cell? ⟨W.heap.size,1,none⟩=some (.int .i64 nn)/\w'.cell? ⟨W.heap.size,2,none⟩=some (.string s)/\w'.cell? ⟨W.heap.size,3,none⟩=some (.slice A ks.length c))) w3:=jf.out _ b3;refine hK.out _ _ aW ?_;clear hK K aB;(try simp only[zQ]);have r9:=zka aN.out b3;have tF:=HJ.out _ _ _ _ vH.out (Chg.of_below r9);have hit3:=HIT.out.later r9;obtain⟨yfn,ytmps,yas,ybo,hyr,hyR⟩:=HY.out pre (.nd k nn s ks) C w3 (.slice A2 q.length c2) (nv k3 n3 s3 A3 l3 c3) tF (by
  have:=HPRE.out;simp only[po] at this;exact(List.prefix_append_right_inj pre).2 ⟨_,rfl⟩ |>.trans this) ⟨_,_,_,rfl⟩ (gu.mono fun b hb=>by have h1:=HIT.out.gp;have h2:=b2.size;have h3:=HZ0.out;have h4:w2.heap.size<=b:=hb;omega)
 refine zuQ (i:=5) (by kernel_rfl) rfl (by kernel_rfl) (by rfl) (l:=l) (f:=yfn) (tmps:=ytmps) (assign:=yas) (body:=ybo) ?_ hyR ?_
 ·(try simp only[zA,zB,zC]);go_simp
 ·clear hyr hyR;rintro e W1 (⟨rfl,C1,hj1,bC,dz⟩|⟨rfl,C1,hjx1,dz⟩)
  ·have iF:(fun w':World=>(w'.cell? ⟨yb,0,none⟩=some (.func (.yield l) #[] #[]))/\(w'.cell? ⟨pb,0,none⟩=some (.slice Ap q.length cp))/\(w'.cell? ⟨W.heap.size,0,none⟩=some (.int .u8 k)/\w'.cell? ⟨W.heap.size,1,none⟩=some (.int .i64 nn)/\w'.cell? ⟨W.heap.size,2,none⟩=some (.string s)/\w'.cell? ⟨W.heap.size,3,none⟩=some (.slice A ks.length c))) W1:=HS.out _ ((dz.block _ (by have:=hit3.lt.1;omega) hit3.cy).trans (b3.block _ (by have:=fM.out.lt.1;omega))) ((dz.block _ (by have:=hit3.lt.2.1;omega) hit3.cp).trans (b3.block _ (by have:=fM.out.lt.2.1;omega))) ((dz.block _ (by have:=r9.size;have:=b3.size;have:=HZ0.out;omega) (fun h=>by have:=iP.out _ _ _ vH.out _ h;omega)).trans (b3.block _ (by have:=HZ0.out;omega)));refine⟨_,rfl,iF,?_⟩;(try simp only[zQ])
   refine znX (i:=6) (v:=?_) rfl (by kernel_rfl) (by kernel_rfl) (by kernel_rfl) (by kernel_rfl) (fun _ _ _ h=>h) (Or.inl ⟨by rfl,?_⟩) iF ?_;rotate_left 1
   ·(intro w hSw;(try dsimp only at hSw);(try simp only[zA,zB,zC]);go_simp;(try with_reducible rfl))
   (try simp only[zQ]);refine ztb (by kernel_rfl) ?_;refine NoPanic.normal ?_;obtain⟨_,_,_,_,_,m3⟩:=iF;have hit1:It C1 W1 n0 l yb pb vb (.slice Ap q.length cp) q:=hit3.chg dz (fun b hb=>by
    rcases hb with rfl|rfl|rfl|hb
    ·exact hit3.cy
    ·exact hit3.cp
    ·exact hit3.cv
    ·exact hit3.cr b hb) (fun b hb hc=>by
    have hl3:=hit3.lt;rcases bC b hc with h|h
    ·rcases hb with rfl|rfl|rfl|hb
     ·exact hit3.cy h
     ·exact hit3.cp h
     ·exact hit3.cv h
     ·exact hit3.cr b hb h
    ·rcases hb with rfl|rfl|rfl|hb
     ·omega
     ·omega
     ·omega
     ·have:=hl3.2.2.2 b hb;omega)
   have HI0:=zh (show VInv J n0 l yb pb vb pre (.nd k nn s ks) [] C (.slice Ap q.length cp) q W0 W1 C1 (.slice Ap q.length cp) from ⟨hj1,hit1,fun b hb=>by
    have:=b3.size;rcases bC b hb with h|h
    ·exact .inl h
    ·exact .inr (by omega),fun b hb=>.inl hb,(Chg.of_below b3).trans2 dz fun b _ h=>.inl h⟩)
   clear hj1 bC dz aW tF hit3 hit1 b3 b2 r9 ag az gu hdr vH fM jf HS dM;go_wp2_with fail
   go_loopw [18] (fun i wr=>∃ (j:Nat) (C':Nat->Prop) (pv':Value),j<=ks.length/\i=.int .i64 j/\VInv J n0 l yb pb vb pre (.nd k nn s ks) (pos (ks.take j)) C (.slice Ap q.length cp) q W0 wr C' pv') (fun i _=>ks.length-(intOf i).toNat)
   case atStart=>exact⟨0,C1,_,Nat.zero_le _,rfl,HI0.out⟩
   case round =>
    obtain⟨j,C',pv',hj,rfl,hinv⟩:=hrel;have ah:=zh hinv;clear m3 HI0;by_cases hlt:j<ks.length
    ·obtain⟨hjj,hit,nX,aR,hch⟩:=hinv;have hn0p:=hit.gp;have hrow:=ae.out.keep (w':=wr) (S':=R) (fun b hb _=>hb) (fun b hb hblt=>by
      have hb0:=HRR.out b hb;rw[hch.block b (by have:=HZ0.out;omega) (fun h=>by
       rcases h with h|h|h
       ·exact HCR.out b h hb
       ·omega
       ·have:=HLT.out.2.2.2 b h;omega)]
      exact aN.out.block b hblt)
     obtain⟨a,u,A1,c1,rfl,_,Hu,⟨q0,q1,q2,q3⟩,hnu⟩:=hrow.nd hlt;obtain⟨Aq,cq,rfl,_,_⟩:=zly hit.row hit.fits;have p1:wr.cell? ⟨pb,0,none⟩=some (.slice Aq q.length cq):=zc hit.p rfl;have pE:=hit.lt;have jQ:=iP.out _ _ _ hjj;have hn0w:n0<=wr.heap.size:=by have:=pE.2.1;omega
     have hsz0:=hch.size;have bk:Below wr.heap.size wr ((wr.alloc (.cells #[.int .u8 u.k,.int .i64 u.n,.string u.s,.slice A1 u.ks.length c1] 29)).alloc (.cells #[.int .i64 (j:Int)] 3)):=((Below.refl _ _).alloc (Nat.le_refl _) _).alloc (by simp) _;have mG:=hit.later bk;have hpk:=mG.p;have p2:(wr.alloc (.cells #[.int .u8 u.k,.int .i64 u.n,.string u.s,.slice A1 u.ks.length c1] 29)).cell? ⟨pb,0,none⟩=some (.slice Aq q.length cq):=zke p1 _;have hm1:q.length+1<=maxLen:=by unfold maxLen;omega
     have hm2:(q.length+1)*8<=140737488355328:=by omega
     have HJJ:=zh hjj;have iQ:=zh mG;have qW:=zh hit;have qL:=zh hnu;have aI:=zh nX;have oz:=zh aR;have HCHR:=zh hch;have vE:=zh pE;have dO:=zh jQ;have hrowk:=mG.row;have hbI:=zpQ;have hnew:∀ (i:Nat) (u':Value),[Value.int .i64 (j:Int)][i]?=some u'->((wr.alloc (.cells #[.int .u8 u.k,.int .i64 u.n,.string u.s,.slice A1 u.ks.length c1] 29)).alloc (.cells #[.int .i64 (j:Int)] 3)).cell? ((⟨wr.heap.size+1,0,none⟩:Addr).add i)=some u':=fun i u' h=>by
      have:=zk3 (wr.alloc (.cells #[.int .u8 u.k,.int .i64 u.n,.string u.s,.slice A1 u.ks.length c1] 29)) 3 [Value.int .i64 (j:Int)] i u' h;simpa using this
     clear hjj hit nX aR hch hrow hnu mG jQ pE
     go_wp2_with (at_builtin;refine wpList_append_own_at (P:=Tryz.prog) _ rfl (.tmp 23) (.tmp 25) 24 rfl n0 3 i0 _ 1 8 Tryz.underlying24 hi0 hz0 hz1 hz2 rfl (by decide) (.slice Aq q.length cq) q.length _ rfl hrowk ⟨wr.heap.size+1,0,none⟩ 1 1 [.int .i64 (j:Int)] rfl rfl hnew (by intro u' hu';simp at hu';subst hu';rfl) hm1 hm2 (by simp;omega) ?_;intro v2 w2 h2 h3 h4 h5;obtain⟨g2,cap2,rfl⟩:=ownsRow_succ h2;have hbx:=(h3.block _ (zki hpk) (fun e=>iQ.out.rp e.symm)).trans hpk;have hy0:w2.cell? ⟨pb,0,none⟩=some (.slice Aq q.length cq):=zc hbx rfl;have hy1:w2.frozen? ⟨pb,0,none⟩=false:=zf hbx;have dZ:∀ b,(Value.slice (some ⟨g2,0,none⟩) (q.length+1) cap2).ownBlock=some b->(Value.slice Aq q.length cq).ownBlock=some b\/((wr.alloc (.cells #[.int .u8 u.k,.int .i64 u.n,.string u.s,.slice A1 u.ks.length c1] 29)).alloc (.cells #[.int .i64 (j:Int)] 3)).heap.size<=b:=(fun b hb=>by rcases h5 with h5|h5;exact .inl (h5▸hb);exact .inr (by rw[hb] at h5;injection h5 with h5;omega));have hst:=iQ.out.put (q':=q++[(j:Int)]) (by simpa using h2) (by intro x hx;simp only[List.mem_append,List.mem_singleton] at hx;rcases hx with hx|rfl;exact iQ.out.fits x hx;exact⟨by omega,by omega⟩) h3 dZ (fun b hb=>by have:=dO.out b hb;simp;omega);have hkb:w2.heap[wr.heap.size]?=some (.cells #[.int .u8 u.k,.int .i64 u.n,.string u.s,.slice A1 u.ks.length c1] 29 (0,0)):=(h3.block _ (by simp;omega) (fun e=>by have:=vE.out.2.2.2 _ e.symm;omega)).trans (zkl (heap_alloc_new wr (.cells #[.int .u8 u.k,.int .i64 u.n,.string u.s,.slice A1 u.ks.length c1] 29)) _);have hvb:w2.heap[vb]?=some _:=(h3.block _ (zki iQ.out.v) (fun e=>iQ.out.rv e.symm)).trans iQ.out.v;have y3:w2.cell? ⟨vb,0,none⟩=some (.func (.func 168) #[] #[.pointer (some ⟨yb,0,none⟩),.pointer (some ⟨pb,0,none⟩),.pointer (some ⟨vb,0,none⟩)]):=zc hvb rfl;obtain⟨k0,k1,k2,k3'⟩:=box4 hkb;have HST:=zh hst;have sO:=zh h3;have HOB2:=zh dZ;have hne1:¬ wr.heap.size=pb:=(fun e=>by have:=vE.out.2.1;omega);have hne2:¬ pb=wr.heap.size:=(fun e=>hne1 e.symm);have hne3:¬ vb=pb:=iQ.out.nvp;have hne4:¬ pb=vb:=(fun e=>hne3 e.symm);clear h2 h3 h4 h5 hst hbx hkb hvb dZ)
     have kF:Chg (fun b=>b=pb\/(Value.slice Aq q.length cq).ownBlock=some b) wr (w2.setCell ⟨pb,0,none⟩ (.slice (some ⟨g2,0,none⟩) (q.length+1) cap2)):=((((Chg.refl _ wr).alloc _).alloc _).trans2 (Chg.row sO.out) (fun b _ h=>.inr h)).setCell (.inl (.inl rfl)) _;have hszA:=kF.size;have hjA:J (pre++((.nd k nn s ks)::pos (ks.take j))) C' (w2.setCell ⟨pb,0,none⟩ (.slice (some ⟨g2,0,none⟩) (q.length+1) cap2)):=HJ.out _ _ _ _ HJJ.out (kF.mono fun b _ hb hc=>by
      rcases hb with rfl|hb
      ·exact qW.out.cp hc
      ·exact qW.out.cr b hb hc)
     have hnA:NV (w2.setCell ⟨pb,0,none⟩ (.slice (some ⟨g2,0,none⟩) (q.length+1) cap2)) R u (nv u.k u.n u.s A1 u.ks.length c1):=qL.out.keep (fun b hb _=>hb) (fun b hb hblt=>kF.block b hblt (fun h=>by
      have hb0:=HRR.out b hb;rcases h with h|h
      ·have:=qW.out.gp;omega
      ·have:=(vE.out.2.2.2 b h).1;omega))
     have hCRA:∀ b,C' b->¬ R b:=fun b hb hr=>by
      rcases aI.out b hb with h|h
      ·exact HCR.out b h hr
      ·have:=HRR.out b hr;have:=HIT.out.gp;have:=HZ0.out;omega
     have hpreA:(pre++((.nd k nn s ks)::pos (ks.take j)))++po u <+: xs:=by
      have h:=HPRE.out;refine List.IsPrefix.trans ?_ h;rw[List.append_assoc];refine(List.prefix_append_right_inj pre).2 ?_;simp only[po,List.cons_append,List.prefix_cons_inj];rw[<-Hu.out];exact zzG hlt
     have hdA:(q++[(j:Int)]).length+dep u<=1000:=by
      have:dep u<=deps ks:=by rw[<-Hu.out];exact zoL (List.getElem_mem hlt)
      simp;omega
     have HC:=zh (nK.out u (by rw[<-Hu.out];exact List.getElem_mem hlt) _ C' _ _ _ _ hjA HST.out hnA hCRA hpreA hdA);have HCHA:=zh kF;have HSZA:=zh hszA;have hE:=HST.out.lt.2.1;clear hjA hnA hCRA hpreA hdA kF hszA;have HCHW:=zh (show Chg (fun b=>C b\/b=pb\/(Value.slice Ap q.length cp).ownBlock=some b) W0 (w2.setCell ⟨pb,0,none⟩ (.slice (some ⟨g2,0,none⟩) (q.length+1) cap2)) from HCHR.out.trans2 HCHA.out fun b hb h=>by
      rcases h with h|h
      ·exact .inr (.inl h)
      ·rcases oz.out b h with h|h
       ·exact .inr (.inr h)
       ·omega)
     have qK:=zh (show ∀ b,(Value.slice (some ⟨g2,0,none⟩) (q.length+1) cap2).ownBlock=some b->(Value.slice Ap q.length cp).ownBlock=some b\/W0.heap.size<=b from fun b hb=>by
      rcases HOB2.out b hb with h|h
      ·exact oz.out b h
      ·exact .inr (by simp at h;omega))
     refine HC.out.mono ?_;rintro e W5 (⟨rfl,C2,vU,hj2,hit2,hC2,hob3,aV⟩|⟨rfl,pre',C2,ku,aV⟩)
     ·have hrow2:=hit2.row;rw[show(q++[(j:Int)]).length=q.length+1 by simp] at hrow2;obtain⟨g3,iI,rfl⟩:=ownsRow_succ hrow2;have hcap3:q.length<=iI:=by
       rcases hrow2.2 with⟨h,_⟩|⟨g',cap',cur,hv',_,_,hc',_⟩
       ·cases h
       ·cases hv';omega
      have hcap4:(q.length:Int)<=(iI:Int):=by omega
      have hlt2:=hit2.lt;have x0:W5.cell? ⟨pb,0,none⟩=some (.slice (some ⟨g3,0,none⟩) (q.length+1) iI):=zc hit2.p rfl;have x1:W5.frozen? ⟨pb,0,none⟩=false:=zf hit2.p;have mq:=ownsRow_pop (size:=1) (n:=q.length) (xs:=q.map fun x=>Value.int .i64 x) (last:=[.int .i64 (j:Int)]) (by simp) (by simpa using hrow2);have hC2l:=iP.out _ _ _ hj2;have gK:=hit2.put (q':=q) mq HIT.out.fits (zlZ _ _) (fun b hb=>.inl hb) hC2l;have hjF:J (pre++((.nd k nn s ks)::pos (ks.take (j+1)))) C2 (W5.setCell ⟨pb,0,none⟩ (.slice (some ⟨g3,0,none⟩) q.length iI)):=by
       have:=HJ.out _ _ _ _ hj2 (((Chg.refl (fun b=>b=pb) W5).setCell (p:=⟨pb,0,none⟩) (.inl rfl) (.slice (some ⟨g3,0,none⟩) q.length iI)).mono fun b _ hb hc=>by rw[show b=pb from hb] at hc;exact hit2.cp hc);rw[ztq hlt,Hu.out];simpa using this
      have HF:=zh (show VInv J n0 l yb pb vb pre (.nd k nn s ks) (pos (ks.take (j+1))) C (.slice Ap q.length cp) q W0 (W5.setCell ⟨pb,0,none⟩ (.slice (some ⟨g3,0,none⟩) q.length iI)) C2 (.slice (some ⟨g3,0,none⟩) q.length iI) from ⟨hjF,gK,fun b hb=>by
        rcases hC2 b hb with h|h
        ·exact aI.out b h
        ·exact .inr (by have:=HSZA.out;omega),fun b hb=>by
        rcases hob3 b hb with h|h
        ·exact qK.out b h
        ·exact .inr (by have:=HSZA.out;omega),(HCHW.out.trans2 aV fun b hb h=>by
        rcases h with h|h|h
        ·rcases aI.out b h with h|h
         ·exact .inl h
         ·omega
        ·exact .inr (.inl h)
        ·rcases qK.out b h with h|h
         ·exact .inr (.inr h)
         ·omega).setCell (.inl (.inr (.inl rfl))) _⟩)
      clear hrow2 hlt2 mq hC2l gK hjF hj2 hit2 hC2 hob3 aV;go_wp2_with fail
      go_roundw
      case rel=>exact⟨j+1,C2,_,by omega,by go_num,HF.out⟩
      case measure=>simp[intOf];omega
     ·have HX:=zh ku;have HF:=zh (show Chg (fun b=>C b\/b=pb\/(Value.slice Ap q.length cp).ownBlock=some b) W W5 from (Chg.of_below aN.out).trans2 (HCHW.out.trans2 aV fun b hb h=>by
        rcases h with h|h|h
        ·rcases aI.out b h with h|h
         ·exact .inl h
         ·omega
        ·exact .inr (.inl h)
        ·rcases qK.out b h with h|h
         ·exact .inr (.inr h)
         ·omega) fun b _ h=>h)
      clear ku aV;go_wp2_with fail;go_ret;exact .inr ⟨rfl,_,_,HX.out,HF.out⟩
    ·obtain rfl:j=ks.length:=by omega
     clear hinv;go_wp2_with fail;go_ret;have hinv:=ah.out;rw[List.take_of_length_le (Nat.le_refl _)] at hinv;obtain⟨hjj,hit,nX,aR,hch⟩:=hinv;refine .inl ⟨rfl,C',pv',by simpa[po] using hjj,hit,fun b hb=>(nX b hb).imp id fun h=>?_,fun b hb=>(aR b hb).imp id fun h=>?_,(Chg.of_below aN.out).trans2 hch fun b _ h=>h⟩
     ·have:=HZ0.out;omega
     ·have:=HZ0.out;omega
  ·have iF:(fun w':World=>(w'.cell? ⟨yb,0,none⟩=some (.func (.yield l) #[] #[]))/\(w'.cell? ⟨pb,0,none⟩=some (.slice Ap q.length cp))/\(w'.cell? ⟨W.heap.size,0,none⟩=some (.int .u8 k)/\w'.cell? ⟨W.heap.size,1,none⟩=some (.int .i64 nn)/\w'.cell? ⟨W.heap.size,2,none⟩=some (.string s)/\w'.cell? ⟨W.heap.size,3,none⟩=some (.slice A ks.length c))) W1:=HS.out _ ((dz.block _ (by have:=hit3.lt.1;omega) hit3.cy).trans (b3.block _ (by have:=fM.out.lt.1;omega))) ((dz.block _ (by have:=hit3.lt.2.1;omega) hit3.cp).trans (b3.block _ (by have:=fM.out.lt.2.1;omega))) ((dz.block _ (by have:=r9.size;have:=b3.size;have:=HZ0.out;omega) (fun h=>by have:=iP.out _ _ _ vH.out _ h;omega)).trans (b3.block _ (by have:=HZ0.out;omega)));refine⟨_,rfl,iF,?_⟩;(try simp only[zQ])
   refine znX (i:=6) (v:=?_) rfl (by kernel_rfl) (by kernel_rfl) (by kernel_rfl) (by kernel_rfl) (fun _ _ _ h=>h) (Or.inl ⟨by rfl,?_⟩) iF ?_;rotate_left 1
   ·(intro w hSw;(try dsimp only at hSw);(try simp only[zA,zB,zC]);go_simp;(try with_reducible rfl))
   (try simp only[zQ]);refine ztb (by kernel_rfl) ?_;refine NoPanic.normal ?_;have qV:=zh hjx1;have fO:=zh ((Chg.of_below (C:=fun b=>C b\/b=pb\/(Value.slice Ap q.length cp).ownBlock=some b) r9).trans2 dz fun b _ h=>.inl h);clear hjx1 dz iF aW tF hit3;go_wp2_with fail;go_ret;exact .inr ⟨rfl,_,_,qV.out,fO.out⟩
theorem zpU (n gr:Nat) (t:T) (W:World) (S:Nat->Prop) (k nn:Int) (s:ByteArray) (A:Option Addr) (m c:Nat) (hgr:W.heap[gr]?=some (.cells #[.int .u8 k,.int .i64 nn,.string s,.slice A m c] 29 (0,0)))
  (hn:NV W S t (nv k nn s A m c)) (hd:dep t<=1000):zLh n Tryz.prog 167 #[.pointer (some ⟨gr,0,none⟩)] (po t) (fun b=>b=gr\/S b) W:=by
 intro l J Jx C W1 hl0 qc hch hJ kQ hY h0;refine(callsIn_wide (n:=n)).2 ?_;have mH:=hch.keep hgr fun h=>qc _ h (.inl rfl);have hn1:NV W1 (fun b=>S b/\b<W1.heap.size) t (nv k nn s A m c):=hn.keep (fun b hb hlt=>⟨hb,Nat.lt_of_lt_of_le hlt hch.size⟩) fun b hb hlt=>hch.block b hlt fun h=>qc _ h (.inr hb);have hgl:=zki mH;have HJ:=zh hJ;have iP:=zh kQ;have HY:=zh hY;have H0:=zh h0;have HN:=zh hn1;have sO:=zh mH;have HC:=zh (show ∀ b,C b->¬ (S b/\b<W1.heap.size) from fun b hb hs=>qc b hb (.inr hs.1));obtain⟨m0,m1,m2,m3⟩:=box4 mH;have z0:=fun o1 o2 o3=>zke (zke (zke m0 o1) o2) o3;have z1:=fun o1 o2 o3=>zke (zke (zke m1 o1) o2) o3;have z2:=fun o1 o2 o3=>zke (zke (zke m2 o1) o2) o3;have z3:=fun o1 o2 o3=>zke (zke (zke m3 o1) o2) o3;clear qc hch hJ kQ hY h0 hgr hn hn1 mH m0 m1 m2 m3
 show Calls Tryz.prog 167 #[.func (.yield l) #[] #[],.pointer (some ⟨gr,0,none⟩)] W1 _
 go_enter Tryz.func167,Tryz.ntmps167;go_wp2_with fail;obtain⟨Wv,tK⟩:∃ Wv,(((W1.alloc (.cells #[.func (.yield l) #[] #[]] 218)).alloc (.cells #[.slice none 0 0] 24)).alloc (.cells #[.func (.func 168) #[] #[.pointer (some ⟨W1.heap.size,0,none⟩),.pointer (some ⟨W1.heap.size+1,0,none⟩),.pointer (some ⟨W1.heap.size+1+1,0,none⟩)]] 105))=Wv:=⟨_,rfl⟩
 have hb3:Below W1.heap.size W1 Wv:=by rw[<-tK];exact zkb (zkb (zkb (Below.refl _ _) _) _) _
 have hit:It C Wv W1.heap.size l W1.heap.size (W1.heap.size+1) (W1.heap.size+1+1) (.slice none 0 0) []:=by
  have jQ:=iP.out _ _ _ H0.out;have hy:=zkl (zkl (heap_alloc_new W1 (.cells #[.func (.yield l) #[] #[]] 218)) (.cells #[.slice none 0 0] 24)) (.cells #[.func (.func 168) #[] #[.pointer (some ⟨W1.heap.size,0,none⟩),.pointer (some ⟨W1.heap.size+1,0,none⟩),.pointer (some ⟨W1.heap.size+1+1,0,none⟩)]] 105);have hp:=zkl (heap_alloc_new (W1.alloc (.cells #[.func (.yield l) #[] #[]] 218)) (.cells #[.slice none 0 0] 24)) (.cells #[.func (.func 168) #[] #[.pointer (some ⟨W1.heap.size,0,none⟩),.pointer (some ⟨W1.heap.size+1,0,none⟩),.pointer (some ⟨W1.heap.size+1+1,0,none⟩)]] 105);have hv:=heap_alloc_new ((W1.alloc (.cells #[.func (.yield l) #[] #[]] 218)).alloc (.cells #[.slice none 0 0] 24)) (.cells #[.func (.func 168) #[] #[.pointer (some ⟨W1.heap.size,0,none⟩),.pointer (some ⟨W1.heap.size+1,0,none⟩),.pointer (some ⟨W1.heap.size+1+1,0,none⟩)]] 105)
  simp only[World.size_alloc] at hp hv;rw[tK] at hy hp hv;exact⟨hy,hv,hp,World.ownsRow_nil _ _ _ _,(by simp),by omega,by omega,by omega,by omega,by omega,by simp[Value.ownBlock],by simp[Value.ownBlock],by simp[Value.ownBlock],
   (fun h=>by have:=jQ _ h;omega),(fun h=>by have:=jQ _ h;omega),(fun h=>by have:=jQ _ h;omega),(by simp[Value.ownBlock])⟩
 rw[tK];have hj:=HJ.out _ _ _ _ H0.out (Chg.of_below hb3);refine(zuU n l W1.heap.size W1.heap.size (W1.heap.size+1) (W1.heap.size+1+1) (fun b=>S b/\b<W1.heap.size) (po t) J Jx HJ.out iP.out (fun b hb=>hb.2) hl0 HY.out t [] C Wv (.slice none 0 0) [] _ hj hit (HN.out.later hb3) HC.out (by simp) (by simpa using hd)).mono ?_;rintro e W5 (⟨rfl,C2,vU,hj2,-,-,-,aV⟩|⟨rfl,pre',C2,ku,aV⟩)
 ·have HF:=zh (show Chg C W1 W5 from (Chg.of_below hb3).trans2 aV fun b hb h=>by
   rcases h with h|h|h
   ·exact h
   ·omega
   ·simp[Value.ownBlock] at h)
  have HX:=zh hj2;clear hj2 aV z0 z1 z2 z3 tK hit hj;go_wp2_with fail;go_end0;exact⟨⟨_,rfl⟩,.inl ⟨C2,by simpa using HX.out,HF.out⟩⟩
 ·have HF:=zh (show Chg C W1 W5 from (Chg.of_below hb3).trans2 aV fun b hb h=>by
   rcases h with h|h|h
   ·exact h
   ·omega
   ·simp[Value.ownBlock] at h)
  have HX:=zh ku;clear ku aV z0 z1 z2 z3 tK hit hj;go_wp2_with fail;go_end0;exact⟨⟨_,rfl⟩,.inr ⟨pre',C2,HX.out,HF.out⟩⟩
theorem zt4 (t:T) (v:Value) (w:World) (hv:NV w Any t v):Calls Tryz.prog 141 #[v] w fun e w'=>∃ gr k n s A m c,e=.returned (.func (.func 167) #[] #[.pointer (some ⟨gr,0,none⟩)])/\w.heap.size<=gr /\
  w'.heap[gr]?=some (.cells #[.int .u8 k,.int .i64 n,.string s,.slice A m c] 29 (0,0))/\NV w' (fun b=>w.heap.size<=b/\b<w'.heap.size) t (nv k n s A m c)/\Below w.heap.size w w':=by
 have HV:=zh hv;obtain⟨A,c,rfl,-⟩:=hv.open_;clear hv;generalize t.k=k,t.n=n,t.s=s,t.ks.length=m at *
 go_enter Tryz.func141,Tryz.ntmps141;go_wp2_with fail;refine(zmE t _ _ (HV.out.later ((Below.refl _ _).alloc (Nat.le_refl _) _))).mono ?_;rintro e w1 ⟨k1,n1,s1,A1,m1,c1,rfl,hn1,aa⟩;have hb:Below w.heap.size w (w1.alloc (.cells #[.int .u8 k1,.int .i64 n1,.string s1,.slice A1 m1 c1] 29)):=zkb (zka (zkb (Below.refl _ _) _) aa) _;have HB:=zh hb;have HZ:=zh (show w.heap.size<=w1.heap.size by have:=aa.size;simp at this;omega);have HN:=zh hn1;clear aa hn1 hb;go_wp2_with fail;go_ret;refine⟨w1.heap.size,k1,n1,s1,A1,m1,c1,rfl,HZ.out,heap_alloc_new w1 _,HN.out.keep (fun b hb hlt=>⟨?_,by simp;omega⟩) (fun b _ hlt=>Below.heap_alloc w1 _ b hlt),HB.out⟩;have hb':w.heap.size+1<=b:=by simpa using hb
 omega
theorem zvX:IsFn Tryz.prog 167 Tryz.f167:=⟨Tryz.func167,by kernel_rfl,by kernel_rfl⟩
structure FS (W:World) (n0 fb N:Nat) (pv:Value):Prop where
 box:W.heap[fb]?=some (.cells #[pv] 106 (0,0))
 row:∃ xs,W.ownsRow n0 154 4 pv N xs
 ge:n0<=fb
 ne:pv.ownBlock≠some fb
section
variable {W W':World} {n0 fb N N':Nat} {pv pv':Value}
theorem FS.lt (h:FS W n0 fb N pv):fb<W.heap.size/\∀ b,pv.ownBlock=some b->n0<=b/\b<W.heap.size:=⟨zki h.box,let ⟨_,hr⟩:=h.row;hr.lt⟩
theorem FS.chg {C:Nat->Prop} (h:FS W n0 fb N pv) (hc:Chg C W W') (hC:∀ b,b=fb\/pv.ownBlock=some b->¬ C b):FS W' n0 fb N pv:=by
 refine⟨hc.keep h.box (hC _ (.inl rfl)),?_,h.ge,h.ne⟩;obtain⟨xs,e1,h2⟩:=h.row;refine⟨xs,e1,?_⟩;rcases h2 with h2|⟨g,cap,cur,rfl,hb,hg,h3⟩
 ·exact .inl h2
 ·exact .inr ⟨g,cap,cur,rfl,hb,hc.keep hg (hC _ (.inr rfl)),h3⟩
theorem FS.later (h:FS W n0 fb N pv) (hb:Below W.heap.size W W'):FS W' n0 fb N pv:=h.chg (C:=fun _=>False) (Chg.of_below hb) (fun _ _ h=>h)
theorem FS.put (h:FS W n0 fb N pv) (ho:∃ xs,W'.ownsRow n0 154 4 pv' N' xs) (hg:W.grownBy W' pv.ownBlock) (aR:∀ b,pv'.ownBlock=some b->pv.ownBlock=some b\/W.heap.size<=b) :
  FS (W'.setCell ⟨fb,0,none⟩ pv') n0 fb N' pv':=by
 have hp':W'.heap[fb]?=some (.cells #[pv] 106 (0,0)):=(hg.block _ (zki h.box) (fun e=>h.ne e.symm)).trans h.box;have jy:pv'.ownBlock≠some fb:=fun e=>by
  rcases aR _ e with e|e
  ·exact h.ne e
  ·have:=zki h.box;omega
 refine⟨by have:=heap_setCell_same W' fb 0 _ _ pv' hp';simpa using this,?_,h.ge,jy⟩;obtain⟨xs,e1,h2⟩:=ho;refine⟨xs,e1,?_⟩;rcases h2 with h2|⟨g,cap,cur,rfl,hb,hg',h3⟩
 ·exact .inl h2
 ·refine .inr ⟨g,cap,cur,rfl,hb,?_,h3⟩;rw[Below.heap_setCell _ _ _ _ (fun e=>jy (by subst e;rfl))];exact hg'
theorem FS.slice (h:FS W n0 fb N pv):∃ A c,pv=.slice A N c:=by
 obtain⟨xs,e1,h2⟩:=h.row;rcases h2 with⟨rfl,rfl⟩|⟨g,cap,cur,rfl,_⟩
 ·exact⟨_,_,rfl⟩
 ·exact⟨_,_,rfl⟩
end
def RepP (W:World) (n0 fb:Nat) (pv:Value) (N':Nat) (e:Ending) (W':World):Prop :=
 (∃ v,e=.returned v)/\∃ pv',FS W' n0 fb N' pv'/\(∀ b,pv'.ownBlock=some b->pv.ownBlock=some b\/W.heap.size<=b)/\Chg (fun b=>b=fb\/pv.ownBlock=some b) W W'
def one1 (e:Int):Nat:=if e=0 then 0 else 1
theorem zz7:(Tryz.prog.info? 154).map (fun i=>(i.zero,i.size,i.bytes))=some (some (.agg #[.int .i64 0,.slice none 0 0,.int .i64 0,.string ⟨#[]⟩]),4,56):=by kernel_rfl
theorem zK9 (p:Int) (A:Option Addr) (l c:Nat) (e:Int) (s:ByteArray) (w:World):(Instr.build 154 #[(0,.int .i64 p),(1,.slice A l c),(2,.int .i64 e),(3,.string s)]).run Tryz.prog w=.ok (.agg #[.int .i64 p,.slice A l c,.int .i64 e,.string s]) w:=by kernel_rfl
theorem zKl (a0 a1 a2 a3:Value) (w:World):(Instr.buildSlice 106 1 #[(0,.agg #[a0,a1,a2,a3])]).run Tryz.prog w=.ok (.slice (some ⟨w.heap.size,0,none⟩) 1 1) (w.alloc (.cells #[a0,a1,a2,a3] 154)):=by kernel_rfl
theorem znk (n0 fb N:Nat) (pv:Value) (pr er:Int) (q:List Int) (A:Option Addr) (c:Nat) (s:ByteArray) (S:Nat->Prop) (W:World) (hfs:FS W n0 fb N pv) (hq:RowI W S A q) (mi:q.length<=100000) (hN:N<=1000000) :
  Calls Tryz.prog 92 #[.int .i64 pr,.slice A q.length c,.string s,.int .i64 er,.pointer (some ⟨fb,0,none⟩)] W (RepP W n0 fb pv (N+one1 er)):=by
 obtain⟨i0,hi0,hz0,hz1,hz2⟩:=info_parts zz7;obtain⟨Ap,cp,rfl⟩:=hfs.slice;have uu:=zh hfs;have HQ:=zh hq;have hc0:W.cell? ⟨fb,0,none⟩=some (.slice Ap N cp):=zc hfs.box rfl;have hbf:=zK9;have hbs:=zKl;have hge:=hfs.ge;have hlf:=hfs.lt.1;clear hfs hq;by_cases he:er=0
 ·subst he;clear hc0;go_enter Tryz.func92,Tryz.ntmps92;go_wp2_with fail;go_end0;exact⟨⟨_,rfl⟩,_,uu.out,fun b hb=>.inl hb,Chg.refl _ _⟩
 ·have e1:(er==0)=false:=by simpa using he
  have e2:(er != 0)=true:=by simpa using he
  have HONE:=zh (show one1 er=1 by simp[one1,he]);rw[HONE.out];clear he;go_enter Tryz.func92,Tryz.ntmps92;go_upto_region 1 with fail;have hSS:(fun _:World=>True) W.drew/\(fun w':World=>w'.cell? ⟨fb,0,none⟩=some (.slice Ap N cp)) W.drew:=⟨trivial,hc0⟩
  refine wp_region_noPanic ?_;refine zkc (fun _:World=>True) (fun w':World=>w'.cell? ⟨fb,0,none⟩=some (.slice Ap N cp)) 8 (by kernel_rfl) ?_;refine zkV (i:=0) (v:=?_) rfl (by kernel_rfl) (by kernel_rfl) (by kernel_rfl) (by decide) rfl (by kernel_rfl) (by kernel_rfl) (fun _ _ _ h=>h) (Or.inl ⟨by rfl,?_⟩) hSS ?_;rotate_left 1
  ·(intro w hSw;(try dsimp only at hSw);(try simp only[zA,zB,zC]);go_simp;(try with_reducible rfl))
  (try simp only[zQ]);refine zT 1 hSS ?_;(try simp only[zQ]);refine zT 2 hSS ?_;(try simp only[zQ]);refine zT 4 hSS ?_;(try simp only[zQ]);refine zT 5 hSS ?_;(try simp only[zQ]);refine zo 3 fun K hK=>?_;refine zlM (by rfl) (.func 49) (.tmp 13) _ (by rfl) 49 _ znq (by rfl) _ (by rfl) _ (zn8 (zqI q A c S _ (HQ.out.later (Below.refl _ _).drew) (by unfold LI;omega))) ?_;rintro v2 w2 ⟨A2,c2,rfl,_,_,ag⟩;have b2:=zka (Below.refl W.heap.size W).drew ag;have gQ:=uu.out.later b2;have g2:w2.cell? ⟨fb,0,none⟩=some (.slice Ap N cp):=zc gQ.box rfl;have aB:(fun _:World=>True) w2/\(fun w':World=>w'.cell? ⟨fb,0,none⟩=some (.slice Ap N cp)) w2:=⟨trivial,g2⟩
  refine hK.out _ _ aB ?_;clear hK K hSS;(try simp only[zQ]);refine zT 6 aB ?_;(try simp only[zQ]);refine zo 7 fun K hK=>?_;(try simp only[zA,zB,zC]);go_simp;refine hK.out _ _ ⟨trivial,zke g2 _⟩ ?_;clear hK K aB;(try simp only[zQ]);obtain⟨xs,hrow⟩:=gQ.row;have hl2:=gQ.lt;refine zp 8 fun K hK=>?_;refine zlh (by rfl) (.tmp 11) (.tmp 18) 106 (by rfl) n0 154 i0 _ 4 56 Tryz.underlying106 hi0 hz0 hz1 hz2 rfl (by decide) (.slice Ap N cp) N xs (by rfl) (hrow.alloc _) ⟨w2.heap.size,0,none⟩ 1 1 [.int .i64 pr,.slice A2 q.length c2,.int .i64 er,.string s] (by rfl) rfl (zk3 w2 _ _) (by intro u hu;simp at hu;rcases hu with rfl|rfl|rfl|rfl<;>rfl) (by unfold maxLen;omega) (by omega) (by simp;omega) ?_;intro v' w' h2 h3 h5
  have hput:=gQ.put (W':=w') (pv':=v') (N':=N+1) ⟨_,h2⟩ ⟨h3.os,h3.tape,h3.output,Nat.le_trans (by simp) h3.size,fun b hb hne=>(h3.block b (by simp;omega) hne).trans (Below.heap_alloc w2 _ b hb)⟩ (fun b hb=>by rcases h5 with h5|h5;exact .inl (h5▸hb);exact .inr (by rw[h5] at hb;injection hb with hb;simp at hb;omega));have o7:∀ b,v'.ownBlock=some b->(Value.slice Ap N cp).ownBlock=some b\/W.heap.size<=b:=fun b hb=>by
   have:=b2.size;rcases h5 with h5|h5
   ·exact .inl (h5▸hb)
   ·exact .inr (by rw[h5] at hb;injection hb with hb;simp at hb;omega)
  have hch:Chg (fun b=>b=fb\/(Value.slice Ap N cp).ownBlock=some b) W (w'.setCell ⟨fb,0,none⟩ v'):=(((Chg.of_below b2).alloc _).trans2 (Chg.row h3) (fun b _ h=>.inr h)).setCell (.inl (.inl rfl)) _;have hbx:=(h3.block _ (by have:=zki gQ.box;simp;omega) (fun e=>gQ.ne e.symm)).trans (zkl gQ.box _);have hy0:w'.cell? ⟨fb,0,none⟩=some (.slice Ap N cp):=zc hbx rfl;have hy1:w'.frozen? ⟨fb,0,none⟩=false:=zf hbx;obtain⟨g8,ay,rfl⟩:=ownsRow_succ h2;have HP:=zh hput;have HO:=zh o7;have fO:=zh hch;clear hput o7 hch hbx h2 h3 h5 hrow gQ;refine hK.out _ _ trivial ?_;clear hK K;(try simp only[zQ]);refine zp 9 fun K hK=>?_;(try simp only[zA,zB,zC]);go_simp;refine hK.out _ _ trivial ?_;clear hK K;(try simp only[zQ]);refine zd ?_;refine NoPanic.normal ?_;go_wp2_with fail;go_end0;exact⟨⟨_,rfl⟩,_,HP.out,HO.out,fO.out⟩
structure RepC (f:FuncId) (cap:Array Value) (Rd:World->Prop) (n0 fb:Nat):Prop where
 fn:∃ fn,IsFn Tryz.prog f fn
 keep:∀ W W' pv N,Rd W->FS W n0 fb N pv->Chg (fun b=>b=fb\/pv.ownBlock=some b) W W'->Rd W'
 call:∀ (N:Nat) (pv:Value) (er:Int) (q:List Int) (A:Option Addr) (c:Nat) (s:ByteArray) (S:Nat->Prop) (W:World),Rd W->FS W n0 fb N pv->RowI W S A q->q.length<=100000->N<=1000000 ->
  Calls Tryz.prog f (#[.slice A q.length c,.string s,.int .i64 er]++cap) W (RepP W n0 fb pv (N+one1 er))
theorem FS.other {W:World} {n0 fb N:Nat} {pv:Value} {b:Nat} {cs:Array Value} {E:TypeId} (h:FS W n0 fb N pv) (hb:W.heap[b]?=some (.cells cs E (0,0))) (h1:E≠106) (h2:E≠154):¬ (b=fb\/pv.ownBlock=some b):=by
 rintro(rfl|ho)
 ·have:=h.box;rw[hb] at this;injection this with this;injection this with _ e;exact h1 e
 ·obtain⟨xs,e1,h2'⟩:=h.row;rcases h2' with⟨rfl,_⟩|⟨g,cap,cur,rfl,_,hg,_⟩
  ·simp[Value.ownBlock] at ho
  ·simp[Value.ownBlock] at ho;subst ho;rw[hb] at hg;injection hg with hg;injection hg with _ e;exact h2 e
theorem zK0:IsFn Tryz.prog 96 Tryz.f96:=⟨Tryz.func96,by kernel_rfl,by kernel_rfl⟩
theorem zKZ:IsFn Tryz.prog 97 Tryz.f97:=⟨Tryz.func97,by kernel_rfl,by kernel_rfl⟩
theorem zt9 (n0 fb rb ib:Nat) (k:Int):RepC 96 #[.pointer (some ⟨rb,0,none⟩),.pointer (some ⟨ib,0,none⟩)]
  (fun W=>W.heap[rb]?=some (.cells #[.func (.func 92) #[] #[.pointer (some ⟨fb,0,none⟩)]] 155 (0,0))/\W.heap[ib]?=some (.cells #[.int .i64 k] 3 (0,0))) n0 fb where
 fn:=⟨_,zK0⟩
 keep W W' pv N h hfs hc:=⟨hc.keep h.1 (hfs.other h.1 (by decide) (by decide)),hc.keep h.2 (hfs.other h.2 (by decide) (by decide))⟩
 call N pv er q A c s S W h hfs hq mi hN:=by
  have x0:W.cell? ⟨rb,0,none⟩=some (.func (.func 92) #[] #[.pointer (some ⟨fb,0,none⟩)]):=zc h.1 rfl;have x1:W.cell? ⟨ib,0,none⟩=some (.int .i64 k):=zc h.2 rfl;have HC:=zh (znk n0 fb N pv k er q A c s S W hfs hq mi hN);clear h hfs hq
  show Calls Tryz.prog 96 #[.slice A q.length c,.string s,.int .i64 er,.pointer (some ⟨rb,0,none⟩),.pointer (some ⟨ib,0,none⟩)] W _
  go_enter Tryz.func96,Tryz.ntmps96;go_wp2_with fail;refine HC.out.mono ?_;rintro e W' ⟨⟨v,rfl⟩,hp⟩;have HP:=zh hp;clear hp;go_wp2_with fail;go_end0;exact⟨⟨_,rfl⟩,HP.out⟩
theorem zy2 (n0 fb rb pb:Nat) (A1:Option Addr) (l1 c1:Nat) (A2:Option Addr) (l2 c2:Nat) (k n:Int) (sn:ByteArray) (A3:Option Addr) (l3 c3:Nat):RepC 97 #[.pointer (some ⟨rb,0,none⟩),.pointer (some ⟨pb,0,none⟩)]
  (fun W=>W.heap[rb]?=some (.cells #[.func (.func 92) #[] #[.pointer (some ⟨fb,0,none⟩)]] 155 (0,0))/\W.heap[pb]?=some (.cells #[.slice A1 l1 c1,.slice A2 l2 c2,.int .u8 k,.int .i64 n,.string sn,.slice A3 l3 c3] 35 (0,0))) n0 fb where
 fn:=⟨_,zKZ⟩
 keep W W' pv N h hfs hc:=⟨hc.keep h.1 (hfs.other h.1 (by decide) (by decide)),hc.keep h.2 (hfs.other h.2 (by decide) (by decide))⟩
 call N pv er q A c s S W h hfs hq mi hN:=by
  have x0:W.cell? ⟨rb,0,none⟩=some (.func (.func 92) #[] #[.pointer (some ⟨fb,0,none⟩)]):=zc h.1 rfl;have x1:W.cell? ⟨pb,1,none⟩=some (.slice A2 l2 c2):=zc h.2 rfl;have HC:=zh (znk n0 fb N pv l2 er q A c s S W hfs hq mi hN);clear h hfs hq
  show Calls Tryz.prog 97 #[.slice A q.length c,.string s,.int .i64 er,.pointer (some ⟨rb,0,none⟩),.pointer (some ⟨pb,0,none⟩)] W _
  go_enter Tryz.func97,Tryz.ntmps97;go_wp2_with fail;refine HC.out.mono ?_;rintro e W' ⟨⟨v,rfl⟩,hp⟩;have HP:=zh hp;clear hp;go_wp2_with fail;go_end0;exact⟨⟨_,rfl⟩,HP.out⟩
end Go.Proofs.YtckhofdinldhpaaGreat
