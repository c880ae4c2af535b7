/-
  Texts of the proof, put together without their remarks: Nw, St, In, Tq, Stf.
-/
import Derived.Test.YtghbhbdnkjjnnaaGreatN3
import Derived.Deep.OwnRows
import Derived.Shelf.Slices.Cells
import Derived.Shelf.Spec.SlicesInsertGrow
set_option linter.unusedSimpArgs false
set_option linter.unusedVariables false
set_option maxHeartbeats 8000000
set_option maxRecDepth 100000
namespace Go.Proofs.YtghbhbdnkjjnnaaGreat
open Go Go.RowKit
def newS (vs:List VD) (s:SS):ST:=⟨⟨vs,List.range vs.length,0⟩,[],fun i=>s.cells.getD i [],vs.length,s.tin,s.tout⟩
def FR.snoc (f:FR) (v:VD) (id:Nat):FR:=⟨f.vs++[v],f.cs++[id],f.loc⟩
theorem zr4 (vs:List VD) (s:SS) (j:Nat) (hj:j<vs.length) (l:List Int) (hl:s.cells.getD j []=l) :
  ((newS (vs.take j) s).newCell l).setCur ((newS (vs.take j) s).base.snoc vs[j] j)=newS (vs.take (j+1)) s:=by
 have h0:((newS (vs.take j) s).newCell l).calls.length=0:=rfl;have e1:(vs.take j).length=j:=by rw[List.length_take];omega
 have e2:(vs.take (j+1)).length=j+1:=by rw[List.length_take];omega
 have e3:vs.take (j+1)=vs.take j++[vs[j]]:=List.take_succ_eq_append_getElem hj;simp only[ST.setCur,h0,if_true];simp only[newS,ST.newCell,FR.snoc,e1,e3];congr 1
 ·rw[<-e3,e2,List.range_succ]
 ·funext i;by_cases e:i=j
  ·subst e;simp[<-hl]
  ·simp[e]
 ·rw[<-e3,e2]
theorem zpt:∀ {vs:List VD} {ls:List (List Int)} (i:Nat) (h:i<vs.length) (h':i<ls.length),zlJ vs ls=true->fit1 vs[i] ls[i]=true
 | v::vs,l::ls,0,_,_,h=>by simp only[zlJ,Bool.and_eq_true] at h;exact h.1
 | v::vs,l::ls,i+1,h,h',h0=>by
  simp only[zlJ,Bool.and_eq_true] at h0;exact zpt i (by simpa using h) (by simpa using h') h0.2
theorem zl6 {vs:List VD} {s:SS} (h:fitB vs s=true):vs.length<=32/\s.cells.length=vs.length/\s.tin.length<=4096/\s.tout.length<=4096/\∀ i (hi:i<vs.length) (hi':i<s.cells.length),vdB vs[i]=true/\fit1 vs[i] s.cells[i]=true:=by
 simp only[fitB,svB,Bool.and_eq_true,decide_eq_true_eq] at h;obtain⟨⟨⟨⟨⟨h1,h2⟩,h3⟩,h4⟩,h5⟩,h6⟩:=h;exact⟨h1,h3,h4,h5,fun i hi hi'=>⟨List.all_eq_true.1 h2 _ (List.getElem_mem hi),zpt i hi hi' h6⟩⟩
theorem zr5 {vs:List VD} {s:SS} (h:fitB vs s=true) (hf:∀ v∈vs,FldV v) (hc:∀ l∈s.cells,∀ x∈l,I64 x) (hi:∀ x∈s.tin,I64 x) (ho:∀ x∈s.tout,I64 x) (j:Nat) (hj:j<=vs.length):(newS (vs.take j) s).WF:=by
 obtain⟨h32,hlen,h1,h2,hall⟩:=zl6 h;have e1:(vs.take j).length=j:=by rw[List.length_take];omega
 refine⟨⟨fun i=>((vs.getD i ⟨⟨#[]⟩,0,0⟩).k,(vs.getD i ⟨⟨#[]⟩,0,0⟩).n),⟨by simp[newS],by simp[newS],by simp only[newS,e1];omega,fun v hv=>hf v (List.mem_of_mem_take hv),fun c hc=>by simpa[newS] using hc,fun i hi hi'=>?_⟩,by simp[newS],fun i hi=>?_⟩,by simp[newS],fun i hi=>?_,⟨h1,hi⟩,⟨h2,ho⟩⟩
 ·simp only[newS,e1] at hi hi' ⊢;have:i<vs.length:=by omega
  simp[this]
 ·simp only[newS,e1] at hi ⊢;have hv:i<vs.length:=by omega
  have hv':i<s.cells.length:=by omega
  obtain⟨a1,a2⟩:=hall i hv hv';simp only[List.getD_eq_getElem?_getD,List.getElem?_eq_getElem hv,List.getElem?_eq_getElem hv',Option.getD_some];unfold vdB at a1;unfold fit1 at a2;refine⟨fun hk=>?_,fun hk=>?_,?_⟩
  ·rw[if_neg (by omega)] at a2;have:=of_decide_eq_true a2;simp only[fixE,hk,if_true] at this;omega
  ·rw[if_neg (by omega)] at a2;have:=of_decide_eq_true a2;simp only[fixE,hk] at this;simpa using this
  ·split at a1
   ·next h=>rcases h with h|h<;>simp[h]
   ·split at a1
    ·next h=>simp[h]
    ·cases a1
 ·simp only[newS,e1] at hi ⊢;have hv:i<vs.length:=by omega
  have hv':i<s.cells.length:=by omega
  obtain⟨a1,a2⟩:=hall i hv hv';simp only[List.getD_eq_getElem?_getD,List.getElem?_eq_getElem hv',Option.getD_some];refine⟨?_,hc _ (List.getElem_mem hv')⟩;unfold vdB at a1;unfold fit1 at a2
  split at a2
  ·exact of_decide_eq_true a2
  ·have:=of_decide_eq_true a2;unfold fixE at this
   split at this
   ·omega
   ·next hk hk1 =>
    rw[if_neg (by omega)] at a1
    split at a1
    ·have:=of_decide_eq_true a1;omega
    ·cases a1
theorem zpW {W w2:World} {n0:Nat} {P:Ph} {S:ST} (h:SR W n0 P S) (hb:Below W.heap.size W w2) (v:Value) (l:List Int) (ho:w2.ownsRow W.heap.size 3 1 v l.length (zki l)) :
  Stp n0 (rows P S) W (rows (P.newCell S w2.heap.size v) (S.newCell l)) (w2.alloc (.cells #[v] 117)):=by
 have hn:n0<=W.heap.size:=by have:=h.rws.lt .sb P.sb rfl;omega
 have hs:=hb.size;have s1:=Stp.take2 (W':=w2.alloc (.cells #[v] 117)) h.rws (zkc hb _) (.cb S.nc) (.ci S.nc) (by simp) ⟨boxV w2.heap.size,117,1,1,[v]⟩ ⟨v,3,1,l.length,zki l⟩
  (zm4 w2 n0 _ [_] (by omega) rfl) (zk6 (ho.alloc _) hn) (fun b e=>by simp[Value.ownBlock] at e;omega) (fun b e=>(ho.lt b e).1) (fun b e e2=>by simp[Value.ownBlock] at e;have:=(ho.lt b e2).2;omega)
 exact s1.cast (zme h.wf P w2.heap.size v l).symm
theorem ztE {W W':World} {n0:Nat} {P:Ph} {S:ST} (v:VD) (id:Nat) (vv vc:Value) (hlen:S.cur.cs.length=S.cur.vs.length)
  (hst:Stp n0 (rows P S) W (updR (updR (updR (rows P S) (vI S) ⟨vv,76,3,S.cur.vs.length+1,zkQ S.cur.vs++[.string v.s,.int .u8 v.k,.int .i64 v.n]⟩) (cI S) ⟨vc,115,1,S.cur.vs.length+1,ptrs P.cb S.cur.cs++[.pointer (some ⟨P.cb id,0,none⟩)]⟩) (hI S) { rows P S (hI S) with xs:=((rows P S (hI S)).xs.set (oI S) vv).set (oI S+1) vc }) W') :
  Stp n0 (rows P S) W (rows (P.setCur S vv vc) (S.setCur (S.cur.snoc v id))) W':=by
 refine hst.cast ?_;rw[zmC];obtain⟨_,_,g3⟩:=zoV P S;have e1:(S.cur.snoc v id).vs.length=S.cur.vs.length+1:=by simp[FR.snoc]
 have e2:(S.cur.snoc v id).cs.length=S.cur.vs.length+1:=by simp[FR.snoc,hlen]
 have e3:zkQ (S.cur.snoc v id).vs=zkQ S.cur.vs++[.string v.s,.int .u8 v.k,.int .i64 v.n]:=zot _ _;have e4:ptrs P.cb (S.cur.snoc v id).cs=ptrs P.cb S.cur.cs++[.pointer (some ⟨P.cb id,0,none⟩)]:=by simp[FR.snoc,ptrs]
 rw[e1,e2,e3,e4];have e5:(((rows P S (hI S)).xs.set (oI S) vv).set (oI S+1) vc).set (oI S+2) (.int .i64 (S.cur.snoc v id).loc)=((rows P S (hI S)).xs.set (oI S) vv).set (oI S+1) vc:=by
  have hl:oI S+2<(rows P S (hI S)).xs.length:=(List.getElem?_eq_some_iff.1 g3).1;refine List.ext_getElem? fun q=>?_;by_cases e:q=oI S+2
  ·subst e;rw[List.getElem?_set_self (by simpa using hl),List.getElem?_set_ne (by omega),List.getElem?_set_ne (by omega),g3];rfl
  ·rw[List.getElem?_set_ne (by omega)]
 rw[e5]
theorem zq7 {W w2 w3:World} {vI vO:Value} {tb:Nat} {s:SS} (hwf:(newS [] s).WF) (hb:Below W.heap.size W w2) (h1:w2.heap[tb]?=some (.cells #[vI,vO] 150 (0,0))) (ht:W.heap.size<=tb)
  (o1:w2.ownsRow W.heap.size 3 1 vI s.tin.length (zki s.tin)) (o2:w2.ownsRow W.heap.size 3 1 vO s.tout.length (zki s.tout)) (n1:vI.ownBlock≠some tb) (n2:vO.ownBlock≠some tb) (n3:∀ b,vI.ownBlock=some b->vO.ownBlock≠some b)
  (hw:w3=w2.alloc (.cells #[.slice none 0 0,.slice none 0 0,.int .i64 0,.slice none 0 0,.pointer (some ⟨tb,0,none⟩)] 113)) :
  SR w3 W.heap.size ⟨w2.heap.size,tb,vI,vO,.slice none 0 0,.slice none 0 0,.slice none 0 0,fun _=>.slice none 0 0,fun _=>.slice none 0 0,fun _=>0,fun _=>.slice none 0 0⟩ (newS [] s):=by
 subst hw;have hs:=hb.size;have htb:=zkj h1;refine⟨⟨fun i=>?_,?_⟩,hwf⟩
 ·cases i with
  | sb=>exact zm4 w2 W.heap.size _ [_,_,_,_,_] hs rfl
  | tb=>exact⟨rfl,.inr ⟨tb,1,#[vI,vO],rfl,ht,zkf h1 _,Nat.le_refl _,by decide,rfl,rfl⟩⟩
  | tin=>exact o1.alloc _
  | tout=>exact o2.alloc _
  | bv=>exact World.ownsRow_nil _ _ _ _
  | bc=>exact World.ownsRow_nil _ _ _ _
  | calls=>exact World.ownsRow_nil _ _ _ _
  | fv i=>exact World.ownsRow_nil _ _ _ _
  | fc i=>exact World.ownsRow_nil _ _ _ _
  | cb i=>simp only[rows,newS,List.length_nil,Nat.not_lt_zero,if_false];exact World.ownsRow_nil _ _ _ _
  | ci i=>simp only[rows,newS,List.length_nil,Nat.not_lt_zero,if_false];exact World.ownsRow_nil _ _ _ _
  | x i=>exact World.ownsRow_nil _ _ _ _
 ·have key:∀ (i:Res) b,(rows ⟨w2.heap.size,tb,vI,vO,.slice none 0 0,.slice none 0 0,.slice none 0 0,fun _=>.slice none 0 0,fun _=>.slice none 0 0,fun _=>0,fun _=>.slice none 0 0⟩ (newS [] s) i).v.ownBlock=some b->(i=.sb/\b=w2.heap.size)\/(i=.tb/\b=tb)\/(i=.tin/\vI.ownBlock=some b)\/(i=.tout/\vO.ownBlock=some b):=fun i b hb=>by
   cases i with
   | sb=>simp[rows,Value.ownBlock] at hb;exact .inl ⟨rfl,hb.symm⟩
   | tb=>simp[rows,Value.ownBlock] at hb;exact .inr (.inl ⟨rfl,hb.symm⟩)
   | tin=>exact .inr (.inr (.inl ⟨rfl,hb⟩))
   | tout=>exact .inr (.inr (.inr ⟨rfl,hb⟩))
   | bv=>simp[rows,Value.ownBlock] at hb
   | bc=>simp[rows,Value.ownBlock] at hb
   | calls=>simp[rows,Value.ownBlock] at hb
   | fv i=>simp[rows,newS,nilR,Value.ownBlock] at hb
   | fc i=>simp[rows,newS,nilR,Value.ownBlock] at hb
   | cb i=>simp[rows,newS,nilR,Value.ownBlock] at hb
   | ci i=>simp[rows,newS,nilR,Value.ownBlock] at hb
   | x i=>simp[rows,nilR,Value.ownBlock] at hb
  intro i j b hij h1 h2;have l1:=fun b (e:vI.ownBlock=some b)=>(o1.lt b e).2;have l2:=fun b (e:vO.ownBlock=some b)=>(o2.lt b e).2;rcases key i b h1 with⟨e1,a1⟩|⟨e1,a1⟩|⟨e1,a1⟩|⟨e1,a1⟩<;>rcases key j b h2 with⟨e2,a2⟩|⟨e2,a2⟩|⟨e2,a2⟩|⟨e2,a2⟩
  ·exact hij (e1.trans e2.symm)
  ·omega
  ·have:=l1 b a2;omega
  ·have:=l2 b a2;omega
  ·omega
  ·exact hij (e1.trans e2.symm)
  ·subst a1;exact n1 a2
  ·subst a1;exact n2 a2
  ·have:=l1 b a1;omega
  ·subst a2;exact n1 a1
  ·exact hij (e1.trans e2.symm)
  ·exact n3 b a1 a2
  ·have:=l2 b a1;omega
  ·subst a2;exact n2 a1
  ·exact n3 b a2 a1
  ·exact hij (e1.trans e2.symm)
theorem Rws.mono {I:Type} {W:World} {n0 n1:Nat} {d:I->RowD} (h:Rws W n1 d) (hn:n0<=n1):Rws W n0 d:=⟨fun i=>zk6 (h.row i) hn,h.sep⟩
theorem SR.mono {W:World} {n0 n1:Nat} {P:Ph} {S:ST} (h:SR W n1 P S) (hn:n0<=n1):SR W n0 P S:=⟨h.rws.mono hn,h.wf⟩
theorem zwl {vs:List VD} {s:SS} {j:Nat} {hj:j<vs.length} {l:List Int} {hl:s.cells.getD j []=l} {W:World} {n1:Nat} {P:Ph} (h:Rws W n1 (rows P ((newS (vs.take j) s).newCell l))) (hm:j<=1000) (sb b:Nat) (hsb:P.sb=sb) (hb:P.cb j=b) (v:VD) (hv:vs[j]=v) :
  Calls Tryz.prog 60 [.pointer (some ⟨sb,0,none⟩),.agg #[.string v.s,.int .u8 v.k,.int .i64 v.n],.pointer (some ⟨b,0,none⟩)].toArray W fun e W'=>∃ u,e=.returned u/\∃ P',Stp n1 (rows P ((newS (vs.take j) s).newCell l)) W (rows P' (newS (vs.take (j+1)) s)) W'/\P'.sb=sb:=by
 subst hsb hb hv;have e1:(vs.take j).length=j:=by rw[List.length_take];omega
 have hadd:=zqc h .sb .bv .bc (by simp) (by simp) (by simp) P.sb 0 rfl rfl rfl (zkQ (vs.take j)) (ptrs P.cb (List.range j)) j (by simp[rows,newS,ST.newCell,e1]) (by simp[rows,newS,ST.newCell,e1]) (by omega) vs[j] (some ⟨P.cb j,0,none⟩);refine hadd.mono ?_;rintro e W' ⟨⟨u,hu⟩,vv,vc,hst⟩;refine⟨u,hu,P.setCur ((newS (vs.take j) s).newCell l) vv vc,?_,?_⟩
 ·have:=ztE (P:=P) (S:=(newS (vs.take j) s).newCell l) (W:=W) (W':=W') (n0:=n1) vs[j] j vv vc (by simp[ST.cur,newS,ST.newCell]) (by
   have e2:((newS (vs.take j) s).newCell l).cur.vs.length=j:=e1;have e3:((newS (vs.take j) s).newCell l).cur.cs=List.range j:=by show List.range (vs.take j).length=_;rw[e1]
   rw[e2,e3];exact hst)
  rw[show((newS (vs.take j) s).newCell l).setCur (((newS (vs.take j) s).newCell l).cur.snoc vs[j] j)=newS (vs.take (j+1)) s from zr4 vs s j hj l hl] at this;exact this
 ·unfold Ph.setCur;split<;>rfl
theorem zmU:IsFn Tryz.prog 48 Tryz.f48:=⟨Tryz.func48,by kernel_rfl,by kernel_rfl⟩
theorem zwe (p:Option Addr) (w:World):(Instr.build 113 #[(2,.pointer p)]).run Tryz.prog w=.ok (.agg #[.slice none 0 0,.slice none 0 0,.int .i64 0,.slice none 0 0,.pointer p]) w:=by kernel_rfl
theorem zwi (A:Option Addr) (l c:Nat) (w:World):(Instr.build 117 #[(0,.slice A l c)]).run Tryz.prog w=.ok (.agg #[.slice A l c]) w:=by kernel_rfl
def NewP (vs:List VD) (s:SS) (w:World) (e:Ending) (w':World):Prop:=Below w.heap.size w w' /\
 ((fitB vs s=false/\e=.returned (.tuple #[.pointer none,.int .i64 3]))\/(fitB vs s=true/\∃ P:Ph,e=.returned (.tuple #[.pointer (some ⟨P.sb,0,none⟩),.int .i64 0])/\SR w' w.heap.size P (newS vs s)))
theorem zs4 (vs:List VD) (s:SS) (A:Option Addr) (c:Nat) (v:Value) (w:World) (hrow:RowV w Any A vs) (hl:vs.length<=LV) (hv:SV w Any s v):Calls Tryz.prog 26 #[.slice A vs.length c,v] w (NewP vs s w):=by
 have oK:=zh (fun w' (hb:Below w.heap.size w w')=>zqS vs s A c v w' (hrow.later hb) hl (hv.later hb));obtain⟨AC,cC,AI,xH,AO,cO,rfl,hr1,hr2,hr3,hc1,hc2,hc3,hl1,hl2,hl3,hl4⟩:=hv;have hl':=zlv hl;have HF:=zh (show ∀ u∈vs,FldV u from fun u hu=>by
  obtain⟨q,hq,rfl⟩:=List.mem_iff_getElem.1 hu;obtain⟨_,_,_,_,uz⟩:=hrow q hq;exact uz)
 have wS:=zh (show ∀ l∈s.cells,∀ x∈l,I64 x from fun l hl=>by
  obtain⟨q,hq,rfl⟩:=List.mem_iff_getElem.1 hl;obtain⟨_,_,_,_,_,_,_,hr⟩:=hr1 q hq;exact hr.fits)
 have HIF:=zh hr2.fits;have HOF:=zh hr3.fits;have ae:=zh hrow;have HR1:=zh hr1;have HR2:=zh hr2;have HR3:=zh hr3;have HL2:=zh hl2;obtain⟨R,hR⟩:∃ R,fitB vs s=R:=⟨_,rfl⟩
 have HR:=zh hR;rw[hR] at oK;obtain⟨n1,hn1⟩:∃ n,s.cells.length=n:=⟨_,rfl⟩
 obtain⟨n2,hn2⟩:∃ n,s.tin.length=n:=⟨_,rfl⟩
 obtain⟨n3,bL⟩:∃ n,s.tout.length=n:=⟨_,rfl⟩
 have ma:=zh hn1;have aI:=zh hn2;have bN:=zh bL;rw[hn1,hn2,bL] at oK;rw[hn1,hn2,bL];clear hrow hr1 hr2 hr3 hc1 hc2 hc3 hl1 hl2 hl3 hl4 hl hR hn1 hn2 bL;go_enter Tryz.func26,Tryz.ntmps26;go_wp2_with fail;refine(oK.out _ (zkc (Below.refl _ _) _)).mono ?_;rintro e9 w1 ⟨rfl,aa⟩;have HB1:=zh (zka (zkc (Below.refl w.heap.size w) _) aa);have hP:=zkb (heap_alloc_new w (.cells #[.slice AC n1 cC,.slice AI n2 xH,.slice AO n3 cO] 34)) aa;clear aa
 cases R
 ·go_wp2_with fail;go_ret2;exact⟨HB1.out,.inl ⟨HR.out,rfl⟩⟩
 ·obtain⟨h32,hlen,h4i,h4o,hall⟩:=zl6 HR.out;have eU:=zh hall;have HLEN:=zh hlen;have HTN:=zh (zuX s.tin s.tout AI AO xH cO w1 (HR2.out.later HB1.out) (HR3.out.later HB1.out) h4i h4o);rw[aI.out,bN.out] at HTN;have x1:w1.cell? ⟨w.heap.size,1,none⟩=some (.slice AI n2 xH):=zc hP rfl;have x2:w1.cell? ⟨w.heap.size,2,none⟩=some (.slice AO n3 cO):=zc hP rfl;have HP0:=zh hP;have hbst:=zwe;clear hlen h4i h4o hall hP;go_wp2_with fail;refine HTN.out.mono ?_;rintro e9 w2 ⟨tb,vI,vO,rfl,ht,h1,o1,o2,t1,t2,t3,aj⟩;rw[<-aI.out] at o1;rw[<-bN.out] at o2;have xS:=zh (zq7 (zr5 HR.out HF.out wS.out HIF.out HOF.out 0 (Nat.zero_le _)) aj h1 ht o1 o2 t1 t2 t3 rfl);have HB2:=zh aj;clear ht h1 o1 o2 t1 t2 t3 aj x1 x2;go_wp2_with fail
  go_loopw [30] (fun i wr=>∃ j:Nat,j<=vs.length/\i=.int .i64 j/\Hid (Below w1.heap.size w1 wr)/\∃ P:Ph,Hid (SR wr w1.heap.size P (newS (vs.take j) s))/\Hid (P.sb=w2.heap.size)) (fun i _=>vs.length-(intOf i).toNat)
  case atStart=>exact⟨0,Nat.zero_le _,rfl,zh (zkc HB2.out _),_,xS,zh rfl⟩
  case round =>
   obtain⟨j,hj,rfl,af,P,HS,ru⟩:=hrel;by_cases hlt:j<vs.length
   ·have hlc:j<s.cells.length:=by rw[HLEN.out];exact hlt
    obtain⟨a,rfl,-,⟨y0,y1,y2⟩,-⟩:=((ae.out.later HB1.out).later af.out) j hlt;obtain⟨b,l,A',c',rfl,Hl,x0,-,aS⟩:=((HR1.out.later HB1.out).later af.out).nd hlc;have dH:=zh (show b.block<w.heap.size by
     obtain⟨a',_,_,hA,_,hcw,_⟩:=HR1.out j hlc;injection hA with hA;have:=World.block_lt_of_cell? w _ hcw;rw[zko,<-hA] at this;exact this)
    obtain⟨v,hv⟩:∃ v,vs[j]=v:=⟨_,rfl⟩
    rw[hv] at y0 y1 y2;have Hv:=zh hv;have hll:l.length<=LI:=by rw[<-Hl.out];exact HL2.out _ (List.getElem_mem hlc)
    have Hgd:=zh (show s.cells.getD j []=l by rw[<-Hl.out];simp[hlc]);obtain⟨vm,vk,vn⟩:=v;dsimp only at y0 y1 y2;have hj1:(j:Int)<(vs.length:Int):=by omega
    have hj2:(j:Int)<(n1:Int):=by have:=ma.out;have:=HLEN.out;omega
    have bV:=zh aS;have z0:wr.cell? ⟨w.heap.size,0,none⟩=some (.slice (some b) n1 cC):=zb af.out (zc HP0.out rfl);have hbx:=zwi;clear aS hv;go_upto_region 10 with fail;obtain⟨wa,oV⟩:∃ wa,wr.alloc (.cells #[.string vm,.int .u8 vk,.int .i64 vn] 76)=wa:=⟨_,rfl⟩
    have vX:Below wr.heap.size wr wa:=oV▸zkc (Below.refl _ _) _;have hvb:wa.heap[wr.heap.size]?=some (.cells #[.string vm,.int .u8 vk,.int .i64 vn] 76 (0,0)):=oV▸heap_alloc_new wr _;rw[oV];have q0:wa.cell? ⟨wr.heap.size,0,none⟩=some (.string vm):=zc hvb rfl;have q1:wa.cell? ⟨wr.heap.size,1,none⟩=some (.int .u8 vk):=zc hvb rfl;have q2:wa.cell? ⟨wr.heap.size,2,none⟩=some (.int .i64 vn):=zc hvb rfl;have q3:=zb vX z0;have q4:=zb vX x0;have gL:=zh vX;clear oV vX hvb y0 y1 y2 x0 z0;obtain⟨S1,hS1⟩:∃ S1:World->Prop,S1=fun w':World=>w'.cell? ⟨wr.heap.size,0,none⟩=some (.string vm)/\w'.cell? ⟨wr.heap.size,1,none⟩=some (.int .u8 vk)/\w'.cell? ⟨wr.heap.size,2,none⟩=some (.int .i64 vn)/\w'.cell? ⟨w.heap.size,0,none⟩=some (.slice (some b) n1 cC)/\w'.cell? (b.add j)=some (.slice A' l.length c'):=⟨_,rfl⟩
    have HSa:=zh (show S1 wa by rw[hS1];exact⟨q0,q1,q2,q3,q4⟩);have HSk:=zh (show ∀ W W',S1 W->(∀ p u,W.cell? p=some u->(p.block=wr.heap.size\/p.block=w.heap.size\/p.block=b.block)->W'.cell? p=some u)->S1 W' by
     rw[hS1];rintro W W' ⟨a0,a1,a2,a3,a4⟩ hk;exact⟨hk _ _ a0 (.inl rfl),hk _ _ a1 (.inl rfl),hk _ _ a2 (.inl rfl),hk _ _ a3 (.inr (.inl rfl)),hk _ _ a4 (.inr (.inr (zko b j)))⟩)
    have tC:=zh (show ∀ W W',S1 W->Below W.heap.size W W'->S1 W' from fun W W' h hb=>HSk.out W W' h fun p u hp _=>zb hb hp);have hSS:S1 wa.drew/\(fun _:World=>True) wa.drew:=⟨tC.out _ _ HSa.out (Below.refl _ _).drew,trivial⟩
    refine wp_region_noPanic ?_;refine zkd S1 (fun _:World=>True) 12 (by kernel_rfl) ?_;subst hS1;refine zT 0 hSS ?_;(try simp only[zQ]);refine zT 1 hSS ?_;(try simp only[zQ]);refine zT 2 hSS ?_;(try simp only[zQ]);refine zT 3 hSS ?_;(try simp only[zQ]);refine zT 4 hSS ?_;(try simp only[zQ]);refine zT 5 hSS ?_;(try simp only[zQ]);refine zT 6 hSS ?_;(try simp only[zQ]);refine zT 7 hSS ?_;(try simp only[zQ]);refine zT 8 hSS ?_;(try simp only[zQ]);have had:Calls Tryz.prog 48 [.slice A' l.length c'].toArray wa.drew fun e w'=>∃ u,e=.returned u/\w'.ownsRow wa.drew.heap.size 3 1 u l.length (zki l)/\Below wa.drew.heap.size wa.drew w' :=
     (zkP l A' c' Any wa.drew ((bV.out.later gL.out).later (Below.refl _ _).drew) hll).mono fun e w' ⟨u,hu,h1,_,h2⟩=>⟨u,hu,h1,h2⟩
    refine zo 9 fun K hK=>?_;refine zke (by rfl) (.func 48) [.tmp 43] _ (by rfl) 48 _ zmU (by rfl) _ (by rfl) _ had ?_;rintro v4 w4 ⟨bU,hb4⟩;obtain⟨A4,c4,rfl,-,-⟩:=zkg bU;have iJ:=zh bU;have ak:=zh hb4;have iI:=zh (tC.out _ _ hSS.1 hb4);refine hK.out _ _ ⟨iI.out,trivial⟩ ?_;clear hK K hSS had bU hb4 q0 q1 q2 q3 q4;(try simp only[zQ]);refine zo 10 fun K hK=>?_;(try simp only[zA,zB,zC]);go_simp;refine hK.out _ _ ⟨iI.out,trivial⟩ ?_;clear hK K;(try simp only[zQ]);refine zo 11 fun K hK=>?_;(try simp only[zA,zB,zC]);go_simp;have tF:=zh (tC.out _ _ iI.out (zkc (Below.refl _ _) (.cells #[.slice A4 l.length c4] 117)));refine hK.out _ _ ⟨tF.out,trivial⟩ ?_;clear hK K;(try simp only[zQ]);have e1:(vs.take j).length=j:=by rw[List.length_take];omega
    have s1:=zpW ((HS.out.later gL.out).later (Below.refl _ _).drew) ak.out (.slice A4 l.length c4) l iJ.out;have had:=zwl (hj:=hlt) (hl:=Hgd.out) s1.rws (by omega) w2.heap.size w4.heap.size ru.out (by simp[Ph.newCell,newS,e1]) ⟨vm,vk,vn⟩ Hv.out;dsimp only at had;refine zp 12 fun K hK=>?_;refine zke (by rfl) (.func 60) [.tmp 37,.tmp 38,.tmp 46] _ (by rfl) 60 _ zwV (by rfl) _ (by rfl) _ had ?_;rintro v6 w6 ⟨P',hst,hsb'⟩;have hza:wr.heap.size<wa.drew.heap.size:=World.block_lt_of_cell? _ _ HSa.out.1;have vJ:w.heap.size<w1.heap.size:=zkj HP0.out;have hBl:=af.out.size;have hown:∀ b',OwnB (rows (P.newCell (newS (vs.take j) s) w4.heap.size (.slice A4 l.length c4)) ((newS (vs.take j) s).newCell l)) b'->w1.heap.size<=b'/\b'≠wr.heap.size:=fun b' hb'=>by
     rcases s1.own b' hb' with⟨q,hq⟩|hq
     ·have:=HS.out.rws.lt q b' hq;omega
     ·omega
    have hS6:=HSk.out _ _ tF.out fun p u hp hpb=>zkU hst.chg hp fun hb'=>by
     have h1:=hown _ hb';have h2:=dH.out;rcases hpb with e|e|e<;>rw[e] at h1<;>omega
    refine hK.out _ _ hS6 ?_;have HST:=zh (show SR w6 w1.heap.size P' (newS (vs.take (j+1)) s) from ⟨hst.rws,zr5 HR.out HF.out wS.out HIF.out HOF.out (j+1) hlt⟩);have aO:=zh (show Below w1.heap.size w1 w6 by
     have b4:Below w1.heap.size w1 w4:=zka (zka af.out gL.out).drew ak.out;have b5:Below w1.heap.size w1 (w4.alloc (.cells #[.slice A4 l.length c4] 117)):=zkc b4 _;exact b5.trans (hst.chg.below b5.size fun b' hb'=>(hown b' hb').1))
    have HSB':=zh hsb';clear hK K hst had s1 hown hsb' hS6;(try simp only[zQ]);refine zd ?_;refine NoPanic.normal ?_;go_wp2_with fail
    go_roundw
    case rel=>exact⟨j+1,by omega,by go_num,aO,P',HST,HSB'⟩
    case measure=>simp[intOf];omega
   ·obtain rfl:j=vs.length:=by omega
    have hj1:¬ (vs.length:Int)<(vs.length:Int):=by omega
    go_wp2_with fail;go_ret2;refine⟨HB1.out.trans (af.out.mono ?_),.inr ⟨HR.out,P,by rw[ru.out];rfl,?_⟩⟩
    ·have:=HB1.out.size;omega
    ·have h1:=HS.out;rw[List.take_of_length_le (Nat.le_refl _)] at h1;exact h1.mono HB1.out.size
def zlC (vc:Value) (fc:Nat->Value) (ls:List (List Int)) (j:Nat):Option Nat->RowD
 | none=>⟨vc,32,1,ls.length,(List.range ls.length).map fun i=>if i<j then fc i else .slice none 0 0⟩
 | some i=>if i<j then ⟨fc i,3,1,(ls.getD i []).length,zki (ls.getD i [])⟩ else nilR
inductive SI where
 | all|el (i:Nat)|inp|out
 deriving DecidableEq
def zk3 (vc vi vo:Value) (fc:Nat->Value) (s:SS):SI->RowD
 | .all=>⟨vc,32,1,s.cells.length,(List.range s.cells.length).map fc⟩
 | .el i=>if i<s.cells.length then ⟨fc i,3,1,(s.cells.getD i []).length,zki (s.cells.getD i [])⟩ else nilR
 | .inp=>⟨vi,3,1,s.tin.length,zki s.tin⟩
 | .out=>⟨vo,3,1,s.tout.length,zki s.tout⟩
def SS.I (s:SS):Prop:=(∀ l∈s.cells,∀ x∈l,I64 x)/\(∀ x∈s.tin,I64 x)/\∀ x∈s.tout,I64 x
def OwnS (W:World) (n0:Nat) (s:SS) (v:Value):Prop:=∃ vc vi vo fc,v=.agg #[vc,vi,vo]/\Rws W n0 (zk3 vc vi vo fc s)/\s.I
theorem zmQ (z:Value) (n:Nat):madeCells #[z] n=Array.replicate n z:=by
 unfold madeCells;refine Array.ext (by simp) fun i h1 h2=>?_;simp[Nat.mod_one]
theorem zrQ (w:World) (fc:Nat->Value) (ls:List (List Int)) (n:Nat) (hn:ls.length=n) (hm:n<=maxLen):Rws (w.alloc (.cells (madeCells #[.slice none 0 0] n) 32)) w.heap.size (zlC (.slice (some ⟨w.heap.size,0,none⟩) n n) fc ls 0):=by
 refine⟨fun i=>?_,fun i j b hij hi hj=>?_⟩
 ·cases i with
  | none =>
   refine⟨by simp[zlC],.inr ⟨w.heap.size,n,madeCells #[.slice none 0 0] n,by simp[zlC,hn],Nat.le_refl _,heap_alloc_new w _,by simp[zlC,hn],hm,by simp[zlC,size_madeCells],?_⟩⟩;rw[zmQ];simp only[zlC,hn,Array.toList_replicate,Nat.mul_one,List.take_replicate,Nat.min_self,Nat.not_lt_zero,if_false];exact List.ext_getElem (by simp) fun i h1 h2=>by simp
  | some i=>simp only[zlC,Nat.not_lt_zero,if_false];exact zlS _ _
 ·cases i with
  | some i=>simp[zlC,nilR,Value.ownBlock] at hi
  | none =>
   cases j with
   | none=>exact hij rfl
   | some j=>simp[zlC,nilR,Value.ownBlock] at hj
theorem zq2 {W W2:World} {n1 g n c j:Nat} {fc:Nat->Value} {ls:List (List Int)} (h:Rws W n1 (zlC (.slice (some ⟨g,0,none⟩) n c) fc ls j)) (hb:Below W.heap.size W W2) (hj:j<ls.length) (l:List Int) (hl:ls[j]=l) (v:Value) (ho:W2.ownsRow W.heap.size 3 1 v l.length (zki l)) :
  Stp n1 (zlC (.slice (some ⟨g,0,none⟩) n c) fc ls j) W (zlC (.slice (some ⟨g,0,none⟩) n c) (fun i=>if i=j then v else fc i) ls (j+1)) (W2.setCell ⟨g,j,none⟩ v):=by
 have hn:n1<=W.heap.size:=by have:=h.lt none g rfl;omega
 have s1:=Stp.upd (i:=some j) (r:=⟨v,3,1,l.length,zki l⟩) h (Chg.of_below hb) (zk6 ho hn) (fun b e=>.inr (ho.lt b e).1);have s2:=Stp.set (i:=none) s1.rws (g:=g) (by rw[zkk (by simp)];rfl) (o:=j) (by rw[zkk (by simp)];simpa[zlC] using hj) v;refine(s1.trans s2).cast ?_;funext q
 cases q with
 | none =>
  rw[zkx,zkk (by simp)];simp only[zlC,RowD.mk.injEq,true_and];refine List.ext_getElem (by simp) fun i h1 h2=>?_;simp only[List.getElem_set,List.getElem_map,List.getElem_range];by_cases e:j=i
  ·subst e;simp
  ·rw[if_neg e];have e':i≠j:=fun h=>e h.symm;by_cases h3:i<j
   ·rw[if_pos h3,if_pos (by omega),if_neg e']
   ·rw[if_neg h3,if_neg (by omega)]
 | some i =>
  rw[zkk (by simp)];by_cases e:i=j
  ·subst e;rw[zkx];simp[zlC,hj,hl]
  ·rw[zkk (by simpa using e)];simp only[zlC,e,if_false];by_cases h3:i<j
   ·rw[if_pos h3,if_pos (by omega)]
   ·rw[if_neg h3,if_neg (by omega)]
theorem ztI {W1 W2 W3:World} {n1:Nat} {vc vi vo:Value} {fc:Nat->Value} {s:SS} (h:Rws W1 n1 (zlC vc fc s.cells s.cells.length)) (hn:n1<=W1.heap.size) (b2:Below W1.heap.size W1 W2) (o2:W2.ownsRow W1.heap.size 3 1 vi s.tin.length (zki s.tin)) (b3:Below W2.heap.size W2 W3)
  (o3:W3.ownsRow W2.heap.size 3 1 vo s.tout.length (zki s.tout)):Rws W3 n1 (zk3 vc vi vo fc s):=by
 have h3:=(h.later b2).later b3;have hs2:=b2.size;have l1:∀ i b,(zlC vc fc s.cells s.cells.length i).v.ownBlock=some b->b<W1.heap.size:=fun i b e=>(h.lt i b e).2;have l2:∀ b,vi.ownBlock=some b->W1.heap.size<=b/\b<W2.heap.size:=fun b e=>o2.lt b e;have l3:∀ b,vo.ownBlock=some b->W2.heap.size<=b:=fun b e=>(o3.lt b e).1;have eo:zk3 vc vi vo fc s .all=zlC vc fc s.cells s.cells.length none:=by
  simp only[zk3,zlC,RowD.mk.injEq,true_and];refine List.map_congr_left fun i hi=>?_;rw[if_pos (by simpa using hi)]
 refine⟨fun i=>?_,fun i j b hij h1 h2=>?_⟩
 ·cases i with
  | all=>rw[eo];exact h3.row none
  | el i=>exact h3.row (some i)
  | inp=>exact zk6 (zkI o2 b3) hn
  | out=>exact zk6 o3 (by omega)
 ·have key:∀ i b,(zk3 vc vi vo fc s i).v.ownBlock=some b->(∃ q,i=(match q with|none=>SI.all|some k=>SI.el k)/\(zlC vc fc s.cells s.cells.length q).v.ownBlock=some b)\/(i=.inp/\vi.ownBlock=some b)\/(i=.out/\vo.ownBlock=some b):=fun i b e=>by
   cases i with
   | all=>exact .inl ⟨none,rfl,by rw[eo] at e;exact e⟩
   | el i=>exact .inl ⟨some i,rfl,e⟩
   | inp=>exact .inr (.inl ⟨rfl,e⟩)
   | out=>exact .inr (.inr ⟨rfl,e⟩)
  rcases key i b h1 with⟨q,e1,a1⟩|⟨e1,a1⟩|⟨e1,a1⟩<;>rcases key j b h2 with⟨q',e2,a2⟩|⟨e2,a2⟩|⟨e2,a2⟩
  ·exact h.sep q q' b (fun e=>hij (by rw[e1,e2,e])) a1 a2
  ·have:=l1 q b a1;have:=l2 b a2;omega
  ·have:=l1 q b a1;have:=l3 b a2;omega
  ·have:=l2 b a1;have:=l1 q' b a2;omega
  ·exact hij (e1.trans e2.symm)
  ·have:=l2 b a1;have:=l3 b a2;omega
  ·have:=l3 b a1;have:=l1 q' b a2;omega
  ·have:=l3 b a1;have:=l2 b a2;omega
  ·exact hij (e1.trans e2.symm)
def ST.state (S:ST):SS:=⟨(S.base.cs.take (S.base.cs.length-S.base.loc)).map S.cell,S.tin,S.tout⟩
theorem zoK {S:ST} (h:S.WF):S.state.I/\S.state.Lim/\∀ l∈S.state.cells,l.length<=1000:=by
 obtain⟨kd,h1,_,_⟩:=h.ex;have hc:∀ l∈S.state.cells,l.length<=1000/\∀ x∈l,I64 x:=fun l hl=>by
  simp only[ST.state,List.mem_map] at hl;obtain⟨c,hc,rfl⟩:=hl;exact h.cells c (h1.num c (List.mem_of_mem_take hc))
 have:=h1.len;have:=h1.lim;have:=h.tin.1;have:=h.tout.1;refine⟨⟨fun l hl=>(hc l hl).2,h.tin.2,h.tout.2⟩,⟨?_,fun l hl=>?_,?_,?_⟩,fun l hl=>(hc l hl).1⟩
 ·simp only[ST.state,List.length_map,List.length_take,LI];omega
 ·have:=(hc l hl).1;simp only[LI];omega
 ·simp only[ST.state,LI];omega
 ·simp only[ST.state,LI];omega
theorem zrN:(Tryz.prog.info? 32).map (fun i=>(i.zero,i.size,i.bytes))=some (some (.slice none 0 0),1,24):=by kernel_rfl
theorem zxy:IsFn Tryz.prog 65 Tryz.f65:=⟨Tryz.func65,by kernel_rfl,by kernel_rfl⟩
theorem zwP:IsFn Tryz.prog 66 Tryz.f66:=⟨Tryz.func66,by kernel_rfl,by kernel_rfl⟩
theorem zwf (A B C:Option Addr) (l c m d n e:Nat) (w:World):(Instr.build 34 #[(0,.slice A l c),(1,.slice B m d),(2,.slice C n e)]).run Tryz.prog w=.ok (.agg #[.slice A l c,.slice B m d,.slice C n e]) w:=by kernel_rfl
theorem zs0 {W:World} {n0:Nat} {P:Ph} {S:ST} (h:SR W n0 P S):Calls Tryz.prog 28 #[.pointer (some ⟨P.sb,0,none⟩)] W fun e W'=>∃ v,e=.returned v/\OwnS W' W.heap.size S.state v/\Below W.heap.size W W':=by
 obtain⟨kd,hw,_,_⟩:=h.wf.ex;obtain⟨m,hm⟩:∃ m,S.base.cs.length=m+S.base.loc:=⟨S.base.cs.length-S.base.loc,by have:=hw.len;have:=hw.loc;omega⟩
 have hlim:=hw.lim;have hlen:=hw.len;obtain⟨A,c,vQ,-,-⟩:=zkg (h.rws.row .bc);change P.vC=.slice A S.base.cs.length c at vQ;obtain⟨hI,hL,hL2⟩:=zoK h.wf;have HI:=zh hI;have HL2:=zh hL2;have HNUM:=zh hw.num;have hst:S.state.cells.length=m:=by simp[ST.state,hm]
 have HSG:=zh (show ∀ j (hj:j<m),∃ hj':j<S.base.cs.length,∃ h2:j<S.state.cells.length,S.state.cells[j]=S.cell S.base.cs[j] from fun j hj=>⟨by omega,by omega,by simp[ST.state]⟩);have HST:=zh hst;have HS:=zh h;obtain⟨lc,hlc⟩:∃ lc,S.base.loc=lc:=⟨_,rfl⟩
 rw[hlc] at hm;have hx:W.cell? ⟨P.sb,1,none⟩=some (.slice A (m+lc) c):=by rw[<-hm,<-vQ];exact zc h.box rfl
 have hy:W.cell? ⟨P.sb,2,none⟩=some (.int .i64 lc):=by rw[<-hlc];exact zc h.box rfl
 have HX:=zh hx;have HM:=zh hm;have pE:=zh vQ;have x1:∀ o,(W.alloc o).cell? ⟨P.sb,1,none⟩=some (.slice A (m+lc) c):=fun o=>zkq hx o;have x2:∀ o,(W.alloc o).cell? ⟨P.sb,2,none⟩=some (.int .i64 lc):=fun o=>zkq hy o;have hmk:=fun W=>run_make_row' (P:=Tryz.prog) 31 32 (.slice none 0 0) 24 Tryz.underlying31 zrN rfl .i64 .i64 m (by omega) (by omega) W;have uo:m<=4398046511000:=by omega
 clear h hw hm vQ hI hL hL2 hst hlim hlen hx hy hlc;go_enter Tryz.func28,Tryz.ntmps28;go_wp2_with fail
 go_quiet (fail)
 go_wp2_with fail;obtain⟨W0,hW0⟩:∃ W0,(W.alloc (.cells #[.slice none 0 0,.slice none 0 0,.slice none 0 0] 34)).drewN nq=W0:=⟨_,rfl⟩
 have HB0:=zh (show Below W.heap.size W W0 from hW0▸zkZ (zkc (Below.refl _ _) _) nq);have HR0:=zh (show W0.heap[W.heap.size]?=some (.cells #[.slice none 0 0,.slice none 0 0,.slice none 0 0] 34 (0,0)) by
  rw[<-hW0];exact heap_alloc_new W _)
 have hz0:W0.heap.size=W.heap.size+1:=by rw[<-hW0];show(W.alloc _).heap.size=_;simp
 have HRW0:=zh (zrQ W0 (fun _=>.slice none 0 0) S.state.cells m HST.out (by unfold maxLen;omega));rw[hW0];rw[hz0] at HRW0;have HZ0:=zh hz0;clear hW0 x1 x2 hmk nq hz0
 go_loopw [25] (fun i wr=>∃ j:Nat,j<=m/\i=.int .i64 j/\Hid (Below W0.heap.size W0 wr)/\∃ fc,Hid (Rws wr (W.heap.size+1) (zlC (.slice (some ⟨W.heap.size+1,0,none⟩) m m) fc S.state.cells j))) (fun i _=>m-(intOf i).toNat)
 case atStart=>exact⟨0,Nat.zero_le _,rfl,zh (zkc (Below.refl _ _) _),_,HRW0⟩
 case round =>
  obtain⟨j,hj,rfl,af,fc,HRW⟩:=hrel;have q9:=zh ((HS.out.later HB0.out).later af.out);by_cases hlt:j<m
  ·obtain⟨hj',hj2,hjc⟩:=HSG.out j hlt;obtain⟨id,hid⟩:∃ id,S.base.cs[j]=id:=⟨_,rfl⟩
   have aJ:id<S.nc:=by rw[<-hid];exact HNUM.out _ (List.getElem_mem hj')
   obtain⟨gc,c2,hcc,-,-,hcell⟩:=zk5 (q9.out.rws.row .bc) (by show 0<S.base.cs.length;omega);change P.vC=.slice _ S.base.cs.length c2 at hcc;have y0:wr.cell? ⟨P.sb,1,none⟩=some (.slice (some ⟨gc,0,none⟩) (m+lc) c2):=by rw[<-HM.out,<-hcc];exact zc q9.out.box rfl
   have y1:wr.cell? ⟨gc,j,none⟩=some (.pointer (some ⟨P.cb id,0,none⟩)):=by rw[hcell j (by show j<S.base.cs.length*1;omega)];simp[rows,ptrs,hj',hid]
   obtain⟨A3,c3,hci,hc3,aS⟩:=q9.out.items aJ;have y2:wr.cell? ⟨P.cb id,0,none⟩=some (.slice A3 (S.cell id).length c3):=by rw[<-hci];exact zc (q9.out.cbox aJ) rfl
   obtain⟨l,hl⟩:∃ l,S.cell id=l:=⟨_,rfl⟩
   rw[hl] at y2 aS;have HL:=zh (show S.state.cells[j]=l by rw[hjc,hid,hl]);have hll:l.length<=1000:=by rw[<-HL.out];exact HL2.out _ (List.getElem_mem hj2)
   have dV:=zh (zkP l A3 c3 Any wr aS (by unfold LI;omega));have hj1:(j:Int)<(m:Int):=by omega
   have mO:(j:Int)<(m:Int)+(lc:Int):=by omega
   have H2:=zh hj2;clear hcell hcc hci aS hc3 hid hl hjc hj';go_wp2_with fail;refine dV.out.mono ?_;rintro e9 w2 ⟨v2,rfl,ho2,-,hb2⟩;obtain⟨A4,c4,rfl,-,-⟩:=zkg ho2;have hrl:=HRW.out.later hb2;have u0:w2.cell? ⟨W.heap.size+1,j,none⟩=some (.slice none 0 0):=hrl.cell none rfl (by have:=HST.out;simp[zlC,this,hlt]);have u1:w2.frozen? ⟨W.heap.size+1,j,none⟩=false:=hrl.frozen none rfl j;have s1:=zq2 HRW.out hb2 H2.out l HL.out _ ho2;have HR2:=zh s1.rws;have HB2:=zh (show Below W0.heap.size W0 (w2.setCell ⟨W.heap.size+1,j,none⟩ (.slice A4 l.length c4)) from af.out.trans (s1.chg.below af.out.size fun b ⟨q,hq⟩=>by have:=(HRW.out.lt q b hq).1;have:=HZ0.out;omega));clear ho2 hb2 s1 hrl;go_wp2_with fail
   go_roundw
   case rel=>exact⟨j+1,by omega,by go_num,HB2,_,HR2⟩
   case measure=>simp[intOf];omega
  ·obtain rfl:j=m:=by omega
   have hj1:¬ (j:Int)<(j:Int):=by omega
   have y4:wr.cell? ⟨P.sb,4,none⟩=some (.pointer (some ⟨P.tb,0,none⟩)):=zc q9.out.box rfl;have hbss:=zwf;go_upto_region 10 with fail;obtain⟨S1,hS1⟩:∃ S1:World->Prop,S1=fun w':World=>w'.cell? ⟨P.sb,4,none⟩=some (.pointer (some ⟨P.tb,0,none⟩)):=⟨_,rfl⟩
   have tC:=zh (show ∀ W W',S1 W->Below W.heap.size W W'->S1 W' by rw[hS1];exact fun W W' h hb=>zb hb h);have hSS:S1 wr.drew/\(fun _:World=>True) wr.drew:=⟨by rw[hS1];exact y4,trivial⟩
   refine wp_region_noPanic ?_;refine zkd S1 (fun _:World=>True) 12 (by kernel_rfl) ?_;subst hS1;refine zT 0 hSS ?_;(try simp only[zQ]);refine zT 1 hSS ?_;(try simp only[zQ]);refine zT 2 hSS ?_;(try simp only[zQ]);refine zT 3 hSS ?_;(try simp only[zQ]);refine zT 4 hSS ?_;(try simp only[zQ]);refine zT 6 hSS ?_;(try simp only[zQ]);refine zT 7 hSS ?_;(try simp only[zQ]);refine zT 8 hSS ?_;(try simp only[zQ]);refine zT 9 hSS ?_;(try simp only[zQ]);have had:Calls Tryz.prog 65 [.pointer (some ⟨P.tb,0,none⟩)].toArray wr.drew fun e w'=>∃ u,e=.returned u/\w'.ownsRow wr.drew.heap.size 3 1 u S.tin.length (zki S.tin)/\Below wr.drew.heap.size wr.drew w' :=
    (zwq (q9.out.later (Below.refl _ _).drew)).mono fun e w' ⟨u,hu,h1,_,h2⟩=>⟨u,hu,h1,h2⟩
   refine zo 5 fun K hK=>?_;refine zke (by rfl) (.func 65) [.tmp 48] _ (by rfl) 65 _ zxy (by rfl) _ (by rfl) _ had ?_;rintro v4 w4 ⟨bU,hb4⟩;obtain⟨A4,c4,rfl,-,-⟩:=zkg bU;have iJ:=zh bU;have ak:=zh hb4;have iI:=zh (tC.out _ _ hSS.1 hb4);refine hK.out _ _ ⟨iI.out,trivial⟩ ?_;clear hK K hSS had bU hb4;(try simp only[zQ]);have had:Calls Tryz.prog 66 [.pointer (some ⟨P.tb,0,none⟩)].toArray w4 fun e w'=>∃ u,e=.returned u/\w'.ownsRow w4.heap.size 3 1 u S.tout.length (zki S.tout)/\Below w4.heap.size w4 w' :=
    (zuW ((q9.out.later (Below.refl _ _).drew).later ak.out)).mono fun e w' ⟨u,hu,h1,_,h2⟩=>⟨u,hu,h1,h2⟩
   refine zo 10 fun K hK=>?_;refine zke (by rfl) (.func 66) [.tmp 53] _ (by rfl) 66 _ zwP (by rfl) _ (by rfl) _ had ?_;rintro v5 w5 ⟨dW,hb5⟩;obtain⟨A5,c5,rfl,-,-⟩:=zkg dW;have fQ:=zh dW;have av:=zh hb5;have tF:=zh (tC.out _ _ iI.out hb5);refine hK.out _ _ ⟨tF.out,trivial⟩ ?_;clear hK K had dW hb5;(try simp only[zQ]);refine zo 11 fun K hK=>?_;(try simp only[zA,zB,zC]);go_simp;refine hK.out _ _ ⟨tF.out,trivial⟩ ?_;clear hK K;(try simp only[zQ]);have hb5:Below W0.heap.size W0 w5:=zka (zka af.out.drew ak.out) av.out;have jQ:=zkb HR0.out hb5;have r0:w5.cell? ⟨W.heap.size,0,none⟩=some (.slice none 0 0):=zc jQ rfl;have r1:w5.cell? ⟨W.heap.size,1,none⟩=some (.slice none 0 0):=zc jQ rfl;have r2:w5.cell? ⟨W.heap.size,2,none⟩=some (.slice none 0 0):=zc jQ rfl;have rf:∀ o,w5.frozen? ⟨W.heap.size,o,none⟩=false:=fun o=>zf jQ;refine zp 12 fun K hK=>?_
   (try simp only[zA,zB,zC]);go_simp;have hc6:Chg (fun b=>b=W.heap.size) w5 (((w5.setCell ⟨W.heap.size,0,none⟩ (.slice (some ⟨W.heap.size+1,0,none⟩) j j)).setCell ⟨W.heap.size,1,none⟩ (.slice A4 S.tin.length c4)).setCell ⟨W.heap.size,2,none⟩ (.slice A5 S.tout.length c5)) :=
    (((Chg.refl (fun b=>b=W.heap.size) w5).setCell (p:=⟨W.heap.size,0,none⟩) (.inl rfl) _).setCell (p:=⟨W.heap.size,1,none⟩) (.inl rfl) _).setCell (p:=⟨W.heap.size,2,none⟩) (.inl rfl) _
   have mP:=heap_setCell_same _ W.heap.size 2 _ _ (.slice A5 S.tout.length c5) (heap_setCell_same _ W.heap.size 1 _ _ (.slice A4 S.tin.length c4) (heap_setCell_same w5 W.heap.size 0 _ _ (.slice (some ⟨W.heap.size+1,0,none⟩) j j) jQ));obtain⟨w6,sI⟩:∃ w6,((w5.setCell ⟨W.heap.size,0,none⟩ (.slice (some ⟨W.heap.size+1,0,none⟩) j j)).setCell ⟨W.heap.size,1,none⟩ (.slice A4 S.tin.length c4)).setCell ⟨W.heap.size,2,none⟩ (.slice A5 S.tout.length c5)=w6:=⟨_,rfl⟩
   rw[sI] at hc6 mP ⊢;have hsb:P.sb<W.heap.size:=(HS.out.rws.lt .sb P.sb rfl).2;have z0:w6.cell? ⟨W.heap.size,0,none⟩=some (.slice (some ⟨W.heap.size+1,0,none⟩) j j):=zc mP rfl;have z1:w6.cell? ⟨W.heap.size,1,none⟩=some (.slice A4 S.tin.length c4):=zc mP rfl;have z2:w6.cell? ⟨W.heap.size,2,none⟩=some (.slice A5 S.tout.length c5):=zc mP rfl;have hZ:=HZ0.out;have dB:Rws w6 (W.heap.size+1) (zk3 (.slice (some ⟨W.heap.size+1,0,none⟩) j j) (.slice A4 S.tin.length c4) (.slice A5 S.tout.length c5) fc S.state):=by
    have hrw:Rws wr (W.heap.size+1) (zlC (.slice (some ⟨W.heap.size+1,0,none⟩) j j) fc S.state.cells S.state.cells.length):=by rw[HST.out];exact HRW.out
    have h5:=ztI (s:=S.state) (vi:=.slice A4 S.tin.length c4) (vo:=.slice A5 S.tout.length c5) (hrw.later (Below.refl _ _).drew) (by have:=af.out.size;simp;omega) ak.out iJ.out av.out fQ.out;exact h5.chg hc6 fun i b hb e=>by have:=(h5.lt i b hb).1;omega
   have aC:=zh (show OwnS w6 W.heap.size S.state (.agg #[.slice (some ⟨W.heap.size+1,0,none⟩) j j,.slice A4 S.tin.length c4,.slice A5 S.tout.length c5]) from ⟨_,_,_,fc,rfl,dB.mono (Nat.le_succ _),HI.out⟩);have yH:=zh (show Below W.heap.size W w6 by
    have b5:Below W.heap.size W w5:=HB0.out.trans (hb5.mono (by omega));exact b5.trans (hc6.below b5.size fun b hb=>by omega))
   refine hK.out _ _ (zkU hc6 tF.out fun e=>by have h9:P.sb=W.heap.size:=e;omega) ?_;clear hK K hc6 mP sI dB jQ r0 r1 r2 rf hb5;(try simp only[zQ]);refine zd ?_;refine NoPanic.normal ?_;go_wp2_with fail;exact bodyPost_ret (v:=.agg #[.slice (some ⟨W.heap.size+1,0,none⟩) j j,.slice A4 S.tin.length c4,.slice A5 S.tout.length c5]) (by simp[results,Tryz.results28,go_sem,z0,z1,z2]) rfl ⟨_,rfl,aC.out,yH.out⟩
def zwC:Go.Shelf.Ren:=⟨fun|23=>175|n=>n,fun|22=>32|3=>3|4=>4|0=>0|n=>n,fun|n=>n⟩
theorem zvN:Go.Proofs.Lays2.n23 Tryz.prog zwC:={
 mixed:=by kernel_rfl
 f23:=Tryz.func175.trans (congrArg some (by kernel_rfl))
 t0:=Tryz.underlying0
 a0:=Tryz.isAgg0
 z0:=Tryz.sizeOf0
 v0:=Tryz.zeroValue0
 t3:=Tryz.underlying3
 a3:=Tryz.isAgg3
 z3:=Tryz.sizeOf3
 v3:=Tryz.zeroValue3
 t4:=Tryz.underlying4
 a4:=Tryz.isAgg4
 z4:=Tryz.sizeOf4
 v4:=Tryz.zeroValue4
 t22:=Tryz.underlying32
 a22:=Tryz.isAgg32
 z22:=Tryz.sizeOf32
 v22:=Tryz.zeroValue32
 i3:=by kernel_rfl }
def zpi:Go.Shelf.Ren:=⟨fun|21=>176|27=>189|28=>190|35=>194|39=>99|n=>n,fun|22=>32|3=>3|4=>4|0=>0|n=>n,fun|n=>n⟩
theorem zoS:Go.Proofs.Lays2.n21 Tryz.prog zpi:={
 mixed:=by kernel_rfl
 f21:=Tryz.func176.trans (congrArg some (by kernel_rfl))
 f27:=Tryz.func189.trans (congrArg some (by kernel_rfl))
 f28:=Tryz.func190.trans (congrArg some (by kernel_rfl))
 f35:=Tryz.func194.trans (congrArg some (by kernel_rfl))
 f39:=Tryz.func99.trans (congrArg some (by kernel_rfl))
 t0:=Tryz.underlying0
 a0:=Tryz.isAgg0
 z0:=Tryz.sizeOf0
 v0:=Tryz.zeroValue0
 t3:=Tryz.underlying3
 a3:=Tryz.isAgg3
 z3:=Tryz.sizeOf3
 v3:=Tryz.zeroValue3
 t4:=Tryz.underlying4
 a4:=Tryz.isAgg4
 z4:=Tryz.sizeOf4
 v4:=Tryz.zeroValue4
 t22:=Tryz.underlying32
 a22:=Tryz.isAgg32
 z22:=Tryz.sizeOf32
 v22:=Tryz.zeroValue32
 i3:=by kernel_rfl }
theorem zk1 {g:Nat} {e:TypeId}:∀ (vs:List Value) (o:Nat) (w:World) (cur:Array Value),w.heap[g]?=some (.cells cur e (0,0))->∃ cur',(w.setCells g o vs).heap[g]?=some (.cells cur' e (0,0))/\cur'.size=cur.size
 | [],_,_,cur,h=>⟨cur,h,rfl⟩
 | v::vs,o,w,cur,h=>by
  obtain⟨cur',h1,h2⟩:=zk1 vs (o+1) (w.setCell ⟨g,o,none⟩ v) _ (heap_setCell_same w g o cur _ v h);exact⟨cur',h1,by rw[h2];simp⟩
theorem zk0 (g:Nat):∀ (vs:List Value) (o:Nat) (w:World),Chg (fun b=>b=g) w (w.setCells g o vs)
 | [],_,w=>Chg.refl _ w
 | v::vs,o,w=>((Chg.refl (fun b=>b=g) w).setCell (p:=⟨g,o,none⟩) (.inl rfl) v).trans (zk0 g vs (o+1) (w.setCell ⟨g,o,none⟩ v))
theorem zlr {W:World} {base g cap n:Nat} {e:TypeId} {cur:Array Value} {xs:List Value} (hb:base<=g) (hg:W.heap[g]?=some (.cells cur e (0,0))) (hs:cur.size=cap) (hn:n<=cap) (hm:cap<=maxLen) (hx:xs.length=n) (hc:∀ j u,xs[j]?=some u->W.cell? ⟨g,j,none⟩=some u) :
  W.ownsRow base e 1 (.slice (some ⟨g,0,none⟩) n cap) n xs:=by
 refine⟨by omega,.inr ⟨g,cap,cur,rfl,hb,hg,hn,hm,by omega,?_⟩⟩;refine List.ext_getElem (by simp;omega) fun j h1 h2=>?_;have:=hc j xs[j] (List.getElem?_eq_getElem h2);simp only[World.cell?,hg] at this;simp at this;rw[List.getElem_take];have h3:j<cur.size:=by omega
 rw[Array.getElem?_eq_getElem h3] at this;simpa using this
theorem zmv {w:World} {g o:Nat} {vs:List Value} (h:∀ j,j<vs.length->(w.cell? ⟨g,o+j,none⟩).isSome=true) {k:Nat} {u:Value} (hk:o<=k) (hu:vs[k-o]?=some u):(w.setCells g o vs).cell? ⟨g,k,none⟩=some u:=by
 obtain⟨h1,h2⟩:=List.getElem?_eq_some_iff.1 hu;have:=World.cell?_setCells_in g vs o w h (k-o) h1;rw[show o+(k-o)=k by omega] at this;rw[this,h2]
theorem zlK {w:World} {g o:Nat} {vs:List Value} {k:Nat} (hk:k<o\/o+vs.length<=k):(w.setCells g o vs).cell? ⟨g,k,none⟩=w.cell? ⟨g,k,none⟩:=World.cell?_setCells_out g vs o w ⟨g,k,none⟩ fun _ _=>hk
theorem zmM {w:World} {g o:Nat} {vs:List Value} (k:Nat) (hk:(w.cell? ⟨g,k,none⟩).isSome=true):((w.setCells g o vs).cell? ⟨g,k,none⟩).isSome=true:=by
 induction vs generalizing w o with
 | nil=>exact hk
 | cons v vs ih =>
  refine ih ?_;by_cases e:o=k
  ·subst e;obtain⟨u,hu⟩:=Option.isSome_iff_exists.1 hk;rw[World.cell?_setCell_same _ _ _ hu];rfl
  ·rw[World.cell?_setCell_other]
   ·exact hk
   ·intro h;injection h;omega
theorem zqN (w:World) (cs:Array Value) (E:TypeId) (j:Nat):(w.alloc (.cells cs E)).cell? ⟨w.heap.size,j,none⟩=cs[j]?:=by
 have h:=heap_alloc_new w (.cells cs E);simp only[World.cell?,h];simp
def InsP (W:World) (n0:Nat) (v:Value) (ys:List Int) (e:Ending) (W':World):Prop:=∃ v',e=.returned v'/\W'.ownsRow n0 3 1 v' ys.length (zki ys)/\Chg (fun b=>v.ownBlock=some b) W W'/\∀ b,v'.ownBlock=some b->v.ownBlock=some b\/W.heap.size<=b
theorem zpp (xs:List Int):∀ u∈zki xs,u.oneCell'=true:=fun u hu=>by
 simp only[zki,List.mem_map] at hu;obtain⟨x,_,rfl⟩:=hu;rfl
theorem zkv (xs:List Int):(zki xs).length=xs.length:=by simp[zki]
theorem zmk (xs ys:List Int):zki (xs++ys)=zki xs++zki ys:=by simp[zki]
theorem zrr {W:World} {n0:Nat} {v:Value} {xs:List Int} (h:W.ownsRow n0 3 1 v xs.length (zki xs)) (i:Nat) (hi:i<=xs.length) (hl:xs.length<=4096) (hn0:n0<=W.heap.size) (x:Int) (vb:Nat) (hvb:W.heap[vb]?=some (.cells #[.int .i64 x] 3 (0,0))) (hne:v.ownBlock≠some vb) :
  Calls Tryz.prog 176 #[v,.int .i64 i,.slice (some ⟨vb,0,none⟩) 1 1] W (InsP W n0 v (xs.take i++x::xs.drop i)):=by
 have hvs:∀ j u,[Value.int .i64 x][j]?=some u->W.cell? ⟨vb,0+j,none⟩=some u:=fun j u hj=>by
  rw[Nat.zero_add];simp only[World.cell?,hvb];simpa using hj
 have hv1:∀ u∈[Value.int .i64 x],u.oneCell'=true:=fun u hu=>by simp at hu;subst hu;rfl
 have hys:(xs.take i++x::xs.drop i).length=xs.length+1:=by simp;omega
 have hmax:maxLen=9223372036854775807:=rfl;have grow_end:∀ (base:Option Addr) (c:Nat),xs.length<=c->c<xs.length+1->(base=none->xs.length=0)->(∀ a,base=some a->∀ j u,(zki xs)[j]?=some u->W.cell? (a.add j)=some u)->i=xs.length->v=.slice base xs.length c ->
   Calls Tryz.prog 176 #[.slice base xs.length c,.int .i64 i,.slice (some ⟨vb,0,none⟩) 1 1] W (InsP W n0 v (xs.take i++x::xs.drop i)):=fun base c h1 h2 h3 h4 hie _=>by
  subst hie;refine(Any2.slices_Insert_int_end_grow zoS base xs.length c vb 0 1 1 (zki xs) [.int .i64 x] W (by omega) h1 h2 (by omega) (zkv xs) rfl h3 h4 hvs hv1).mono ?_;rintro e W' ⟨rfl,rfl⟩;refine⟨_,rfl,?_,(Chg.refl _ W).drew.alloc _,fun b hb=>.inr ?_⟩
  ·rw[hys];have hge:=grownCap_ge W (xs.length+1) c (zpi.t 3);refine zlr (e:=3) hn0 (heap_alloc_new W.drew _) ?_ hge (grownCap_le_maxLen _ _ _ _ (by omega)) (by rw[zkv,hys]) ?_
   ·rw[Array.size_append,size_zeroCells,List.size_toArray,List.length_append,zkv,show(Value.int .i64 0).cells.size=1 from rfl];simp only[List.length_singleton,Nat.mul_one];omega
   ·intro j u hj;rw[List.take_of_length_le (Nat.le_refl _),List.drop_eq_nil_of_le (Nat.le_refl _),zmk] at hj;rw[show W.heap.size=W.drew.heap.size from rfl,zqN];obtain⟨h5,h6⟩:=List.getElem?_eq_some_iff.1 hj;rw[Array.getElem?_append_left (by simpa[zki] using h5)];simpa[zki] using hj
  ·simp[Value.ownBlock] at hb;omega
 rcases h.2 with⟨rfl,h0⟩|⟨g,cap,cur,rfl,hb,hg,hnc,hcm,hz,hx⟩
 ·have h0':xs.length=0:=h0;have hi0:i=xs.length:=by omega
  have:=grow_end none 0 (by omega) (by omega) (fun _=>h0') (fun a e=>by cases e) hi0 (by rw[h0']);rw[h0'] at this;exact this
 ·have hcs:∀ j u,(zki xs)[j]?=some u->W.cell? ⟨g,j,none⟩=some u:=fun j u hj=>by
   have hj':=(List.getElem?_eq_some_iff.1 hj).1;rw[zkv] at hj';exact(h.cellAt j (by omega)).trans hj
  have hgv:g≠vb:=fun e=>hne (by rw[e];rfl);have hsp:∀ j,j<cap->(W.cell? ⟨g,j,none⟩).isSome=true:=fun j hj=>by
   simp only[World.cell?,hg];have:j<cur.size:=by omega
   simp[this]
  have hfz:∀ j,W.frozen? ⟨g,j,none⟩=false:=fun j=>zf hg;rcases Nat.lt_or_ge cap (xs.length+1) with hroom|hroom
  ·rcases Nat.lt_or_ge i xs.length with hlt|hge
   ·refine(Any2.slices_Insert_int_grow zoS g 0 xs.length cap i vb 0 1 1 (zki xs) [.int .i64 x] W hlt (by omega) hnc hroom (by omega) (zkv xs) rfl (fun j u hj=>by rw[Nat.zero_add];exact hcs j u hj) hvs (zpp xs) hv1).mono ?_;rintro e W' ⟨rfl,rfl⟩;have hge:=grownCap_ge W (xs.length+1) cap (zpi.t 3);obtain⟨G,hG⟩:∃ G,grownCap W (xs.length+1) cap (zpi.t 3)=G:=⟨_,rfl⟩
    have hGm:G<=maxLen:=hG▸grownCap_le_maxLen W _ _ _ (by omega);rw[hG] at hge ⊢;obtain⟨C,hC⟩:∃ C,(((zki xs).take i).toArray++Builtin.zeroCells (Value.int .i64 0).cells (xs.length+1-i)++Builtin.zeroCells (Value.int .i64 0).cells (G-(xs.length+1)))=C:=⟨_,rfl⟩
    have hCs:C.size=G:=by
     rw[<-hC,Array.size_append,Array.size_append,size_zeroCells,size_zeroCells,show(Value.int .i64 0).cells.size=1 from rfl,List.size_toArray,List.length_take,zkv];omega
    have hC0:∀ j,j<i->C[j]?=(zki xs)[j]?:=fun j hj=>by
     rw[<-hC,Array.getElem?_append_left (by simp[zki];omega),Array.getElem?_append_left (by simp[zki];omega)];simp[List.getElem?_take_of_lt hj]
    rw[hC];obtain⟨W1,hW1⟩:∃ W1,W.alloc (.cells C 3)=W1:=⟨_,rfl⟩
    have e1:W.alloc (.cells C (zpi.t 3))=W1:=hW1;rw[e1];have hh:W1.heap[W.heap.size]?=some (.cells C 3 (0,0)):=hW1▸heap_alloc_new W _;have hcell:∀ j,W1.cell? ⟨W.heap.size,j,none⟩=C[j]?:=fun j=>by rw[<-hW1];exact zqN W C _ j
    have hb1:Below W.heap.size W W1:=hW1▸zkc (Below.refl _ _) _;have hdl:((zki xs).drop i).length=xs.length-i:=by rw[List.length_drop,zkv]
    obtain⟨lN,k1,k2⟩:=zk1 [.int .i64 x] i W1.drew C hh;obtain⟨cur2,k3,k4⟩:=zk1 ((zki xs).drop i) (i+1) (W1.drew.setCells W.heap.size i [.int .i64 x]).drew lN k1;have hsp0:∀ j,j<G->(W1.drew.cell? ⟨W.heap.size,j,none⟩).isSome=true:=fun j hj=>by
     have h9:W1.drew.cell? ⟨W.heap.size,j,none⟩=C[j]?:=hcell j;rw[h9,Array.getElem?_eq_getElem (by omega)];rfl
    have hsp1:∀ j,j<G->((W1.drew.setCells W.heap.size i [.int .i64 x]).drew.cell? ⟨W.heap.size,j,none⟩).isSome=true:=fun j hj=>zmM j (hsp0 j hj);refine⟨_,rfl,?_,?_,fun b hb=>.inr (by simp[Value.ownBlock] at hb;omega)⟩
    ·rw[hys];refine zlr hn0 k3 (by omega) hge hGm (by rw[zkv,hys]) ?_;intro j u hj;rw[zmk] at hj;have hti:(zki (xs.take i)).length=i:=by rw[zkv,List.length_take];omega
     rcases Nat.lt_trichotomy j i with hji|hji|hji
     ·rw[zlK (.inl (by omega))]
      show(W1.drew.setCells W.heap.size i [.int .i64 x]).cell? ⟨W.heap.size,j,none⟩=_
      rw[zlK (.inl hji)]
      show W1.cell? ⟨W.heap.size,j,none⟩=_
      rw[hcell j,hC0 j hji];rw[List.getElem?_append_left (by omega)] at hj;rw[zki,List.map_take,List.getElem?_take_of_lt hji] at hj;exact hj
     ·subst hji;rw[zlK (.inl (by omega))]
      show(W1.drew.setCells W.heap.size j [.int .i64 x]).cell? ⟨W.heap.size,j,none⟩=_
      refine zmv (fun q hq=>hsp0 (j+q) (by simp at hq;omega)) (Nat.le_refl _) ?_;rw[List.getElem?_append_right (by omega),hti] at hj;simpa[zki] using hj
     ·refine zmv (fun q hq=>hsp1 (i+1+q) (by rw[hdl] at hq;omega)) (by omega) ?_;rw[List.getElem?_append_right (by omega),hti,show j-i=(j-(i+1))+1 by omega] at hj;simpa[zki] using hj
    ·have c1:Chg (fun b=>b=W.heap.size) W (((W1.drew.setCells W.heap.size i [.int .i64 x]).drew).setCells W.heap.size (i+1) ((zki xs).drop i)) :=
      (((Chg.of_below hb1).drew.trans (zk0 W.heap.size _ _ _)).drew).trans (zk0 W.heap.size _ _ _)
     exact c1.mono fun b hb e=>by omega
   ·exact grow_end (some ⟨g,0,none⟩) cap hnc hroom (fun e=>by cases e) (fun a e j u hj=>by injection e with e;subst e;rw[Addr.add_lit,Nat.zero_add];exact hcs j u hj) (by omega) rfl
  ·rcases Nat.lt_or_ge i xs.length with hlt|hge
   ·refine(Any2.slices_Insert_int_shift zoS g 0 xs.length cap i vb 0 1 1 (zki xs) [.int .i64 x] W hlt (by omega) hroom (by omega) (Ne.symm hgv) (zkv xs) rfl (fun j u hj=>by rw[Nat.zero_add];exact hcs j u hj) (fun j hj=>by rw[Nat.zero_add];exact hsp j (by omega)) (fun j _=>hfz _) hvs (zpp xs) hv1 3 3 1 cur.size (by simp[World.shape?,hvb]) (by simp[World.shape?,hg]) (by omega) (zf hvb) (zf hvb)).mono ?_;rintro e W' ⟨rfl,rfl⟩;simp only[Nat.zero_add];have hdl:((zki xs).drop i).length=xs.length-i:=by rw[List.length_drop,zkv]
    obtain⟨lN,k1,k2⟩:=zk1 ((zki xs).drop i) (i+1) W.drew cur hg;obtain⟨cur2,k3,k4⟩:=zk1 [.int .i64 x] i _ lN k1;have hsp1:∀ j,j<cap->((W.drew.setCells g (i+1) ((zki xs).drop i)).cell? ⟨g,j,none⟩).isSome=true:=fun j hj=>zmM j (hsp j hj);refine⟨_,rfl,?_,((Chg.of_below (Below.refl _ W).drew).trans ((zk0 g _ _ _).trans (zk0 g _ _ _))).mono fun b _ e=>by rw[e];rfl,fun b hb=>.inl hb⟩;rw[hys];refine zlr hb k3 (by omega) hroom hcm (by rw[zkv,hys]) ?_;intro j u hj;rw[zmk] at hj;have hti:(zki (xs.take i)).length=i:=by rw[zkv,List.length_take];omega
    rcases Nat.lt_trichotomy j i with hji|hji|hji
    ·rw[zlK (.inl hji),zlK (.inl (by omega))];rw[List.getElem?_append_left (by omega)] at hj;refine hcs j u ?_;rw[zki,List.map_take,List.getElem?_take_of_lt hji] at hj;exact hj
    ·subst hji;refine zmv (fun q hq=>hsp1 _ (by simp at hq;omega)) (Nat.le_refl _) ?_;rw[List.getElem?_append_right (by omega),hti] at hj;simpa[zki] using hj
    ·rw[zlK (.inr (by simp;omega))];refine zmv (w:=W.drew) (o:=i+1) (fun q hq=>hsp (i+1+q) (by rw[hdl] at hq;omega)) (by omega) ?_;rw[List.getElem?_append_right (by omega),hti,show j-i=(j-(i+1))+1 by omega] at hj;simpa[zki] using hj
   ·have hie:i=xs.length:=by omega
    subst hie;refine(Any2.slices_Insert_int_end_room zoS g 0 xs.length cap vb 0 1 1 [.int .i64 x] W (by omega) hroom (by omega) rfl (fun j hj=>by rw[Nat.zero_add];exact hsp _ (by omega)) (fun j _=>hfz _) hvs hv1).mono ?_;rintro e W' ⟨rfl,rfl⟩;simp only[Nat.zero_add];obtain⟨lN,k1,k2⟩:=zk1 [.int .i64 x] xs.length W cur hg;refine⟨_,rfl,?_,(zk0 g _ _ _).mono fun b _ e=>by rw[e];rfl,fun b hb=>.inl hb⟩;rw[hys];refine zlr hb k1 (by omega) hroom hcm (by rw[zkv,hys]) ?_;intro j u hj;rw[List.take_of_length_le (Nat.le_refl _),List.drop_eq_nil_of_le (Nat.le_refl _),zmk] at hj;rcases Nat.lt_or_ge j xs.length with hji|hji
    ·rw[zlK (.inl hji)];rw[List.getElem?_append_left (by rw[zkv];exact hji)] at hj;exact hcs j u hj
    ·refine zmv (fun q hq=>hsp _ (by simp at hq;omega)) hji ?_;rw[List.getElem?_append_right (by rw[zkv];exact hji),zkv] at hj;exact hj
theorem zrt {W:World} {n0:Nat} {v:Value} {xs:List Int} (h:W.ownsRow n0 3 1 v xs.length (zki xs)) (i:Nat) (hi:i<xs.length) (hl:xs.length<=4096) :
  Calls Tryz.prog 175 #[v,.int .i64 i,.int .i64 ((i:Int)+1)] W (InsP W n0 v (xs.take i++xs.drop (i+1))):=by
 rcases h.2 with⟨rfl,h0⟩|⟨g,cap,cur,rfl,hb,hg,hnc,hcm,hz,hx⟩
 ·omega
 ·have hcs:∀ j u,(zki xs)[j]?=some u->W.cell? ⟨g,j,none⟩=some u:=fun j u hj=>by
   have hj':=(List.getElem?_eq_some_iff.1 hj).1;rw[zkv] at hj';exact(h.cellAt j (by omega)).trans hj
  have hsp:∀ j,j<cap->(W.cell? ⟨g,j,none⟩).isSome=true:=fun j hj=>by
   simp only[World.cell?,hg];have:j<cur.size:=by omega
   simp[this]
  have hmax:maxLen=9223372036854775807:=rfl;refine(Any.slices_Delete_int_cells zvN g 0 xs.length cap i (i+1) xs W (Nat.le_refl _) hnc (by omega) (by omega) (by omega) (fun j hj=>by rw[Nat.zero_add];exact hcs j _ (by simp[zki,hj])) (fun j _=>zf hg)).mono ?_;rintro e W' ⟨rfl,q,rfl⟩;have hys:(xs.take i++xs.drop (i+1)).length=xs.length-1:=by simp;omega
  rw[List.take_of_length_le (Nat.le_refl _)];obtain⟨lN,k1,k2⟩:=zk1 ((xs.take i++xs.drop (i+1)++List.replicate (i+1-i) 0).map (Value.int .i64)) 0 (W.drewN q) cur hg;have hlen:((xs.take i++xs.drop (i+1)++List.replicate (i+1-i) (0:Int)).map (Value.int .i64)).length=xs.length:=by simp;omega
  refine⟨_,rfl,?_,((Chg.of_below (zkZ (Below.refl _ W) q)).trans (zk0 g _ _ _)).mono fun b _ e=>by rw[e];rfl,fun b hb=>.inl hb⟩;rw[show xs.length-(i+1-i)=xs.length-1 by omega,hys];refine zlr hb k1 (by omega) (by omega) hcm (by rw[zkv,hys]) ?_;intro j u hj;have hj':=(List.getElem?_eq_some_iff.1 hj).1;rw[zkv,hys] at hj';refine zmv (w:=W.drewN q) (o:=0) (fun k hk=>by rw[Nat.zero_add];exact hsp k (by omega)) (Nat.zero_le _) ?_;rw[Nat.sub_zero,List.map_append,List.getElem?_append_left (by rw[List.length_map,hys];exact hj')];exact hj
section
variable {I:Type} [DecidableEq I] {n0:Nat} {d:I->RowD} {W:World}
theorem znB (h:Rws W n0 d) (i0 iv:I) (h01:i0≠iv) (b o:Nat) (hb:(d i0).v.ownBlock=some b) (hov:(d i0).xs[o]?=some (d iv).v) (xs:List Int) (hiv:d iv=⟨(d iv).v,3,1,xs.length,zki xs⟩) (hl:xs.length<=4096) (i:Nat) (hi:i<=xs.length) (x:Int) :
  Calls Tryz.prog 148 #[.pointer (some ⟨b,o,none⟩),.int .i64 i,.int .i64 x] W fun e W'=>(4096<=xs.length/\e=.returned (.int .i64 5)/\Below W.heap.size W W') \/
   (xs.length<4096/\e=.returned (.int .i64 0)/\∃ vv,Stp n0 d W (updR (updR d iv ⟨vv,3,1,xs.length+1,zki (xs.take i++x::xs.drop i)⟩) i0 { d i0 with xs:=(d i0).xs.set o vv }) W'):=by
 have fB:=h.row iv;rw[hiv] at fB;obtain⟨A1,c1,e1,-⟩:=zkg fB;dsimp only at e1 fB;have x0:W.cell? ⟨b,o,none⟩=some (.slice A1 xs.length c1):=by rw[<-e1];exact h.cell i0 hb hov
 have HX0:=zh x0;have HR:=zh h;have hn0:=h.lt i0 b hb;obtain⟨n,hn⟩:∃ n,xs.length=n:=⟨_,rfl⟩
 have HN:=zh hn;have jL:=zh e1;have yj:=zh fB;rw[hn] at x0 hl;have hbi:=zo3;clear h fB hn e1;by_cases hfull:4096<=n
 ·obtain rfl:n=4096:=by omega
  go_enter Tryz.func148,Tryz.ntmps148;go_wp2_with fail;go_ret;exact .inl ⟨by rw[HN.out];exact Nat.le_refl _,rfl,Below.refl _ _⟩
 ·have hnf:¬ (4096:Int)<=(n:Int):=by omega
  have hbl:Below W.heap.size W (W.alloc (.cells #[.int .i64 x] 3)):=zkc (Below.refl _ _) _;have hnw:∀ b',(d iv).v.ownBlock=some b'->b'<W.heap.size:=fun b' e=>(HR.out.lt iv b' e).2;have oH:=zh (zrr (zkI yj.out hbl) i hi (by rw[HN.out];exact hl) (by simp;omega) x W.heap.size (heap_alloc_new W _) (fun e=>by have:=hnw _ e;omega));rw[jL.out,HN.out] at oH;have hcb:=zb hbl HX0.out;go_enter Tryz.func148,Tryz.ntmps148;go_wp2_with fail;refine oH.out.mono ?_;rintro e w2 ⟨v',rfl,ho,hc,bQ⟩;have hys:(xs.take i++x::xs.drop i).length=n+1:=by rw[<-HN.out];simp;have:=HN.out;omega
  rw[hys] at ho;obtain⟨g8,aF,rfl⟩:=ownsRow_succ ho;have HR1:=HR.out.later hbl;have st1:Stp n0 d (W.alloc (.cells #[.int .i64 x] 3)) (updR d iv ⟨.slice (some ⟨g8,0,none⟩) (n+1) aF,3,1,n+1,zki (xs.take i++x::xs.drop i)⟩) w2 :=
   Stp.upd (i:=iv) HR1 (hc.mono fun b' _ hb'=>by rw[jL.out,HN.out];exact hb') ho (fun b' hb'=>by rw[jL.out,HN.out];exact bQ b' hb')
  have hd0:updR d iv ⟨.slice (some ⟨g8,0,none⟩) (n+1) aF,3,1,n+1,zki (xs.take i++x::xs.drop i)⟩ i0=d i0:=zkk h01;have z0:w2.cell? ⟨b,o,none⟩=some (.slice A1 n c1):=by rw[<-HN.out,<-jL.out];exact st1.rws.cell i0 (by rw[hd0];exact hb) (by rw[hd0];exact hov)
  have zf:w2.frozen? ⟨b,o,none⟩=false:=st1.rws.frozen i0 (by rw[hd0];exact hb) o;have st2:=Stp.set (i:=i0) st1.rws (g:=b) (by rw[hd0];exact hb) (o:=o) (by rw[hd0];exact(List.getElem?_eq_some_iff.1 hov).1) (.slice (some ⟨g8,0,none⟩) (n+1) aF);rw[hd0] at st2;have pV:=zh ((st1.trans st2).after hbl HR.out);clear st1 st2 ho hc bQ oH hcb;go_wp2_with fail;go_ret;refine .inr ⟨by rw[HN.out];omega,rfl,.slice (some ⟨g8,0,none⟩) (n+1) aF,?_⟩;rw[HN.out];exact pV.out
theorem znA (h:Rws W n0 d) (i0 iv:I) (h01:i0≠iv) (b o:Nat) (hb:(d i0).v.ownBlock=some b) (hov:(d i0).xs[o]?=some (d iv).v) (xs:List Int) (hiv:d iv=⟨(d iv).v,3,1,xs.length,zki xs⟩) (hl:xs.length<=4096) (k:Int) (i:Nat) (hi:0<xs.length->k=i/\i<xs.length) :
  Calls Tryz.prog 147 #[.pointer (some ⟨b,o,none⟩),.int .i64 k] W fun e W'=>(xs.length=0/\e=.returned (.tuple #[.int .i64 0,.int .i64 17])/\Below W.heap.size W W') \/
   (0<xs.length/\e=.returned (.tuple #[.int .i64 (xs.getD i 0),.int .i64 0])/\∃ vv,Stp n0 d W (updR (updR d iv ⟨vv,3,1,xs.length-1,zki (xs.take i++xs.drop (i+1))⟩) i0 { d i0 with xs:=(d i0).xs.set o vv }) W'):=by
 have fB:=h.row iv;rw[hiv] at fB;obtain⟨A1,c1,e1,-⟩:=zkg fB;dsimp only at e1 fB;have x0:W.cell? ⟨b,o,none⟩=some (.slice A1 xs.length c1):=by rw[<-e1];exact h.cell i0 hb hov
 have HX0:=zh x0;have HR:=zh h;obtain⟨n,hn⟩:∃ n,xs.length=n:=⟨_,rfl⟩
 have HN:=zh hn;have jL:=zh e1;have yj:=zh fB;rw[hn] at x0 hl hi;clear h hn e1;rcases Nat.eq_zero_or_pos n with h0|h0
 ·subst h0;clear fB;go_enter Tryz.func147,Tryz.ntmps147;go_wp2_with fail;go_ret2;exact .inl ⟨HN.out,rfl,Below.refl _ _⟩
 ·obtain⟨rfl,hin⟩:=hi h0;obtain⟨g,c2,hv2,-,-,hcell⟩:=zk5 fB (by rw[HN.out];exact h0);rw[jL.out] at hv2;injection hv2 with a1 a2 a3;subst a1 a3;obtain⟨y,hy⟩:∃ y,xs.getD i 0=y:=⟨_,rfl⟩
  have x1:W.cell? ⟨g,i,none⟩=some (.int .i64 y):=by
   rw[hcell i (by rw[HN.out];omega),<-hy];have:i<xs.length:=by rw[HN.out];exact hin
   simp[zki,this]
  have hn0:¬ (n:Int)=0:=by omega
  have hn1:((n:Int)==0)=false:=by simpa using hn0
  have hin':(i:Int)<(n:Int):=by omega
  have oH:=zh (zrt yj.out i (by rw[HN.out];exact hin) (by rw[HN.out];exact hl));rw[jL.out,HN.out] at oH;have HY:=zh hy;clear fB hcell hy hi;go_enter Tryz.func147,Tryz.ntmps147;go_wp2_with fail;refine oH.out.mono ?_;rintro e w2 ⟨v',rfl,ho,hc,bQ⟩;have hys:(xs.take i++xs.drop (i+1)).length=n-1:=by rw[<-HN.out];simp;have:=HN.out;omega
  rw[hys] at ho;obtain⟨A8,aF,rfl,-,-⟩:=zkg ho;have st1:Stp n0 d W (updR d iv ⟨.slice A8 (n-1) aF,3,1,n-1,zki (xs.take i++xs.drop (i+1))⟩) w2 :=
   Stp.upd (i:=iv) HR.out (hc.mono fun b' _ hb'=>by rw[jL.out,HN.out];exact hb') ho (fun b' hb'=>by rw[jL.out,HN.out];exact bQ b' hb')
  have hd0:updR d iv ⟨.slice A8 (n-1) aF,3,1,n-1,zki (xs.take i++xs.drop (i+1))⟩ i0=d i0:=zkk h01;have z0:w2.cell? ⟨b,o,none⟩=some (.slice (some ⟨g,0,none⟩) n c1):=by rw[<-HN.out,<-jL.out];exact st1.rws.cell i0 (by rw[hd0];exact hb) (by rw[hd0];exact hov)
  have zf:w2.frozen? ⟨b,o,none⟩=false:=st1.rws.frozen i0 (by rw[hd0];exact hb) o;have st2:=Stp.set (i:=i0) st1.rws (g:=b) (by rw[hd0];exact hb) (o:=o) (by rw[hd0];exact(List.getElem?_eq_some_iff.1 hov).1) (.slice A8 (n-1) aF);rw[hd0] at st2;have pV:=zh (st1.trans st2);clear st1 st2 ho hc bQ oH;go_wp2_with fail;go_ret2;refine .inr ⟨by rw[HN.out];omega,by rw[HY.out];rfl,.slice A8 (n-1) aF,?_⟩;rw[HN.out];exact pV.out
end
theorem zqr (P:Ph) (S:ST) (vv:Value) (ys:List Int):rows { P with vI:=vv } { S with tin:=ys }=updR (updR (rows P S) .tin ⟨vv,3,1,ys.length,zki ys⟩) .tb { rows P S .tb with xs:=(rows P S .tb).xs.set 0 vv }:=by
 funext r
 cases r with
 | calls=>simp only[updR,reduceCtorEq,if_false,rows];rw[zll (P:=P) (P':={ P with vI:=vv }) rfl rfl]
 | _=>simp[updR,rows]
theorem zpf (P:Ph) (S:ST) (vv:Value) (ys:List Int):rows { P with vO:=vv } { S with tout:=ys }=updR (updR (rows P S) .tout ⟨vv,3,1,ys.length,zki ys⟩) .tb { rows P S .tb with xs:=(rows P S .tb).xs.set 1 vv }:=by
 funext r
 cases r with
 | calls=>simp only[updR,reduceCtorEq,if_false,rows];rw[zll (P:=P) (P':={ P with vO:=vv }) rfl rfl]
 | _=>simp[updR,rows]
theorem zvt {S:ST} (h:S.WF) (ys:List Int) (hl:ys.length<=4096) (hy:∀ x∈ys,I64 x):({ S with tin:=ys }:ST).WF:=⟨h.ex,h.ncalls,h.cells,⟨hl,hy⟩,h.tout⟩
theorem zsV {S:ST} (h:S.WF) (ys:List Int) (hl:ys.length<=4096) (hy:∀ x∈ys,I64 x):({ S with tout:=ys }:ST).WF:=⟨h.ex,h.ncalls,h.cells,h.tin,⟨hl,hy⟩⟩
theorem zu0 {W:World} {n0:Nat} {P:Ph} {S:ST} (h:SR W n0 P S):Calls Tryz.prog 121 #[.pointer (some ⟨P.tb,0,none⟩)] W fun e W' =>
  (S.tin=[]/\e=.returned (.tuple #[.int .i64 0,.int .i64 17])/\Below W.heap.size W W')\/(∃ x r,S.tin=x::r/\e=.returned (.tuple #[.int .i64 x,.int .i64 0])/\∃ vv,SStp n0 P S W { P with vI:=vv } { S with tin:=r } W'):=by
 have oh:=zh (znA h.rws .tb .tin (by simp) P.tb 0 rfl rfl S.tin rfl h.wf.tin.1 0 0 (fun h=>⟨rfl,h⟩));have dY:=zh h.wf;clear h;go_enter Tryz.func121,Tryz.ntmps121;go_wp2_with fail;refine oh.out.mono ?_;rintro e w1 hh;rcases hh with⟨h0,rfl,hb⟩|⟨h0,rfl,vv,hst⟩
 ·have HH:=zh h0;have HB:=zh hb;clear h0 hb;go_wp2_with fail;go_ret2;exact .inl ⟨List.length_eq_zero_iff.1 HH.out,rfl,HB.out⟩
 ·have HH:=zh h0;have HST:=zh hst;clear h0 hst;go_wp2_with fail;go_ret2;refine .inr ?_;obtain⟨x,r,vK⟩:∃ x r,S.tin=x::r:=by
   cases hc:S.tin with
   | nil=>have:=HH.out;rw[hc] at this;simp at this
   | cons x r=>exact⟨x,r,rfl⟩
  have ht:=dY.out.tin;rw[vK] at ht;refine⟨x,r,vK,by rw[vK];rfl,vv,⟨HST.out.cast ?_,zvt dY.out r (by have:=ht.1;simp at this;omega) fun y hy=>ht.2 y (List.mem_cons_of_mem _ hy)⟩⟩;rw[zqr P S vv r,vK];simp
theorem zoD {W:World} {n0:Nat} {P:Ph} {S:ST} (h:SR W n0 P S) (x:Int) (hx:I64 x):Calls Tryz.prog 122 #[.pointer (some ⟨P.tb,0,none⟩),.int .i64 x] W fun e W' =>
  (4096<=S.tin.length/\e=.returned (.int .i64 5)/\Below W.heap.size W W')\/(S.tin.length<4096/\e=.returned (.int .i64 0)/\∃ vv,SStp n0 P S W { P with vI:=vv } { S with tin:=x::S.tin } W'):=by
 have oh:=zh (znB h.rws .tb .tin (by simp) P.tb 0 rfl rfl S.tin rfl h.wf.tin.1 0 (Nat.zero_le _) x);have dY:=zh h.wf;clear h;go_enter Tryz.func122,Tryz.ntmps122;go_wp2_with fail;refine oh.out.mono ?_;rintro e w1 hh;rcases hh with⟨h0,rfl,hb⟩|⟨h0,rfl,vv,hst⟩
 ·have HH:=zh h0;have HB:=zh hb;clear h0 hb;go_wp2_with fail;go_ret;exact .inl ⟨HH.out,rfl,HB.out⟩
 ·have HH:=zh h0;have HST:=zh hst;clear h0 hst;go_wp2_with fail;go_ret;have ht:=dY.out.tin;refine .inr ⟨HH.out,rfl,vv,⟨HST.out.cast ?_,zvt dY.out _ (by have:=HH.out;simp;omega) fun y hy=>?_⟩⟩
  ·rw[zqr P S vv (x::S.tin)];simp
  ·rcases List.mem_cons.1 hy with rfl|hy
   ·exact hx
   ·exact ht.2 y hy
theorem zsr:IsFn Tryz.prog 148 Tryz.f148:=⟨Tryz.func148,by kernel_rfl,by kernel_rfl⟩
theorem zsq:IsFn Tryz.prog 147 Tryz.f147:=⟨Tryz.func147,by kernel_rfl,by kernel_rfl⟩
theorem zpD {W:World} {n0:Nat} {P:Ph} {S:ST} (h:SR W n0 P S) (x:Int) (hx:I64 x):Calls Tryz.prog 124 #[.pointer (some ⟨P.tb,0,none⟩),.int .i64 x] W fun e W' =>
  (4096<=S.tout.length/\e=.returned (.int .i64 5)/\Below W.heap.size W W')\/(S.tout.length<4096/\e=.returned (.int .i64 0)/\∃ vv,SStp n0 P S W { P with vO:=vv } { S with tout:=S.tout++[x] } W'):=by
 have oh:=zh (znB (h.later (Below.refl _ _).drew).rws .tb .tout (by simp) P.tb 1 rfl rfl S.tout rfl h.wf.tout.1 S.tout.length (Nat.le_refl _) x);have dY:=zh h.wf;have HS:=zh h;obtain⟨A,c,hv,hc,-⟩:=zkg (h.rws.row .tout);change P.vO=.slice A S.tout.length c at hv;have x0:W.cell? ⟨P.tb,1,none⟩=some (.slice A S.tout.length c):=by rw[<-hv];exact zc h.tbox rfl
 obtain⟨n,hn⟩:∃ n,S.tout.length=n:=⟨_,rfl⟩
 rw[hn] at x0;have HN:=zh hn;have had:Calls Tryz.prog 148 [.pointer (some ⟨P.tb,1,none⟩),.int .i64 n,.int .i64 x].toArray W.drew fun e W'=>∃ u,e=.returned u /\
   ((4096<=n/\u=.int .i64 5/\Below W.heap.size W W')\/(n<4096/\u=.int .i64 0/\∃ vv,SStp n0 P S W { P with vO:=vv } { S with tout:=S.tout++[x] } W')):=by
  rw[<-hn];refine oh.out.mono ?_;rintro e W' hh;rcases hh with⟨h0,rfl,hb⟩|⟨h0,rfl,vv,hst⟩
  ·exact⟨_,rfl,.inl ⟨h0,rfl,zka (Below.refl _ _).drew hb⟩⟩
  ·have ht:=dY.out.tout;refine⟨_,rfl,.inr ⟨h0,rfl,vv,⟨((Stp.after hst (Below.refl _ _).drew HS.out.rws).cast ?_),zsV dY.out _ (by simp;omega) fun y hy=>?_⟩⟩⟩
   ·rw[zpf P S vv (S.tout++[x]),List.take_of_length_le (Nat.le_refl _),List.drop_eq_nil_of_le (Nat.le_refl _)];simp
   ·simp only[List.mem_append,List.mem_singleton] at hy;rcases hy with hy|rfl
    ·exact ht.2 y hy
    ·exact hx
 clear h hv hc hn oh;go_enter Tryz.func124,Tryz.ntmps124;go_upto_region 3 with fail;have hSS:(fun _:World=>True) W.drew/\(fun w':World=>w'.cell? ⟨P.tb,1,none⟩=some (.slice A n c)) W.drew:=⟨trivial,x0⟩
 refine wp_region_noPanic ?_;refine zkd (fun _:World=>True) (fun w':World=>w'.cell? ⟨P.tb,1,none⟩=some (.slice A n c)) 9 (by kernel_rfl) ?_;refine zT 0 hSS ?_;(try simp only[zQ]);refine zT 1 hSS ?_;(try simp only[zQ]);refine zT 2 hSS ?_;(try simp only[zQ]);refine zT 3 hSS ?_;(try simp only[zQ]);refine zT 4 hSS ?_;(try simp only[zQ]);refine zT 5 hSS ?_;(try simp only[zQ]);refine zo9 (i:=6) (v:=?_) [7] rfl (by kernel_rfl) (by kernel_rfl) (by kernel_rfl) (by decide) (by kernel_rfl) (by kernel_rfl) (fun _ _ _ h=>h) (Or.inl ⟨by rfl,?_⟩) hSS ?_;rotate_left 1
 ·(intro w hSw;(try dsimp only at hSw);(try simp only[zA,zB,zC]);go_simp;(try with_reducible rfl))
 (try simp only[zQ]);refine zT 7 hSS ?_;(try simp only[zQ]);refine zT 8 hSS ?_;(try simp only[zQ]);refine zp 9 fun K hK=>?_;refine zke (by rfl) (.func 148) [.tmp 9,.tmp 14,.tmp 15] _ (by rfl) 148 _ zsr (by rfl) _ (by rfl) _ had ?_;rintro v4 w4 hh;have HH:=zh hh;have hv4:∃ y,v4=.int .i64 y:=by rcases hh with⟨_,rfl,_⟩|⟨_,rfl,_⟩<;>exact⟨_,rfl⟩
 obtain⟨y,rfl⟩:=hv4;refine hK.out _ _ trivial ?_;clear hK K hSS had hh;(try simp only[zQ]);refine zp 10 fun K hK=>?_;(try simp only[zA,zB,zC]);go_simp;refine hK.out _ _ trivial ?_;clear hK K;(try simp only[zQ]);refine zd ?_;refine NoPanic.normal ?_;go_wp2_with fail;go_ret;rcases HH.out with⟨h0,h1,h2⟩|⟨h0,h1,h2⟩
 ·exact .inl ⟨by rw[HN.out];exact h0,by rw[<-h1];rfl,h2⟩
 ·exact .inr ⟨by rw[HN.out];exact h0,by rw[<-h1];rfl,h2⟩
theorem zqd {W:World} {n0:Nat} {P:Ph} {S:ST} (h:SR W n0 P S):Calls Tryz.prog 123 #[.pointer (some ⟨P.tb,0,none⟩)] W fun e W' =>
  (S.tout=[]/\e=.returned (.tuple #[.int .i64 0,.int .i64 17])/\Below W.heap.size W W')\/(∃ r x,S.tout=r++[x]/\e=.returned (.tuple #[.int .i64 x,.int .i64 0])/\∃ vv,SStp n0 P S W { P with vO:=vv } { S with tout:=r } W'):=by
 have oh:=zh (znA (h.later (Below.refl _ _).drew).rws .tb .tout (by simp) P.tb 1 rfl rfl S.tout rfl h.wf.tout.1 ((S.tout.length:Int)-1) (S.tout.length-1) (fun h=>⟨by omega,by omega⟩));have dY:=zh h.wf;have HS:=zh h;obtain⟨A,c,hv,hc,-⟩:=zkg (h.rws.row .tout);change P.vO=.slice A S.tout.length c at hv;have x0:W.cell? ⟨P.tb,1,none⟩=some (.slice A S.tout.length c):=by rw[<-hv];exact zc h.tbox rfl
 have hlen:=h.wf.tout.1;obtain⟨n,hn⟩:∃ n,S.tout.length=n:=⟨_,rfl⟩
 rw[hn] at x0 hlen;have had:Calls Tryz.prog 147 [.pointer (some ⟨P.tb,1,none⟩),.int .i64 ((n:Int)-1)].toArray W.drew fun e W'=>∃ u,e=.returned u/\∃ a1 a2,u=.tuple #[.int .i64 a1,.int .i64 a2] /\
   ((S.tout=[]/\(a1,a2)=((0:Int),(17:Int))/\Below W.heap.size W W')\/(∃ r x,S.tout=r++[x]/\(a1,a2)=(x,0)/\∃ vv,SStp n0 P S W { P with vO:=vv } { S with tout:=r } W')):=by
  rw[<-hn];refine oh.out.mono ?_;rintro e W' hh;rcases hh with⟨h0,rfl,hb⟩|⟨h0,rfl,vv,hst⟩
  ·exact⟨_,rfl,_,_,rfl,.inl ⟨List.length_eq_zero_iff.1 h0,rfl,zka (Below.refl _ _).drew hb⟩⟩
  ·have ht:=dY.out.tout;obtain⟨r,x,hrx⟩:∃ r x,S.tout=r++[x]:=⟨S.tout.dropLast,S.tout.getLast (by intro e;rw[e] at h0;simp at h0),(List.dropLast_concat_getLast _).symm⟩
   rw[hrx] at ht;refine⟨_,rfl,_,_,rfl,.inr ⟨r,x,hrx,?_,vv,⟨((Stp.after hst (Below.refl _ _).drew HS.out.rws).cast ?_),zsV dY.out _ (by have:=ht.1;simp at this;omega) fun y hy=>ht.2 y (List.mem_append_left _ hy)⟩⟩⟩
   ·rw[hrx];simp
   ·rw[zpf P S vv r,hrx];simp
 clear h hv hc hn oh;have hw1:IntKind.i64.wrap ((n:Int)-1)=(n:Int)-1:=IntWalk.i64_in _ (by omega);go_enter Tryz.func123,Tryz.ntmps123;go_upto_region 3 with fail;have hSS:(fun _:World=>True) W.drew/\(fun w':World=>w'.cell? ⟨P.tb,1,none⟩=some (.slice A n c)) W.drew:=⟨trivial,x0⟩
 refine wp_region_noPanic ?_;refine zkd (fun _:World=>True) (fun w':World=>w'.cell? ⟨P.tb,1,none⟩=some (.slice A n c)) 9 (by kernel_rfl) ?_;refine zT 0 hSS ?_;(try simp only[zQ]);refine zT 1 hSS ?_;(try simp only[zQ]);refine zT 2 hSS ?_;(try simp only[zQ]);refine zT 3 hSS ?_;(try simp only[zQ]);refine zT 4 hSS ?_;(try simp only[zQ]);refine zT 5 hSS ?_;(try simp only[zQ]);refine zo9 (i:=6) (v:=?_) [7,8] rfl (by kernel_rfl) (by kernel_rfl) (by kernel_rfl) (by decide) (by kernel_rfl) (by kernel_rfl) (fun _ _ _ h=>h) (Or.inl ⟨by rfl,?_⟩) hSS ?_;rotate_left 1
 ·(intro w hSw;(try dsimp only at hSw);(try simp only[zA,zB,zC]);go_simp;(try with_reducible rfl))
 (try simp only[zQ]);refine zT 7 hSS ?_;(try simp only[zQ]);refine zT 8 hSS ?_;(try simp only[zQ]);refine zp 9 fun K hK=>?_;refine zke (by rfl) (.func 147) [.tmp 8,.tmp 14] _ (by rfl) 147 _ zsq (by rfl) _ (by rfl) _ had ?_;rintro v4 w4 ⟨a1,a2,rfl,hh⟩;have HH:=zh hh;refine hK.out _ _ trivial ?_;clear hK K hSS had hh;(try simp only[zQ]);refine zo8 (i:=10) (v:=?_) rfl (by kernel_rfl) (by kernel_rfl) (by kernel_rfl) (by decide) (by kernel_rfl) (fun _ _ _ h=>h) (Or.inl ⟨by rfl,?_⟩) trivial ?_;rotate_left 1
 ·(intro w hSw;(try dsimp only at hSw);(try simp only[zA,zB,zC]);go_simp;(try with_reducible rfl))
 (try simp only[zQ]);refine zo8 (i:=11) (v:=?_) rfl (by kernel_rfl) (by kernel_rfl) (by kernel_rfl) (by decide) (by kernel_rfl) (fun _ _ _ h=>h) (Or.inl ⟨by rfl,?_⟩) trivial ?_;rotate_left 1
 ·(intro w hSw;(try dsimp only at hSw);(try simp only[zA,zB,zC]);go_simp;(try with_reducible rfl))
 (try simp only[zQ]);refine zp 12 fun K hK=>?_;(try simp only[zA,zB,zC]);go_simp;refine hK.out _ _ trivial ?_;clear hK K;(try simp only[zQ]);refine zp 13 fun K hK=>?_;(try simp only[zA,zB,zC]);go_simp;refine hK.out _ _ trivial ?_;clear hK K;(try simp only[zQ]);refine zd ?_;refine NoPanic.normal ?_;go_wp2_with fail;go_ret2;rcases HH.out with⟨h0,h1,h2⟩|⟨r,x,h0,h1,h2⟩
 ·injection h1 with e1 e2;subst e1 e2;exact .inl ⟨h0,rfl,h2⟩
 ·injection h1 with e1 e2;subst e1 e2;exact .inr ⟨r,a1,h0,rfl,h2⟩
def ownE (vs:List VD) (k:Int) (s:ByteArray):Int:=if zoO k=0 then 0 else match zlm vs s with
 | none=>6
 | some v=>if v.k=zoO k then 0 else 7
mutual
/-- frame.fault: the first fault in pre-order. -/
def fltE (vs:List VD):T->Int
 | .nd k _ s ks=>if ownE vs k s≠0 then ownE vs k s else zly vs ks
def zly (vs:List VD):List T->Int
 | []=>0
 | t::ts=>if fltE vs t≠0 then fltE vs t else zly vs ts
end
theorem zmt {vs:List VD}:∀ {ks:List T} {j:Nat} (h:j<ks.length),zly vs (ks.take j)=0->zly vs (ks.take (j+1))=fltE vs ks[j]
 | t::ts,0,_,_=>by simp only[List.take,zly,List.getElem_cons_zero];split<;>simp_all
 | t::ts,j+1,h,h0=>by
  simp only[List.take,zly,List.getElem_cons_succ] at h0 ⊢
  split at h0
  ·contradiction
  ·rename_i h1;rw[if_neg h1];exact zmt (by simpa using h) h0
theorem zmu {vs:List VD}:∀ {ks:List T} {j:Nat} (h:j<ks.length),zly vs (ks.take j)=0->fltE vs ks[j]≠0->zly vs ks=fltE vs ks[j]
 | t::ts,0,_,_,h1=>by simp only[zly,List.getElem_cons_zero] at *;rw[if_pos h1]
 | t::ts,j+1,h,h0,h1=>by
  simp only[List.take,zly,List.getElem_cons_succ] at h0 h1 ⊢
  split at h0
  ·contradiction
  ·rename_i h2;rw[if_neg h2];exact zmu (by simpa using h) h0 h1
theorem zrg (vs:List VD) (A:Option Addr) (c:Nat) (fp:Addr) (hl:vs.length<=4398046511000) (t:T):∀ (v:Value) (w:World),NV w Any t v->w.cell? fp=some (.slice A vs.length c)->RowV w Any A vs ->
  Calls Tryz.prog 63 #[.pointer (some fp),v] w fun e w'=>e=.returned (.int .i64 (fltE vs t))/\Below w.heap.size w w':=by
 induction t using T.ind with
 | _ k n s ks ih =>
  intro v w hv hc hrow;obtain⟨B,d,rfl,hf,hlk,hlc,hks⟩:=hv.open_;simp only[T.k_nd,T.n_nd,T.s_nd,T.ks_nd] at *
  have az:=zkK hlk;have vw:=zh ih;have kW:=zh hks;have HC:=zh hc;have ae:=zh hrow;obtain⟨R,hR⟩:∃ R,fltE vs (.nd k n s ks)=R:=⟨_,rfl⟩
  rw[hR];rw[fltE] at hR;have HR:=zh hR;obtain⟨nk,hnk⟩:∃ nk,zoO k=nk:=⟨_,rfl⟩
  have HNE:=zh (hnk▸zr6 k);have lZ:=zh hnk;obtain⟨VL,vZ⟩:∃ VL,vs.length=VL:=⟨_,rfl⟩
  have cB:=zh (show ∀ w',Below w.heap.size w w'->Calls Tryz.prog 89 #[.slice A VL c,.string s] w' fun e w''=>e=.returned (fdV (zlm vs s))/\Below w'.heap.size w' w'' from fun w' hb=>vZ▸znw vs A c s Any w' (hrow.later hb) (by unfold LV;omega));rw[vZ] at HC;have hc':=fun o=>zkq (o:=o) HC.out;have xM:=zh vZ;clear ih hv hf hlk hlc hks hc hrow hR hnk vZ;go_enter Tryz.func63,Tryz.ntmps63;go_wp2_with fail;refine(HNE.out _).mono ?_;rintro e w1 ⟨rfl,rfl⟩;have hbx:=heap_alloc_new w (.cells #[.int .u8 k,.int .i64 n,.string s,.slice B ks.length d] 24);have q1:Below w.heap.size w (w.alloc (.cells #[.int .u8 k,.int .i64 n,.string s,.slice B ks.length d] 24)):=zkc (Below.refl _ _) _;obtain⟨W1,hW1⟩:∃ W1,w.alloc (.cells #[.int .u8 k,.int .i64 n,.string s,.slice B ks.length d] 24)=W1:=⟨_,rfl⟩
  have hcW:=hc' (.cells #[.int .u8 k,.int .i64 n,.string s,.slice B ks.length d] 24);rw[hW1] at hbx q1 hcW ⊢;have aM:=zh hbx;have dx:=zh q1;have HCW:=zh hcW;obtain⟨m0,m1,m2,m3⟩:=box4 hbx;clear hbx q1 hW1 hc';by_cases hn0:nk=0
  ·subst hn0;have HRR:=zh (show zly vs ks=R by rw[<-HR.out,ownE,if_pos lZ.out];simp);have pJ:=dx;have pz:=aM;obtain⟨WX,kM⟩:∃ WX,W1=WX:=⟨_,rfl⟩
   rw[kM] at m0 m1 m2 m3 pJ pz hcW ⊢;clear kM HR lZ HNE cB;go_wp2_with fail
   go_loopw [10,35] (fun _ i wr=>∃ j:Nat,j<=ks.length/\i=.int .i64 j/\Below w.heap.size w wr/\wr.heap[w.heap.size]?=some (.cells #[.int .u8 k,.int .i64 n,.string s,.slice B ks.length d] 24 (0,0))/\Hid (zly vs (ks.take j)=0)) (fun _ i _=>ks.length-(intOf i).toNat)
   case atStart=>exact⟨0,Nat.zero_le _,rfl,pJ.out,pz.out,zh (by simp[zly])⟩
   case round =>
    obtain⟨j,hj,rfl,hbl,hbx,HJ⟩:=hrel;have af:=zh hbl;have uN:=zh hbx;by_cases hlt:j<ks.length
    ·obtain⟨a,t,A1,c1,rfl,_,Ht,⟨y0,y1,y2,y3⟩,hn⟩:=(kW.out.later hbl).nd hlt;obtain⟨re,hre⟩:∃ re,fltE vs t=re:=⟨_,rfl⟩
     have dV:=zh (show ∀ (v:Value) (w:World),NV w Any t v->w.cell? fp=some (.slice A VL c)->RowV w Any A vs->Calls Tryz.prog 63 #[.pointer (some fp),v] w fun e w'=>e=.returned (.int .i64 re)/\Below w.heap.size w w' from by
      have h1:=vw.out t (by rw[<-Ht.out];exact List.getElem_mem hlt);rw[hre,xM.out] at h1;exact h1)
     have fO:=zh hre;have HN:=zh hn;have hal:=zkc hbl (.cells #[.int .u8 t.k,.int .i64 t.n,.string t.s,.slice A1 t.ks.length c1] 24);have pW:=zh (dV.out _ _ (HN.out.later (zkc (Below.refl _ _) (.cells #[.int .u8 t.k,.int .i64 t.n,.string t.s,.slice A1 t.ks.length c1] 24))) (zb hal HC.out) (ae.out.later hal));clear hn hbl hbx hre hal;go_wp2_with fail;refine pW.out.mono ?_;rintro e w5 ⟨rfl,eZ⟩;have av:=zh (zka (zkc af.out _) eZ);have qY:=zh (zkb (zkf uN.out _) eZ);clear eZ y0 y1 y2 y3;by_cases hr0:re=0
     ·subst hr0;have HJ2:Hid (zly vs (ks.take (j+1))=0):=zh (by rw[zmt hlt HJ.out,Ht.out];exact fO.out);go_wp2_with fail
      go_roundw
      case rel=>exact⟨j+1,by omega,by go_num,av.out,qY.out,HJ2⟩
      case measure=>simp[intOf];omega
     ·have e1:(re==0)=false:=by simpa using hr0
      have e2:(re != 0)=true:=by simpa using hr0
      have HF:=zh (show R=re by rw[<-HRR.out,zmu hlt HJ.out (by rw[Ht.out,fO.out];exact hr0),Ht.out,fO.out]);clear hr0;go_wp2_with fail;go_ret;exact⟨by rw[HF.out];rfl,av.out⟩
    ·obtain rfl:j=ks.length:=by omega
     have HF:=zh (show R=0 by
      have:=HJ.out;rw[List.take_of_length_le (Nat.le_refl _)] at this;rw[<-HRR.out];exact this)
     clear hbl hbx;go_wp2_with fail;go_ret;exact⟨by rw[HF.out];rfl,af.out⟩
  ·have e1:(nk==0)=false:=by simpa using hn0
   have e2:(nk != 0)=true:=by simpa using hn0
   obtain⟨fd,xu⟩:∃ fd,zlm vs s=fd:=⟨_,rfl⟩
   rw[xu] at cB;have vB:=zh xu;have ay:=zh (show ∀ w',Below W1.heap.size W1 w'->w'.cell? fp=some (.slice A VL c)/\w'.cell? ⟨w.heap.size,2,none⟩=some (.string s) from fun w' hb=>⟨zb hb hcW,zb hb m2⟩);have aP:=zh (ay.out _ (Below.refl _ _).drew);clear hcW m0 m1 m2 m3 xu
   cases fd with
   | none =>
    go_upto_region 3 with fail
    go_region_held3 (fun w':World=>w'.cell? fp=some (.slice A VL c)/\w'.cell? ⟨w.heap.size,2,none⟩=some (.string s))
     (first|with_reducible exact aB.out|with_reducible exact aP.out|(exact ay.out _ (zkc (Below.refl _ _) _).drew)|(exact ay.out _ (zkc b1 _))|(exact ay.out _ (((b1.setCell (by simp) _).setCell (by simp) _).setCell (by simp) _)))
     (first
      | (go_at_call 89;refine(cB.out _ (zka dx.out (by first|exact(Below.refl _ _).drew|exact(zkc (Below.refl _ _) _).drew))).mono ?_;rintro e y1 ⟨rfl,dJ⟩;have b1:Below W1.heap.size W1 y1:=zka (by first|exact(Below.refl _ _).drew|exact(zkc (Below.refl _ _) _).drew) dJ;have aB:=zh (ay.out _ b1);(try (have hz:=zkb (show(W1.alloc (.cells #[.string ⟨#[]⟩,.int .u8 0,.int .i64 0] 76)).drew.heap[W1.heap.size]?=some (.cells #[.string ⟨#[]⟩,.int .u8 0,.int .i64 0] 76 (0,0)) from heap_alloc_new W1 _) dJ;have hz0:y1.cell? ⟨W1.heap.size,0,none⟩=some (.string ⟨#[]⟩):=zc hz rfl;have hz1:y1.cell? ⟨W1.heap.size,1,none⟩=some (.int .u8 0):=zc hz rfl;have hz2:y1.cell? ⟨W1.heap.size,2,none⟩=some (.int .i64 0):=zc hz rfl;have tY:∀ i,y1.frozen? ⟨W1.heap.size,i,none⟩=false:=fun i=>zf hz)))
      | fail)
    all_goals
     have HRR:=zh (show R=6 by
      have:ownE vs k s=6:=by rw[ownE,if_neg (by rw[lZ.out];exact hn0),vB.out]
      rw[<-HR.out,this];rfl)
     have HB1:=zh (zka dx.out b1);have yH:=zh (show Below W1.heap.size W1 _ from b1);(try clear hz hz0 hz1 hz2 tY);clear b1 dJ aB HR hn0;go_wp2_with fail;go_ret
     first
      | exact⟨by rw[HRR.out];rfl,zkc HB1.out _⟩
      | exact⟨by rw[HRR.out];rfl,zka dx.out (((yH.out.setCell (by simp) _).setCell (by simp) _).setCell (by simp) _)⟩
   | some vd =>
    obtain⟨vm,vk,vl⟩:=vd;go_upto_region 3 with fail
    go_region_held3 (fun w':World=>w'.cell? fp=some (.slice A VL c)/\w'.cell? ⟨w.heap.size,2,none⟩=some (.string s))
     (first|with_reducible exact aB.out|with_reducible exact aP.out|(exact ay.out _ (zkc (Below.refl _ _) _).drew)|(exact ay.out _ (zkc b1 _))|(exact ay.out _ (((b1.setCell (by simp) _).setCell (by simp) _).setCell (by simp) _)))
     (first
      | (go_at_call 89;refine(cB.out _ (zka dx.out (by first|exact(Below.refl _ _).drew|exact(zkc (Below.refl _ _) _).drew))).mono ?_;rintro e y1 ⟨rfl,dJ⟩;have b1:Below W1.heap.size W1 y1:=zka (by first|exact(Below.refl _ _).drew|exact(zkc (Below.refl _ _) _).drew) dJ;have aB:=zh (ay.out _ b1);(try (have hz:=zkb (show(W1.alloc (.cells #[.string ⟨#[]⟩,.int .u8 0,.int .i64 0] 76)).drew.heap[W1.heap.size]?=some (.cells #[.string ⟨#[]⟩,.int .u8 0,.int .i64 0] 76 (0,0)) from heap_alloc_new W1 _) dJ;have hz0:y1.cell? ⟨W1.heap.size,0,none⟩=some (.string ⟨#[]⟩):=zc hz rfl;have hz1:y1.cell? ⟨W1.heap.size,1,none⟩=some (.int .u8 0):=zc hz rfl;have hz2:y1.cell? ⟨W1.heap.size,2,none⟩=some (.int .i64 0):=zc hz rfl;have tY:∀ i,y1.frozen? ⟨W1.heap.size,i,none⟩=false:=fun i=>zf hz)))
      | fail)
    ·obtain⟨WX,kM⟩:∃ WX,y1.alloc (.cells #[.string vm,.int .u8 vk,.int .i64 vl] 76)=WX:=⟨_,rfl⟩
     have hbX:Below W1.heap.size W1 WX:=kM▸zkc b1 _;have hvk:WX.cell? ⟨y1.heap.size,1,none⟩=some (.int .u8 vk):=by rw[<-kM];simp
     rw[kM];have pJ:=zh (zka dx.out hbX);have pz:=zh (zkb aM.out hbX);obtain⟨m0,m1,m2,m3⟩:=box4 pz.out;clear b1 dJ aB hbX kM;by_cases hk:vk=nk
     ·have HRR:=zh (show zly vs ks=R by
       have:ownE vs k s=0:=by rw[ownE,if_neg (by rw[lZ.out];exact hn0),vB.out];simp[lZ.out,hk]
       rw[<-HR.out,this];simp)
      have e1:(vk==nk)=true:=by simpa using hk
      have e2:(vk != nk)=false:=by simpa using hk
      clear hn0 hk;go_wp2_with fail
      go_loopw [10,35] (fun _ i wr=>∃ j:Nat,j<=ks.length/\i=.int .i64 j/\Below w.heap.size w wr/\wr.heap[w.heap.size]?=some (.cells #[.int .u8 k,.int .i64 n,.string s,.slice B ks.length d] 24 (0,0))/\Hid (zly vs (ks.take j)=0)) (fun _ i _=>ks.length-(intOf i).toNat)
      case atStart=>exact⟨0,Nat.zero_le _,rfl,pJ.out,pz.out,zh (by simp[zly])⟩
      case round =>
       obtain⟨j,hj,rfl,hbl,hbx,HJ⟩:=hrel;have af:=zh hbl;have uN:=zh hbx;by_cases hlt:j<ks.length
       ·obtain⟨a,t,A1,c1,rfl,_,Ht,⟨y0,y1,y2,y3⟩,hn⟩:=(kW.out.later hbl).nd hlt;obtain⟨re,hre⟩:∃ re,fltE vs t=re:=⟨_,rfl⟩
        have dV:=zh (show ∀ (v:Value) (w:World),NV w Any t v->w.cell? fp=some (.slice A VL c)->RowV w Any A vs->Calls Tryz.prog 63 #[.pointer (some fp),v] w fun e w'=>e=.returned (.int .i64 re)/\Below w.heap.size w w' from by
         have h1:=vw.out t (by rw[<-Ht.out];exact List.getElem_mem hlt);rw[hre,xM.out] at h1;exact h1)
        have fO:=zh hre;have HN:=zh hn;have hal:=zkc hbl (.cells #[.int .u8 t.k,.int .i64 t.n,.string t.s,.slice A1 t.ks.length c1] 24);have pW:=zh (dV.out _ _ (HN.out.later (zkc (Below.refl _ _) (.cells #[.int .u8 t.k,.int .i64 t.n,.string t.s,.slice A1 t.ks.length c1] 24))) (zb hal HC.out) (ae.out.later hal));clear hn hbl hbx hre hal;go_wp2_with fail;refine pW.out.mono ?_;rintro e w5 ⟨rfl,eZ⟩;have av:=zh (zka (zkc af.out _) eZ);have qY:=zh (zkb (zkf uN.out _) eZ);clear eZ y0 y1 y2 y3;by_cases hr0:re=0
        ·subst hr0;have HJ2:Hid (zly vs (ks.take (j+1))=0):=zh (by rw[zmt hlt HJ.out,Ht.out];exact fO.out);go_wp2_with fail
         go_roundw
         case rel=>exact⟨j+1,by omega,by go_num,av.out,qY.out,HJ2⟩
         case measure=>simp[intOf];omega
        ·have e1:(re==0)=false:=by simpa using hr0
         have e2:(re != 0)=true:=by simpa using hr0
         have HF:=zh (show R=re by rw[<-HRR.out,zmu hlt HJ.out (by rw[Ht.out,fO.out];exact hr0),Ht.out,fO.out]);clear hr0;go_wp2_with fail;go_ret;exact⟨by rw[HF.out];rfl,av.out⟩
       ·obtain rfl:j=ks.length:=by omega
        have HF:=zh (show R=0 by
         have:=HJ.out;rw[List.take_of_length_le (Nat.le_refl _)] at this;rw[<-HRR.out];exact this)
        clear hbl hbx;go_wp2_with fail;go_ret;exact⟨by rw[HF.out];rfl,af.out⟩
     ·have HRR:=zh (show R=7 by
       have:ownE vs k s=7:=by rw[ownE,if_neg (by rw[lZ.out];exact hn0),vB.out];simp[lZ.out,hk]
       rw[<-HR.out,this];rfl)
      have e1:(vk==nk)=false:=by simpa using hk
      have e2:(vk != nk)=true:=by simpa using hk
      clear hn0 hk;go_wp2_with fail;go_ret;exact⟨by rw[HRR.out];rfl,pJ.out⟩
    ·obtain⟨WX,kM⟩:∃ WX,((y1.setCell ⟨W1.heap.size,0,none⟩ (.string vm)).setCell ⟨W1.heap.size,1,none⟩ (.int .u8 vk)).setCell ⟨W1.heap.size,2,none⟩ (.int .i64 vl)=WX:=⟨_,rfl⟩
     have hbX:Below W1.heap.size W1 WX:=kM▸((b1.setCell (by simp) _).setCell (by simp) _).setCell (by simp) _;have hvk:WX.cell? ⟨W1.heap.size,1,none⟩=some (.int .u8 vk):=by rw[<-kM];exact zc (heap_setCell_same _ W1.heap.size 2 _ _ (.int .i64 vl) (heap_setCell_same _ W1.heap.size 1 _ _ (.int .u8 vk) (heap_setCell_same y1 W1.heap.size 0 _ _ (.string vm) hz))) (by simp)
     rw[kM];have pJ:=zh (zka dx.out hbX);have pz:=zh (zkb aM.out hbX);obtain⟨m0,m1,m2,m3⟩:=box4 pz.out;clear hz hz0 hz1 hz2 tY;clear b1 dJ aB hbX kM;by_cases hk:vk=nk
     ·have HRR:=zh (show zly vs ks=R by
       have:ownE vs k s=0:=by rw[ownE,if_neg (by rw[lZ.out];exact hn0),vB.out];simp[lZ.out,hk]
       rw[<-HR.out,this];simp)
      have e1:(vk==nk)=true:=by simpa using hk
      have e2:(vk != nk)=false:=by simpa using hk
      clear hn0 hk;go_wp2_with fail
      go_loopw [10,35] (fun _ i wr=>∃ j:Nat,j<=ks.length/\i=.int .i64 j/\Below w.heap.size w wr/\wr.heap[w.heap.size]?=some (.cells #[.int .u8 k,.int .i64 n,.string s,.slice B ks.length d] 24 (0,0))/\Hid (zly vs (ks.take j)=0)) (fun _ i _=>ks.length-(intOf i).toNat)
      case atStart=>exact⟨0,Nat.zero_le _,rfl,pJ.out,pz.out,zh (by simp[zly])⟩
      case round =>
       obtain⟨j,hj,rfl,hbl,hbx,HJ⟩:=hrel;have af:=zh hbl;have uN:=zh hbx;by_cases hlt:j<ks.length
       ·obtain⟨a,t,A1,c1,rfl,_,Ht,⟨y0,y1,y2,y3⟩,hn⟩:=(kW.out.later hbl).nd hlt;obtain⟨re,hre⟩:∃ re,fltE vs t=re:=⟨_,rfl⟩
        have dV:=zh (show ∀ (v:Value) (w:World),NV w Any t v->w.cell? fp=some (.slice A VL c)->RowV w Any A vs->Calls Tryz.prog 63 #[.pointer (some fp),v] w fun e w'=>e=.returned (.int .i64 re)/\Below w.heap.size w w' from by
         have h1:=vw.out t (by rw[<-Ht.out];exact List.getElem_mem hlt);rw[hre,xM.out] at h1;exact h1)
        have fO:=zh hre;have HN:=zh hn;have hal:=zkc hbl (.cells #[.int .u8 t.k,.int .i64 t.n,.string t.s,.slice A1 t.ks.length c1] 24);have pW:=zh (dV.out _ _ (HN.out.later (zkc (Below.refl _ _) (.cells #[.int .u8 t.k,.int .i64 t.n,.string t.s,.slice A1 t.ks.length c1] 24))) (zb hal HC.out) (ae.out.later hal));clear hn hbl hbx hre hal;go_wp2_with fail;refine pW.out.mono ?_;rintro e w5 ⟨rfl,eZ⟩;have av:=zh (zka (zkc af.out _) eZ);have qY:=zh (zkb (zkf uN.out _) eZ);clear eZ y0 y1 y2 y3;by_cases hr0:re=0
        ·subst hr0;have HJ2:Hid (zly vs (ks.take (j+1))=0):=zh (by rw[zmt hlt HJ.out,Ht.out];exact fO.out);go_wp2_with fail
         go_roundw
         case rel=>exact⟨j+1,by omega,by go_num,av.out,qY.out,HJ2⟩
         case measure=>simp[intOf];omega
        ·have e1:(re==0)=false:=by simpa using hr0
         have e2:(re != 0)=true:=by simpa using hr0
         have HF:=zh (show R=re by rw[<-HRR.out,zmu hlt HJ.out (by rw[Ht.out,fO.out];exact hr0),Ht.out,fO.out]);clear hr0;go_wp2_with fail;go_ret;exact⟨by rw[HF.out];rfl,av.out⟩
       ·obtain rfl:j=ks.length:=by omega
        have HF:=zh (show R=0 by
         have:=HJ.out;rw[List.take_of_length_le (Nat.le_refl _)] at this;rw[<-HRR.out];exact this)
        clear hbl hbx;go_wp2_with fail;go_ret;exact⟨by rw[HF.out];rfl,af.out⟩
     ·have HRR:=zh (show R=7 by
       have:ownE vs k s=7:=by rw[ownE,if_neg (by rw[lZ.out];exact hn0),vB.out];simp[lZ.out,hk]
       rw[<-HR.out,this];rfl)
      have e1:(vk==nk)=false:=by simpa using hk
      have e2:(vk != nk)=true:=by simpa using hk
      clear hn0 hk;go_wp2_with fail;go_ret;exact⟨by rw[HRR.out];rfl,pJ.out⟩
end Go.Proofs.YtghbhbdnkjjnnaaGreat
