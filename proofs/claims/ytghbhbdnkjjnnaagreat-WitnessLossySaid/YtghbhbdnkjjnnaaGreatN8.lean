/-
  Texts of the proof, put together without their remarks: ScC, Wp, ScR, ScV, Fa, ScK.
-/
import Derived.Test.YtghbhbdnkjjnnaaGreatN7
import Derived.ArgAppend
set_option linter.unusedSimpArgs false
set_option linter.unusedVariables false
set_option maxHeartbeats 8000000
set_option maxRecDepth 100000
namespace Go.Proofs.YtghbhbdnkjjnnaaGreat
open Go.RowKit
theorem ztq (A:Option Addr) (l c:Nat) (hlc:l<=c) (hl:l<=LI) (w:World):Calls Tryz.prog 150 #[.slice A l c] w fun e w'=>e=.returned (.slice A l l)/\w=w':=by
 have hl':=zoE hl;have h1:(l:Int)<=(c:Int):=by omega
 clear hl;go_enter Tryz.func150,Tryz.ntmps150;go_wp2_with fail;go_ret;exact⟨rfl,rfl⟩
theorem zpI (A:Option Addr) (l c:Nat) (hlc:l<=c) (hl:l<=LV) (w:World):Calls Tryz.prog 151 #[.slice A l c] w fun e w'=>e=.returned (.slice A l l)/\w=w':=by
 have hl':=zlv hl;have h1:(l:Int)<=(c:Int):=by omega
 clear hl;go_enter Tryz.func151,Tryz.ntmps151;go_wp2_with fail;go_ret;exact⟨rfl,rfl⟩
theorem zlW {P:Program} {w:World} {ops:Array Oper} {o:Oper} {a:Act} {K:Act->World->Prop} {Q:Exit->Act->World->Prop} {F:Prop} (hgd:o.guard=none) (s x:Operand) (t:TypeId)
  (hop:o.op=Op.call { callee:=Callee.builtin Builtin.append,args := #[s,x],argTypes := #[t,t] }) (e:TypeId) (i:TypeInfo) (z:Value) (size bytes:Nat) (h1:P.underlying t=some (.slice e)) (h2:P.info? e=some i) (h3:i.zero=some z) (h4:i.size=size) (h5:i.bytes=bytes) (h6:z.cells.size=size) (h7:0<size)
  (ao:Option Addr) (n cap:Nat) (olds:List Value) (hs:a.eval s=.slice ao n cap) (hnone:ao=none->n=0/\cap=0) (hlo:olds.length=n*size) (holds:∀ b,ao=some b->∀ j u,olds[j]?=some u->w.cell? (b.add j)=some u)
  (ad:Addr) (m c:Nat) (news:List Value) (hx:a.eval x=.slice (some ad) m c) (hn:news.length=m*size) (hc:∀ j u,news[j]?=some u->w.cell? (ad.add j)=some u) (h1c:∀ u∈news,u.oneCell'=true)
  (hfull:cap<n+m) (b1:n+m<=maxLen) (b2:(n+m)*bytes<=140737488355328)
  (hK:∀ v' w',w'.ownsRow w.heap.size e size v' (n+m) (olds++news)->w.grownBy w' none->K (a.put o.dst v') w') :
  if Region.wanted o (yielded ops a.tmps)=true then Oper.wp P o a w K Q else F:=by
 have hw:Region.wanted o (yielded ops a.tmps)=true:=by simp[Region.wanted,hgd]
 rw[if_pos hw]
 cases ao with
 | some b =>
  obtain⟨v',w',hrun,r1,r2⟩:=run_append_arg_grows (P:=P) w t o.type e i z size bytes h1 h2 h3 h4 h5 h6 h7 b n cap olds hlo (holds b rfl) ad m c news hn hc hfull b1 b2;unfold Oper.wp;simp[execOp,hop,resolve,invoke,builtin,hs,hx,hrun,Result.andThen];exact hK v' w' r1 r2
 | none =>
  obtain⟨rfl,rfl⟩:=hnone rfl;obtain rfl:olds=[]:=List.eq_nil_of_length_eq_zero (by simpa using hlo);obtain⟨v',w',hrun,r1,r2,_⟩:=run_append_own (P:=P) w w.heap.size t o.type e i z size bytes h1 h2 h3 h4 h5 h6 h7 (.slice none 0 0) 0 [] (World.ownsRow_nil w _ e size) ad m c news hn hc h1c b1 b2 (Nat.le_refl _);unfold Oper.wp;simp[execOp,hop,resolve,invoke,builtin,hs,hx,hrun,Result.andThen];exact hK v' w' r1 r2
theorem zn0 (q:List Int) (A:Option Addr) (c:Nat) (i:Int) (hi:I64 i) (S:Nat->Prop) (w:World) (hrow:RowI w S A q) (hlc:q.length<=c) (hl:q.length<=100000) :
  Calls Tryz.prog 131 #[.slice A q.length c,.int .i64 i] w (NewI w (q++[i])):=by
 obtain⟨i0,hi0,hz0,hz1,hz2⟩:=info_parts znM;have ae:=zh hrow;have HI:=zh hi;have hbI:=zo3;have hm1:q.length+1<=maxLen:=by unfold maxLen;omega
 have hm2:(q.length+1)*8<=140737488355328:=by omega
 have hnone:A=none->q.length=0/\q.length=0:=fun h=>by
  subst h
  cases q with
  | nil=>simp
  | cons x xs=>obtain⟨_,h,_⟩:=hrow 0 (by simp);cases h
 have hold:∀ b,A=some b->∀ (j:Nat) u,(q.map fun x=>Value.int .i64 x)[j]?=some u->(w.alloc (.cells #[.int .i64 i] 3)).cell? (b.add j)=some u:=fun b hb j u hj=>by
  subst hb;exact zkq (hrow.news.1 j u hj) _
 have hnew:∀ (j:Nat) (u:Value),[Value.int .i64 i][j]?=some u->(w.alloc (.cells #[.int .i64 i] 3)).cell? ((⟨w.heap.size,0,none⟩:Addr).add j)=some u:=fun j u h=>by
  have:=zlt w 3 [Value.int .i64 i] j u h;simpa using this
 clear hrow hi;go_enter Tryz.func131,Tryz.ntmps131;go_wp2_with fail;refine(ztq A q.length c hlc (by unfold LI;omega) _).mono ?_;rintro e w' ⟨rfl,rfl⟩;go_wp2_with (at_builtin;refine wpList_append_grows (P:=Tryz.prog) _ rfl (.tmp 6) (.tmp 8) 32 rfl 3 i0 _ 1 8 Tryz.underlying32 hi0 hz0 hz1 hz2 rfl (by decide) A q.length q.length _ rfl hnone (by simp) hold ⟨w.heap.size,0,none⟩ 1 1 [.int .i64 i] rfl rfl hnew (by intro u hu;simp at hu;subst hu;rfl) (by omega) hm1 hm2 ?_;intro v' w' h2 h3)
 have h2':w'.ownsRow (w.heap.size+1) 3 1 v' (q++[i]).length ((q++[i]).map (fun x=>Value.int .i64 x)):=by
  have:=h2;simp only[World.size_alloc] at this;simpa using this
 have hbl:Below w.heap.size w w':=((Below.refl w.heap.size w).alloc (Nat.le_refl _) _).grown h3 (by simp) (fun g e=>by cases e);obtain⟨A',c',rfl,hcc,aS⟩:=zlR h2' (by
  intro x hx;simp only[List.mem_append,List.mem_singleton] at hx;rcases hx with hx|rfl
  ·exact ae.out.fits x hx
  ·exact HI.out)
 have bV:=zh (aS.mono (S':=From w.heap.size) fun b hb=>by have:=(h2'.lt b hb).1;show w.heap.size<=b;omega);have HB:=zh hbl;have HC:=zh hcc;clear h2 h2' h3 hbl hold hnew aS hcc hnone;go_wp2_with fail;go_ret;exact⟨A',c',rfl,bV.out,HC.out,HB.out⟩
theorem zwb (s:ByteArray) (k:Int) (w:World):(Instr.build 76 #[(0,.string s),(1,.int .u8 k)]).run Tryz.prog w=.ok (.agg #[.string s,.int .u8 k,.int .i64 0]) w:=by kernel_rfl
theorem zuF (a0 a1 a2:Value) (w:World):(Instr.buildSlice 25 1 #[(0,.agg #[a0,a1,a2])]).run Tryz.prog w=.ok (.slice (some ⟨w.heap.size,0,none⟩) 1 1) (w.alloc (.cells #[a0,a1,a2] 76)):=by kernel_rfl
def zmg (k:Int) (s:ByteArray) (i:Nat) (vs:List VD):List VD:=if k=54/\i=1 then vs++[⟨s,1,0⟩] else if k=55/\i=0 then vs++[⟨s,3,0⟩] else vs
def zuY (w:World) (S:Nat->Prop) (vs:List VD) (e:Ending) (w':World):Prop:=∃ A' c',e=.returned (.slice A' vs.length c')/\RowV w' (fun b=>S b\/w.heap.size<=b) A' vs/\vs.length<=c'/\Below w.heap.size w w'
theorem zpk {w w':World} {base:Nat} {E:TypeId} {v:Value} {vs:List VD} {u:VD} {news:List Value} (hn:∀ i (hi:i<vs.length),news[i*3]?=some (.string vs[i].s)/\news[i*3+1]?=some (.int .u8 vs[i].k)/\news[i*3+2]?=some (.int .i64 vs[i].n))
  (hl:news.length=vs.length*3) (hf:∀ i (hi:i<vs.length),FldV vs[i]) (hu:FldV u) (h:w'.ownsRow base E 3 v (vs.length+1) (news++[.string u.s,.int .u8 u.k,.int .i64 u.n])) :
  ∃ A c,v=.slice A (vs++[u]).length c/\(vs++[u]).length<=c/\RowV w' (fun b=>base<=b) A (vs++[u]):=by
 rcases h.2 with⟨_,h0⟩|⟨g,cap,cur,rfl,hb,hg,hc,hm,hz,hx⟩
 ·omega
 ·refine⟨some ⟨g,0,none⟩,cap,by simp,by simpa using hc,fun i hi=>?_⟩;have ha:(⟨g,0,none⟩:Addr).add (i*3)=⟨g,i*3,none⟩:=by unfold Addr.add;split<;>simp_all
  have hcell:∀ j x,(news++[Value.string u.s,.int .u8 u.k,.int .i64 u.n])[j]?=some x->w'.cell? ⟨g,j,none⟩=some x:=fun j x hj=>by
   have hlt:=(List.getElem?_eq_some_iff.1 hj).1;rw[h.cellAt j (by simp at hlt;omega)];exact hj
  refine⟨⟨g,0,none⟩,rfl,hb,?_,?_⟩
  ·rw[ha];by_cases e:i<vs.length
   ·obtain⟨e0,e1,e2⟩:=hn i e;rw[List.getElem_append_left e];exact⟨hcell (i*3) _ (by rw[List.getElem?_append_left (by omega)];exact e0),hcell (i*3+1) _ (by rw[List.getElem?_append_left (by omega)];exact e1),hcell (i*3+2) _ (by rw[List.getElem?_append_left (by omega)];exact e2)⟩
   ·have e':i=vs.length:=by simp at hi;omega
    subst e';simp only[List.getElem_append_right (Nat.le_refl _),Nat.sub_self,List.getElem_cons_zero];exact⟨hcell (vs.length*3) _ (by rw[List.getElem?_append_right (by omega)];simp[hl]),hcell (vs.length*3+1) _ (by rw[List.getElem?_append_right (by omega)];simp[hl]),hcell (vs.length*3+2) _ (by rw[List.getElem?_append_right (by omega)];simp[hl])⟩
  ·by_cases e:i<vs.length
   ·rw[List.getElem_append_left e];exact hf i e
   ·have e':i=vs.length:=by simp at hi;omega
    subst e';simpa using hu
theorem zso (t:T) (i:Nat) (hi64:i<=4000000000) (vs:List VD) (A:Option Addr) (c:Nat) (S S':Nat->Prop) (v:Value) (w:World) (hv:NV w S' t v) (hrow:RowV w S A vs) (hlc:vs.length<=c) (hl:vs.length<=100000) :
  Calls Tryz.prog 133 #[v,.int .i64 i,.slice A vs.length c] w (zuY w S (zmg t.k t.s i vs)):=by
 obtain⟨i0,hi0,hz0,hz1,hz2⟩:=info_parts zvd;obtain⟨B,tc,rfl,hft,-⟩:=hv.open_;have ae:=zh hrow;have iL:=zh hlc;have oK:=zh hft;have hb2:=zwb;have hbs:=zuF;have hm1:vs.length+1<=maxLen:=by unfold maxLen;omega
 have hm2:(vs.length+1)*32<=140737488355328:=by omega
 have hlv:vs.length<=LV:=by unfold LV;omega
 obtain⟨news,hnl,hnc,hn1,mM⟩:∃ news:List Value,news.length=vs.length*3/\(∀ b,A=some b->∀ (j:Nat) u,news[j]?=some u->w.cell? (b.add j)=some u)/\(A=none->vs.length=0/\vs.length=0)/\(∀ i (hi:i<vs.length),news[i*3]?=some (.string vs[i].s)/\news[i*3+1]?=some (.int .u8 vs[i].k)/\news[i*3+2]?=some (.int .i64 vs[i].n)):=by
  cases A with
  | none =>
   have h0:vs=[]:=by
    cases vs with
    | nil=>rfl
    | cons x xs=>obtain⟨_,h,_⟩:=hrow 0 (by simp);cases h
   subst h0;exact⟨[],rfl,(fun b h=>by cases h),(fun _=>⟨rfl,rfl⟩),fun i hi=>absurd hi (by simp)⟩
  | some a =>
   obtain⟨news,h1,h2,_,h4⟩:=hrow.news;exact⟨news,h1,(fun b h=>by injection h with h;subst h;exact h2),(fun h=>by cases h),h4⟩
 have mZ:=zh mM;have HFV:=zh (show ∀ i (hi:i<vs.length),FldV vs[i] from fun i hi=>(hrow i hi).choose_spec.2.2.2);clear hrow hlc hft hv mM;generalize t.k=tk,t.n=tn,t.s=ts,t.ks.length=tl at *
 obtain⟨V,hV⟩:∃ V,zmg tk ts i vs=V:=⟨_,rfl⟩
 rw[hV];have HV:=zh hV;clear hV;have key:∀ (kd:Int) (hkd:kd=1\/kd=3) (W':World) (v':Value),(((w.alloc (.cells #[.int .u8 tk,.int .i64 tn,.string ts,.slice B tl tc] 24)).alloc (.cells #[.string ts,.int .u8 kd,.int .i64 0] 76)).drew).grownBy W' none ->
   W'.ownsRow ((w.alloc (.cells #[.int .u8 tk,.int .i64 tn,.string ts,.slice B tl tc] 24)).alloc (.cells #[.string ts,.int .u8 kd,.int .i64 0] 76)).drew.heap.size 76 3 v' (vs.length+1) (news++[.string ts,.int .u8 kd,.int .i64 0])->V=vs++[⟨ts,kd,0⟩]->zuY w S V (.returned v') W':=by
  intro kd hkd W' v' hg ho hVV;subst hVV;obtain⟨A',c',rfl,hcc,hrr⟩:=zpk (w:=w) (u:=⟨ts,kd,0⟩) mZ.out hnl HFV.out ⟨oK.out.2.2,(show(0:Int)<=kd/\kd<256 by rcases hkd with rfl|rfl<;>decide),(by decide:(-9223372036854775808:Int)<=0/\(0:Int)<=9223372036854775807)⟩ ho;refine⟨A',c',rfl,hrr.mono fun b hb=>.inr ?_,hcc,?_⟩
  ·simp at hb;omega
  ·exact((((Below.refl w.heap.size w).alloc (Nat.le_refl _) _).alloc (by simp) _).drew).grown hg (by simp;omega) (fun g e=>by cases e)
 have HKEY:=zh key;have hnc':∀ o o' b,A=some b->∀ (j:Nat) u,news[j]?=some u->((w.alloc o).alloc o').drew.cell? (b.add j)=some u:=fun o o' b hb j u hj=>zkq (zkq (hnc b hb j u hj) o) o';have hnw:∀ (kd:Int) (j:Nat) (u:Value),[Value.string ts,.int .u8 kd,.int .i64 0][j]?=some u->((w.alloc (.cells #[.int .u8 tk,.int .i64 tn,.string ts,.slice B tl tc] 24)).alloc (.cells #[.string ts,.int .u8 kd,.int .i64 0] 76)).drew.cell? ((⟨w.heap.size+1,0,none⟩:Addr).add j)=some u:=fun kd j u h=>by
  have:=zlt (w.alloc (.cells #[.int .u8 tk,.int .i64 tn,.string ts,.slice B tl tc] 24)) 76 [Value.string ts,.int .u8 kd,.int .i64 0] j u h;simpa using this
 have HNC:=zh hnc';have ku:=zh hnw;clear key hnc hnc' hnw;by_cases dX:tk=54/\i=1
 ·obtain⟨rfl,rfl⟩:=dX;have uP:=zh (show V=vs++[⟨ts,1,0⟩] by rw[<-HV.out];simp[zmg]);go_enter Tryz.func133,Tryz.ntmps133;go_wp2_with fail
  go_region_held3 (fun w'=>w'.cell? ⟨w.heap.size,2,none⟩=some (.string ts))
   (first|exact hk5|(simp;done))
   (first
    | (refine zlW (by rfl) (.tmp 16) (.tmp 20) 25 (by rfl) 76 i0 _ 3 32 Tryz.underlying25 hi0 hz0 hz1 hz2 rfl (by decide) A vs.length vs.length news (by rfl) hn1 hnl (HNC.out _ _) ⟨w.heap.size+1,0,none⟩ 1 1 [.string ts,.int .u8 1,.int .i64 0] (by rfl) rfl (ku.out 1) (by intro u hu;simp at hu;rcases hu with rfl|rfl|rfl<;>rfl) (by omega) hm1 hm2 ?_;intro v' w' h2 h3;have HF:=zh (HKEY.out 1 (.inl rfl) w' v' h3 h2 uP.out);have hk5:w'.cell? ⟨w.heap.size,2,none⟩=some (.string ts):=(World.cell?_of_block (a:=⟨w.heap.size,2,none⟩) (h3.block _ (by simp;omega) (by simp))).trans (by simp);clear h2 h3)
    | (go_at_call 151;refine(zpI A vs.length c iL.out hlv _).mono ?_;rintro e wq ⟨rfl,rfl⟩)
    | fail)
  all_goals
   clear hk5;go_wp2_with fail;go_ret;exact HF.out
 by_cases eF:tk=55/\i=0
 ·obtain⟨rfl,rfl⟩:=eF;have uP:=zh (show V=vs++[⟨ts,3,0⟩] by rw[<-HV.out];simp[zmg]);go_enter Tryz.func133,Tryz.ntmps133;go_wp2_with fail
  go_region_held3 (fun w'=>w'.cell? ⟨w.heap.size,2,none⟩=some (.string ts))
   (first|exact hk5|(simp;done))
   (first
    | (refine zlW (by rfl) (.tmp 31) (.tmp 35) 25 (by rfl) 76 i0 _ 3 32 Tryz.underlying25 hi0 hz0 hz1 hz2 rfl (by decide) A vs.length vs.length news (by rfl) hn1 hnl (HNC.out _ _) ⟨w.heap.size+1,0,none⟩ 1 1 [.string ts,.int .u8 3,.int .i64 0] (by rfl) rfl (ku.out 3) (by intro u hu;simp at hu;rcases hu with rfl|rfl|rfl<;>rfl) (by omega) hm1 hm2 ?_;intro v' w' h2 h3;have HF:=zh (HKEY.out 3 (.inr rfl) w' v' h3 h2 uP.out);have hk5:w'.cell? ⟨w.heap.size,2,none⟩=some (.string ts):=(World.cell?_of_block (a:=⟨w.heap.size,2,none⟩) (h3.block _ (by simp;omega) (by simp))).trans (by simp);clear h2 h3)
    | (go_at_call 151;refine(zpI A vs.length c iL.out hlv _).mono ?_;rintro e wq ⟨rfl,rfl⟩)
    | fail)
  all_goals
   clear hk5;go_wp2_with fail;go_ret;exact HF.out
 have uP:=zh (show V=vs by rw[<-HV.out];unfold zmg;rw[if_neg dX,if_neg eF]);have HF:=zh (show ∀ o,zuY w S V (.returned (.slice A vs.length c)) (w.alloc o) from fun o=>by
  rw[uP.out];exact⟨A,c,rfl,(ae.out.later ((Below.refl _ _).alloc (Nat.le_refl _) _)).mono fun b hb=>.inl hb,iL.out,(Below.refl _ _).alloc (Nat.le_refl _) _⟩)
 by_cases wY:tk=54
 ·subst wY;have hne:¬ i=1:=fun e=>dX ⟨rfl,e⟩;have e1:(i==1)=false:=by simpa using hne
  have e2:((i:Int)==1)=false:=by simp;omega
  clear dX eF hne;go_enter Tryz.func133,Tryz.ntmps133;go_wp2_with fail;go_ret;exact HF.out _
 have f54:(tk==54)=false:=by simpa using wY
 by_cases wX:tk=55
 ·subst wX;have hne:¬ i=0:=fun e=>eF ⟨rfl,e⟩;have e1:(i==0)=false:=by simpa using hne
  have e2:((i:Int)==0)=false:=by simp;omega
  clear dX eF hne;go_enter Tryz.func133,Tryz.ntmps133;go_wp2_with fail;go_ret;exact HF.out _
 have f55:(tk==55)=false:=by simpa using wX
 clear dX eF wY wX;go_enter Tryz.func133,Tryz.ntmps133;go_wp2_with fail;go_ret;exact HF.out _
end Go.Proofs.YtghbhbdnkjjnnaaGreat
namespace Go.Proofs.YtghbhbdnkjjnnaaGreat
open Go Go.RowKit
mutual
/-- The nodes of a tree,in pre-order. -/
def po:T->List T
 | .nd k n s ks=>.nd k n s ks::pos ks
def pos:List T->List T
 | []=>[]
 | t::ts=>po t++pos ts
end
mutual
/-- The depth of a tree. -/
def dep:T->Nat
 | .nd _ _ _ ks=>1+deps ks
def deps:List T->Nat
 | []=>0
 | t::ts=>max (dep t) (deps ts)
end
theorem zvp {t:T}:∀ {ks:List T},t∈ks->dep t<=deps ks
 | u::us,h=>by
  simp only[List.mem_cons] at h;rcases h with rfl|h
  ·simp only[deps];omega
  ·have:=zvp h;simp only[deps];omega
def zxI (w:World) (xs:List Int) (v:Value) (w':World):Prop:=∃ A' c',v=.slice A' xs.length c'/\RowI w' (From w.heap.size) A' xs/\xs.length<=c'/\Below w.heap.size w w'
theorem znp {P:Program} {f:FuncId} {args:Array Value} {w:World} {xs:List Int} (h:Calls P f args w (NewI w xs)):Calls P f args w fun e w'=>∃ v,e=.returned v/\zxI w xs v w' :=
 h.mono fun _ _ ⟨A,c,he,hn⟩=>⟨_,he,A,c,rfl,hn⟩
structure FS (W:World) (n0 fb N:Nat) (pv:Value):Prop where
 box:W.heap[fb]?=some (.cells #[pv] 131 (0,0))
 row:∃ xs,W.ownsRow n0 168 4 pv N xs
 ge:n0<=fb
 ne:pv.ownBlock≠some fb
section
variable {W W':World} {n0 fb N N':Nat} {pv pv':Value}
theorem FS.lt (h:FS W n0 fb N pv):fb<W.heap.size/\∀ b,pv.ownBlock=some b->n0<=b/\b<W.heap.size:=⟨zkj h.box,let ⟨_,hr⟩:=h.row;hr.lt⟩
theorem FS.chg {C:Nat->Prop} (h:FS W n0 fb N pv) (hc:Chg C W W') (hC:∀ b,b=fb\/pv.ownBlock=some b->¬ C b):FS W' n0 fb N pv:=by
 refine⟨hc.keep h.box (hC _ (.inl rfl)),?_,h.ge,h.ne⟩;obtain⟨xs,e1,h2⟩:=h.row;refine⟨xs,e1,?_⟩;rcases h2 with h2|⟨g,cap,cur,rfl,hb,hg,h3⟩
 ·exact .inl h2
 ·exact .inr ⟨g,cap,cur,rfl,hb,hc.keep hg (hC _ (.inr rfl)),h3⟩
theorem FS.later (h:FS W n0 fb N pv) (hb:Below W.heap.size W W'):FS W' n0 fb N pv:=h.chg (C:=fun _=>False) (Chg.of_below hb) (fun _ _ h=>h)
theorem FS.put (h:FS W n0 fb N pv) (ho:∃ xs,W'.ownsRow n0 168 4 pv' N' xs) (hg:W.grownBy W' pv.ownBlock) (bQ:∀ b,pv'.ownBlock=some b->pv.ownBlock=some b\/W.heap.size<=b) :
  FS (W'.setCell ⟨fb,0,none⟩ pv') n0 fb N' pv':=by
 have hp':W'.heap[fb]?=some (.cells #[pv] 131 (0,0)):=(hg.block _ (zkj h.box) (fun e=>h.ne e.symm)).trans h.box;have qw:pv'.ownBlock≠some fb:=fun e=>by
  rcases bQ _ e with e|e
  ·exact h.ne e
  ·have:=zkj h.box;omega
 refine⟨by have:=heap_setCell_same W' fb 0 _ _ pv' hp';simpa using this,?_,h.ge,qw⟩;obtain⟨xs,e1,h2⟩:=ho;refine⟨xs,e1,?_⟩;rcases h2 with h2|⟨g,cap,cur,rfl,hb,hg',h3⟩
 ·exact .inl h2
 ·refine .inr ⟨g,cap,cur,rfl,hb,?_,h3⟩;rw[Below.heap_setCell _ _ _ _ (fun e=>qw (by subst e;rfl))];exact hg'
theorem FS.slice (h:FS W n0 fb N pv):∃ A c,pv=.slice A N c:=by
 obtain⟨xs,e1,h2⟩:=h.row;rcases h2 with⟨rfl,rfl⟩|⟨g,cap,cur,rfl,_⟩
 ·exact⟨_,_,rfl⟩
 ·exact⟨_,_,rfl⟩
end
def RepP (W:World) (n0 fb:Nat) (pv:Value) (N':Nat) (e:Ending) (W':World):Prop :=
 (∃ v,e=.returned v)/\∃ pv',FS W' n0 fb N' pv'/\(∀ b,pv'.ownBlock=some b->pv.ownBlock=some b\/W.heap.size<=b)/\Chg (fun b=>b=fb\/pv.ownBlock=some b) W W'
def one1 (e:Int):Nat:=if e=0 then 0 else 1
theorem zv2:(Tryz.prog.info? 168).map (fun i=>(i.zero,i.size,i.bytes))=some (some (.agg #[.int .i64 0,.slice none 0 0,.int .i64 0,.string ⟨#[]⟩]),4,56):=by kernel_rfl
theorem zwY (p:Int) (A:Option Addr) (l c:Nat) (e:Int) (s:ByteArray) (w:World):(Instr.build 168 #[(0,.int .i64 p),(1,.slice A l c),(2,.int .i64 e),(3,.string s)]).run Tryz.prog w=.ok (.agg #[.int .i64 p,.slice A l c,.int .i64 e,.string s]) w:=by kernel_rfl
theorem zwg (a0 a1 a2 a3:Value) (w:World):(Instr.buildSlice 131 1 #[(0,.agg #[a0,a1,a2,a3])]).run Tryz.prog w=.ok (.slice (some ⟨w.heap.size,0,none⟩) 1 1) (w.alloc (.cells #[a0,a1,a2,a3] 168)):=by kernel_rfl
theorem zmo (n0 fb N:Nat) (pv:Value) (pr er:Int) (q:List Int) (A:Option Addr) (c:Nat) (s:ByteArray) (S:Nat->Prop) (W:World) (hfs:FS W n0 fb N pv) (hq:RowI W S A q) (lg:q.length<=100000) (hN:N<=1000000) :
  Calls Tryz.prog 105 #[.int .i64 pr,.slice A q.length c,.string s,.int .i64 er,.pointer (some ⟨fb,0,none⟩)] W (RepP W n0 fb pv (N+one1 er)):=by
 obtain⟨i0,hi0,hz0,hz1,hz2⟩:=info_parts zv2;obtain⟨Ap,cp,rfl⟩:=hfs.slice;have oL:=zh hfs;have HQ:=zh hq;have hc0:W.cell? ⟨fb,0,none⟩=some (.slice Ap N cp):=zc hfs.box rfl;have hbf:=zwY;have hbs:=zwg;have hge:=hfs.ge;have hlf:=hfs.lt.1;clear hfs hq;by_cases he:er=0
 ·subst he;clear hc0;go_enter Tryz.func105,Tryz.ntmps105;go_wp2_with fail;go_end0;exact⟨⟨_,rfl⟩,_,oL.out,fun b hb=>.inl hb,Chg.refl _ _⟩
 ·have e1:(er==0)=false:=by simpa using he
  have e2:(er != 0)=true:=by simpa using he
  have HONE:=zh (show one1 er=1 by simp[one1,he]);rw[HONE.out];clear he;go_enter Tryz.func105,Tryz.ntmps105;go_upto_region 1 with fail;have hSS:(fun _:World=>True) W.drew/\(fun w':World=>w'.cell? ⟨fb,0,none⟩=some (.slice Ap N cp)) W.drew:=⟨trivial,hc0⟩
  refine wp_region_noPanic ?_;refine zkd (fun _:World=>True) (fun w':World=>w'.cell? ⟨fb,0,none⟩=some (.slice Ap N cp)) 8 (by kernel_rfl) ?_;refine zkN (i:=0) (v:=?_) rfl (by kernel_rfl) (by kernel_rfl) (by kernel_rfl) (by decide) rfl (by kernel_rfl) (by kernel_rfl) (fun _ _ _ h=>h) (Or.inl ⟨by rfl,?_⟩) hSS ?_;rotate_left 1
  ·(intro w hSw;(try dsimp only at hSw);(try simp only[zA,zB,zC]);go_simp;(try with_reducible rfl))
  (try simp only[zQ]);refine zT 1 hSS ?_;(try simp only[zQ]);refine zT 2 hSS ?_;(try simp only[zQ]);refine zT 4 hSS ?_;(try simp only[zQ]);refine zT 5 hSS ?_;(try simp only[zQ]);refine zo 3 fun K hK=>?_;refine zqY (by rfl) (.func 48) (.tmp 13) _ (by rfl) 48 _ zmU (by rfl) _ (by rfl) _ (znp (zru q A c S _ (HQ.out.later (Below.refl _ _).drew) (by unfold LI;omega))) ?_;rintro v2 w2 ⟨A2,c2,rfl,_,_,aj⟩;have b2:=zka (Below.refl W.heap.size W).drew aj;have gW:=oL.out.later b2;have g2:w2.cell? ⟨fb,0,none⟩=some (.slice Ap N cp):=zc gW.box rfl;have aN:(fun _:World=>True) w2/\(fun w':World=>w'.cell? ⟨fb,0,none⟩=some (.slice Ap N cp)) w2:=⟨trivial,g2⟩
  refine hK.out _ _ aN ?_;clear hK K hSS;(try simp only[zQ]);refine zT 6 aN ?_;(try simp only[zQ]);refine zo 7 fun K hK=>?_;(try simp only[zA,zB,zC]);go_simp;refine hK.out _ _ ⟨trivial,zkq g2 _⟩ ?_;clear hK K aN;(try simp only[zQ]);obtain⟨xs,hrow⟩:=gW.row;have hl2:=gW.lt;refine zp 8 fun K hK=>?_;refine zkT (by rfl) (.tmp 11) (.tmp 18) 131 (by rfl) n0 168 i0 _ 4 56 Tryz.underlying131 hi0 hz0 hz1 hz2 rfl (by decide) (.slice Ap N cp) N xs (by rfl) (hrow.alloc _) ⟨w2.heap.size,0,none⟩ 1 1 [.int .i64 pr,.slice A2 q.length c2,.int .i64 er,.string s] (by rfl) rfl (zlt w2 _ _) (by intro u hu;simp at hu;rcases hu with rfl|rfl|rfl|rfl<;>rfl) (by unfold maxLen;omega) (by omega) (by simp;omega) ?_;intro v' w' h2 h3 h5
  have hput:=gW.put (W':=w') (pv':=v') (N':=N+1) ⟨_,h2⟩ ⟨h3.os,h3.tape,h3.output,Nat.le_trans (by simp) h3.size,fun b hb hne=>(h3.block b (by simp;omega) hne).trans (Below.heap_alloc w2 _ b hb)⟩ (fun b hb=>by rcases h5 with h5|h5;exact .inl (h5▸hb);exact .inr (by rw[h5] at hb;injection hb with hb;simp at hb;omega));have hob':∀ b,v'.ownBlock=some b->(Value.slice Ap N cp).ownBlock=some b\/W.heap.size<=b:=fun b hb=>by
   have:=b2.size;rcases h5 with h5|h5
   ·exact .inl (h5▸hb)
   ·exact .inr (by rw[h5] at hb;injection hb with hb;simp at hb;omega)
  have hch:Chg (fun b=>b=fb\/(Value.slice Ap N cp).ownBlock=some b) W (w'.setCell ⟨fb,0,none⟩ v'):=(((Chg.of_below b2).alloc _).trans2 (Chg.row h3) (fun b _ h=>.inr h)).setCell (.inl (.inl rfl)) _;have hbx:=(h3.block _ (by have:=zkj gW.box;simp;omega) (fun e=>gW.ne e.symm)).trans (zkf gW.box _);have hy0:w'.cell? ⟨fb,0,none⟩=some (.slice Ap N cp):=zc hbx rfl;have hy1:w'.frozen? ⟨fb,0,none⟩=false:=zf hbx;obtain⟨g8,aF,rfl⟩:=ownsRow_succ h2;have HP:=zh hput;have HO:=zh hob';have bJ:=zh hch;clear hput hob' hch hbx h2 h3 h5 hrow gW;refine hK.out _ _ trivial ?_;clear hK K;(try simp only[zQ]);refine zp 9 fun K hK=>?_;(try simp only[zA,zB,zC]);go_simp;refine hK.out _ _ trivial ?_;clear hK K;(try simp only[zQ]);refine zd ?_;refine NoPanic.normal ?_;go_wp2_with fail;go_end0;exact⟨⟨_,rfl⟩,_,HP.out,HO.out,bJ.out⟩
structure RepC (f:FuncId) (cap:Array Value) (Rd:World->Prop) (n0 fb:Nat):Prop where
 fn:∃ fn,IsFn Tryz.prog f fn
 keep:∀ W W' pv N,Rd W->FS W n0 fb N pv->Chg (fun b=>b=fb\/pv.ownBlock=some b) W W'->Rd W'
 call:∀ (N:Nat) (pv:Value) (er:Int) (q:List Int) (A:Option Addr) (c:Nat) (s:ByteArray) (S:Nat->Prop) (W:World),Rd W->FS W n0 fb N pv->RowI W S A q->q.length<=100000->N<=1000000 ->
  Calls Tryz.prog f (#[.slice A q.length c,.string s,.int .i64 er]++cap) W (RepP W n0 fb pv (N+one1 er))
theorem FS.other {W:World} {n0 fb N:Nat} {pv:Value} {b:Nat} {cs:Array Value} {E:TypeId} (h:FS W n0 fb N pv) (hb:W.heap[b]?=some (.cells cs E (0,0))) (h1:E≠131) (h2:E≠168):¬ (b=fb\/pv.ownBlock=some b):=by
 rintro(rfl|ho)
 ·have:=h.box;rw[hb] at this;injection this with this;injection this with _ e;exact h1 e
 ·obtain⟨xs,e1,h2'⟩:=h.row;rcases h2' with⟨rfl,_⟩|⟨g,cap,cur,rfl,_,hg,_⟩
  ·simp[Value.ownBlock] at ho
  ·simp[Value.ownBlock] at ho;subst ho;rw[hb] at hg;injection hg with hg;injection hg with _ e;exact h2 e
theorem zwU:IsFn Tryz.prog 109 Tryz.f109:=⟨Tryz.func109,by kernel_rfl,by kernel_rfl⟩
theorem zwT:IsFn Tryz.prog 110 Tryz.f110:=⟨Tryz.func110,by kernel_rfl,by kernel_rfl⟩
theorem zqU (n0 fb rb ib:Nat) (k:Int):RepC 109 #[.pointer (some ⟨rb,0,none⟩),.pointer (some ⟨ib,0,none⟩)]
  (fun W=>W.heap[rb]?=some (.cells #[.func (.func 105) #[] #[.pointer (some ⟨fb,0,none⟩)]] 169 (0,0))/\W.heap[ib]?=some (.cells #[.int .i64 k] 3 (0,0))) n0 fb where
 fn:=⟨_,zwU⟩
 keep W W' pv N h hfs hc:=⟨hc.keep h.1 (hfs.other h.1 (by decide) (by decide)),hc.keep h.2 (hfs.other h.2 (by decide) (by decide))⟩
 call N pv er q A c s S W h hfs hq lg hN:=by
  have x0:W.cell? ⟨rb,0,none⟩=some (.func (.func 105) #[] #[.pointer (some ⟨fb,0,none⟩)]):=zc h.1 rfl;have x1:W.cell? ⟨ib,0,none⟩=some (.int .i64 k):=zc h.2 rfl;have HC:=zh (zmo n0 fb N pv k er q A c s S W hfs hq lg hN);clear h hfs hq
  show Calls Tryz.prog 109 #[.slice A q.length c,.string s,.int .i64 er,.pointer (some ⟨rb,0,none⟩),.pointer (some ⟨ib,0,none⟩)] W _
  go_enter Tryz.func109,Tryz.ntmps109;go_wp2_with fail;refine HC.out.mono ?_;rintro e W' ⟨⟨v,rfl⟩,hp⟩;have HP:=zh hp;clear hp;go_wp2_with fail;go_end0;exact⟨⟨_,rfl⟩,HP.out⟩
theorem zvb (n0 fb rb pb:Nat) (A1:Option Addr) (l1 c1:Nat) (A2:Option Addr) (l2 c2:Nat) (k n:Int) (sn:ByteArray) (A3:Option Addr) (l3 c3:Nat):RepC 110 #[.pointer (some ⟨rb,0,none⟩),.pointer (some ⟨pb,0,none⟩)]
  (fun W=>W.heap[rb]?=some (.cells #[.func (.func 105) #[] #[.pointer (some ⟨fb,0,none⟩)]] 169 (0,0))/\W.heap[pb]?=some (.cells #[.slice A1 l1 c1,.slice A2 l2 c2,.int .u8 k,.int .i64 n,.string sn,.slice A3 l3 c3] 55 (0,0))) n0 fb where
 fn:=⟨_,zwT⟩
 keep W W' pv N h hfs hc:=⟨hc.keep h.1 (hfs.other h.1 (by decide) (by decide)),hc.keep h.2 (hfs.other h.2 (by decide) (by decide))⟩
 call N pv er q A c s S W h hfs hq lg hN:=by
  have x0:W.cell? ⟨rb,0,none⟩=some (.func (.func 105) #[] #[.pointer (some ⟨fb,0,none⟩)]):=zc h.1 rfl;have x1:W.cell? ⟨pb,1,none⟩=some (.slice A2 l2 c2):=zc h.2 rfl;have HC:=zh (zmo n0 fb N pv l2 er q A c s S W hfs hq lg hN);clear h hfs hq
  show Calls Tryz.prog 110 #[.slice A q.length c,.string s,.int .i64 er,.pointer (some ⟨rb,0,none⟩),.pointer (some ⟨pb,0,none⟩)] W _
  go_enter Tryz.func110,Tryz.ntmps110;go_wp2_with fail;refine HC.out.mono ?_;rintro e W' ⟨⟨v,rfl⟩,hp⟩;have HP:=zh hp;clear hp;go_wp2_with fail;go_end0;exact⟨⟨_,rfl⟩,HP.out⟩
def cntA (ps:List PR) (s:ByteArray) (l:Nat):Nat->List T->List VD->Nat
 | _,[],_=>0
 | i,t::ts,vs=>one1 (argE ps s l i t.s vs)+cntA ps s l (i+1) ts vs
mutual
/-- How many faults scope.visit reports. -/
def cntV (ps:List PR):T->List VD->Nat
 | .nd k _ s ks,vs=>one1 (zli ps k s ks.length vs)+(if k=50\/k=51 then cntA ps s ks.length 0 ks vs else cntK ps k s 0 ks vs)
def cntK (ps:List PR) (k:Int) (s:ByteArray):Nat->List T->List VD->Nat
 | _,[],_=>0
 | i,t::ts,vs=>cntV ps t (zmg k s i vs)+cntK ps k s (i+1) ts vs
end
theorem znY (ps:List PR) (s:ByteArray) (l:Nat) (vs:List VD):∀ (a b:List T) (i:Nat),cntA ps s l i (a++b) vs=cntA ps s l i a vs+cntA ps s l (i+a.length) b vs
 | [],b,i=>by simp[cntA]
 | t::ts,b,i=>by simp[cntA,znY ps s l vs ts b (i+1),Nat.add_assoc,Nat.add_comm 1 ts.length]
theorem znX (ps:List PR) (k:Int) (s:ByteArray) (vs:List VD):∀ (a b:List T) (i:Nat),cntK ps k s i (a++b) vs=cntK ps k s i a vs+cntK ps k s (i+a.length) b vs
 | [],b,i=>by simp[cntK]
 | t::ts,b,i=>by simp[cntK,znX ps k s vs ts b (i+1),Nat.add_assoc,Nat.add_comm 1 ts.length]
theorem zpw (ps:List PR) (s:ByteArray) (l:Nat) (vs:List VD) {ks:List T} {j:Nat} (h:j<ks.length):cntA ps s l 0 (ks.take (j+1)) vs=cntA ps s l 0 (ks.take j) vs+one1 (argE ps s l j ks[j].s vs):=by
 rw[List.take_succ_eq_append_getElem h,znY];have:(ks.take j).length=j:=by simp;omega
 simp[cntA,this]
theorem zsJ (ps:List PR) (k:Int) (s:ByteArray) (vs:List VD) {ks:List T} {j:Nat} (h:j<ks.length):cntK ps k s 0 (ks.take (j+1)) vs=cntK ps k s 0 (ks.take j) vs+cntV ps ks[j] (zmg k s j vs):=by
 rw[List.take_succ_eq_append_getElem h,znX];have:(ks.take j).length=j:=by simp;omega
 simp[cntK,this]
theorem zmD (e:Int):one1 e<=1:=by unfold one1;split<;>omega
theorem zqq (t:T):1<=size t:=by cases t;rw[size];omega
theorem zo1 (ps:List PR) (s:ByteArray) (l:Nat) (vs:List VD):∀ (ks:List T) (i:Nat),cntA ps s l i ks vs<=zkX ks
 | [],i=>by simp[cntA]
 | t::ts,i=>by
  have h1:=zo1 ps s l vs ts (i+1);have h2:=zmD (argE ps s l i t.s vs);have h3:=zqq t;simp only[cntA,zkX];omega
theorem zp8 (ps:List PR) (k:Int) (s:ByteArray):∀ (ks:List T),(∀ t∈ks,∀ vs,cntV ps t vs<=size t)->∀ (i:Nat) (vs:List VD),cntK ps k s i ks vs<=zkX ks
 | [],_,i,vs=>by simp[cntK]
 | t::ts,h,i,vs=>by
  have h1:=zp8 ps k s ts (fun u hu=>h u (by simp[hu])) (i+1) vs;have h2:=h t (by simp) (zmg k s i vs);simp only[cntK,zkX];omega
theorem zsI (ps:List PR) (t:T):∀ vs,cntV ps t vs<=size t:=by
 induction t using T.ind with
 | _ k n s ks ih =>
 intro vs;rw[cntV,size];have h1:=zmD (zli ps k s ks.length vs);have h2:=zo1 ps s ks.length vs ks 0;have h3:=zp8 ps k s ks ih 0 vs
 split<;>omega
theorem zlB:∀ (ks:List T) (j:Nat),zkX (ks.take j)<=zkX ks
 | [],j=>by simp[zkX]
 | t::ts,0=>by simp[zkX]
 | t::ts,j+1=>by have:=zlB ts j;simp only[List.take_succ_cons,zkX];omega
theorem zrb (k:Int) (s:ByteArray) (i:Nat) (vs:List VD):(zmg k s i vs).length<=vs.length+1:=by unfold zmg;split;simp;split<;>simp
theorem PV.keep {w w':World} {S S':Nat->Prop} {p:PG} {v:Value} (h:PV w S p v) (hS:∀ b,S b->b<w.heap.size->S' b) (hk:∀ b,S b->b<w.heap.size->w'.heap[b]?=w.heap[b]?):PV w' S' p v :=
 let ⟨A1,c1,A2,c2,A3,c3,e,h⟩:=h;⟨A1,c1,A2,c2,A3,c3,e,h.keep hS hk⟩
structure VsI (Rd:World->Prop) (n0 fb:Nat) (Wb:World) (pv:Value) (N:Nat) (wr:World) (pv':Value):Prop where
 rd:Rd wr
 fs:FS wr n0 fb N pv'
 own:∀ b,pv'.ownBlock=some b->pv.ownBlock=some b\/Wb.heap.size<=b
 chg:Chg (fun b=>b=fb\/pv.ownBlock=some b) Wb wr
theorem VsI.step {f:FuncId} {cap:Array Value} {Rd:World->Prop} {n0 fb:Nat} {Wb wr w5 W6:World} {pv pv':Value} {N N':Nat} {e:Ending} (hr:RepC f cap Rd n0 fb) (h:VsI Rd n0 fb Wb pv N wr pv') (hb:Below wr.heap.size wr w5) (hp:RepP w5 n0 fb pv' N' e W6) :
  ∃ iO,VsI Rd n0 fb Wb pv N' W6 iO:=by
 obtain⟨_,iO,hfs,bQ,hc⟩:=hp;have qD:=h.fs.later hb;have hz:=h.chg.size;have mI:=hb.size;refine⟨iO,hr.keep w5 W6 pv' N (hr.keep wr w5 pv' N h.rd h.fs (Chg.of_below hb)) qD hc,hfs,fun b hb'=>?_,(h.chg.trans (Chg.of_below hb)).trans2 hc fun b hlt hh=>?_⟩
 ·rcases bQ b hb' with h1|h1
  ·exact h.own b h1
  ·exact .inr (by omega)
 ·rcases hh with hh|hh
  ·exact .inl hh
  ·rcases h.own b hh with h1|h1
   ·exact .inr h1
   ·omega
theorem VsI.rep {Rd:World->Prop} {n0 fb:Nat} {W Wb w:World} {pw pv':Value} {N':Nat} {e:Ending} (h:VsI Rd n0 fb Wb pw N' w pv') (hb:Below W.heap.size W Wb) (he:∃ v,e=.returned v):RepP W n0 fb pw N' e w :=
 ⟨he,pv',h.fs,fun b hh=>(h.own b hh).imp id fun h1=>by have:=hb.size;omega,(Chg.of_below hb).trans h.chg⟩
def IsW (x:Value) (w:World) (v:Value) (w':World):Prop:=v=x/\Below w.heap.size w w'
theorem zng {P:Program} {f:FuncId} {args:Array Value} {w:World} {x:Value} (h:Calls P f args w fun e w'=>e=.returned x/\Below w.heap.size w w'):Calls P f args w fun e w'=>∃ v,e=.returned v/\IsW x w v w' :=
 h.mono fun _ _ ⟨he,hb⟩=>⟨_,he,rfl,hb⟩
def RepV (W:World) (n0 fb:Nat) (pv:Value) (N':Nat) (_:Value) (W':World):Prop:=RepP W n0 fb pv N' (.returned undef) W'
theorem zmf {P:Program} {f:FuncId} {args:Array Value} {W:World} {n0 fb N':Nat} {pv:Value} (h:Calls P f args W (RepP W n0 fb pv N')):Calls P f args W fun e w'=>∃ v,e=.returned v/\RepV W n0 fb pv N' v w' :=
 h.mono fun _ _ ⟨⟨v,he⟩,hp⟩=>⟨v,he,⟨_,rfl⟩,hp⟩
def zw9 (w:World) (S:Nat->Prop) (vs:List VD) (v:Value) (w':World):Prop:=∃ A' c',v=.slice A' vs.length c'/\RowV w' (fun b=>S b\/w.heap.size<=b) A' vs/\vs.length<=c'/\Below w.heap.size w w'
theorem zrM {P:Program} {f:FuncId} {args:Array Value} {w:World} {S:Nat->Prop} {vs:List VD} (h:Calls P f args w (zuY w S vs)):Calls P f args w fun e w'=>∃ v,e=.returned v/\zw9 w S vs v w' :=
 h.mono fun _ _ ⟨A,c,he,hn⟩=>⟨_,he,A,c,rfl,hn⟩
theorem zvZ:IsFn Tryz.prog 130 Tryz.f130:=⟨Tryz.func130,by kernel_rfl,by kernel_rfl⟩
theorem zoq:IsFn Tryz.prog 132 Tryz.f132:=⟨Tryz.func132,by kernel_rfl,by kernel_rfl⟩
theorem zp2:IsFn Tryz.prog 131 Tryz.f131:=⟨Tryz.func131,by kernel_rfl,by kernel_rfl⟩
theorem zvX:IsFn Tryz.prog 133 Tryz.f133:=⟨Tryz.func133,by kernel_rfl,by kernel_rfl⟩
theorem zvU:IsFn Tryz.prog 108 Tryz.f108:=⟨Tryz.func108,by kernel_rfl,by kernel_rfl⟩
theorem zm3 (f:FuncId) (cap:Array Value) (Rd:World->Prop) (n0 fb:Nat) (hrep:RepC f cap Rd n0 fb) (p:PG) (t:T) :
  ∀ (S:Nat->Prop) (vs:List VD) (A:Option Addr) (c:Nat) (q:List Int) (Aq:Option Addr) (cq N:Nat) (pw:Value) (W:World) (v1 v2:Value),Rd W->FS W n0 fb N pw->PV W S p v1->NV W S t v2->RowV W S A vs->vs.length<=c->RowI W S Aq q->q.length<=cq ->
   (∀ b,S b->b<W.heap.size->¬ (b=fb\/pw.ownBlock=some b))->q.length+dep t<=50000->vs.length+dep t<=50000->N+size t<=1000000 ->
   Calls Tryz.prog 108 #[v1,v2,.slice Aq q.length cq,.slice A vs.length c,.func (.func f) #[] cap] W (RepP W n0 fb pw (N+cntV p.prs t vs)):=by
 obtain⟨fn,hfn⟩:=hrep.fn;have aU:=zh hrep;clear hrep
 induction t using T.ind with
 | _ tk tn ts ks ih =>
 intro S vs A c q Aq cq N pw W v1 v2 hrd hfs hv1 hv2 hrow hlc hqr hqc hfar hdq hdv hN;have vw:=zh ih;have hvv:=hv1;obtain⟨A1,c1,A2,c2,A3,c3,rfl,-⟩:=hv1;obtain⟨L1,hL1⟩:∃ L,p.vs.length=L:=⟨_,rfl⟩
 obtain⟨L2,hL2⟩:∃ L,p.prs.length=L:=⟨_,rfl⟩
 obtain⟨k,hk⟩:∃ k,p.m.k=k:=⟨_,rfl⟩
 obtain⟨n,hn⟩:∃ n,p.m.n=n:=⟨_,rfl⟩
 obtain⟨s,hs⟩:∃ s,p.m.s=s:=⟨_,rfl⟩
 obtain⟨l3,hl3⟩:∃ l,p.m.ks.length=l:=⟨_,rfl⟩
 rw[hL1,hL2,hk,hn,hs,hl3];rw[hL1,hL2,hk,hn,hs,hl3] at hvv;have uR:=zh hvv;clear ih hvv hL1 hL2 hk hn hs hl3;have jl:=zh hv2;obtain⟨B,tc,rfl,_,hlk,_,jB⟩:=hv2.open_;simp only[T.k_nd,T.n_nd,T.s_nd,T.ks_nd] at *
 have az:=zkK hlk;rw[dep] at hdq hdv;rw[size] at hN;have hksz:ks.length<=1000000:=by
  have:∀ l:List T,l.length<=zkX l:=fun l=>by
   induction l with
   | nil=>simp
   | cons t ts ih=>have:=zqq t;simp only[List.length_cons,zkX];omega
  have:=this ks;omega
 have wJ:=zh jB;have ae:=zh hrow;have iL:=zh hlc;have HQR:=zh hqr;have xW:=zh hqc;have kT:=zh hrd;have oL:=zh hfs;have HFAR:=zh hfar;have hlv:vs.length<=LV:=by unfold LV;omega
 have pO:=zh hlv;have hfl:=hfs.lt;have tO:=zh hfl;obtain⟨CC,xD⟩:∃ CC,cntV p.prs (.nd tk tn ts ks) vs=CC:=⟨_,rfl⟩
 rw[xD];have aV:=zh xD;obtain⟨E0,hE0⟩:∃ E0,zli p.prs tk ts ks.length vs=E0:=⟨_,rfl⟩
 have rY:=zh hE0;have hE1:=zmD E0;clear jB hrow hlc hqr hqc hrd hfs hfar hlk hlv hv2 hfl xD hE0;go_enter Tryz.func108,Tryz.ntmps108;go_upto_region 1 with fail;have hbw:Below W.heap.size W ((W.alloc (.cells #[.slice A1 L1 c1,.slice A2 L2 c2,.int .u8 k,.int .i64 n,.string s,.slice A3 l3 c3] 55)).alloc (.cells #[.int .u8 tk,.int .i64 tn,.string ts,.slice B ks.length tc] 24)):=zkc (zkc (Below.refl _ _) _) _;have o9:=zkf (heap_alloc_new W (.cells #[.slice A1 L1 c1,.slice A2 L2 c2,.int .u8 k,.int .i64 n,.string s,.slice A3 l3 c3] 55)) (.cells #[.int .u8 tk,.int .i64 tn,.string ts,.slice B ks.length tc] 24);have hbN:=heap_alloc_new (W.alloc (.cells #[.slice A1 L1 c1,.slice A2 L2 c2,.int .u8 k,.int .i64 n,.string s,.slice A3 l3 c3] 55)) (.cells #[.int .u8 tk,.int .i64 tn,.string ts,.slice B ks.length tc] 24);simp only[World.size_alloc] at hbN
 obtain⟨Wb,qK⟩:∃ Wb,(W.alloc (.cells #[.slice A1 L1 c1,.slice A2 L2 c2,.int .u8 k,.int .i64 n,.string s,.slice A3 l3 c3] 55)).alloc (.cells #[.int .u8 tk,.int .i64 tn,.string ts,.slice B ks.length tc] 24)=Wb:=⟨_,rfl⟩
 rw[qK] at hbw o9 hbN ⊢;have nU:=zh (show Wb.heap.size=W.heap.size+2 by rw[<-qK];simp);have dA:=zh hbw;have HBP:=zh o9;have HBN:=zh hbN;have ru:=zh (show ∀ w':World,w'.heap[W.heap.size]?=Wb.heap[W.heap.size]?->w'.heap[W.heap.size+1]?=Wb.heap[W.heap.size+1]?->(fun w':World=>(w'.cell? ⟨W.heap.size,0,none⟩=some (.slice A1 L1 c1)/\w'.cell? ⟨W.heap.size,1,none⟩=some (.slice A2 L2 c2)/\w'.cell? ⟨W.heap.size,2,none⟩=some (.int .u8 k)/\w'.cell? ⟨W.heap.size,3,none⟩=some (.int .i64 n)/\w'.cell? ⟨W.heap.size,4,none⟩=some (.string s)/\w'.cell? ⟨W.heap.size,5,none⟩=some (.slice A3 l3 c3))/\(w'.cell? ⟨W.heap.size+1,0,none⟩=some (.int .u8 tk)/\w'.cell? ⟨W.heap.size+1,1,none⟩=some (.int .i64 tn)/\w'.cell? ⟨W.heap.size+1,2,none⟩=some (.string ts)/\w'.cell? ⟨W.heap.size+1,3,none⟩=some (.slice B ks.length tc))) w' from fun w' h1 h2=>⟨box6 (h1.trans o9),box4 (h2.trans hbN)⟩)
 have oQ:=zh (show ∀ w':World,Chg (fun b=>b=fb\/pw.ownBlock=some b) Wb w'->(fun w':World=>(w'.cell? ⟨W.heap.size,0,none⟩=some (.slice A1 L1 c1)/\w'.cell? ⟨W.heap.size,1,none⟩=some (.slice A2 L2 c2)/\w'.cell? ⟨W.heap.size,2,none⟩=some (.int .u8 k)/\w'.cell? ⟨W.heap.size,3,none⟩=some (.int .i64 n)/\w'.cell? ⟨W.heap.size,4,none⟩=some (.string s)/\w'.cell? ⟨W.heap.size,5,none⟩=some (.slice A3 l3 c3))/\(w'.cell? ⟨W.heap.size+1,0,none⟩=some (.int .u8 tk)/\w'.cell? ⟨W.heap.size+1,1,none⟩=some (.int .i64 tn)/\w'.cell? ⟨W.heap.size+1,2,none⟩=some (.string ts)/\w'.cell? ⟨W.heap.size+1,3,none⟩=some (.slice B ks.length tc))) w' from fun w' h=>ru.out w' (h.block _ (by have:=nU.out;omega) (fun hh=>by rcases hh with hh|hh;(have:=tO.out.1;omega);(have:=(tO.out.2 _ hh).2;omega))) (h.block _ (by have:=nU.out;omega) (fun hh=>by rcases hh with hh|hh;(have:=tO.out.1;omega);(have:=(tO.out.2 _ hh).2;omega))))
 have fZ:=zh (show ∀ w':World,Chg (fun b=>b=fb\/pw.ownBlock=some b) Wb w'->∀ b,S b->b<W.heap.size->w'.heap[b]?=W.heap[b]? from fun w' h b hb hlt=>(h.block b (by have:=nU.out;omega) (HFAR.out b hb hlt)).trans (dA.out.block b hlt));have hi0:VsI Rd n0 fb Wb pw N Wb pw:=⟨aU.out.keep W Wb pw N kT.out oL.out (Chg.of_below hbw),oL.out.later hbw,fun b hb=>.inl hb,Chg.refl _ _⟩
 have HI0:=zh hi0;clear qK hbw o9 hbN hi0;have hdr:=(Below.refl Wb.heap.size Wb).drew;have hSS:(fun w':World=>(w'.cell? ⟨W.heap.size,0,none⟩=some (.slice A1 L1 c1)/\w'.cell? ⟨W.heap.size,1,none⟩=some (.slice A2 L2 c2)/\w'.cell? ⟨W.heap.size,2,none⟩=some (.int .u8 k)/\w'.cell? ⟨W.heap.size,3,none⟩=some (.int .i64 n)/\w'.cell? ⟨W.heap.size,4,none⟩=some (.string s)/\w'.cell? ⟨W.heap.size,5,none⟩=some (.slice A3 l3 c3))/\(w'.cell? ⟨W.heap.size+1,0,none⟩=some (.int .u8 tk)/\w'.cell? ⟨W.heap.size+1,1,none⟩=some (.int .i64 tn)/\w'.cell? ⟨W.heap.size+1,2,none⟩=some (.string ts)/\w'.cell? ⟨W.heap.size+1,3,none⟩=some (.slice B ks.length tc))) Wb.drew/\(fun _:World=>True) Wb.drew:=⟨oQ.out _ (Chg.of_below hdr),trivial⟩
 refine wp_region_noPanic ?_;refine zkd (fun w':World=>(w'.cell? ⟨W.heap.size,0,none⟩=some (.slice A1 L1 c1)/\w'.cell? ⟨W.heap.size,1,none⟩=some (.slice A2 L2 c2)/\w'.cell? ⟨W.heap.size,2,none⟩=some (.int .u8 k)/\w'.cell? ⟨W.heap.size,3,none⟩=some (.int .i64 n)/\w'.cell? ⟨W.heap.size,4,none⟩=some (.string s)/\w'.cell? ⟨W.heap.size,5,none⟩=some (.slice A3 l3 c3))/\(w'.cell? ⟨W.heap.size+1,0,none⟩=some (.int .u8 tk)/\w'.cell? ⟨W.heap.size+1,1,none⟩=some (.int .i64 tn)/\w'.cell? ⟨W.heap.size+1,2,none⟩=some (.string ts)/\w'.cell? ⟨W.heap.size+1,3,none⟩=some (.slice B ks.length tc))) (fun _:World=>True) 20 (by kernel_rfl) ?_;refine zT 0 hSS ?_;(try simp only[zQ]);refine zT 1 hSS ?_;(try simp only[zQ]);refine zT 2 hSS ?_;(try simp only[zQ]);refine zT 3 hSS ?_;(try simp only[zQ]);refine zT 4 hSS ?_;(try simp only[zQ]);refine zT 5 hSS ?_;(try simp only[zQ]);refine zT 6 hSS ?_
 (try simp only[zQ]);refine zo 7 fun K hK=>?_;refine zke (by rfl) (.func 130) [.tmp 18,.tmp 19,.tmp 20] _ (by rfl) 130 _ zvZ (by rfl) _ (by rfl) _ (zng (zsA p (.nd tk tn ts ks) vs A c S S S _ _ _ (uR.out.later (zka dA.out hdr)) (jl.out.later (zka dA.out hdr)) (ae.out.later (zka dA.out hdr)) pO.out)) ?_;rintro vq w2 ⟨rfl,aj⟩;simp only[T.k_nd,T.s_nd,T.ks_nd];rw[rY.out];have b2:=zka hdr aj
 have aN:(fun w':World=>(w'.cell? ⟨W.heap.size,0,none⟩=some (.slice A1 L1 c1)/\w'.cell? ⟨W.heap.size,1,none⟩=some (.slice A2 L2 c2)/\w'.cell? ⟨W.heap.size,2,none⟩=some (.int .u8 k)/\w'.cell? ⟨W.heap.size,3,none⟩=some (.int .i64 n)/\w'.cell? ⟨W.heap.size,4,none⟩=some (.string s)/\w'.cell? ⟨W.heap.size,5,none⟩=some (.slice A3 l3 c3))/\(w'.cell? ⟨W.heap.size+1,0,none⟩=some (.int .u8 tk)/\w'.cell? ⟨W.heap.size+1,1,none⟩=some (.int .i64 tn)/\w'.cell? ⟨W.heap.size+1,2,none⟩=some (.string ts)/\w'.cell? ⟨W.heap.size+1,3,none⟩=some (.slice B ks.length tc))) w2/\(fun _:World=>True) w2:=⟨oQ.out _ (Chg.of_below b2),trivial⟩
 refine hK.out _ _ aN ?_;clear hK K hSS;(try simp only[zQ]);refine zo 8 fun K hK=>?_;refine zlk (by rfl) (.tmp 14) [.tmp 15,.tmp 17,.tmp 21] _ (by rfl) f fn hfn cap (by rfl) _ (by rfl) _ (zmf (aU.out.call N pw E0 q Aq cq ts S w2 (aU.out.keep Wb w2 pw N HI0.out.rd HI0.out.fs (Chg.of_below b2)) (HI0.out.fs.later b2) ((HQR.out.later dA.out).later b2) (by omega) (by omega))) ?_;rintro vq W3 hp3;obtain⟨pv3,hi3⟩:=HI0.out.step aU.out b2 hp3
 have bG:(fun w':World=>(w'.cell? ⟨W.heap.size,0,none⟩=some (.slice A1 L1 c1)/\w'.cell? ⟨W.heap.size,1,none⟩=some (.slice A2 L2 c2)/\w'.cell? ⟨W.heap.size,2,none⟩=some (.int .u8 k)/\w'.cell? ⟨W.heap.size,3,none⟩=some (.int .i64 n)/\w'.cell? ⟨W.heap.size,4,none⟩=some (.string s)/\w'.cell? ⟨W.heap.size,5,none⟩=some (.slice A3 l3 c3))/\(w'.cell? ⟨W.heap.size+1,0,none⟩=some (.int .u8 tk)/\w'.cell? ⟨W.heap.size+1,1,none⟩=some (.int .i64 tn)/\w'.cell? ⟨W.heap.size+1,2,none⟩=some (.string ts)/\w'.cell? ⟨W.heap.size+1,3,none⟩=some (.slice B ks.length tc))) W3/\(fun _:World=>True) W3:=⟨oQ.out _ hi3.chg,trivial⟩
 refine hK.out _ _ bG ?_;clear hK K aN;(try simp only[zQ]);refine zd ?_;refine NoPanic.normal ?_;obtain⟨⟨a0,a1,a2,a3,a4,a5⟩,b0,b1,b2',b3⟩:=bG.1;have HI3:=zh hi3;clear bG hi3 hp3 b2 aj hdr HI0;have HD:=zh (show ∀ w':World,Chg (fun b=>b=fb\/pw.ownBlock=some b) Wb w'->PV w' (fun b=>S b/\b<W.heap.size) p _/\NV w' (fun b=>S b/\b<W.heap.size) (.nd tk tn ts ks) _/\RowV w' (fun b=>S b/\b<W.heap.size) A vs/\RowI w' (fun b=>S b/\b<W.heap.size) Aq q/\zl1 w' (fun b=>S b/\b<W.heap.size) B ks from fun w' h=>⟨uR.out.keep (fun b hb hlt=>⟨hb,hlt⟩) (fZ.out w' h),jl.out.keep (fun b hb hlt=>⟨hb,hlt⟩) (fZ.out w' h),ae.out.keep (fun b hb hlt=>⟨hb,hlt⟩) (fZ.out w' h),HQR.out.keep (fun b hb hlt=>⟨hb,hlt⟩) (fZ.out w' h),wJ.out.keep (fun b hb hlt=>⟨hb,hlt⟩) (fZ.out w' h)⟩);by_cases hcall:tk=50\/tk=51
 ·rcases hcall with rfl|rfl
  ·go_wp2_with fail
   go_loopw [34] (fun i wr=>∃ (j:Nat) (pv':Value),j<=ks.length/\i=.int .i64 j/\VsI Rd n0 fb Wb pw (N+one1 E0+cntA p.prs ts ks.length 0 (ks.take j) vs) wr pv') (fun i _=>ks.length-(intOf i).toNat)
   case atStart=>exact⟨0,_,Nat.zero_le _,rfl,by simpa[cntA] using HI3.out⟩
   case round =>
    obtain⟨j,pv',hj,rfl,hinv⟩:=hrel;have ag:=zh hinv;clear HI3;by_cases hlt:j<ks.length
    ·obtain⟨-,-,-,-,jB⟩:=HD.out wr hinv.chg;obtain⟨a,u,A4,c4,rfl,hsa,Hu,⟨q0,q1,q2,q3⟩,hnu⟩:=jB.nd hlt;have uY:=zh hnu;clear hinv jB hnu hsa;go_upto_region 6 with fail;have hbk:Below wr.heap.size wr (wr.alloc (.cells #[.int .u8 u.k,.int .i64 u.n,.string u.s,.slice A4 u.ks.length c4] 24)):=zkc (Below.refl _ _) _;have dR:=heap_alloc_new wr (.cells #[.int .u8 u.k,.int .i64 u.n,.string u.s,.slice A4 u.ks.length c4] 24);obtain⟨wk,hwk⟩:∃ wk,wr.alloc (.cells #[.int .u8 u.k,.int .i64 u.n,.string u.s,.slice A4 u.ks.length c4] 24)=wk:=⟨_,rfl⟩
     rw[hwk] at hbk dR ⊢;have eG:=zh (show wk.heap.size=wr.heap.size+1 by rw[<-hwk];simp);have aA:=zh hbk;have gJ:=zh dR;clear hwk hbk dR
     have bI:=zh (show ∀ w':World,Below wk.heap.size wk w'->(fun w':World=>((w'.cell? ⟨W.heap.size,0,none⟩=some (.slice A1 L1 c1)/\w'.cell? ⟨W.heap.size,1,none⟩=some (.slice A2 L2 c2)/\w'.cell? ⟨W.heap.size,2,none⟩=some (.int .u8 k)/\w'.cell? ⟨W.heap.size,3,none⟩=some (.int .i64 n)/\w'.cell? ⟨W.heap.size,4,none⟩=some (.string s)/\w'.cell? ⟨W.heap.size,5,none⟩=some (.slice A3 l3 c3))/\(w'.cell? ⟨W.heap.size+1,0,none⟩=some (.int .u8 50)/\w'.cell? ⟨W.heap.size+1,1,none⟩=some (.int .i64 tn)/\w'.cell? ⟨W.heap.size+1,2,none⟩=some (.string ts)/\w'.cell? ⟨W.heap.size+1,3,none⟩=some (.slice (some a) ks.length tc)))/\(w'.cell? ⟨wr.heap.size,0,none⟩=some (.int .u8 u.k)/\w'.cell? ⟨wr.heap.size,1,none⟩=some (.int .i64 u.n)/\w'.cell? ⟨wr.heap.size,2,none⟩=some (.string u.s)/\w'.cell? ⟨wr.heap.size,3,none⟩=some (.slice A4 u.ks.length c4))) w'/\(fun _:World=>True) w' from fun w' h=>⟨⟨oQ.out w' (ag.out.chg.trans (Chg.of_below (zka aA.out h))),box4 ((h.block _ (by have:=eG.out;omega)).trans gJ.out)⟩,trivial⟩)
     have hdr:=(Below.refl wk.heap.size wk).drew;have hSS:=bI.out _ hdr;refine wp_region_noPanic ?_
     refine zkd (fun w':World=>((w'.cell? ⟨W.heap.size,0,none⟩=some (.slice A1 L1 c1)/\w'.cell? ⟨W.heap.size,1,none⟩=some (.slice A2 L2 c2)/\w'.cell? ⟨W.heap.size,2,none⟩=some (.int .u8 k)/\w'.cell? ⟨W.heap.size,3,none⟩=some (.int .i64 n)/\w'.cell? ⟨W.heap.size,4,none⟩=some (.string s)/\w'.cell? ⟨W.heap.size,5,none⟩=some (.slice A3 l3 c3))/\(w'.cell? ⟨W.heap.size+1,0,none⟩=some (.int .u8 50)/\w'.cell? ⟨W.heap.size+1,1,none⟩=some (.int .i64 tn)/\w'.cell? ⟨W.heap.size+1,2,none⟩=some (.string ts)/\w'.cell? ⟨W.heap.size+1,3,none⟩=some (.slice (some a) ks.length tc)))/\(w'.cell? ⟨wr.heap.size,0,none⟩=some (.int .u8 u.k)/\w'.cell? ⟨wr.heap.size,1,none⟩=some (.int .i64 u.n)/\w'.cell? ⟨wr.heap.size,2,none⟩=some (.string u.s)/\w'.cell? ⟨wr.heap.size,3,none⟩=some (.slice A4 u.ks.length c4))) (fun _:World=>True) 40 (by kernel_rfl) ?_;refine zT 0 hSS ?_;(try simp only[zQ]);refine zT 1 hSS ?_
     (try simp only[zQ]);refine zT 2 hSS ?_;(try simp only[zQ]);refine zT 4 hSS ?_;(try simp only[zQ]);refine zT 5 hSS ?_;(try simp only[zQ]);refine zT 6 hSS ?_;(try simp only[zQ]);refine zT 7 hSS ?_;(try simp only[zQ]);refine zT 8 hSS ?_;(try simp only[zQ]);refine zT 9 hSS ?_;(try simp only[zQ]);refine zo 3 fun K hK=>?_;refine zke (by rfl) (.func 131) [.tmp 40,.tmp 41] _ (by rfl) 131 _ zp2 (by rfl) _ (by rfl) _ (znp (zn0 q Aq cq (j:Int) ⟨by omega,by omega⟩ _ _ (HD.out _ (ag.out.chg.trans (Chg.of_below (zka aA.out hdr)))).2.2.2.1 xW.out (by omega))) ?_;rintro vq w2 ⟨Ac,cc,rfl,hrc,hcc,aj⟩;have b2:=zka hdr aj;have aN:=bI.out _ b2;refine hK.out _ _ aN ?_;clear hK K hSS;(try simp only[zQ]);refine zo 10 fun K hK=>?_
     refine zke (by rfl) (.func 132) [.tmp 45,.tmp 46,.tmp 47,.tmp 48] _ (by rfl) 132 _ zoq (by rfl) _ (by rfl) _ (zng (zni p (.nd 50 tn ts ks) j hlt vs A c _ _ _ _ _ _ (HD.out _ (ag.out.chg.trans (Chg.of_below (zka aA.out b2)))).1 (HD.out _ (ag.out.chg.trans (Chg.of_below (zka aA.out b2)))).2.1 (HD.out _ (ag.out.chg.trans (Chg.of_below (zka aA.out b2)))).2.2.1 pO.out)) ?_;rintro vq w3 ⟨rfl,bP⟩;simp only[T.k_nd,T.s_nd,T.ks_nd];have b3:=zka b2 bP;have bG:=bI.out _ b3;refine hK.out _ _ bG ?_;clear hK K aN;(try simp only[zQ]);refine zo 11 fun K hK=>?_;have hcl:cntA p.prs ts ks.length 0 (ks.take j) vs<=zkX ks:=Nat.le_trans (zo1 _ _ _ _ _ _) (zlB _ _);have hF:=ag.out.fs.later (zka aA.out b3);have hR:=aU.out.keep _ _ _ _ ag.out.rd ag.out.fs (Chg.of_below (zka aA.out b3))
     refine zlk (by rfl) (.tmp 39) [.tmp 42,.tmp 44,.tmp 49] _ (by rfl) f fn hfn cap (by rfl) _ (by rfl) _ (zmf (aU.out.call _ pv' _ (q++[(j:Int)]) Ac cc u.s _ w3 hR hF (hrc.later bP) (by simp;omega) (by omega))) ?_;rintro vq W6 hp;obtain⟨iF,bM⟩:=ag.out.step aU.out (zka aA.out b3) hp;have bE:VsI Rd n0 fb Wb pw (N+one1 E0+cntA p.prs ts ks.length 0 (ks.take (j+1)) vs) W6 iF:=by rw[zpw p.prs ts ks.length vs hlt];simpa[Nat.add_assoc] using bM
     have ax:(fun w':World=>((w'.cell? ⟨W.heap.size,0,none⟩=some (.slice A1 L1 c1)/\w'.cell? ⟨W.heap.size,1,none⟩=some (.slice A2 L2 c2)/\w'.cell? ⟨W.heap.size,2,none⟩=some (.int .u8 k)/\w'.cell? ⟨W.heap.size,3,none⟩=some (.int .i64 n)/\w'.cell? ⟨W.heap.size,4,none⟩=some (.string s)/\w'.cell? ⟨W.heap.size,5,none⟩=some (.slice A3 l3 c3))/\(w'.cell? ⟨W.heap.size+1,0,none⟩=some (.int .u8 50)/\w'.cell? ⟨W.heap.size+1,1,none⟩=some (.int .i64 tn)/\w'.cell? ⟨W.heap.size+1,2,none⟩=some (.string ts)/\w'.cell? ⟨W.heap.size+1,3,none⟩=some (.slice (some a) ks.length tc)))/\(w'.cell? ⟨wr.heap.size,0,none⟩=some (.int .u8 u.k)/\w'.cell? ⟨wr.heap.size,1,none⟩=some (.int .i64 u.n)/\w'.cell? ⟨wr.heap.size,2,none⟩=some (.string u.s)/\w'.cell? ⟨wr.heap.size,3,none⟩=some (.slice A4 u.ks.length c4))) W6/\(fun _:World=>True) W6:=⟨⟨oQ.out _ bE.chg,box4 ((hp.2.elim fun _ h=>h.2.2.block _ (by have:=(zka aA.out b3).size;have:=b3.size;have:=eG.out;omega) (fun hh=>by have hl:=ag.out.fs.lt;rcases hh with hh|hh;(have:=hl.1;omega);(have:=(hl.2 _ hh).2;omega))).trans ((b3.block _ (by have:=eG.out;omega)).trans gJ.out))⟩,trivial⟩
     refine hK.out _ _ ax ?_;clear hK K bG;(try simp only[zQ]);refine zd ?_;refine NoPanic.normal ?_;have iM:=zh bE;clear bE bM hp ax hF hR;go_wp2_with fail
     go_roundw
     case rel=>exact⟨j+1,_,by omega,by go_num,iM.out⟩
     case measure=>simp[intOf];omega
    ·obtain rfl:j=ks.length:=by omega
     clear hinv;go_wp2_with fail;(try simp only[Exit.inBlock,Exit.then]);refine bodyPost_ret (results_none rfl _ _ _) rfl ?_;have hinv:=ag.out;rw[List.take_of_length_le (Nat.le_refl _)] at hinv;have hcc:=aV.out;rw[cntV,rY.out,if_pos (by decide)] at hcc;rw[<-hcc,<-Nat.add_assoc];exact hinv.rep dA.out ⟨_,rfl⟩
  ·go_wp2_with fail
   go_loopw [34] (fun i wr=>∃ (j:Nat) (pv':Value),j<=ks.length/\i=.int .i64 j/\VsI Rd n0 fb Wb pw (N+one1 E0+cntA p.prs ts ks.length 0 (ks.take j) vs) wr pv') (fun i _=>ks.length-(intOf i).toNat)
   case atStart=>exact⟨0,_,Nat.zero_le _,rfl,by simpa[cntA] using HI3.out⟩
   case round =>
    obtain⟨j,pv',hj,rfl,hinv⟩:=hrel;have ag:=zh hinv;clear HI3;by_cases hlt:j<ks.length
    ·obtain⟨-,-,-,-,jB⟩:=HD.out wr hinv.chg;obtain⟨a,u,A4,c4,rfl,hsa,Hu,⟨q0,q1,q2,q3⟩,hnu⟩:=jB.nd hlt;have uY:=zh hnu;clear hinv jB hnu hsa;go_upto_region 6 with fail;have hbk:Below wr.heap.size wr (wr.alloc (.cells #[.int .u8 u.k,.int .i64 u.n,.string u.s,.slice A4 u.ks.length c4] 24)):=zkc (Below.refl _ _) _;have dR:=heap_alloc_new wr (.cells #[.int .u8 u.k,.int .i64 u.n,.string u.s,.slice A4 u.ks.length c4] 24);obtain⟨wk,hwk⟩:∃ wk,wr.alloc (.cells #[.int .u8 u.k,.int .i64 u.n,.string u.s,.slice A4 u.ks.length c4] 24)=wk:=⟨_,rfl⟩
     rw[hwk] at hbk dR ⊢;have eG:=zh (show wk.heap.size=wr.heap.size+1 by rw[<-hwk];simp);have aA:=zh hbk;have gJ:=zh dR;clear hwk hbk dR
     have bI:=zh (show ∀ w':World,Below wk.heap.size wk w'->(fun w':World=>((w'.cell? ⟨W.heap.size,0,none⟩=some (.slice A1 L1 c1)/\w'.cell? ⟨W.heap.size,1,none⟩=some (.slice A2 L2 c2)/\w'.cell? ⟨W.heap.size,2,none⟩=some (.int .u8 k)/\w'.cell? ⟨W.heap.size,3,none⟩=some (.int .i64 n)/\w'.cell? ⟨W.heap.size,4,none⟩=some (.string s)/\w'.cell? ⟨W.heap.size,5,none⟩=some (.slice A3 l3 c3))/\(w'.cell? ⟨W.heap.size+1,0,none⟩=some (.int .u8 51)/\w'.cell? ⟨W.heap.size+1,1,none⟩=some (.int .i64 tn)/\w'.cell? ⟨W.heap.size+1,2,none⟩=some (.string ts)/\w'.cell? ⟨W.heap.size+1,3,none⟩=some (.slice (some a) ks.length tc)))/\(w'.cell? ⟨wr.heap.size,0,none⟩=some (.int .u8 u.k)/\w'.cell? ⟨wr.heap.size,1,none⟩=some (.int .i64 u.n)/\w'.cell? ⟨wr.heap.size,2,none⟩=some (.string u.s)/\w'.cell? ⟨wr.heap.size,3,none⟩=some (.slice A4 u.ks.length c4))) w'/\(fun _:World=>True) w' from fun w' h=>⟨⟨oQ.out w' (ag.out.chg.trans (Chg.of_below (zka aA.out h))),box4 ((h.block _ (by have:=eG.out;omega)).trans gJ.out)⟩,trivial⟩)
     have hdr:=(Below.refl wk.heap.size wk).drew;have hSS:=bI.out _ hdr;refine wp_region_noPanic ?_
     refine zkd (fun w':World=>((w'.cell? ⟨W.heap.size,0,none⟩=some (.slice A1 L1 c1)/\w'.cell? ⟨W.heap.size,1,none⟩=some (.slice A2 L2 c2)/\w'.cell? ⟨W.heap.size,2,none⟩=some (.int .u8 k)/\w'.cell? ⟨W.heap.size,3,none⟩=some (.int .i64 n)/\w'.cell? ⟨W.heap.size,4,none⟩=some (.string s)/\w'.cell? ⟨W.heap.size,5,none⟩=some (.slice A3 l3 c3))/\(w'.cell? ⟨W.heap.size+1,0,none⟩=some (.int .u8 51)/\w'.cell? ⟨W.heap.size+1,1,none⟩=some (.int .i64 tn)/\w'.cell? ⟨W.heap.size+1,2,none⟩=some (.string ts)/\w'.cell? ⟨W.heap.size+1,3,none⟩=some (.slice (some a) ks.length tc)))/\(w'.cell? ⟨wr.heap.size,0,none⟩=some (.int .u8 u.k)/\w'.cell? ⟨wr.heap.size,1,none⟩=some (.int .i64 u.n)/\w'.cell? ⟨wr.heap.size,2,none⟩=some (.string u.s)/\w'.cell? ⟨wr.heap.size,3,none⟩=some (.slice A4 u.ks.length c4))) (fun _:World=>True) 40 (by kernel_rfl) ?_;refine zT 0 hSS ?_;(try simp only[zQ]);refine zT 1 hSS ?_
     (try simp only[zQ]);refine zT 2 hSS ?_;(try simp only[zQ]);refine zT 4 hSS ?_;(try simp only[zQ]);refine zT 5 hSS ?_;(try simp only[zQ]);refine zT 6 hSS ?_;(try simp only[zQ]);refine zT 7 hSS ?_;(try simp only[zQ]);refine zT 8 hSS ?_;(try simp only[zQ]);refine zT 9 hSS ?_;(try simp only[zQ]);refine zo 3 fun K hK=>?_;refine zke (by rfl) (.func 131) [.tmp 40,.tmp 41] _ (by rfl) 131 _ zp2 (by rfl) _ (by rfl) _ (znp (zn0 q Aq cq (j:Int) ⟨by omega,by omega⟩ _ _ (HD.out _ (ag.out.chg.trans (Chg.of_below (zka aA.out hdr)))).2.2.2.1 xW.out (by omega))) ?_;rintro vq w2 ⟨Ac,cc,rfl,hrc,hcc,aj⟩;have b2:=zka hdr aj;have aN:=bI.out _ b2;refine hK.out _ _ aN ?_;clear hK K hSS;(try simp only[zQ]);refine zo 10 fun K hK=>?_
     refine zke (by rfl) (.func 132) [.tmp 45,.tmp 46,.tmp 47,.tmp 48] _ (by rfl) 132 _ zoq (by rfl) _ (by rfl) _ (zng (zni p (.nd 51 tn ts ks) j hlt vs A c _ _ _ _ _ _ (HD.out _ (ag.out.chg.trans (Chg.of_below (zka aA.out b2)))).1 (HD.out _ (ag.out.chg.trans (Chg.of_below (zka aA.out b2)))).2.1 (HD.out _ (ag.out.chg.trans (Chg.of_below (zka aA.out b2)))).2.2.1 pO.out)) ?_;rintro vq w3 ⟨rfl,bP⟩;simp only[T.k_nd,T.s_nd,T.ks_nd];have b3:=zka b2 bP;have bG:=bI.out _ b3;refine hK.out _ _ bG ?_;clear hK K aN;(try simp only[zQ]);refine zo 11 fun K hK=>?_;have hcl:cntA p.prs ts ks.length 0 (ks.take j) vs<=zkX ks:=Nat.le_trans (zo1 _ _ _ _ _ _) (zlB _ _);have hF:=ag.out.fs.later (zka aA.out b3);have hR:=aU.out.keep _ _ _ _ ag.out.rd ag.out.fs (Chg.of_below (zka aA.out b3))
     refine zlk (by rfl) (.tmp 39) [.tmp 42,.tmp 44,.tmp 49] _ (by rfl) f fn hfn cap (by rfl) _ (by rfl) _ (zmf (aU.out.call _ pv' _ (q++[(j:Int)]) Ac cc u.s _ w3 hR hF (hrc.later bP) (by simp;omega) (by omega))) ?_;rintro vq W6 hp;obtain⟨iF,bM⟩:=ag.out.step aU.out (zka aA.out b3) hp;have bE:VsI Rd n0 fb Wb pw (N+one1 E0+cntA p.prs ts ks.length 0 (ks.take (j+1)) vs) W6 iF:=by rw[zpw p.prs ts ks.length vs hlt];simpa[Nat.add_assoc] using bM
     have ax:(fun w':World=>((w'.cell? ⟨W.heap.size,0,none⟩=some (.slice A1 L1 c1)/\w'.cell? ⟨W.heap.size,1,none⟩=some (.slice A2 L2 c2)/\w'.cell? ⟨W.heap.size,2,none⟩=some (.int .u8 k)/\w'.cell? ⟨W.heap.size,3,none⟩=some (.int .i64 n)/\w'.cell? ⟨W.heap.size,4,none⟩=some (.string s)/\w'.cell? ⟨W.heap.size,5,none⟩=some (.slice A3 l3 c3))/\(w'.cell? ⟨W.heap.size+1,0,none⟩=some (.int .u8 51)/\w'.cell? ⟨W.heap.size+1,1,none⟩=some (.int .i64 tn)/\w'.cell? ⟨W.heap.size+1,2,none⟩=some (.string ts)/\w'.cell? ⟨W.heap.size+1,3,none⟩=some (.slice (some a) ks.length tc)))/\(w'.cell? ⟨wr.heap.size,0,none⟩=some (.int .u8 u.k)/\w'.cell? ⟨wr.heap.size,1,none⟩=some (.int .i64 u.n)/\w'.cell? ⟨wr.heap.size,2,none⟩=some (.string u.s)/\w'.cell? ⟨wr.heap.size,3,none⟩=some (.slice A4 u.ks.length c4))) W6/\(fun _:World=>True) W6:=⟨⟨oQ.out _ bE.chg,box4 ((hp.2.elim fun _ h=>h.2.2.block _ (by have:=(zka aA.out b3).size;have:=b3.size;have:=eG.out;omega) (fun hh=>by have hl:=ag.out.fs.lt;rcases hh with hh|hh;(have:=hl.1;omega);(have:=(hl.2 _ hh).2;omega))).trans ((b3.block _ (by have:=eG.out;omega)).trans gJ.out))⟩,trivial⟩
     refine hK.out _ _ ax ?_;clear hK K bG;(try simp only[zQ]);refine zd ?_;refine NoPanic.normal ?_;have iM:=zh bE;clear bE bM hp ax hF hR;go_wp2_with fail
     go_roundw
     case rel=>exact⟨j+1,_,by omega,by go_num,iM.out⟩
     case measure=>simp[intOf];omega
    ·obtain rfl:j=ks.length:=by omega
     clear hinv;go_wp2_with fail;(try simp only[Exit.inBlock,Exit.then]);refine bodyPost_ret (results_none rfl _ _ _) rfl ?_;have hinv:=ag.out;rw[List.take_of_length_le (Nat.le_refl _)] at hinv;have hcc:=aV.out;rw[cntV,rY.out,if_pos (by decide)] at hcc;rw[<-hcc,<-Nat.add_assoc];exact hinv.rep dA.out ⟨_,rfl⟩
 ·obtain⟨h50,kQ⟩:=not_or.1 hcall;have hd50:(tk==50)=false:=beq_false_of_ne h50;have hd51:(tk==51)=false:=beq_false_of_ne kQ;go_wp2_with fail
  go_loopw [55] (fun i wr=>∃ (j:Nat) (pv':Value),j<=ks.length/\i=.int .i64 j/\VsI Rd n0 fb Wb pw (N+one1 E0+cntK p.prs tk ts 0 (ks.take j) vs) wr pv') (fun i _=>ks.length-(intOf i).toNat)
  case atStart=>exact⟨0,_,Nat.zero_le _,rfl,by simpa[cntK] using HI3.out⟩
  case round =>
   obtain⟨j,pv',hj,rfl,hinv⟩:=hrel;have ag:=zh hinv;clear HI3;by_cases hlt:j<ks.length
   ·obtain⟨-,-,-,-,jB⟩:=HD.out wr hinv.chg;obtain⟨a,u,A4,c4,rfl,hsa,Hu,⟨q0,q1,q2,q3⟩,hnu⟩:=jB.nd hlt;have uY:=zh hnu;clear hinv jB hnu hsa;go_upto_region 11 with fail;have hbk:Below wr.heap.size wr (wr.alloc (.cells #[.int .u8 u.k,.int .i64 u.n,.string u.s,.slice A4 u.ks.length c4] 24)):=zkc (Below.refl _ _) _;have dR:=heap_alloc_new wr (.cells #[.int .u8 u.k,.int .i64 u.n,.string u.s,.slice A4 u.ks.length c4] 24);obtain⟨wk,hwk⟩:∃ wk,wr.alloc (.cells #[.int .u8 u.k,.int .i64 u.n,.string u.s,.slice A4 u.ks.length c4] 24)=wk:=⟨_,rfl⟩
    rw[hwk] at hbk dR ⊢;have eG:=zh (show wk.heap.size=wr.heap.size+1 by rw[<-hwk];simp);have aA:=zh hbk;have gJ:=zh dR;clear hwk hbk dR
    have bI:=zh (show ∀ w':World,Below wk.heap.size wk w'->(fun w':World=>((w'.cell? ⟨W.heap.size,0,none⟩=some (.slice A1 L1 c1)/\w'.cell? ⟨W.heap.size,1,none⟩=some (.slice A2 L2 c2)/\w'.cell? ⟨W.heap.size,2,none⟩=some (.int .u8 k)/\w'.cell? ⟨W.heap.size,3,none⟩=some (.int .i64 n)/\w'.cell? ⟨W.heap.size,4,none⟩=some (.string s)/\w'.cell? ⟨W.heap.size,5,none⟩=some (.slice A3 l3 c3))/\(w'.cell? ⟨W.heap.size+1,0,none⟩=some (.int .u8 tk)/\w'.cell? ⟨W.heap.size+1,1,none⟩=some (.int .i64 tn)/\w'.cell? ⟨W.heap.size+1,2,none⟩=some (.string ts)/\w'.cell? ⟨W.heap.size+1,3,none⟩=some (.slice (some a) ks.length tc)))/\(w'.cell? ⟨wr.heap.size,0,none⟩=some (.int .u8 u.k)/\w'.cell? ⟨wr.heap.size,1,none⟩=some (.int .i64 u.n)/\w'.cell? ⟨wr.heap.size,2,none⟩=some (.string u.s)/\w'.cell? ⟨wr.heap.size,3,none⟩=some (.slice A4 u.ks.length c4))) w'/\(fun _:World=>True) w' from fun w' h=>⟨⟨oQ.out w' (ag.out.chg.trans (Chg.of_below (zka aA.out h))),box4 ((h.block _ (by have:=eG.out;omega)).trans gJ.out)⟩,trivial⟩)
    have hdr:=(Below.refl wk.heap.size wk).drew;have hSS:=bI.out _ hdr;refine wp_region_noPanic ?_
    refine zkd (fun w':World=>((w'.cell? ⟨W.heap.size,0,none⟩=some (.slice A1 L1 c1)/\w'.cell? ⟨W.heap.size,1,none⟩=some (.slice A2 L2 c2)/\w'.cell? ⟨W.heap.size,2,none⟩=some (.int .u8 k)/\w'.cell? ⟨W.heap.size,3,none⟩=some (.int .i64 n)/\w'.cell? ⟨W.heap.size,4,none⟩=some (.string s)/\w'.cell? ⟨W.heap.size,5,none⟩=some (.slice A3 l3 c3))/\(w'.cell? ⟨W.heap.size+1,0,none⟩=some (.int .u8 tk)/\w'.cell? ⟨W.heap.size+1,1,none⟩=some (.int .i64 tn)/\w'.cell? ⟨W.heap.size+1,2,none⟩=some (.string ts)/\w'.cell? ⟨W.heap.size+1,3,none⟩=some (.slice (some a) ks.length tc)))/\(w'.cell? ⟨wr.heap.size,0,none⟩=some (.int .u8 u.k)/\w'.cell? ⟨wr.heap.size,1,none⟩=some (.int .i64 u.n)/\w'.cell? ⟨wr.heap.size,2,none⟩=some (.string u.s)/\w'.cell? ⟨wr.heap.size,3,none⟩=some (.slice A4 u.ks.length c4))) (fun _:World=>True) 40 (by kernel_rfl) ?_;refine zT 0 hSS ?_;(try simp only[zQ]);refine zT 1 hSS ?_
    (try simp only[zQ]);refine zT 2 hSS ?_;(try simp only[zQ]);refine zT 3 hSS ?_;(try simp only[zQ]);refine zT 5 hSS ?_;(try simp only[zQ]);refine zT 6 hSS ?_;(try simp only[zQ]);refine zT 7 hSS ?_;(try simp only[zQ]);refine zT 9 hSS ?_;(try simp only[zQ]);refine zo 4 fun K hK=>?_;refine zke (by rfl) (.func 131) [.tmp 62,.tmp 63] _ (by rfl) 131 _ zp2 (by rfl) _ (by rfl) _ (znp (zn0 q Aq cq (j:Int) ⟨by omega,by omega⟩ _ _ (HD.out _ (ag.out.chg.trans (Chg.of_below (zka aA.out hdr)))).2.2.2.1 xW.out (by omega))) ?_;rintro vq w2 ⟨Ac,cc,rfl,hrc,hcc,aj⟩;have b2:=zka hdr aj;have aN:=bI.out _ b2;refine hK.out _ _ aN ?_;clear hK K hSS;(try simp only[zQ]);refine zo 8 fun K hK=>?_
    refine zke (by rfl) (.func 133) [.tmp 65,.tmp 66,.tmp 67] _ (by rfl) 133 _ zvX (by rfl) _ (by rfl) _ (zrM (zso (.nd tk tn ts ks) j (by omega) vs A c _ _ _ _ (HD.out _ (ag.out.chg.trans (Chg.of_below (zka aA.out b2)))).2.1 (HD.out _ (ag.out.chg.trans (Chg.of_below (zka aA.out b2)))).2.2.1 iL.out (by omega))) ?_;simp only[T.k_nd,T.s_nd,T.ks_nd];rintro vq w3 ⟨Av,cv,rfl,fB,hcv,bP⟩;have b3:=zka b2 bP;have bG:=bI.out _ b3;refine hK.out _ _ bG ?_;clear hK K aN;(try simp only[zQ]);refine zo 10 fun K hK=>?_;have hcl:cntK p.prs tk ts 0 (ks.take j) vs<=zkX (ks.take j):=zp8 _ _ _ _ (fun t _ vs=>zsI _ t vs) _ _;have hsz:=zlB ks (j+1);rw[zq0 ks j hlt,Hu.out] at hsz;have hmem:u∈ks:=by rw[<-Hu.out];exact List.getElem_mem hlt
    have hdu:=zvp hmem;have hil:=zrb tk ts j vs;have hzb:=ag.out.chg.size;have hz0:=nU.out;have hzk:=eG.out;have hfl:=ag.out.fs.lt;have hF:=ag.out.fs.later (zka aA.out b3);have hR:=aU.out.keep _ _ _ _ ag.out.rd ag.out.fs (Chg.of_below (zka aA.out b3));have hzz:=hdr.size;have vJ:=aj.size;have hzw2:=b2.size
    refine zke (by rfl) (.func 108) [.tmp 60,.tmp 61,.tmp 64,.tmp 68,.tmp 69] _ (by rfl) 108 _ zvU (by rfl) _ (by rfl) _ (zmf (vw.out u hmem (fun b=>(S b/\b<W.heap.size)\/wk.heap.size<=b) (zmg tk ts j vs) Av cv (q++[(j:Int)]) Ac cc (N+one1 E0+cntK p.prs tk ts 0 (ks.take j) vs) pv' w3 _ _ hR hF ((HD.out _ (ag.out.chg.trans (Chg.of_below (zka aA.out b3)))).1.keep (fun b hb _=>.inl hb) (fun _ _ _=>rfl)) ((uY.out.later (zka aA.out b3)).keep (fun b hb _=>.inl hb) (fun _ _ _=>rfl)) (fB.mono fun b hb=>by rcases hb with hb|hb;exact .inl hb;exact .inr (by omega)) hcv ((hrc.later bP).mono fun b hb=>.inr (by have:_<=b:=hb;omega)) hcc (fun b hb hlt' hh=>?_) (by simp;omega) (by omega) (by omega))) ?_
    ·rcases hb with⟨hb,hbl⟩|hb
     ·refine HFAR.out b hb hbl (hh.imp id fun h=>?_);rcases ag.out.own b h with h1|h1
      ·exact h1
      ·omega
     ·rcases hh with rfl|hh
      ·omega
      ·have:=hfl.2 b hh;omega
    rintro vq W6 hp;obtain⟨iF,bM⟩:=ag.out.step aU.out (zka aA.out b3) hp;have bE:VsI Rd n0 fb Wb pw (N+one1 E0+cntK p.prs tk ts 0 (ks.take (j+1)) vs) W6 iF:=by rw[zsJ p.prs tk ts vs hlt,Hu.out];simpa[Nat.add_assoc] using bM
    have ax:(fun w':World=>((w'.cell? ⟨W.heap.size,0,none⟩=some (.slice A1 L1 c1)/\w'.cell? ⟨W.heap.size,1,none⟩=some (.slice A2 L2 c2)/\w'.cell? ⟨W.heap.size,2,none⟩=some (.int .u8 k)/\w'.cell? ⟨W.heap.size,3,none⟩=some (.int .i64 n)/\w'.cell? ⟨W.heap.size,4,none⟩=some (.string s)/\w'.cell? ⟨W.heap.size,5,none⟩=some (.slice A3 l3 c3))/\(w'.cell? ⟨W.heap.size+1,0,none⟩=some (.int .u8 tk)/\w'.cell? ⟨W.heap.size+1,1,none⟩=some (.int .i64 tn)/\w'.cell? ⟨W.heap.size+1,2,none⟩=some (.string ts)/\w'.cell? ⟨W.heap.size+1,3,none⟩=some (.slice (some a) ks.length tc)))/\(w'.cell? ⟨wr.heap.size,0,none⟩=some (.int .u8 u.k)/\w'.cell? ⟨wr.heap.size,1,none⟩=some (.int .i64 u.n)/\w'.cell? ⟨wr.heap.size,2,none⟩=some (.string u.s)/\w'.cell? ⟨wr.heap.size,3,none⟩=some (.slice A4 u.ks.length c4))) W6/\(fun _:World=>True) W6:=⟨⟨oQ.out _ bE.chg,box4 ((hp.2.elim fun _ h=>h.2.2.block _ (by have:=(zka aA.out b3).size;have:=b3.size;have:=eG.out;omega) (fun hh=>by have hl:=ag.out.fs.lt;rcases hh with hh|hh;(have:=hl.1;omega);(have:=(hl.2 _ hh).2;omega))).trans ((b3.block _ (by have:=eG.out;omega)).trans gJ.out))⟩,trivial⟩
    refine hK.out _ _ ax ?_;clear hK K bG;(try simp only[zQ]);refine zd ?_;refine NoPanic.normal ?_;have iM:=zh bE;clear bE bM hp ax hF hR;go_wp2_with fail
    go_roundw
    case rel=>exact⟨j+1,_,by omega,by go_num,iM.out⟩
    case measure=>simp[intOf];omega
   ·obtain rfl:j=ks.length:=by omega
    clear hinv;go_wp2_with fail;go_end0;have hinv:=ag.out;rw[List.take_of_length_le (Nat.le_refl _)] at hinv;have hcc:=aV.out;rw[cntV,rY.out,if_neg hcall] at hcc;rw[<-hcc,<-Nat.add_assoc];exact hinv.rep dA.out ⟨_,rfl⟩
theorem zvQ (k n:Int) (s:ByteArray) (ks:List T):isB (.nd k n s ks)=true↔k=57/\zkn n s=true/\∀ t∈ks,isS t=true:=by
 rw[isB];simp only[Bool.and_eq_true,decide_eq_true_eq,and_assoc];refine and_congr Iff.rfl (and_congr Iff.rfl ?_);rw[zoT 0,zkJ]
 constructor
 ·intro h t ht;obtain⟨q,hq,rfl⟩:=List.getElem_of_mem ht;exact h q hq
 ·intro h q hq;exact h _ (List.getElem_mem hq)
theorem zxx {t:T} (h:isB t=true):t.k=57:=by cases t;exact((zvQ _ _ _ _).1 h).1
theorem zm5 {x:T}:∀ {l:List T},x∈pos l↔∃ t∈l,x∈po t
 | []=>by simp[pos]
 | t::ts=>by simp[pos,zm5 (l:=ts)]
theorem zsg:∀ (ks:List T),(∀ t∈ks,∀ d l,lim t d l=if dep t<=d/\size t<=l then some (l-size t) else none)->∀ d l,lims ks d l=if deps ks<=d/\zkX ks<=l then some (l-zkX ks) else none
 | [],_,d,l=>by simp[lims,deps,zkX]
 | t::ts,h,d,l=>by
  have e1:deps (t::ts)=max (dep t) (deps ts):=by rw[deps]
  have e2:zkX (t::ts)=size t+zkX ts:=by rw[zkX]
  rw[lims,h t (by simp) d l];by_cases h1:dep t<=d/\size t<=l
  ·rw[if_pos h1];simp only;rw[zsg ts (fun u hu=>h u (by simp[hu])) d (l-size t)];by_cases h2:deps ts<=d/\zkX ts<=l-size t
   ·rw[if_pos h2,if_pos ⟨by omega,by omega⟩];congr 1;omega
   ·rw[if_neg h2,if_neg (by omega)]
  ·rw[if_neg h1];simp only;rw[if_neg (by omega)]
theorem zwI (t:T):∀ d l,lim t d l=if dep t<=d/\size t<=l then some (l-size t) else none:=by
 induction t using T.ind with
 | _ k n s ks ih =>
 intro d l;have e1:dep (.nd k n s ks)=1+deps ks:=by rw[dep]
 have e2:size (.nd k n s ks)=1+zkX ks:=by rw[size]
 rw[lim];by_cases h:d=0\/l=0
 ·rw[if_pos h,if_neg (by omega)]
 ·rw[if_neg h,zsg ks ih];by_cases h2:deps ks<=d-1/\zkX ks<=l-1
  ·rw[if_pos h2,if_pos ⟨by omega,by omega⟩];congr 1;omega
  ·rw[if_neg h2,if_neg (by omega)]
theorem zt8 {k n:Int} {s:ByteArray} {ks:List T} (h:isE (.nd k n s ks)=true):∀ t∈ks,isE t=true:=by
 have key:isEs ks=true->∀ t∈ks,isE t=true:=by
  intro h t ht;rw[zm7 0,zkJ] at h;obtain⟨i,hi,rfl⟩:=List.getElem_of_mem ht;exact h i hi
 have nil:decide (ks.length=0)=true->∀ t∈ks,isE t=true:=by
  intro h t ht;have:ks=[]:=by simpa using h
  rw[this] at ht;cases ht
 rw[isE] at h
 split at h
 ·simp only[Bool.and_eq_true] at h;exact nil h.2
 split at h
 ·simp only[Bool.and_eq_true] at h;exact nil h.2
 split at h
 ·simp only[Bool.and_eq_true] at h;exact key h.2.2
 split at h
 ·simp only[Bool.and_eq_true] at h;exact key h.2.2
 split at h
 ·simp only[Bool.and_eq_true] at h;exact key h.2.2
 ·cases h
theorem zt7 {t:T} (h:isP t=true):isE t=true:=by unfold isP at h;simp only[Bool.and_eq_true] at h;exact h.2
theorem zxw {t:T} (h:isV t=true):isE t=true:=by unfold isV at h;simp only[Bool.and_eq_true] at h;exact h.2
theorem zmR {m:Nat} {p:Nat->T->Bool} {ks:List T} (h:zkG m p ks=true) {t:T} (ht:t∈ks):∃ i,p i t=true:=by
 unfold zkG at h;simp only[Bool.and_eq_true] at h;have:=(zkJ p 0 ks).1 h.2;obtain⟨i,hi,rfl⟩:=List.getElem_of_mem ht;exact⟨0+i,this i hi⟩
theorem zoU {d:Nat} {ks:List T} (h:isEB d ks=true) {t:T} (ht:t∈ks):isE t=true\/isB t=true:=by
 have h':isEB (d+0) ks=true:=h;rw[zm8 d 0] at h';have:=(zkJ _ 0 ks).1 h';obtain⟨i,hi,rfl⟩:=List.getElem_of_mem ht;have h2:=this i hi;unfold pEB at h2
 split at h2
 ·exact .inl h2
 ·exact .inr h2
theorem zvi {k n:Int} {s:ByteArray} {ks:List T} (h:isS (.nd k n s ks)=true):k≠57/\∀ t∈ks,isE t=true\/isB t=true:=by
 rw[isS] at h
 split at h
 ·rename_i hk;simp only[Bool.and_eq_true] at h;refine⟨by omega,fun t ht=>?_⟩;obtain⟨i,hi⟩:=zmR h.2 ht
  split at hi
  ·exact .inl (zt7 hi)
  ·exact .inl hi
 split at h
 ·rename_i hk;simp only[Bool.and_eq_true] at h;refine⟨by omega,fun t ht=>?_⟩;obtain⟨i,hi⟩:=zmR h.2 ht;exact .inl (zt7 hi)
 split at h
 ·rename_i hk;simp only[Bool.and_eq_true] at h;refine⟨by omega,fun t ht=>?_⟩;obtain⟨i,hi⟩:=zmR h.2 ht;exact .inl (zt7 hi)
 split at h
 ·rename_i hk;simp only[Bool.and_eq_true] at h;refine⟨by omega,fun t ht=>?_⟩;obtain⟨i,hi⟩:=zmR h.2 ht;exact .inl (zt7 hi)
 split at h
 ·rename_i hk;simp only[Bool.and_eq_true] at h;refine⟨by omega,fun t ht=>?_⟩;have:=(zkJ _ 0 ks).1 h.2;obtain⟨i,hi,rfl⟩:=List.getElem_of_mem ht;exact .inl (zxw (this i hi))
 split at h
 ·rename_i hk;simp only[Bool.and_eq_true] at h;exact⟨by omega,fun t ht=>zoU h.2.2 ht⟩
 split at h
 ·rename_i hk;simp only[Bool.and_eq_true] at h;exact⟨by omega,fun t ht=>zoU h.2.2 ht⟩
 split at h
 ·rename_i hk;simp only[Bool.and_eq_true] at h;exact⟨by omega,fun t ht=>zoU h.2.2 ht⟩
 ·cases h
theorem zmS {k n:Int} {s:ByteArray} {ks:List T} (h:isS (.nd k n s ks)=true) :
  ((k≠52/\k≠53/\k≠54/\k≠55/\k≠57)/\∀ t∈ks,t.k≠57) \/
  ((k=52\/k=53)/\zkn n s=true/\∃ a b c d,ks=[a,b,c,d]/\isE a=true/\isB b=true/\isB c=true/\isE d=true) \/
  (k=54/\zkz n s=true/\∃ a b c,ks=[a,b,c]/\isE a=true/\isB b=true/\isE c=true) \/
  (k=55/\zkz n s=true/\∃ b,ks=[b]/\isB b=true):=by
 have key:∀ (p:Nat->T->Bool),(∀ j t,p j t=true->t.k≠57)->zky p 0 ks=true->∀ t∈ks,t.k≠57:=by
  intro p hp hk t ht;obtain⟨q,hq,rfl⟩:=List.getElem_of_mem ht;exact hp _ _ ((zkJ p 0 ks).1 hk q hq)
 have kE:∀ t,isE t=true->t.k≠57:=fun t h1=>by have:=zt9 t h1;omega
 rw[isS] at h
 repeat' split at h
 ·simp only[zkG,Bool.and_eq_true] at h;exact .inl ⟨by omega,key _ (fun j t hj=>by split at hj;exact zt6 t hj;exact kE t hj) h.2.2⟩
 ·simp only[zkG,Bool.and_eq_true] at h;exact .inl ⟨by omega,key _ (fun j t=>zt6 t) h.2.2⟩
 ·simp only[zkG,Bool.and_eq_true] at h;exact .inl ⟨by omega,key _ (fun j t=>zt6 t) h.2.2⟩
 ·simp only[zkG,Bool.and_eq_true] at h;exact .inl ⟨by omega,key _ (fun j t=>zt6 t) h.2.2⟩
 ·simp only[Bool.and_eq_true] at h;exact .inl ⟨by omega,key _ (fun j t=>zxv t) h.2⟩
 ·rename_i hk;simp only[Bool.and_eq_true,decide_eq_true_eq] at h;obtain⟨h1,h2,h3⟩:=h
  match ks,h2 with
  | [a,b,c,d],_ =>
   simp only[isEB,Bool.and_eq_true,Bool.and_true] at h3;simp at h3;exact .inr (.inl ⟨hk,h1,a,b,c,d,rfl,h3.1,h3.2.1,h3.2.2.1,h3.2.2.2⟩)
 ·rename_i hk;simp only[Bool.and_eq_true,decide_eq_true_eq] at h;obtain⟨h1,h2,h3⟩:=h
  match ks,h2 with
  | [a,b,c],_ =>
   simp only[isEB,Bool.and_eq_true,Bool.and_true] at h3;simp at h3;exact .inr (.inr (.inl ⟨hk,h1,a,b,c,rfl,h3.1,h3.2.1,h3.2.2⟩))
 ·rename_i hk;simp only[Bool.and_eq_true,decide_eq_true_eq] at h;obtain⟨h1,h2,h3⟩:=h
  match ks,h2 with
  | [b],_ =>
   simp only[isEB,Bool.and_eq_true,Bool.and_true] at h3;simp at h3;exact .inr (.inr (.inr ⟨hk,h1,b,rfl,h3⟩))
 ·cases h
section
variable {P:Program} {ops:Array Oper} {Q:Exit->Act->World->Prop} {md:Region.Mode} {S1 S2:World->Prop} {k:Nat}
theorem zvw {i j:Nat} {o o':Oper} {fuel:Nat} {listed:Array Bool} {a:Act} {w:World} (hr:Region.ready md ops listed=[i,j]) (ho:ops[i]?=some o) (ho':ops[j]?=some o')
  (h:∀ K':Act->World->Prop,Shut (∀ a w,S1 w/\S2 w->wpG P md ops Q S1 S2 k fuel (listed.setIfInBounds i true) a w->K' a w)->if Region.wanted o (yielded ops a.tmps)=true then Oper.wp P o a w K' Q else K' (a.put o.dst undef) w)
  (h':∀ K':Act->World->Prop,Shut (∀ a w,S1 w/\S2 w->wpG P md ops Q S1 S2 k fuel (listed.setIfInBounds j true) a w->K' a w)->if Region.wanted o' (yielded ops a.tmps)=true then Oper.wp P o' a w K' Q else K' (a.put o'.dst undef) w) :
  wpG P md ops Q S1 S2 k (fuel+1) listed a w:=by
 refine⟨(fun h0=>by rw[hr] at h0;cases h0),fun x hx=>?_⟩;rw[hr] at hx;simp only[List.mem_cons,List.not_mem_nil,or_false] at hx;rcases hx with rfl|rfl
 ·exact wpOp_step ho fun K' hK=>h K' fun a w hS hW=>hK a w ⟨⟨hS.1,fun _=>hS.2⟩,hW⟩
 ·exact wpOp_step ho' fun K' hK=>h' K' fun a w hS hW=>hK a w ⟨⟨hS.1,fun _=>hS.2⟩,hW⟩
end
def frsN (vs:List VD):Nat->Nat
 | 0=>0
 | j+1=>frsN vs j+(if h:j<vs.length then one1 (zmi (vs.take j) vs[j].s) else 0)
theorem zmT {vs:List VD} {j:Nat} (h:j<vs.length):frsN vs (j+1)=frsN vs j+one1 (zmi (vs.take j) vs[j].s):=by simp[frsN,h]
theorem zmh (vs:List VD):∀ j,frsN vs j<=j
 | 0=>by simp[frsN]
 | j+1=>by
  have h:=zmh vs j;rw[frsN]
  split
  ·have:=zmD (zmi (vs.take j) vs[j].s);omega
  ·omega
def prcE (ps:List PR) (j:Nat) (r:PR):Nat:=one1 (if zlw ps r.s<(j:Int) then 22 else 0)+frsN r.ps r.ps.length+cntV ps r.b r.ps
def prcN (ps:List PR):Nat->Nat
 | 0=>0
 | j+1=>prcN ps j+(if h:j<ps.length then prcE ps j ps[j] else 0)
theorem znE {ps:List PR} {j:Nat} (h:j<ps.length):prcN ps (j+1)=prcN ps j+prcE ps j ps[j]:=by simp[prcN,h]
def chkN (p:PG):Nat:=frsN p.vs p.vs.length+prcN p.prs p.prs.length+cntV p.prs p.m p.vs
theorem zoe {t:T} (h:zlx t=true):dep t<=80/\size t<=2000:=by
 simp only[zlx,Bool.and_eq_true] at h;have h1:=h.1;rw[zwI] at h1
 split at h1
 ·assumption
 ·simp at h1
theorem zmc {p:PG} (h:zlc p=true):p.vs.length<=32/\p.prs.length<=64/\(∀ r∈p.prs,r.ps.length<=8/\dep r.b<=80/\size r.b<=2000)/\dep p.m<=80/\size p.m<=2000:=by
 simp only[zlc,Bool.and_eq_true,decide_eq_true_eq,List.all_eq_true] at h;refine⟨h.1.1.1.1,h.1.1.1.2,fun r hr=>?_,zoe h.2⟩;have:=h.1.2 r hr;simp only[zn4,Bool.and_eq_true,decide_eq_true_eq] at this;exact⟨this.1.1.2,zoe this.2⟩
theorem zpT (ps:List PR) (h:∀ r∈ps,r.ps.length<=8/\dep r.b<=80/\size r.b<=2000):∀ j,prcN ps j<=j*2009
 | 0=>by simp[prcN]
 | j+1=>by
  have h1:=zpT ps h j;rw[prcN]
  split
  ·rename_i hj;have h2:=h _ (List.getElem_mem hj);have h3:=zmD (if zlw ps ps[j].s<(j:Int) then 22 else 0);have h4:=zmh ps[j].ps ps[j].ps.length;have h5:=zsI ps ps[j].b ps[j].ps;unfold prcE;omega
  ·omega
theorem RowV.take {w:World} {S:Nat->Prop} {A:Option Addr} {vs:List VD} (h:RowV w S A vs) (j:Nat):RowV w S A (vs.take j):=fun i hi=>by
 have h1:i<vs.length:=by simp at hi;omega
 obtain⟨a,h2,h3,h4,h5⟩:=h i h1;exact⟨a,h2,h3,by simpa using h4,by simpa using h5⟩
theorem RowI.nil {w:World} {S:Nat->Prop} {A:Option Addr}:RowI w S A []:=fun i hi=>by simp at hi
theorem zph (w:World) (j:Int) (hj:I64 j):RowI (w.alloc (.cells #[.int .i64 j] 3)) Any (some ⟨w.heap.size,0,none⟩) [j]:=fun i hi=>by
 simp only[List.length_singleton,Nat.lt_one_iff] at hi;subst hi;exact⟨_,rfl,trivial,zlt w 3 [.int .i64 j] 0 _ rfl,hj⟩
theorem zmn (n0 fb N:Nat) (pv:Value) (pr er:Int) (q:List Int) (A:Option Addr) (c:Nat) (s:ByteArray) (S:Nat->Prop) (W:World) (hfs:FS W n0 fb N pv) (hq:RowI W S A q) (lg:q.length<=100000) (hN:N<=1000000) :
  Calls Tryz.prog 105 ([.int .i64 pr,.slice A q.length c,.string s,.int .i64 er].toArray ++ #[.pointer (some ⟨fb,0,none⟩)]) W (RepP W n0 fb pv (N+one1 er)):=by
 simpa using zmo n0 fb N pv pr er q A c s S W hfs hq lg hN
theorem VsI.chg2 {Rd:World->Prop} {n0 fb:Nat} {Wb wr wk w':World} {pv pv':Value} {N:Nat} (h:VsI Rd n0 fb Wb pv N wr pv') (hb:Below wr.heap.size wr wk) (hc:Chg (fun b=>b=fb\/pv'.ownBlock=some b) wk w'):Chg (fun b=>b=fb\/pv.ownBlock=some b) Wb w' :=
 (h.chg.trans (Chg.of_below hb)).trans2 hc fun b hlt hh=>by
  rcases hh with hh|hh
  ·exact .inl hh
  ·rcases h.own b hh with h1|h1
   ·exact .inr h1
   ·omega
theorem VsI.stepK {Rd:World->Prop} {n0 fb:Nat} {Wb wr w5 W6:World} {pv pv':Value} {N N':Nat} {e:Ending} (hk:∀ W W' pv N,Rd W->FS W n0 fb N pv->Chg (fun b=>b=fb\/pv.ownBlock=some b) W W'->Rd W') (h:VsI Rd n0 fb Wb pv N wr pv') (hb:Below wr.heap.size wr w5) (hp:RepP w5 n0 fb pv' N' e W6) :
  ∃ iO,VsI Rd n0 fb Wb pv N' W6 iO:=by
 obtain⟨_,iO,hfs,bQ,hc⟩:=hp;have qD:=h.fs.later hb;have hz:=h.chg.size;have mI:=hb.size;refine⟨iO,hk w5 W6 pv' N (hk wr w5 pv' N h.rd h.fs (Chg.of_below hb)) qD hc,hfs,fun b hb'=>?_,h.chg2 hb hc⟩;rcases bQ b hb' with h1|h1
 ·exact h.own b h1
 ·exact .inr (by omega)
theorem zmr (vs:List VD) (j:Nat) (hj:j<=vs.length) (A:Option Addr) (c:Nat) (s:ByteArray) (S:Nat->Prop) (w:World) (hrow:RowV w S A vs) (hl:vs.length<=LV) :
  Calls Tryz.prog 106 #[.slice A j c,.string s] w fun e w'=>e=.returned (.int .i64 (zmi (vs.take j) s))/\Below w.heap.size w w':=by
 have h:=znP (vs.take j) A c s S w (hrow.take j) (by simp;omega);rwa[show(vs.take j).length=j by simp;omega] at h
theorem zoW:IsFn Tryz.prog 106 Tryz.f106:=⟨Tryz.func106,by kernel_rfl,by kernel_rfl⟩
theorem zvW:IsFn Tryz.prog 107 Tryz.f107:=⟨Tryz.func107,by kernel_rfl,by kernel_rfl⟩
theorem zqF:IsFn Tryz.prog 105 Tryz.f105:=⟨Tryz.func105,by kernel_rfl,by kernel_rfl⟩
theorem zrl (p:PG) (S:Nat->Prop) (v:Value) (W:World) (hv:PV W S p v):Calls Tryz.prog 77 #[v] W fun e w'=>∃ A c,e=.returned (.slice A (if zlc p=true then chkN p else 0) c)/\Below W.heap.size W w':=by
 obtain⟨NN,xC⟩:∃ NN,(if zlc p=true then chkN p else 0)=NN:=⟨_,rfl⟩
 rw[xC];have jJ:=zh xC;clear xC;have hvv:=hv;obtain⟨A1,c1,A2,c2,A3,c3,rfl,hr⟩:=hv;have hlv:=zlv hr.lv;have hlp:=zlv hr.lp;obtain⟨L1,hL1⟩:∃ L,p.vs.length=L:=⟨_,rfl⟩
 obtain⟨L2,hL2⟩:∃ L,p.prs.length=L:=⟨_,rfl⟩
 obtain⟨k,hk⟩:∃ k,p.m.k=k:=⟨_,rfl⟩
 obtain⟨n,hn⟩:∃ n,p.m.n=n:=⟨_,rfl⟩
 obtain⟨s,hs⟩:∃ s,p.m.s=s:=⟨_,rfl⟩
 obtain⟨l3,hl3⟩:∃ l,p.m.ks.length=l:=⟨_,rfl⟩
 rw[hL1,hL2,hk,hn,hs,hl3];rw[hL1,hL2,hk,hn,hs,hl3] at hvv;rw[hL1] at hlv;rw[hL2] at hlp;have uR:=zh hvv;have HR:=zh hr;have pQ:=zh hL1;have HL2:=zh hL2;have tJ:=zh (show p.m.k=k/\p.m.n=n/\p.m.s=s/\p.m.ks.length=l3 from ⟨hk,hn,hs,hl3⟩);clear hvv hr hL1 hL2 hk hn hs hl3;go_enter Tryz.func77,Tryz.ntmps77;go_wp2_with fail;refine(zpE p S _ _ (uR.out.later (zkc (Below.refl _ _) _))).mono ?_;rintro e w1 ⟨rfl,aa⟩;have b1:Below W.heap.size W w1:=zka (zkc (Below.refl _ _) _) aa;have hp1:=(aa.block W.heap.size (by simp)).trans (heap_alloc_new W (.cells #[.slice A1 L1 c1,.slice A2 L2 c2,.int .u8 k,.int .i64 n,.string s,.slice A3 l3 c3] 55));have hz1:=aa.size;simp only[World.size_alloc] at hz1;have HB1:=zh b1;have HP1:=zh hp1;have HZ1:=zh hz1;obtain⟨a0,a1,a2,a3,a4,a5⟩:=box6 hp1;clear aa b1 hp1
 cases hvb:zlc p
 ·have hN0:NN=0:=by rw[<-jJ.out,hvb];rfl
  subst hN0;go_wp2_with fail;go_ret;exact⟨none,0,rfl,HB1.out⟩
 ·have eH:=zh (zmc hvb);have HNN2:=zh (show chkN p=NN by rw[<-jJ.out,hvb];rfl);clear hvb jJ;go_upto_region 5 with fail;obtain⟨fb,o8⟩:∃ fb,w1.heap.size=fb:=⟨_,rfl⟩
  rw[o8];have tY:W.heap.size+1<=fb:=by omega
  have hbw:Below W.heap.size W ((w1.alloc (.cells #[.slice none 0 0] 131)).alloc (.cells #[.func (.func 105) #[] #[.pointer (some ⟨fb,0,none⟩)]] 169)):=zkc (zkc HB1.out _) _;have vY:=zkf (heap_alloc_new w1 (.cells #[.slice none 0 0] 131)) (.cells #[.func (.func 105) #[] #[.pointer (some ⟨fb,0,none⟩)]] 169);have hbR:=heap_alloc_new (w1.alloc (.cells #[.slice none 0 0] 131)) (.cells #[.func (.func 105) #[] #[.pointer (some ⟨fb,0,none⟩)]] 169);simp only[World.size_alloc] at hbR;rw[o8] at vY hbR;have o9:=zkf (zkf HP1.out (.cells #[.slice none 0 0] 131)) (.cells #[.func (.func 105) #[] #[.pointer (some ⟨fb,0,none⟩)]] 169);obtain⟨Wb,qK⟩:∃ Wb,(w1.alloc (.cells #[.slice none 0 0] 131)).alloc (.cells #[.func (.func 105) #[] #[.pointer (some ⟨fb,0,none⟩)]] 169)=Wb:=⟨_,rfl⟩
  rw[qK] at hbw vY hbR o9 ⊢;have nU:=zh (show Wb.heap.size=fb+2 by rw[<-qK,<-o8];simp);have dA:=zh hbw;have HZF:=zh tY;clear qK o8 a0 a1 a2 a3 a4 a5 HP1 HZ1 HB1 hz1;have hrep:=zvb fb fb (fb+1) W.heap.size A1 L1 c1 A2 L2 c2 k n s A3 l3 c3;obtain⟨Rd,qP⟩:∃ Rd:World->Prop,(fun W':World=>W'.heap[fb+1]?=some (.cells #[.func (.func 105) #[] #[.pointer (some ⟨fb,0,none⟩)]] 169 (0,0))/\W'.heap[W.heap.size]?=some (.cells #[.slice A1 L1 c1,.slice A2 L2 c2,.int .u8 k,.int .i64 n,.string s,.slice A3 l3 c3] 55 (0,0)))=Rd:=⟨_,rfl⟩
  rw[qP] at hrep;have aU:=zh hrep;have kT:=zh (show ∀ w':World,Rd w'->w'.heap[fb+1]?=some (.cells #[.func (.func 105) #[] #[.pointer (some ⟨fb,0,none⟩)]] 169 (0,0))/\w'.heap[W.heap.size]?=some (.cells #[.slice A1 L1 c1,.slice A2 L2 c2,.int .u8 k,.int .i64 n,.string s,.slice A3 l3 c3] 55 (0,0)) from fun w' h=>by rw[<-qP] at h;exact h);have aV:=zh (show ∀ w':World,Rd w'->(fun w':World=>(w'.cell? ⟨W.heap.size,0,none⟩=some (.slice A1 L1 c1)/\w'.cell? ⟨W.heap.size,1,none⟩=some (.slice A2 L2 c2)/\w'.cell? ⟨W.heap.size,2,none⟩=some (.int .u8 k)/\w'.cell? ⟨W.heap.size,3,none⟩=some (.int .i64 n)/\w'.cell? ⟨W.heap.size,4,none⟩=some (.string s)/\w'.cell? ⟨W.heap.size,5,none⟩=some (.slice A3 l3 c3))/\(w'.cell? ⟨fb+1,0,none⟩=some (.func (.func 105) #[] #[.pointer (some ⟨fb,0,none⟩)]))) w' from fun w' h=>⟨box6 (kT.out w' h).2,zc (kT.out w' h).1 rfl⟩)
  have HI0:=zh (show VsI Rd fb fb Wb (.slice none 0 0) 0 Wb (.slice none 0 0) from ⟨by rw[<-qP];exact⟨hbR,o9⟩,⟨vY,⟨[],World.ownsRow_nil _ _ _ _⟩,Nat.le_refl _,by simp[Value.ownBlock]⟩,fun b hb=>.inl hb,Chg.refl _ _⟩);have fZ:=zh (show ∀ w':World,Chg (fun b=>b=fb\/(Value.slice none 0 0).ownBlock=some b) Wb w'->∀ b,S b->b<W.heap.size->w'.heap[b]?=W.heap[b]? from fun w' h b hb hlt=>(h.block b (by have:=nU.out;omega) (fun hh=>by rcases hh with hh|hh;omega;simp[Value.ownBlock] at hh)).trans (dA.out.block b hlt));have HD:=zh (show ∀ w':World,Chg (fun b=>b=fb\/(Value.slice none 0 0).ownBlock=some b) Wb w'->PV w' (fun b=>S b/\b<W.heap.size) p _/\PgR w' (fun b=>S b/\b<W.heap.size) p A1 c1 A2 c2 A3 c3 from fun w' h=>⟨uR.out.keep (fun b hb hlt=>⟨hb,hlt⟩) (fZ.out w' h),HR.out.keep (fun b hb hlt=>⟨hb,hlt⟩) (fZ.out w' h)⟩);have hl32:L1<=32:=by have:=eH.out.1;rw[pQ.out] at this;exact this
  have hl64:L2<=64:=by have:=eH.out.2.1;rw[HL2.out] at this;exact this
  have hlc1:L1<=c1:=by have:=HR.out.lvc;rw[pQ.out] at this;exact this
  have nH:L2<=c2:=by have:=HR.out.lpc;rw[HL2.out] at this;exact this
  obtain⟨⟨a0,a1,a2,a3,a4,a5⟩,ar⟩:=aV.out _ HI0.out.rd;clear hrep qP hbR o9 vY hbw;go_wp2_with fail
  go_loopw [18] (fun i wr=>∃ (j:Nat) (pv':Value),j<=L1/\i=.int .i64 j/\VsI Rd fb fb Wb (.slice none 0 0) (frsN p.vs j) wr pv') (fun i _=>L1-(intOf i).toNat)
  case atStart=>exact⟨0,_,Nat.zero_le _,rfl,HI0.out⟩
  case round =>
   obtain⟨j,pv',hj,rfl,hinv⟩:=hrel;have ag:=zh hinv;clear HI0 a0 a1 a2 a3 a4 a5 ar;by_cases hlt:j<L1
   ·have gP:j<p.vs.length:=by rw[pQ.out];exact hlt
    obtain⟨a,u,rfl,hsa,Hu,⟨q0,q1,q2⟩,hfu⟩:=(HD.out wr hinv.chg).2.vars.nd gP;have hjc:(j:Int)<=(c1:Int):=by omega
    have hj0:(0:Int)<=(j:Int):=by omega
    obtain⟨⟨a0,a1,a2,a3,a4,a5⟩,ar⟩:=aV.out _ hinv.rd;clear hinv hsa hfu;go_upto_region 8 with fail;have hbk:Below wr.heap.size wr (wr.alloc (.cells #[.string u.s,.int .u8 u.k,.int .i64 u.n] 76)):=zkc (Below.refl _ _) _;have dR:=heap_alloc_new wr (.cells #[.string u.s,.int .u8 u.k,.int .i64 u.n] 76);obtain⟨wk,hwk⟩:∃ wk,wr.alloc (.cells #[.string u.s,.int .u8 u.k,.int .i64 u.n] 76)=wk:=⟨_,rfl⟩
    rw[hwk] at hbk dR ⊢;have eG:=zh (show wk.heap.size=wr.heap.size+1 by rw[<-hwk];simp);have aA:=zh hbk;have gJ:=zh dR;clear hwk hbk dR a0 a1 a2 a3 a4 a5 ar q0 q1 q2;have HRW:=zh (show ∀ w':World,Below wk.heap.size wk w'->Rd w' from fun w' h=>aU.out.keep _ _ _ _ ag.out.rd ag.out.fs (Chg.of_below (zka aA.out h)))
    have bI:=zh (show ∀ w':World,Below wk.heap.size wk w'->(fun w':World=>((w'.cell? ⟨W.heap.size,0,none⟩=some (.slice (some a) L1 c1)/\w'.cell? ⟨W.heap.size,1,none⟩=some (.slice A2 L2 c2)/\w'.cell? ⟨W.heap.size,2,none⟩=some (.int .u8 k)/\w'.cell? ⟨W.heap.size,3,none⟩=some (.int .i64 n)/\w'.cell? ⟨W.heap.size,4,none⟩=some (.string s)/\w'.cell? ⟨W.heap.size,5,none⟩=some (.slice A3 l3 c3))/\(w'.cell? ⟨fb+1,0,none⟩=some (.func (.func 105) #[] #[.pointer (some ⟨fb,0,none⟩)])))/\(w'.cell? ⟨wr.heap.size,0,none⟩=some (.string u.s)/\w'.cell? ⟨wr.heap.size,1,none⟩=some (.int .u8 u.k)/\w'.cell? ⟨wr.heap.size,2,none⟩=some (.int .i64 u.n))) w'/\(fun _:World=>True) w' from fun w' h=>⟨⟨aV.out _ (HRW.out w' h),box3 ((h.block _ (by have:=eG.out;omega)).trans gJ.out)⟩,trivial⟩);have hdr:=(Below.refl wk.heap.size wk).drew;have hSS:=bI.out _ hdr;have hbI:=zo3;have hN:=zmh p.vs j
    refine wp_region_noPanic ?_;refine zkd (fun w':World=>((w'.cell? ⟨W.heap.size,0,none⟩=some (.slice (some a) L1 c1)/\w'.cell? ⟨W.heap.size,1,none⟩=some (.slice A2 L2 c2)/\w'.cell? ⟨W.heap.size,2,none⟩=some (.int .u8 k)/\w'.cell? ⟨W.heap.size,3,none⟩=some (.int .i64 n)/\w'.cell? ⟨W.heap.size,4,none⟩=some (.string s)/\w'.cell? ⟨W.heap.size,5,none⟩=some (.slice A3 l3 c3))/\(w'.cell? ⟨fb+1,0,none⟩=some (.func (.func 105) #[] #[.pointer (some ⟨fb,0,none⟩)])))/\(w'.cell? ⟨wr.heap.size,0,none⟩=some (.string u.s)/\w'.cell? ⟨wr.heap.size,1,none⟩=some (.int .u8 u.k)/\w'.cell? ⟨wr.heap.size,2,none⟩=some (.int .i64 u.n))) (fun _:World=>True) 40 (by kernel_rfl) ?_;refine zT 0 hSS ?_;(try simp only[zQ]);refine zT 1 hSS ?_;(try simp only[zQ]);refine zT 3 hSS ?_;(try simp only[zQ]);refine zT 4 hSS ?_;(try simp only[zQ]);refine zT 5 hSS ?_;(try simp only[zQ]);refine zT 6 hSS ?_
    (try simp only[zQ]);refine zT 7 hSS ?_;(try simp only[zQ]);refine zT 8 hSS ?_;(try simp only[zQ]);refine zT 9 hSS ?_;(try simp only[zQ]);refine zT 10 hSS ?_;(try simp only[zQ]);refine zvw (i:=2) (j:=11) (by kernel_rfl) rfl rfl (fun K hK=>?_) (fun K hK=>?_)
    ·(try simp only[zA,zB,zC]);go_simp;have b2:=zkc hdr (.cells #[.int .i64 (j:Int)] 3);refine hK.out _ _ (bI.out _ b2) ?_;clear hK K;(try simp only[zQ]);refine zo 11 fun K hK=>?_;refine zke (by rfl) (.func 106) [.tmp 31,.tmp 33] _ (by rfl) 106 _ zoW (by rfl) _ (by rfl) _ (zng (zmr p.vs j (by omega) (some a) c1 u.s _ _ (HD.out _ (ag.out.chg.trans (Chg.of_below (zka aA.out b2)))).2.vars HR.out.lv)) ?_;rintro vq w3 ⟨rfl,bP⟩;have b3:=zka b2 bP;refine hK.out _ _ (bI.out _ b3) ?_;clear hK K;(try simp only[zQ]);refine zo 12 fun K hK=>?_
     refine zlk (by rfl) (.tmp 23) [.const (.int .i64 (-1)),.tmp 25,.tmp 27,.tmp 34] _ (by rfl) 105 _ zqF #[.pointer (some ⟨fb,0,none⟩)] (by rfl) _ (by rfl) _ (zmf (zmn fb fb _ pv' (-1) _ [(j:Int)] (some ⟨wk.heap.size,0,none⟩) 1 u.s _ _ (ag.out.fs.later (zka aA.out b3)) (((zph _ (j:Int) ⟨by omega,by omega⟩).later (Below.refl _ _).drew).later bP) (by simp) (by omega))) ?_;rintro vq W6 hp;obtain⟨iF,bM⟩:=ag.out.step aU.out (zka aA.out b3) hp;have bE:VsI Rd fb fb Wb (.slice none 0 0) (frsN p.vs (j+1)) W6 iF:=by rw[zmT gP,Hu.out];exact bM
     have ax:(fun w':World=>((w'.cell? ⟨W.heap.size,0,none⟩=some (.slice (some a) L1 c1)/\w'.cell? ⟨W.heap.size,1,none⟩=some (.slice A2 L2 c2)/\w'.cell? ⟨W.heap.size,2,none⟩=some (.int .u8 k)/\w'.cell? ⟨W.heap.size,3,none⟩=some (.int .i64 n)/\w'.cell? ⟨W.heap.size,4,none⟩=some (.string s)/\w'.cell? ⟨W.heap.size,5,none⟩=some (.slice A3 l3 c3))/\(w'.cell? ⟨fb+1,0,none⟩=some (.func (.func 105) #[] #[.pointer (some ⟨fb,0,none⟩)])))/\(w'.cell? ⟨wr.heap.size,0,none⟩=some (.string u.s)/\w'.cell? ⟨wr.heap.size,1,none⟩=some (.int .u8 u.k)/\w'.cell? ⟨wr.heap.size,2,none⟩=some (.int .i64 u.n))) W6/\(fun _:World=>True) W6:=⟨⟨aV.out _ bE.rd,box3 ((hp.2.elim fun _ h=>h.2.2.block _ (by have:=(zka aA.out b3).size;have:=(b3).size;have:=eG.out;omega) (fun hh=>by have hl:=ag.out.fs.lt;rcases hh with hh|hh;(have:=hl.1;omega);(have:=(hl.2 _ hh).2;omega))).trans (((b3).block _ (by have:=eG.out;omega)).trans gJ.out))⟩,trivial⟩
     refine hK.out _ _ ax ?_;clear hK K;(try simp only[zQ]);refine zd ?_;refine NoPanic.normal ?_;have iM:=zh bE;clear bE bM hp ax;go_wp2_with fail
     go_roundw
     case rel=>exact⟨j+1,_,by omega,by go_num,iM.out⟩
     case measure=>simp[intOf];omega
    ·skip
     refine zke (by rfl) (.func 106) [.tmp 31,.tmp 33] _ (by rfl) 106 _ zoW (by rfl) _ (by rfl) _ (zng (zmr p.vs j (by omega) (some a) c1 u.s _ _ (HD.out _ (ag.out.chg.trans (Chg.of_below (zka aA.out hdr)))).2.vars HR.out.lv)) ?_;rintro vq w2 ⟨rfl,aj⟩;have b2:=zka hdr aj;refine hK.out _ _ (bI.out _ b2) ?_;clear hK K;(try simp only[zQ]);refine zo 2 fun K hK=>?_;(try simp only[zA,zB,zC]);go_simp;have b3:=zkc b2 (.cells #[.int .i64 (j:Int)] 3);refine hK.out _ _ (bI.out _ b3) ?_;clear hK K;(try simp only[zQ]);refine zo 12 fun K hK=>?_
     refine zlk (by rfl) (.tmp 23) [.const (.int .i64 (-1)),.tmp 25,.tmp 27,.tmp 34] _ (by rfl) 105 _ zqF #[.pointer (some ⟨fb,0,none⟩)] (by rfl) _ (by rfl) _ (zmf (zmn fb fb _ pv' (-1) _ [(j:Int)] (some ⟨w2.heap.size,0,none⟩) 1 u.s _ _ (ag.out.fs.later (zka aA.out b3)) (zph _ (j:Int) ⟨by omega,by omega⟩) (by simp) (by omega))) ?_;rintro vq W6 hp;obtain⟨iF,bM⟩:=ag.out.step aU.out (zka aA.out b3) hp;have bE:VsI Rd fb fb Wb (.slice none 0 0) (frsN p.vs (j+1)) W6 iF:=by rw[zmT gP,Hu.out];exact bM
     have ax:(fun w':World=>((w'.cell? ⟨W.heap.size,0,none⟩=some (.slice (some a) L1 c1)/\w'.cell? ⟨W.heap.size,1,none⟩=some (.slice A2 L2 c2)/\w'.cell? ⟨W.heap.size,2,none⟩=some (.int .u8 k)/\w'.cell? ⟨W.heap.size,3,none⟩=some (.int .i64 n)/\w'.cell? ⟨W.heap.size,4,none⟩=some (.string s)/\w'.cell? ⟨W.heap.size,5,none⟩=some (.slice A3 l3 c3))/\(w'.cell? ⟨fb+1,0,none⟩=some (.func (.func 105) #[] #[.pointer (some ⟨fb,0,none⟩)])))/\(w'.cell? ⟨wr.heap.size,0,none⟩=some (.string u.s)/\w'.cell? ⟨wr.heap.size,1,none⟩=some (.int .u8 u.k)/\w'.cell? ⟨wr.heap.size,2,none⟩=some (.int .i64 u.n))) W6/\(fun _:World=>True) W6:=⟨⟨aV.out _ bE.rd,box3 ((hp.2.elim fun _ h=>h.2.2.block _ (by have:=(zka aA.out b3).size;have:=(b3).size;have:=eG.out;omega) (fun hh=>by have hl:=ag.out.fs.lt;rcases hh with hh|hh;(have:=hl.1;omega);(have:=(hl.2 _ hh).2;omega))).trans (((b3).block _ (by have:=eG.out;omega)).trans gJ.out))⟩,trivial⟩
     refine hK.out _ _ ax ?_;clear hK K;(try simp only[zQ]);refine zd ?_;refine NoPanic.normal ?_;have iM:=zh bE;clear bE bM hp ax;go_wp2_with fail
     go_roundw
     case rel=>exact⟨j+1,_,by omega,by go_num,iM.out⟩
     case measure=>simp[intOf];omega
   ·obtain rfl:L1=j:=by omega
    have tQ:=zh (show VsI Rd fb fb Wb (.slice none 0 0) (frsN p.vs p.vs.length) wr pv' by rw[pQ.out];exact ag.out);obtain⟨⟨a0,a1,a2,a3,a4,a5⟩,ar⟩:=aV.out _ hinv.rd;obtain⟨F1,hF1⟩:∃ F,frsN p.vs p.vs.length=F:=⟨_,rfl⟩
    have hF32:F1<=32:=by have:=zmh p.vs p.vs.length;have:=eH.out.1;omega
    have rV:=zh hF1;rw[hF1] at tQ;clear hinv ag hF1 hj hlt;go_wp2_with fail
    go_loopw [40] (fun i wr=>∃ (j:Nat) (pv':Value),j<=L2/\i=.int .i64 j/\VsI Rd fb fb Wb (.slice none 0 0) (F1+prcN p.prs j) wr pv') (fun i _=>L2-(intOf i).toNat)
    case atStart=>exact⟨0,_,Nat.zero_le _,rfl,tQ.out⟩
    case round =>
     clear tQ a0 a1 a2 a3 a4 a5 ar;obtain⟨j,pv',hj,rfl,hinv⟩:=hrel;obtain⟨w0,rfl⟩:∃ w0,w0=wr:=⟨_,rfl⟩
     have ag:=zh hinv;by_cases hlt:j<L2
     ·have gP:j<p.prs.length:=by rw[HL2.out];exact hlt
      obtain⟨a,r,P1,d1,P2,d2,rfl,hsa,Hr,⟨q0,q1,q2,q3,q4,q5⟩,hpr⟩:=(HD.out w0 hinv.chg).2.procs.nd gP;obtain⟨⟨a0,a1,a2,a3,a4,a5⟩,ar⟩:=aV.out _ hinv.rd;have dS:=zh hpr;clear hinv hsa hpr;go_upto_region 13 with fail;have hbk:Below w0.heap.size w0 ((w0.alloc (.cells #[.int .i64 (j:Int)] 3)).alloc (.cells #[.string r.s,.slice P1 r.ps.length d1,.int .u8 r.b.k,.int .i64 r.b.n,.string r.b.s,.slice P2 r.b.ks.length d2] 166)):=zkc (zkc (Below.refl _ _) _) _;have qI:=zkf (heap_alloc_new w0 (.cells #[.int .i64 (j:Int)] 3)) (.cells #[.string r.s,.slice P1 r.ps.length d1,.int .u8 r.b.k,.int .i64 r.b.n,.string r.b.s,.slice P2 r.b.ks.length d2] 166);have nO:=heap_alloc_new (w0.alloc (.cells #[.int .i64 (j:Int)] 3)) (.cells #[.string r.s,.slice P1 r.ps.length d1,.int .u8 r.b.k,.int .i64 r.b.n,.string r.b.s,.slice P2 r.b.ks.length d2] 166);simp only[World.size_alloc] at nO
      obtain⟨wk,hwk⟩:∃ wk,(w0.alloc (.cells #[.int .i64 (j:Int)] 3)).alloc (.cells #[.string r.s,.slice P1 r.ps.length d1,.int .u8 r.b.k,.int .i64 r.b.n,.string r.b.s,.slice P2 r.b.ks.length d2] 166)=wk:=⟨_,rfl⟩
      rw[hwk] at hbk qI nO ⊢;have eG:=zh (show wk.heap.size=w0.heap.size+2 by rw[<-hwk];simp);have aA:=zh hbk;obtain⟨ji,nS⟩:∃ ji:World->Prop,(fun W':World=>(Rd W'/\W'.heap[w0.heap.size]?=some (.cells #[.int .i64 (j:Int)] 3 (0,0)))/\W'.heap[w0.heap.size+1]?=some (.cells #[.string r.s,.slice P1 r.ps.length d1,.int .u8 r.b.k,.int .i64 r.b.n,.string r.b.s,.slice P2 r.b.ks.length d2] 166 (0,0)))=ji:=⟨_,rfl⟩
      have jk:=zh (show ∀ w':World,ji w'->(fun W':World=>(Rd W'/\W'.heap[w0.heap.size]?=some (.cells #[.int .i64 (j:Int)] 3 (0,0)))/\W'.heap[w0.heap.size+1]?=some (.cells #[.string r.s,.slice P1 r.ps.length d1,.int .u8 r.b.k,.int .i64 r.b.n,.string r.b.s,.slice P2 r.b.ks.length d2] 166 (0,0))) w' from fun w' h=>by rw[<-nS] at h;exact h);have aK:=zh (show ∀ (W W':World) (pv:Value) (N:Nat),ji W->FS W fb fb N pv->Chg (fun b=>b=fb\/pv.ownBlock=some b) W W'->ji W' from fun W W' pv N h hfs hc=>by rw[<-nS] at h ⊢;exact⟨⟨aU.out.keep _ _ _ _ h.1.1 hfs hc,hc.keep h.1.2 (hfs.other h.1.2 (by decide) (by decide))⟩,hc.keep h.2 (hfs.other h.2 (by decide) (by decide))⟩);have HI2:=zh (show VsI ji fb fb wk pv' (F1+prcN p.prs j) wk pv' from ⟨by rw[<-nS];exact⟨⟨aU.out.keep _ _ _ _ ag.out.rd ag.out.fs (Chg.of_below hbk),qI⟩,nO⟩,ag.out.fs.later hbk,fun b hb=>.inl hb,Chg.refl _ _⟩)
      have mD:=zh (show ∀ w':World,ji w'->(fun w':World=>((w'.cell? ⟨W.heap.size,0,none⟩=some (.slice A1 L1 c1)/\w'.cell? ⟨W.heap.size,1,none⟩=some (.slice (some a) L2 c2)/\w'.cell? ⟨W.heap.size,2,none⟩=some (.int .u8 k)/\w'.cell? ⟨W.heap.size,3,none⟩=some (.int .i64 n)/\w'.cell? ⟨W.heap.size,4,none⟩=some (.string s)/\w'.cell? ⟨W.heap.size,5,none⟩=some (.slice A3 l3 c3))/\(w'.cell? ⟨fb+1,0,none⟩=some (.func (.func 105) #[] #[.pointer (some ⟨fb,0,none⟩)])))/\(w'.cell? ⟨w0.heap.size,0,none⟩=some (.int .i64 (j:Int)))/\(w'.cell? ⟨w0.heap.size+1,0,none⟩=some (.string r.s)/\w'.cell? ⟨w0.heap.size+1,1,none⟩=some (.slice P1 r.ps.length d1)/\w'.cell? ⟨w0.heap.size+1,2,none⟩=some (.int .u8 r.b.k)/\w'.cell? ⟨w0.heap.size+1,3,none⟩=some (.int .i64 r.b.n)/\w'.cell? ⟨w0.heap.size+1,4,none⟩=some (.string r.b.s)/\w'.cell? ⟨w0.heap.size+1,5,none⟩=some (.slice P2 r.b.ks.length d2))) w' from fun w' h=>⟨aV.out w' (jk.out w' h).1.1,zc (jk.out w' h).1.2 rfl,box6 (jk.out w' h).2⟩)
      have HD2:=zh (show ∀ w':World,Chg (fun b=>b=fb\/pv'.ownBlock=some b) wk w'->PV w' (fun b=>S b/\b<W.heap.size) p _/\PrR w' (fun b=>S b/\b<W.heap.size) r P1 d1 P2 d2 from fun w' h=>⟨(HD.out w' (ag.out.chg2 aA.out h)).1,dS.out.keep (fun b hb _=>hb) fun b hb _=>(fZ.out w' (ag.out.chg2 aA.out h) b hb.1 hb.2).trans (fZ.out w0 ag.out.chg b hb.1 hb.2).symm⟩)
      have bI:=zh (show ∀ w':World,Below wk.heap.size wk w'->(fun w':World=>((w'.cell? ⟨W.heap.size,0,none⟩=some (.slice A1 L1 c1)/\w'.cell? ⟨W.heap.size,1,none⟩=some (.slice (some a) L2 c2)/\w'.cell? ⟨W.heap.size,2,none⟩=some (.int .u8 k)/\w'.cell? ⟨W.heap.size,3,none⟩=some (.int .i64 n)/\w'.cell? ⟨W.heap.size,4,none⟩=some (.string s)/\w'.cell? ⟨W.heap.size,5,none⟩=some (.slice A3 l3 c3))/\(w'.cell? ⟨fb+1,0,none⟩=some (.func (.func 105) #[] #[.pointer (some ⟨fb,0,none⟩)])))/\(w'.cell? ⟨w0.heap.size,0,none⟩=some (.int .i64 (j:Int)))/\(w'.cell? ⟨w0.heap.size+1,0,none⟩=some (.string r.s)/\w'.cell? ⟨w0.heap.size+1,1,none⟩=some (.slice P1 r.ps.length d1)/\w'.cell? ⟨w0.heap.size+1,2,none⟩=some (.int .u8 r.b.k)/\w'.cell? ⟨w0.heap.size+1,3,none⟩=some (.int .i64 r.b.n)/\w'.cell? ⟨w0.heap.size+1,4,none⟩=some (.string r.b.s)/\w'.cell? ⟨w0.heap.size+1,5,none⟩=some (.slice P2 r.b.ks.length d2))) w'/\(fun _:World=>True) w' from fun w' h=>⟨mD.out w' (aK.out _ _ _ _ HI2.out.rd HI2.out.fs (Chg.of_below h)),trivial⟩)
      clear hwk hbk qI nO nS a0 a1 a2 a3 a4 a5 ar q0 q1 q2 q3 q4 q5;have hdr:=(Below.refl wk.heap.size wk).drew;have hSS:=bI.out _ hdr;have hrb:=eH.out.2.2.1 r (by rw[<-Hr.out];exact List.getElem_mem gP);have hpN:=zpT p.prs eH.out.2.2.1 j;obtain⟨rb1,rb2,rb3⟩:=hrb;refine wp_region_noPanic ?_
      refine zkd (fun w':World=>((w'.cell? ⟨W.heap.size,0,none⟩=some (.slice A1 L1 c1)/\w'.cell? ⟨W.heap.size,1,none⟩=some (.slice (some a) L2 c2)/\w'.cell? ⟨W.heap.size,2,none⟩=some (.int .u8 k)/\w'.cell? ⟨W.heap.size,3,none⟩=some (.int .i64 n)/\w'.cell? ⟨W.heap.size,4,none⟩=some (.string s)/\w'.cell? ⟨W.heap.size,5,none⟩=some (.slice A3 l3 c3))/\(w'.cell? ⟨fb+1,0,none⟩=some (.func (.func 105) #[] #[.pointer (some ⟨fb,0,none⟩)])))/\(w'.cell? ⟨w0.heap.size,0,none⟩=some (.int .i64 (j:Int)))/\(w'.cell? ⟨w0.heap.size+1,0,none⟩=some (.string r.s)/\w'.cell? ⟨w0.heap.size+1,1,none⟩=some (.slice P1 r.ps.length d1)/\w'.cell? ⟨w0.heap.size+1,2,none⟩=some (.int .u8 r.b.k)/\w'.cell? ⟨w0.heap.size+1,3,none⟩=some (.int .i64 r.b.n)/\w'.cell? ⟨w0.heap.size+1,4,none⟩=some (.string r.b.s)/\w'.cell? ⟨w0.heap.size+1,5,none⟩=some (.slice P2 r.b.ks.length d2))) (fun _:World=>True) 40 (by kernel_rfl) ?_
      refine zT 0 hSS ?_;(try simp only[zQ]);refine zT 1 hSS ?_;(try simp only[zQ]);refine zT 2 hSS ?_;(try simp only[zQ]);refine zT 4 hSS ?_;(try simp only[zQ]);refine zo 3 fun K hK=>?_;refine zke (by rfl) (.func 107) [.tmp 45,.tmp 47] _ (by rfl) 107 _ zvW (by rfl) _ (by rfl) _ (zng (zmY p _ _ r.s _ (HD2.out _ (Chg.of_below hdr)).1)) ?_;rintro vq w2 ⟨rfl,aj⟩;have b2:=zka hdr aj;have aN:=bI.out _ b2;obtain⟨PE,xB⟩:∃ PE,zlw p.prs r.s=PE:=⟨_,rfl⟩
      rw[xB];have HPE:=zh xB;refine hK.out _ _ aN ?_;clear hK K hSS xB;(try simp only[zQ]);have rT:=zh (show VsI ji fb fb wk pv' (F1+prcN p.prs j) w2 pv' from ⟨aK.out _ _ _ _ HI2.out.rd HI2.out.fs (Chg.of_below b2),HI2.out.fs.later b2,fun b hb=>.inl hb,Chg.of_below b2⟩);by_cases hpe:PE<(j:Int)
      ·have hd:decide (PE<(j:Int))=true:=decide_eq_true hpe;obtain⟨E1,hE1⟩:∃ E1,one1 (22)=E1:=⟨_,rfl⟩
       have hE2:E1<=1:=by rw[<-hE1];exact zmD _
       have jL:=zh (show one1 (if zlw p.prs r.s<(j:Int) then 22 else 0)=E1 by rw[HPE.out,if_pos hpe];exact hE1);refine zT 5 aN ?_;(try simp only[zQ]);refine zd ?_;refine NoPanic.normal ?_;obtain⟨⟨⟨a0,a1,a2,a3,a4,a5⟩,ar⟩,ai,r0,r1,r2,r3,r4,r5⟩:=aN.1;clear aN;go_wp2_with fail;refine(zmo fb fb _ pv' (j:Int) 22 [] none 0 r.s Any w2 rT.out.fs RowI.nil (by simp) (by omega)).mono ?_;rintro e w3 hp;obtain⟨v3,rfl⟩:=hp.1;obtain⟨pv3,hi3⟩:=rT.out.stepK aK.out (Below.refl _ _) hp;rw[hE1] at hi3;have HI3:=zh hi3;clear hp a0 a1 a2 a3 a4 a5 ar ai r0 r1 r2 r3 r4 r5;obtain⟨⟨⟨a0,a1,a2,a3,a4,a5⟩,ar⟩,ai,r0,r1,r2,r3,r4,r5⟩:=mD.out _ hi3.rd;clear hi3 hE1;go_wp2_with fail
       go_loopw [59] (fun x w'=>∃ (i:Nat) (kY:Value),i<=r.ps.length/\x=.int .i64 i/\VsI ji fb fb wk pv' (F1+prcN p.prs j+E1+frsN r.ps i) w' kY) (fun x _=>r.ps.length-(intOf x).toNat)
       case atStart=>exact⟨0,_,Nat.zero_le _,rfl,HI3.out⟩
       case round =>
        clear HI3 a0 a1 a2 a3 a4 a5 ar ai r0 r1 r2 r3 r4 r5;obtain⟨i,kY,hi,rfl,hinv⟩:=hrel;have bB:=zh hinv;by_cases uq:i<r.ps.length
        ·obtain⟨a',u,rfl,hsa,Hu,⟨q0,q1,q2⟩,hfu⟩:=(HD2.out wr hinv.chg).2.row.nd uq;have hic:(i:Int)<=(d1:Int):=by have:=dS.out.lc;omega
         have hi0:(0:Int)<=(i:Int):=by omega
         obtain⟨⟨⟨a0,a1,a2,a3,a4,a5⟩,ar⟩,ai,r0,r1,r2,r3,r4,r5⟩:=mD.out _ hinv.rd;clear hinv hsa hfu;go_upto_region 18 with fail;have hbk:Below wr.heap.size wr (wr.alloc (.cells #[.string u.s,.int .u8 u.k,.int .i64 u.n] 76)):=zkc (Below.refl _ _) _;have dR:=heap_alloc_new wr (.cells #[.string u.s,.int .u8 u.k,.int .i64 u.n] 76);obtain⟨wv,hwv⟩:∃ wv,wr.alloc (.cells #[.string u.s,.int .u8 u.k,.int .i64 u.n] 76)=wv:=⟨_,rfl⟩
         rw[hwv] at hbk dR ⊢;have qX:=zh (show wv.heap.size=wr.heap.size+1 by rw[<-hwv];simp);have mE:=zh hbk;have gJ:=zh dR;clear hwv hbk dR a0 a1 a2 a3 a4 a5 ar ai r0 r1 r2 r3 r4 r5 q0 q1 q2
         have oO:=zh (show ∀ w':World,Below wv.heap.size wv w'->(fun w':World=>(fun w':World=>((w'.cell? ⟨W.heap.size,0,none⟩=some (.slice A1 L1 c1)/\w'.cell? ⟨W.heap.size,1,none⟩=some (.slice (some a) L2 c2)/\w'.cell? ⟨W.heap.size,2,none⟩=some (.int .u8 k)/\w'.cell? ⟨W.heap.size,3,none⟩=some (.int .i64 n)/\w'.cell? ⟨W.heap.size,4,none⟩=some (.string s)/\w'.cell? ⟨W.heap.size,5,none⟩=some (.slice A3 l3 c3))/\(w'.cell? ⟨fb+1,0,none⟩=some (.func (.func 105) #[] #[.pointer (some ⟨fb,0,none⟩)])))/\(w'.cell? ⟨w0.heap.size,0,none⟩=some (.int .i64 (j:Int)))/\(w'.cell? ⟨w0.heap.size+1,0,none⟩=some (.string r.s)/\w'.cell? ⟨w0.heap.size+1,1,none⟩=some (.slice (some a') r.ps.length d1)/\w'.cell? ⟨w0.heap.size+1,2,none⟩=some (.int .u8 r.b.k)/\w'.cell? ⟨w0.heap.size+1,3,none⟩=some (.int .i64 r.b.n)/\w'.cell? ⟨w0.heap.size+1,4,none⟩=some (.string r.b.s)/\w'.cell? ⟨w0.heap.size+1,5,none⟩=some (.slice P2 r.b.ks.length d2))) w'/\(w'.cell? ⟨wr.heap.size,0,none⟩=some (.string u.s)/\w'.cell? ⟨wr.heap.size,1,none⟩=some (.int .u8 u.k)/\w'.cell? ⟨wr.heap.size,2,none⟩=some (.int .i64 u.n))) w'/\(fun _:World=>True) w' from fun w' h=>⟨⟨mD.out _ (aK.out _ _ _ _ bB.out.rd bB.out.fs (Chg.of_below (zka mE.out h))),box3 ((h.block _ (by have:=qX.out;omega)).trans gJ.out)⟩,trivial⟩)
         have hdv:=(Below.refl wv.heap.size wv).drew;have hSS:=oO.out _ hdv;have xw:=zmh r.ps i;refine wp_region_noPanic ?_
         refine zkd (fun w':World=>(fun w':World=>((w'.cell? ⟨W.heap.size,0,none⟩=some (.slice A1 L1 c1)/\w'.cell? ⟨W.heap.size,1,none⟩=some (.slice (some a) L2 c2)/\w'.cell? ⟨W.heap.size,2,none⟩=some (.int .u8 k)/\w'.cell? ⟨W.heap.size,3,none⟩=some (.int .i64 n)/\w'.cell? ⟨W.heap.size,4,none⟩=some (.string s)/\w'.cell? ⟨W.heap.size,5,none⟩=some (.slice A3 l3 c3))/\(w'.cell? ⟨fb+1,0,none⟩=some (.func (.func 105) #[] #[.pointer (some ⟨fb,0,none⟩)])))/\(w'.cell? ⟨w0.heap.size,0,none⟩=some (.int .i64 (j:Int)))/\(w'.cell? ⟨w0.heap.size+1,0,none⟩=some (.string r.s)/\w'.cell? ⟨w0.heap.size+1,1,none⟩=some (.slice (some a') r.ps.length d1)/\w'.cell? ⟨w0.heap.size+1,2,none⟩=some (.int .u8 r.b.k)/\w'.cell? ⟨w0.heap.size+1,3,none⟩=some (.int .i64 r.b.n)/\w'.cell? ⟨w0.heap.size+1,4,none⟩=some (.string r.b.s)/\w'.cell? ⟨w0.heap.size+1,5,none⟩=some (.slice P2 r.b.ks.length d2))) w'/\(w'.cell? ⟨wr.heap.size,0,none⟩=some (.string u.s)/\w'.cell? ⟨wr.heap.size,1,none⟩=some (.int .u8 u.k)/\w'.cell? ⟨wr.heap.size,2,none⟩=some (.int .i64 u.n))) (fun _:World=>True) 40 (by kernel_rfl) ?_
         refine zT 0 hSS ?_;(try simp only[zQ]);refine zT 1 hSS ?_;(try simp only[zQ]);refine zT 2 hSS ?_;(try simp only[zQ]);refine zT 3 hSS ?_;(try simp only[zQ]);refine zT 4 hSS ?_;(try simp only[zQ]);refine zT 5 hSS ?_;(try simp only[zQ]);refine zT 6 hSS ?_;(try simp only[zQ]);refine zT 7 hSS ?_;(try simp only[zQ]);refine zT 8 hSS ?_;(try simp only[zQ]);refine zT 9 hSS ?_;(try simp only[zQ]);refine zo 10 fun K hK=>?_;refine zke (by rfl) (.func 106) [.tmp 71,.tmp 73] _ (by rfl) 106 _ zoW (by rfl) _ (by rfl) _ (zng (zmr r.ps i (by omega) (some a') d1 u.s _ _ (HD2.out _ (bB.out.chg.trans (Chg.of_below (zka mE.out hdv)))).2.row dS.out.lp)) ?_;rintro vq w5 ⟨rfl,eZ⟩;have b5:=zka hdv eZ;refine hK.out _ _ (oO.out _ b5) ?_;clear hK K hSS;(try simp only[zQ]);refine zo 11 fun K hK=>?_
         refine zlk (by rfl) (.tmp 64) [.tmp 65,.const (.slice none 0 0),.tmp 67,.tmp 74] _ (by rfl) 105 _ zqF #[.pointer (some ⟨fb,0,none⟩)] (by rfl) _ (by rfl) _ (zmf (zmn fb fb _ kY (j:Int) _ [] none 0 u.s Any _ (bB.out.fs.later (zka mE.out b5)) RowI.nil (by simp) (by omega))) ?_;rintro vq W6 hp;obtain⟨iF,bM⟩:=bB.out.stepK aK.out (zka mE.out b5) hp;have bE:VsI ji fb fb wk pv' (F1+prcN p.prs j+E1+frsN r.ps (i+1)) W6 iF:=by rw[zmT uq,Hu.out,<-Nat.add_assoc];exact bM
         have ax:(fun w':World=>(fun w':World=>((w'.cell? ⟨W.heap.size,0,none⟩=some (.slice A1 L1 c1)/\w'.cell? ⟨W.heap.size,1,none⟩=some (.slice (some a) L2 c2)/\w'.cell? ⟨W.heap.size,2,none⟩=some (.int .u8 k)/\w'.cell? ⟨W.heap.size,3,none⟩=some (.int .i64 n)/\w'.cell? ⟨W.heap.size,4,none⟩=some (.string s)/\w'.cell? ⟨W.heap.size,5,none⟩=some (.slice A3 l3 c3))/\(w'.cell? ⟨fb+1,0,none⟩=some (.func (.func 105) #[] #[.pointer (some ⟨fb,0,none⟩)])))/\(w'.cell? ⟨w0.heap.size,0,none⟩=some (.int .i64 (j:Int)))/\(w'.cell? ⟨w0.heap.size+1,0,none⟩=some (.string r.s)/\w'.cell? ⟨w0.heap.size+1,1,none⟩=some (.slice (some a') r.ps.length d1)/\w'.cell? ⟨w0.heap.size+1,2,none⟩=some (.int .u8 r.b.k)/\w'.cell? ⟨w0.heap.size+1,3,none⟩=some (.int .i64 r.b.n)/\w'.cell? ⟨w0.heap.size+1,4,none⟩=some (.string r.b.s)/\w'.cell? ⟨w0.heap.size+1,5,none⟩=some (.slice P2 r.b.ks.length d2))) w'/\(w'.cell? ⟨wr.heap.size,0,none⟩=some (.string u.s)/\w'.cell? ⟨wr.heap.size,1,none⟩=some (.int .u8 u.k)/\w'.cell? ⟨wr.heap.size,2,none⟩=some (.int .i64 u.n))) W6/\(fun _:World=>True) W6:=⟨⟨mD.out _ bE.rd,box3 ((hp.2.elim fun _ h=>h.2.2.block _ (by have:=(zka mE.out b5).size;have:=b5.size;have:=qX.out;omega) (fun hh=>by have hl:=bB.out.fs.lt;rcases hh with hh|hh;(have:=hl.1;omega);(have:=(hl.2 _ hh).2;omega))).trans ((b5.block _ (by have:=qX.out;omega)).trans gJ.out))⟩,trivial⟩
         refine hK.out _ _ ax ?_;clear hK K;(try simp only[zQ]);refine zd ?_;refine NoPanic.normal ?_;have iM:=zh bE;clear bE bM hp ax;go_wp2_with fail
         go_roundw
         case rel=>exact⟨i+1,_,by omega,by go_num,iM.out⟩
         case measure=>simp[intOf];omega
        ·have hil:i=r.ps.length:=by omega
         obtain⟨⟨⟨a0,a1,a2,a3,a4,a5⟩,ar⟩,ai,r0,r1,r2,r3,r4,r5⟩:=mD.out _ hinv.rd;have hge:¬ ((i:Int)<(r.ps.length:Int)):=by omega
         clear hinv;go_wp2_with fail;have xw:=zmh r.ps r.ps.length;have aI:=zh (show VsI ji fb fb wk pv' (F1+prcN p.prs j+E1+frsN r.ps r.ps.length) wr kY by rw[<-hil];exact bB.out);have vJ:=bB.out.chg.size;have hzk:=eG.out;have hz0:=ag.out.chg.size;have hzb:=nU.out;refine(zm3 109 _ _ fb fb (zqU fb fb (fb+1) w0.heap.size (j:Int)) p r.b (fun b=>S b/\b<W.heap.size) r.ps P1 d1 [] none 0 (F1+prcN p.prs j+E1+frsN r.ps r.ps.length) kY wr _ _ ⟨(kT.out _ (jk.out _ aI.out.rd).1.1).1,(jk.out _ aI.out.rd).1.2⟩ aI.out.fs (HD2.out _ aI.out.chg).1 (HD2.out _ aI.out.chg).2.body (HD2.out _ aI.out.chg).2.row dS.out.lc RowI.nil (Nat.zero_le _) (fun b hb hbl hh=>?_) (by simp;omega) (by omega) (by omega)).mono ?_
         ·rcases hh with hh|hh
          ·have:=hb.2;omega
          ·rcases aI.out.own b hh with h1|h1
           ·have:=(ag.out.fs.lt.2 b h1).1;have:=hb.2;omega
           ·have:=hb.2;omega
         rintro e W6 hp;obtain⟨v6,rfl⟩:=hp.1;obtain⟨iF,bM⟩:=aI.out.stepK aK.out (Below.refl _ _) hp;obtain⟨wV,bE⟩:=ag.out.step aU.out aA.out (bM.rep (Below.refl _ _) (e:=.returned undef) ⟨_,rfl⟩);have ym:=zh (show VsI Rd fb fb Wb (.slice none 0 0) (F1+prcN p.prs (j+1)) W6 wV by rw[znE gP,Hr.out,prcE,jL.out];simpa only[Nat.add_assoc] using bE);clear bE bM hp a0 a1 a2 a3 a4 a5 ar ai r0 r1 r2 r3 r4 r5;go_wp2_with fail
         go_roundw
         case rel=>exact⟨j+1,_,by omega,by go_num,ym.out⟩
         case measure=>simp[intOf];omega
      ·have hd:decide (PE<(j:Int))=false:=decide_eq_false hpe;obtain⟨E1,hE1⟩:∃ E1,one1 (0)=E1:=⟨_,rfl⟩
       have hE2:E1<=1:=by rw[<-hE1];exact zmD _
       have jL:=zh (show one1 (if zlw p.prs r.s<(j:Int) then 22 else 0)=E1 by rw[HPE.out,if_neg hpe];exact hE1);refine zT 5 aN ?_;(try simp only[zQ]);refine zd ?_;refine NoPanic.normal ?_;obtain⟨⟨⟨a0,a1,a2,a3,a4,a5⟩,ar⟩,ai,r0,r1,r2,r3,r4,r5⟩:=aN.1;clear aN;go_wp2_with fail;have HI3:=zh (show VsI ji fb fb wk pv' (F1+prcN p.prs j+E1) w2 pv' by rw[<-hE1];exact rT.out);clear hE1
       go_loopw [59] (fun x w'=>∃ (i:Nat) (kY:Value),i<=r.ps.length/\x=.int .i64 i/\VsI ji fb fb wk pv' (F1+prcN p.prs j+E1+frsN r.ps i) w' kY) (fun x _=>r.ps.length-(intOf x).toNat)
       case atStart=>exact⟨0,_,Nat.zero_le _,rfl,HI3.out⟩
       case round =>
        clear HI3 a0 a1 a2 a3 a4 a5 ar ai r0 r1 r2 r3 r4 r5;obtain⟨i,kY,hi,rfl,hinv⟩:=hrel;have bB:=zh hinv;by_cases uq:i<r.ps.length
        ·obtain⟨a',u,rfl,hsa,Hu,⟨q0,q1,q2⟩,hfu⟩:=(HD2.out wr hinv.chg).2.row.nd uq;have hic:(i:Int)<=(d1:Int):=by have:=dS.out.lc;omega
         have hi0:(0:Int)<=(i:Int):=by omega
         obtain⟨⟨⟨a0,a1,a2,a3,a4,a5⟩,ar⟩,ai,r0,r1,r2,r3,r4,r5⟩:=mD.out _ hinv.rd;clear hinv hsa hfu;go_upto_region 18 with fail;have hbk:Below wr.heap.size wr (wr.alloc (.cells #[.string u.s,.int .u8 u.k,.int .i64 u.n] 76)):=zkc (Below.refl _ _) _;have dR:=heap_alloc_new wr (.cells #[.string u.s,.int .u8 u.k,.int .i64 u.n] 76);obtain⟨wv,hwv⟩:∃ wv,wr.alloc (.cells #[.string u.s,.int .u8 u.k,.int .i64 u.n] 76)=wv:=⟨_,rfl⟩
         rw[hwv] at hbk dR ⊢;have qX:=zh (show wv.heap.size=wr.heap.size+1 by rw[<-hwv];simp);have mE:=zh hbk;have gJ:=zh dR;clear hwv hbk dR a0 a1 a2 a3 a4 a5 ar ai r0 r1 r2 r3 r4 r5 q0 q1 q2
         have oO:=zh (show ∀ w':World,Below wv.heap.size wv w'->(fun w':World=>(fun w':World=>((w'.cell? ⟨W.heap.size,0,none⟩=some (.slice A1 L1 c1)/\w'.cell? ⟨W.heap.size,1,none⟩=some (.slice (some a) L2 c2)/\w'.cell? ⟨W.heap.size,2,none⟩=some (.int .u8 k)/\w'.cell? ⟨W.heap.size,3,none⟩=some (.int .i64 n)/\w'.cell? ⟨W.heap.size,4,none⟩=some (.string s)/\w'.cell? ⟨W.heap.size,5,none⟩=some (.slice A3 l3 c3))/\(w'.cell? ⟨fb+1,0,none⟩=some (.func (.func 105) #[] #[.pointer (some ⟨fb,0,none⟩)])))/\(w'.cell? ⟨w0.heap.size,0,none⟩=some (.int .i64 (j:Int)))/\(w'.cell? ⟨w0.heap.size+1,0,none⟩=some (.string r.s)/\w'.cell? ⟨w0.heap.size+1,1,none⟩=some (.slice (some a') r.ps.length d1)/\w'.cell? ⟨w0.heap.size+1,2,none⟩=some (.int .u8 r.b.k)/\w'.cell? ⟨w0.heap.size+1,3,none⟩=some (.int .i64 r.b.n)/\w'.cell? ⟨w0.heap.size+1,4,none⟩=some (.string r.b.s)/\w'.cell? ⟨w0.heap.size+1,5,none⟩=some (.slice P2 r.b.ks.length d2))) w'/\(w'.cell? ⟨wr.heap.size,0,none⟩=some (.string u.s)/\w'.cell? ⟨wr.heap.size,1,none⟩=some (.int .u8 u.k)/\w'.cell? ⟨wr.heap.size,2,none⟩=some (.int .i64 u.n))) w'/\(fun _:World=>True) w' from fun w' h=>⟨⟨mD.out _ (aK.out _ _ _ _ bB.out.rd bB.out.fs (Chg.of_below (zka mE.out h))),box3 ((h.block _ (by have:=qX.out;omega)).trans gJ.out)⟩,trivial⟩)
         have hdv:=(Below.refl wv.heap.size wv).drew;have hSS:=oO.out _ hdv;have xw:=zmh r.ps i;refine wp_region_noPanic ?_
         refine zkd (fun w':World=>(fun w':World=>((w'.cell? ⟨W.heap.size,0,none⟩=some (.slice A1 L1 c1)/\w'.cell? ⟨W.heap.size,1,none⟩=some (.slice (some a) L2 c2)/\w'.cell? ⟨W.heap.size,2,none⟩=some (.int .u8 k)/\w'.cell? ⟨W.heap.size,3,none⟩=some (.int .i64 n)/\w'.cell? ⟨W.heap.size,4,none⟩=some (.string s)/\w'.cell? ⟨W.heap.size,5,none⟩=some (.slice A3 l3 c3))/\(w'.cell? ⟨fb+1,0,none⟩=some (.func (.func 105) #[] #[.pointer (some ⟨fb,0,none⟩)])))/\(w'.cell? ⟨w0.heap.size,0,none⟩=some (.int .i64 (j:Int)))/\(w'.cell? ⟨w0.heap.size+1,0,none⟩=some (.string r.s)/\w'.cell? ⟨w0.heap.size+1,1,none⟩=some (.slice (some a') r.ps.length d1)/\w'.cell? ⟨w0.heap.size+1,2,none⟩=some (.int .u8 r.b.k)/\w'.cell? ⟨w0.heap.size+1,3,none⟩=some (.int .i64 r.b.n)/\w'.cell? ⟨w0.heap.size+1,4,none⟩=some (.string r.b.s)/\w'.cell? ⟨w0.heap.size+1,5,none⟩=some (.slice P2 r.b.ks.length d2))) w'/\(w'.cell? ⟨wr.heap.size,0,none⟩=some (.string u.s)/\w'.cell? ⟨wr.heap.size,1,none⟩=some (.int .u8 u.k)/\w'.cell? ⟨wr.heap.size,2,none⟩=some (.int .i64 u.n))) (fun _:World=>True) 40 (by kernel_rfl) ?_
         refine zT 0 hSS ?_;(try simp only[zQ]);refine zT 1 hSS ?_;(try simp only[zQ]);refine zT 2 hSS ?_;(try simp only[zQ]);refine zT 3 hSS ?_;(try simp only[zQ]);refine zT 4 hSS ?_;(try simp only[zQ]);refine zT 5 hSS ?_;(try simp only[zQ]);refine zT 6 hSS ?_;(try simp only[zQ]);refine zT 7 hSS ?_;(try simp only[zQ]);refine zT 8 hSS ?_;(try simp only[zQ]);refine zT 9 hSS ?_;(try simp only[zQ]);refine zo 10 fun K hK=>?_;refine zke (by rfl) (.func 106) [.tmp 71,.tmp 73] _ (by rfl) 106 _ zoW (by rfl) _ (by rfl) _ (zng (zmr r.ps i (by omega) (some a') d1 u.s _ _ (HD2.out _ (bB.out.chg.trans (Chg.of_below (zka mE.out hdv)))).2.row dS.out.lp)) ?_;rintro vq w5 ⟨rfl,eZ⟩;have b5:=zka hdv eZ;refine hK.out _ _ (oO.out _ b5) ?_;clear hK K hSS;(try simp only[zQ]);refine zo 11 fun K hK=>?_
         refine zlk (by rfl) (.tmp 64) [.tmp 65,.const (.slice none 0 0),.tmp 67,.tmp 74] _ (by rfl) 105 _ zqF #[.pointer (some ⟨fb,0,none⟩)] (by rfl) _ (by rfl) _ (zmf (zmn fb fb _ kY (j:Int) _ [] none 0 u.s Any _ (bB.out.fs.later (zka mE.out b5)) RowI.nil (by simp) (by omega))) ?_;rintro vq W6 hp;obtain⟨iF,bM⟩:=bB.out.stepK aK.out (zka mE.out b5) hp;have bE:VsI ji fb fb wk pv' (F1+prcN p.prs j+E1+frsN r.ps (i+1)) W6 iF:=by rw[zmT uq,Hu.out,<-Nat.add_assoc];exact bM
         have ax:(fun w':World=>(fun w':World=>((w'.cell? ⟨W.heap.size,0,none⟩=some (.slice A1 L1 c1)/\w'.cell? ⟨W.heap.size,1,none⟩=some (.slice (some a) L2 c2)/\w'.cell? ⟨W.heap.size,2,none⟩=some (.int .u8 k)/\w'.cell? ⟨W.heap.size,3,none⟩=some (.int .i64 n)/\w'.cell? ⟨W.heap.size,4,none⟩=some (.string s)/\w'.cell? ⟨W.heap.size,5,none⟩=some (.slice A3 l3 c3))/\(w'.cell? ⟨fb+1,0,none⟩=some (.func (.func 105) #[] #[.pointer (some ⟨fb,0,none⟩)])))/\(w'.cell? ⟨w0.heap.size,0,none⟩=some (.int .i64 (j:Int)))/\(w'.cell? ⟨w0.heap.size+1,0,none⟩=some (.string r.s)/\w'.cell? ⟨w0.heap.size+1,1,none⟩=some (.slice (some a') r.ps.length d1)/\w'.cell? ⟨w0.heap.size+1,2,none⟩=some (.int .u8 r.b.k)/\w'.cell? ⟨w0.heap.size+1,3,none⟩=some (.int .i64 r.b.n)/\w'.cell? ⟨w0.heap.size+1,4,none⟩=some (.string r.b.s)/\w'.cell? ⟨w0.heap.size+1,5,none⟩=some (.slice P2 r.b.ks.length d2))) w'/\(w'.cell? ⟨wr.heap.size,0,none⟩=some (.string u.s)/\w'.cell? ⟨wr.heap.size,1,none⟩=some (.int .u8 u.k)/\w'.cell? ⟨wr.heap.size,2,none⟩=some (.int .i64 u.n))) W6/\(fun _:World=>True) W6:=⟨⟨mD.out _ bE.rd,box3 ((hp.2.elim fun _ h=>h.2.2.block _ (by have:=(zka mE.out b5).size;have:=b5.size;have:=qX.out;omega) (fun hh=>by have hl:=bB.out.fs.lt;rcases hh with hh|hh;(have:=hl.1;omega);(have:=(hl.2 _ hh).2;omega))).trans ((b5.block _ (by have:=qX.out;omega)).trans gJ.out))⟩,trivial⟩
         refine hK.out _ _ ax ?_;clear hK K;(try simp only[zQ]);refine zd ?_;refine NoPanic.normal ?_;have iM:=zh bE;clear bE bM hp ax;go_wp2_with fail
         go_roundw
         case rel=>exact⟨i+1,_,by omega,by go_num,iM.out⟩
         case measure=>simp[intOf];omega
        ·have hil:i=r.ps.length:=by omega
         obtain⟨⟨⟨a0,a1,a2,a3,a4,a5⟩,ar⟩,ai,r0,r1,r2,r3,r4,r5⟩:=mD.out _ hinv.rd;have hge:¬ ((i:Int)<(r.ps.length:Int)):=by omega
         clear hinv;go_wp2_with fail;have xw:=zmh r.ps r.ps.length;have aI:=zh (show VsI ji fb fb wk pv' (F1+prcN p.prs j+E1+frsN r.ps r.ps.length) wr kY by rw[<-hil];exact bB.out);have vJ:=bB.out.chg.size;have hzk:=eG.out;have hz0:=ag.out.chg.size;have hzb:=nU.out;refine(zm3 109 _ _ fb fb (zqU fb fb (fb+1) w0.heap.size (j:Int)) p r.b (fun b=>S b/\b<W.heap.size) r.ps P1 d1 [] none 0 (F1+prcN p.prs j+E1+frsN r.ps r.ps.length) kY wr _ _ ⟨(kT.out _ (jk.out _ aI.out.rd).1.1).1,(jk.out _ aI.out.rd).1.2⟩ aI.out.fs (HD2.out _ aI.out.chg).1 (HD2.out _ aI.out.chg).2.body (HD2.out _ aI.out.chg).2.row dS.out.lc RowI.nil (Nat.zero_le _) (fun b hb hbl hh=>?_) (by simp;omega) (by omega) (by omega)).mono ?_
         ·rcases hh with hh|hh
          ·have:=hb.2;omega
          ·rcases aI.out.own b hh with h1|h1
           ·have:=(ag.out.fs.lt.2 b h1).1;have:=hb.2;omega
           ·have:=hb.2;omega
         rintro e W6 hp;obtain⟨v6,rfl⟩:=hp.1;obtain⟨iF,bM⟩:=aI.out.stepK aK.out (Below.refl _ _) hp;obtain⟨wV,bE⟩:=ag.out.step aU.out aA.out (bM.rep (Below.refl _ _) (e:=.returned undef) ⟨_,rfl⟩);have ym:=zh (show VsI Rd fb fb Wb (.slice none 0 0) (F1+prcN p.prs (j+1)) W6 wV by rw[znE gP,Hr.out,prcE,jL.out];simpa only[Nat.add_assoc] using bE);clear bE bM hp a0 a1 a2 a3 a4 a5 ar ai r0 r1 r2 r3 r4 r5;go_wp2_with fail
         go_roundw
         case rel=>exact⟨j+1,_,by omega,by go_num,ym.out⟩
         case measure=>simp[intOf];omega
     ·have hjl:j=L2:=by omega
      obtain⟨⟨a0,a1,a2,a3,a4,a5⟩,ar⟩:=aV.out _ hinv.rd;have hge:¬ ((j:Int)<(L2:Int)):=by omega
      have bN:=zh (show VsI Rd fb fb Wb (.slice none 0 0) (F1+prcN p.prs p.prs.length) w0 pv' by rw[HL2.out,<-hjl];exact ag.out);clear hinv;go_wp2_with fail;have hpN:=zpT p.prs eH.out.2.2.1 p.prs.length;have hvb:=eH.out;have vJ:=ag.out.chg.size;have hzb:=nU.out;have vS:=(HD.out _ bN.out.chg).2.main;rw[tJ.out.1,tJ.out.2.1,tJ.out.2.2.1,tJ.out.2.2.2] at vS;have hcall:=zm3 _ _ Rd fb fb aU.out p p.m (fun b=>S b/\b<W.heap.size) p.vs A1 c1 [] none 0 (F1+prcN p.prs p.prs.length) pv' w0 _ _ bN.out.rd bN.out.fs (HD.out _ bN.out.chg).1 vS (HD.out _ bN.out.chg).2.vars HR.out.lvc RowI.nil (Nat.zero_le _) (fun b hb hbl hh=>by rcases hh with hh|hh;(have:=hb.2;omega);(rcases bN.out.own b hh with h1|h1;(simp[Value.ownBlock] at h1);(have:=hb.2;omega))) (by simp;omega) (by omega) (by omega);rw[pQ.out] at hcall;refine hcall.mono ?_;clear hcall;rintro e W6 hp
      obtain⟨v6,rfl⟩:=hp.1;obtain⟨iF,bM⟩:=bN.out.step aU.out (Below.refl _ _) hp;rw[show F1+prcN p.prs p.prs.length+cntV p.prs p.m p.vs=NN by rw[<-HNN2.out,chkN,rV.out]] at bM;obtain⟨A6,c6,rfl⟩:=bM.fs.slice;have hf6:W6.cell? ⟨fb,0,none⟩=some (.slice A6 NN c6):=zc bM.fs.box rfl;have tV:=zh (show Below W.heap.size W W6 from dA.out.trans (bM.chg.below (by omega) (fun b hb=>by rcases hb with hb|hb;omega;simp[Value.ownBlock] at hb)));clear bM hp vS hvb a0 a1 a2 a3 a4 a5 ar;go_wp2_with fail;go_ret;exact⟨A6,c6,rfl,tV.out⟩
end Go.Proofs.YtghbhbdnkjjnnaaGreat
