/-
  Texts of the proof, put together without their remarks: Rpf, Rpg, Rph, Rpb, Rpi, Apr, Ie, Is.
-/
import Derived.Test.YtembgnhbpmfhpaaGreatY6
set_option linter.unusedSimpArgs false
set_option linter.unusedVariables false
set_option maxHeartbeats 8000000
set_option maxRecDepth 100000
namespace Go.Proofs.YtembgnhbpmfhpaaGreat
open Tryz
section
open Go Go.RowKit
attribute [local go_sem] Oper.semAt_some
structure SmC(s:SS):Prop where
 n:s.cells.length<=100
 c:∀l∈lisS s,l.length<=1000/\∀e∈l,-1000000<=e/\e<=1000000
theorem SmC.sm{s:SS}(h:SmC s):SmS s :=
 ⟨by have:=h.n;omega,fun l hl=>⟨by have:=(h.c l (List.mem_append_left _ hl)).1;omega,(h.c l (List.mem_append_left _ hl)).2⟩,⟨by have:=(h.c s.tin (by simp[lisS])).1;omega,(h.c s.tin (by simp[lisS])).2⟩,⟨by have:=(h.c s.tout (by simp[lisS])).1;omega,(h.c s.tout (by simp[lisS])).2⟩⟩
structure XY(W0:World)(C:Nat->Prop)(w:World)(Ax:Option Addr)(cx p:Nat)(Ay:Option Addr)(cy q:Nat)(xs ys:List Int):Prop where
 bl:Chg C W0 w
 nw:∀b,W0.heap.size<=b->C b
 x:w.ownsRow 0 3 1 (.slice Ax p cx) p (zkg xs)
 y:w.ownsRow 0 3 1 (.slice Ay q cy) q (zkg ys)
 xC:∀b,(Value.slice Ax p cx).ownBlock=some b->C b
 yC:∀b,(Value.slice Ay q cy).ownBlock=some b->C b
 ne:∀b,(Value.slice Ax p cx).ownBlock=some b->(Value.slice Ay q cy).ownBlock=some b->False
theorem XY.px{W0 w w':World}{C:Nat->Prop}{cx cy p q:Nat}{Ax Ay:Option Addr}{xs ys:List Int}{u:Int}{v':Value}(h:XY W0 C w Ax cx p Ay cy q xs ys)(ho:w'.ownsRow 0 3 1 v' (p+1) (zkg xs++[.int .i64 u]))(hg:(w.alloc (.cells #[.int .i64 u] 3)).grownBy w' (Value.slice Ax p cx).ownBlock)
  (aj:v'.ownBlock=(Value.slice Ax p cx).ownBlock\/v'.ownBlock=some (w.alloc (.cells #[.int .i64 u] 3)).heap.size):∃A c,v'=.slice A (p+1) c/\Hid (XY W0 C w' A c (p+1) Ay cy q (xs++[u]) ys):=by
 obtain⟨A,c,rfl,-⟩:=zkd ho;have aW:=zka (zs w) (.cells #[.int .i64 u] 3);have hs:=h.bl.size;refine⟨A,c,rfl,zh ⟨(h.bl.trans2 (Chg.of_below (C:=fun _=>False) aW) fun b _ h=>h.elim).trans2 (Chg.row hg) fun b _ hb=>h.xC b hb,h.nw,?_,?_,fun b h1=>?_,h.yC,fun b h1 h2=>?_⟩⟩
 ·have e:zkg (xs++[u])=zkg xs++[.int .i64 u]:=by simp[zkg]
  rw[e];exact ho
 ·refine zme (zko h.y aW) fun b hb=>hg.block b (Nat.lt_of_lt_of_le (h.y.lt b hb).2 aW.size) fun e=>h.ne b e.symm hb
 ·rcases aj with e|e
  ·exact h.xC b (e▸h1)
  ·rw[e]at h1;injection h1 with h1;exact h.nw b (by have:=aW.size;omega)
 ·rcases aj with e|e
  ·exact h.ne b (e▸h1) h2
  ·rw[e]at h1;injection h1 with h1;have:=(h.y.lt b h2).2;have:=aW.size;omega
theorem XY.py{W0 w w':World}{C:Nat->Prop}{cx cy p q:Nat}{Ax Ay:Option Addr}{xs ys:List Int}{u:Int}{v':Value}(h:XY W0 C w Ax cx p Ay cy q xs ys)(ho:w'.ownsRow 0 3 1 v' (q+1) (zkg ys++[.int .i64 u]))(hg:(w.alloc (.cells #[.int .i64 u] 3)).grownBy w' (Value.slice Ay q cy).ownBlock)
  (aj:v'.ownBlock=(Value.slice Ay q cy).ownBlock\/v'.ownBlock=some (w.alloc (.cells #[.int .i64 u] 3)).heap.size):∃A c,v'=.slice A (q+1) c/\Hid (XY W0 C w' Ax cx p A c (q+1) xs (ys++[u])):=by
 have h':XY W0 C w Ay cy q Ax cx p ys xs:=⟨h.bl,h.nw,h.y,h.x,h.yC,h.xC,fun b h1 h2=>h.ne b h2 h1⟩
 obtain⟨A,c,e,H⟩:=h'.px ho hg aj;have H:=H.out;exact⟨A,c,e,zh ⟨H.bl,H.nw,H.y,H.x,H.yC,H.xC,fun b h1 h2=>H.ne b h2 h1⟩⟩
theorem XY.drew{W0 w:World}{C:Nat->Prop}{cx cy p q:Nat}{Ax Ay:Option Addr}{xs ys:List Int}(h:XY W0 C w Ax cx p Ay cy q xs ys)(n:Nat):XY W0 C (w.drewN n) Ax cx p Ay cy q xs ys :=
 ⟨(h.bl.trans2 (Chg.of_below (C:=fun _=>False) (zkm (zs w) n)) fun b _ h=>h.elim),h.nw,zko h.x (zkm (zs w) n),zko h.y (zkm (zs w) n),h.xC,h.yC,h.ne⟩
theorem znN{w:World}{n:Nat}{A:Option Addr}{c:Nat}{xs:List Int}(h:w.ownsRow 0 3 1 (.slice A n c) n (zkg xs)){k:Nat}(hk:k<xs.length):∃a,A=some a/\w.cell? (a.add k)=some (.int .i64 xs[k]):=by
 obtain⟨h1,h2,h3⟩:=zr3 h;rcases A with _|a
 ·have:=h1 rfl;have:=h.1;simp[zkg]at this;omega
 ·exact⟨a,rfl,h2 a rfl k _ (by simp[zkg,hk])⟩
theorem zmt{w:World}{n:Nat}{v:Value}{xs:List Int}(h:w.ownsRow 0 3 1 v n (zkg xs)):xs.length=n:=by
 have:=h.1;simpa[zkg]using this
theorem ztP{w3:World}{C:Nat->Prop}{A:Option Addr}{L:List (List Int)}(h:zlo w3 (fun q=>¬ C q) A L){j:Nat}(hj:j<L.length):∃(a:Addr) (l:List Int) (A':Option Addr) (c':Nat),A=some a/\Hid (L[j]=l)/\l.length<=c'/\∀w',Chg C w3 w'->w'.cell? (a.add j)=some (.slice A' l.length c')/\RowI w' (fun q=>¬ C q) A' l:=by
 obtain⟨a,A',c',rfl,hS,h0,hc,hr⟩:=h j hj;refine⟨a,L[j],A',c',rfl,rfl,hc,fun w' hw=>⟨zkK h0 ?_,hr.keep (fun _ h _=>h) fun q hq hlt=>hw.block q hlt hq⟩⟩;have hlt:a.block<w3.heap.size:=by have:=World.block_lt_of_cell? w3 _ h0;rwa[zkz]at this
 rw[zkz];exact hw.block _ hlt hS
theorem zrN{l:List Int}{k m:Nat}(h:(k=m\/(k=l.length/\k<=m))):l.take k=l.take m:=by
 rcases h with rfl|⟨rfl,h⟩
 ·rfl
 ·rw[List.take_length,List.take_of_length_le h]
theorem zqy{L M:List (List Int)}{j:Nat}(h1:j<L.length)(h2:j<M.length):keyA (L.drop j) (M.drop j)=((L[j].length:Int)::(L[j].take M[j].length).map rnk)++(if L[j].length=M[j].length then keyA (L.drop (j+1)) (M.drop (j+1))else []):=by
 rw[List.drop_eq_getElem_cons h1,List.drop_eq_getElem_cons h2,keyA]
theorem zsj{L M:List (List Int)}{j:Nat}(h:¬ (j<L.length/\j<M.length)):keyA (L.drop j) (M.drop j)=[]:=by
 by_cases h1:j<L.length
 ·have h2:M.drop j=[]:=List.drop_eq_nil_of_le (by omega);rw[h2]
  cases L.drop j<;>rfl
 ·have h2:L.drop j=[]:=List.drop_eq_nil_of_le (by omega);rw[h2];rfl
theorem zoq{xs ys:List Int}:∀ {j:Nat},(∀k (h1:k<xs.length) (h2:k<ys.length),k<j->xs[k]=ys[k])->j<=xs.length->j<=ys.length->lexE xs ys=lexE (xs.drop j) (ys.drop j):=by
 intro j
 induction j with
 | zero=>intro _ _ _;simp
 | succ j ih =>
  intro h h1 h2;rw[ih (fun k q1 q2 q3=>h k q1 q2 (by omega)) (by omega) (by omega),List.drop_eq_getElem_cons (by omega),List.drop_eq_getElem_cons (show j<ys.length by omega),lexE];have:=h j (by omega) (by omega) (by omega);rw[if_neg (by omega),if_neg (by omega)]
theorem zpM{xs ys:List Int}{j:Nat}(h:∀k (h1:k<xs.length) (h2:k<ys.length),k<j->xs[k]=ys[k])(h1:j<xs.length)(h2:j<ys.length):lexE xs ys=if xs[j]<ys[j]then -1 else if ys[j]<xs[j]then 1 else lexE (xs.drop (j+1)) (ys.drop (j+1)):=by
 rw[zoq h (by omega) (by omega),List.drop_eq_getElem_cons h1,List.drop_eq_getElem_cons h2,lexE]
abbrev stR(w':World)(b:Nat)(A:Option Addr)(l c:Nat)(B:Option Addr)(m d:Nat)(D:Option Addr)(n e:Nat):Prop:=w'.cell? ⟨b,0,none⟩=some (.slice A l c)/\w'.cell? ⟨b,1,none⟩=some (.slice B m d)/\w'.cell? ⟨b,2,none⟩=some (.slice D n e)
theorem bI2R(x y:Int)(w:World):(Instr.buildSlice 30 2 #[(0,.int .i64 x),(1,.int .i64 y)]).run prog w=.ok (.slice (some ⟨w.heap.size,0,none⟩) 2 2) (w.alloc (.cells #[.int .i64 x,.int .i64 y] 3)):=by kernel_rfl
theorem zzK:IsFn prog 126 f126:=⟨func126,by kernel_rfl,by kernel_rfl⟩
theorem zzM:IsFn prog 127 f127:=⟨func127,by kernel_rfl,by kernel_rfl⟩
def cmF(B:Nat)(wa na wb nb:Int):Nat->Value->List Value->World->Prop
 | 1,v,_,_=>v=.int .i64 wa
 | 5,v,_,w=>∃b,v=.slice (some ⟨b,0,none⟩) 2 2/\B<=b/\w.heap[b]?=some (.cells #[.int .i64 wa,.int .i64 na] 3 (0,0))
 | 7,v,_,_=>v=.int .i64 wb
 | 11,v,_,w=>∃b,v=.slice (some ⟨b,0,none⟩) 2 2/\B<=b/\w.heap[b]?=some (.cells #[.int .i64 wb,.int .i64 nb] 3 (0,0))
 | 12,v,ds,_=>ds=[v]
 | _,_,_,_=>True
def cmD:Nat->List Nat
 | 5=>[1]
 | 11=>[7]
 | 12=>[5]
 | _=>[]
def cmO:Nat->Value->Option Nat
 | 5,v=>v.ownBlock
 | 11,v=>v.ownBlock
 | _,_=>none
theorem zuX{B:Nat}{wa na wb nb:Int}{v:Value}{ds:List Value}{w w':World}(i:Nat)(h:cmF B wa na wb nb i v ds w)(hb:Below w.heap.size w w'):cmF B wa na wb nb i v ds w':=by
 unfold cmF at h ⊢
 split at h<;>try exact h
 all_goals (obtain⟨b,e,h0,h⟩:=h;exact⟨b,e,h0,zkc h hb⟩)
def clF(B0 B2:Nat)(a b:SS):Nat->Value->List Value->World->Prop
 | 1,v,_,w=>∃A c,v=.slice A (a.cells.length+2) c/\zlo w (fun q=>(q<B0\/B2<=q)/\q<w.heap.size) A (lisS a)
 | 3,v,_,w=>∃A c,v=.slice A (b.cells.length+2) c/\zlo w (fun q=>(q<B0\/B2<=q)/\q<w.heap.size) A (lisS b)
 | 4,v,ds,_=>ds=[v]
 | _,_,_,_=>True
def clD:Nat->List Nat
 | 4=>[1]
 | _=>[]
theorem zuY{B0 B2:Nat}{a b:SS}{v:Value}{ds:List Value}{w w':World}(i:Nat)(h:clF B0 B2 a b i v ds w)(hb:Below w.heap.size w w'):clF B0 B2 a b i v ds w':=by
 unfold clF at h ⊢
 split at h<;>try exact h
 all_goals (obtain⟨A,c,e,h⟩:=h;exact⟨A,c,e,h.keep (fun _ h hlt=>⟨h.1,Nat.lt_of_lt_of_le hlt hb.size⟩) fun q _ hlt=>hb.block q hlt⟩)
theorem zrD(a b:SS)(va vb:Value)(w:World)(hva:SV w Any a va)(hvb:SV w Any b vb)(ha:SmC a)(hb:SmC b) :
  Calls prog 92 #[va,vb] w fun e w'=>e=.returned (.int .i64 (cmpE a b))/\Below w.heap.size w w':=by
 have HWA:=zh (fun w' (h:Below w.heap.size w w')=>zoH a va w' (hva.later h) ha.sm);have HWB:=zh (fun w' (h:Below w.heap.size w w')=>zoH b vb w' (hvb.later h) hb.sm);have HLA:=zh (fun w' (h:Below w.heap.size w w')=>zoo a va w' ((hva.keep (S':=fun q=>q<w.heap.size) (fun _ _ h=>h) fun _ _ _=>rfl).later h) ha.sm.n);have HLB:=zh (fun w' (h:Below w.heap.size w w')=>zoo b vb w' ((hvb.keep (S':=fun q=>q<w.heap.size) (fun _ _ h=>h) fun _ _ _=>rfl).later h) hb.sm.n);have yR:=zh ha.c;have lS:=zh hb.c;have hna:=ha.n;have hnb:=hb.n;obtain⟨Aa,ca,Ba,da,Da,ea,rfl⟩:∃A c B d D e,va=.agg #[.slice A a.cells.length c,.slice B a.tin.length d,.slice D a.tout.length e]:=by
  obtain⟨A,c,B,d,D,e,rfl,-⟩:=hva;exact⟨_,_,_,_,_,_,rfl⟩
 obtain⟨Ab,cb,Bb,db,Db,eb,rfl⟩:∃A c B d D e,vb=.agg #[.slice A b.cells.length c,.slice B b.tin.length d,.slice D b.tout.length e]:=by
  obtain⟨A,c,B,d,D,e,rfl,-⟩:=hvb;exact⟨_,_,_,_,_,_,rfl⟩
 obtain⟨N,hN⟩:=zX (w.heap.size);have hb1:=zka (zka (zs w) (.cells #[.slice Aa a.cells.length ca,.slice Ba a.tin.length da,.slice Da a.tout.length ea] 32)) (.cells #[.slice Ab b.cells.length cb,.slice Bb b.tin.length db,.slice Db b.tout.length eb] 32);have k0:=zkf (zl2 w hN (.cells #[.slice Aa a.cells.length ca,.slice Ba a.tin.length da,.slice Da a.tout.length ea] 32)) (.cells #[.slice Ab b.cells.length cb,.slice Bb b.tin.length db,.slice Db b.tout.length eb] 32);have k1:=zl2 (w.alloc (.cells #[.slice Aa a.cells.length ca,.slice Ba a.tin.length da,.slice Da a.tout.length ea] 32)) (n:=N+1) (by simp[hN]) (.cells #[.slice Ab b.cells.length cb,.slice Bb b.tin.length db,.slice Db b.tout.length eb] 32)
 obtain⟨w1,hw1⟩:=zX ((w.alloc (.cells #[.slice Aa a.cells.length ca,.slice Ba a.tin.length da,.slice Da a.tout.length ea] 32)).alloc (.cells #[.slice Ab b.cells.length cb,.slice Bb b.tin.length db,.slice Db b.tout.length eb] 32));rw[hw1]at hb1 k0 k1;have HB1:=zh hb1;have aJ:=zh k0;have aB:=zh k1;have az:=zh (show ∀w',Below w1.heap.size w1 w'->(fun w':World=>stR w' N Aa a.cells.length ca Ba a.tin.length da Da a.tout.length ea/\stR w' (N+1) Ab b.cells.length cb Bb b.tin.length db Db b.tout.length eb) w' from fun w' hb=>⟨zky (zkc aJ.out hb),zky (zkc aB.out hb)⟩);clear hva hvb ha hb hb1 k0 k1;go_enter func92,ntmps92;go_upto_region 1 with fail
 try rw[hw1]
 try rw[hN]
 clear hw1 hN;have hI2:=bI2R;have hSS:zW (fun w':World=>stR w' N Aa a.cells.length ca Ba a.tin.length da Da a.tout.length ea/\stR w' (N+1) Ab b.cells.length cb Bb b.tin.length db Db b.tout.length eb) zU w1.drew:=⟨az.out _ zr.drew,trivial⟩
 refine wp_region_noPanic ?_;refine zG hSS 13 ?_;refine zT 0 hSS ?_;refine zT 2 hSS ?_;refine zT 3 hSS ?_;refine zT 4 hSS ?_;refine zT 6 hSS ?_;refine zT 8 hSS ?_;refine zT 9 hSS ?_;refine zT 10 hSS ?_;have hI:(fun w=>Below w1.heap.size w1 w) w1.drew:=zr.drew;clear hSS;refine zoQ (T:=[(1,13),(5,17),(7,19),(11,23),(12,5)]) (z:=13) (n:=14) cmO cmD 1 (fun w=>Below w1.heap.size w1 w) (cmF w1.heap.size (wt (lisS a)) a.cells.length (wt (lisS b)) b.cells.length) (by kernel_rfl) (by kernel_rfl) (by simp only[putP,Act.put,zD,zE,zF]) (by decide) (by kernel_rfl) (by kernel_rfl) (fun w h=>⟨az.out _ h,trivial⟩) (fun w w' h hb=>zkb h hb) (fun i v ds w w' h hb=>zuX i h hb) (fun q hq=>?_) (fun vs w2 hb2 hF hO=>?_) w1.drew hI
 ·simp only[List.mem_cons,List.not_mem_nil,or_false]at hq;rcases hq with rfl|rfl|rfl|rfl|rfl
  ·intro oi hoi vs K w2 hb2 hd aa;generalize bz:putP vs [(1,13),(5,17),(7,19),(11,23),(12,5)] _=AC at aa ⊢;have hK:=zh aa;clear aa;have had:Calls prog 126 ([.agg #[.slice Aa a.cells.length ca,.slice Ba a.tin.length da,.slice Da a.tout.length ea]].toArray ++ #[]) w2 fun e w'=>∃v,e=.returned v/\(v=.int .i64 (wt (lisS a))/\Below w2.heap.size w2 w') :=
    (HWA.out w2 (zkb HB1.out hb2)).mono fun e w' ⟨h1,h2⟩=>⟨_,h1,rfl,h2⟩
   refine zk6 hoi (.func 126) [.tmp 12] #[32] (by kernel_rfl) (by kernel_rfl) 126 _ zzK #[] (by rw[<-bz];kernel_rfl) _ (by rw[<-bz];kernel_rfl) _ had ?_;rintro v w3 ⟨hv,hb3⟩;exact hK.out _ _ hb3 (fun b h=>by cases h) hv
  ·intro oi hoi vs K w2 hb2 hd aa;obtain rfl:=Option.some.inj hoi;simp only[putP,Act.put,zA,zB,zC,zD,zE,zF]at aa ⊢;have hK:=zh aa;clear aa hoi;have hv:vs 1=.int .i64 (wt (lisS a)):=hd 1 (by decide);rw[hv]at hK ⊢;go_simp;exact hK.out _ _ (zka zr _) (fun b h=>by injection h with h;subst h;exact⟨zl,by simp⟩) ⟨w2.heap.size,rfl,hb2.size,heap_alloc_new w2 _⟩
  ·intro oi hoi vs K w2 hb2 hd aa;generalize bz:putP vs [(1,13),(5,17),(7,19),(11,23),(12,5)] _=AC at aa ⊢;have hK:=zh aa;clear aa;have had:Calls prog 126 ([.agg #[.slice Ab b.cells.length cb,.slice Bb b.tin.length db,.slice Db b.tout.length eb]].toArray ++ #[]) w2 fun e w'=>∃v,e=.returned v/\(v=.int .i64 (wt (lisS b))/\Below w2.heap.size w2 w') :=
    (HWB.out w2 (zkb HB1.out hb2)).mono fun e w' ⟨h1,h2⟩=>⟨_,h1,rfl,h2⟩
   refine zk6 hoi (.func 126) [.tmp 18] #[32] (by kernel_rfl) (by kernel_rfl) 126 _ zzK #[] (by rw[<-bz];kernel_rfl) _ (by rw[<-bz];kernel_rfl) _ had ?_;rintro v w3 ⟨hv,hb3⟩;exact hK.out _ _ hb3 (fun b h=>by cases h) hv
  ·intro oi hoi vs K w2 hb2 hd aa;obtain rfl:=Option.some.inj hoi;simp only[putP,Act.put,zA,zB,zC,zD,zE,zF]at aa ⊢;have hK:=zh aa;clear aa hoi;have hv:vs 7=.int .i64 (wt (lisS b)):=hd 7 (by decide);rw[hv]at hK ⊢;go_simp;exact hK.out _ _ (zka zr _) (fun b h=>by injection h with h;subst h;exact⟨zl,by simp⟩) ⟨w2.heap.size,rfl,hb2.size,heap_alloc_new w2 _⟩
  ·intro oi hoi vs K w2 hb2 hd aa;obtain rfl:=Option.some.inj hoi;simp only[putP,Act.put,zA,zB,zC,zD,zE,zF]at aa ⊢;have hK:=zh aa;clear aa hoi;go_simp;exact hK.out _ _ zr (fun b h=>by cases h) rfl
 ·obtain⟨bx,hv5,hbx,hkx⟩:=hF (5,17) (by decide);obtain⟨fG,lW,hby,uV⟩:=hF (11,23) (by decide);have lV:[vs 5]=[vs 12]:=hF (12,5) (by decide);have hne:bx≠fG:=fun e=>hO 5 11 (by decide) (by decide) (by decide) bx (by simp only[cmO];simp only at hv5;rw[hv5];rfl) (by simp only[cmO];simp only at lW;rw[lW,e];rfl);simp only[List.cons.injEq,and_true]at lV;simp only at hv5 lW;clear hF hO;simp only[putP,Act.put,zD,zE,zF];rw[<-lV,hv5,lW];generalize vs 1=v1;generalize vs 7=v7;clear hv5 lW lV;refine zp 13 fun K hK=>?_;(try simp only[zA,zB,zC]);go_simp;refine hK.out _ _ (az.out _ hb2) ?_;clear hK K;(try simp only[zQ]);refine zd ?_;refine NoPanic.normal ?_;have HB2:=zh hb2;have HX:=zh (And.intro hbx (And.intro hkx (And.intro hby (And.intro uV hne))));have p8:=zh (fun w' (h:Below w2.heap.size w2 w')=>az.out w' (zkb HB2.out h));clear hbx hkx hby uV hne hb2 hI2
  go_upto_region 2 with fail;have hSS:zW (fun w':World=>stR w' N Aa a.cells.length ca Ba a.tin.length da Da a.tout.length ea/\stR w' (N+1) Ab b.cells.length cb Bb b.tin.length db Db b.tout.length eb) zU w2.drew:=⟨p8.out _ zr.drew,trivial⟩
  refine wp_region_noPanic ?_;refine zG hSS 5 ?_;refine zT 0 hSS ?_;refine zT 2 hSS ?_;have hI:(fun w=>Below w2.heap.size w2 w) w2.drew:=zr.drew;clear hSS;refine zoR (T:=[(1,25),(3,27),(4,7)]) (z:=5) (n:=6) clD 1 (fun w=>Below w2.heap.size w2 w) (clF w.heap.size w2.heap.size a b) (by kernel_rfl) (by kernel_rfl) (by simp only[putP,Act.put,zD,zE,zF]) (by decide) (by kernel_rfl) (by kernel_rfl) (fun w h=>⟨p8.out _ h,trivial⟩) (fun w w' h hb=>zkb h hb) (fun i v ds w w' h hb=>zuY i h hb) (fun q hq=>?_) (fun vs w3 hb3 hF=>?_) w2.drew hI
  ·simp only[List.mem_cons,List.not_mem_nil,or_false]at hq;rcases hq with rfl|rfl|rfl
   ·intro oi hoi vs K w3 hb3 hd aa;generalize bz:putP vs [(1,25),(3,27),(4,7)] _=AC at aa ⊢;have hK:=zh aa;clear aa;have had:Calls prog 127 ([.agg #[.slice Aa a.cells.length ca,.slice Ba a.tin.length da,.slice Da a.tout.length ea]].toArray ++ #[]) w3 fun e w'=>∃v,e=.returned v/\((∃A c,v=.slice A (a.cells.length+2) c/\zlo w' (fun q=>(q<w.heap.size\/w2.heap.size<=q)/\q<w'.heap.size) A (lisS a))/\Below w3.heap.size w3 w') :=
     (HLA.out w3 (zkb HB1.out (zkb HB2.out hb3))).mono fun e w' ⟨h1,A,c,h2,h3⟩=>⟨_,h2,⟨A,c,rfl,h3.keep (fun q h hlt=>⟨h.imp id fun h=>Nat.le_trans hb3.size h,hlt⟩) fun _ _ _=>rfl⟩,h1⟩
    refine zk6 hoi (.func 127) [.tmp 24] #[32] (by kernel_rfl) (by kernel_rfl) 127 _ zzM #[] (by rw[<-bz];kernel_rfl) _ (by rw[<-bz];kernel_rfl) _ had ?_;rintro v w4 ⟨hv,hb4⟩;exact hK.out _ _ hb4 hv
   ·intro oi hoi vs K w3 hb3 hd aa;generalize bz:putP vs [(1,25),(3,27),(4,7)] _=AC at aa ⊢;have hK:=zh aa;clear aa;have had:Calls prog 127 ([.agg #[.slice Ab b.cells.length cb,.slice Bb b.tin.length db,.slice Db b.tout.length eb]].toArray ++ #[]) w3 fun e w'=>∃v,e=.returned v/\((∃A c,v=.slice A (b.cells.length+2) c/\zlo w' (fun q=>(q<w.heap.size\/w2.heap.size<=q)/\q<w'.heap.size) A (lisS b))/\Below w3.heap.size w3 w') :=
     (HLB.out w3 (zkb HB1.out (zkb HB2.out hb3))).mono fun e w' ⟨h1,A,c,h2,h3⟩=>⟨_,h2,⟨A,c,rfl,h3.keep (fun q h hlt=>⟨h.imp id fun h=>Nat.le_trans hb3.size h,hlt⟩) fun _ _ _=>rfl⟩,h1⟩
    refine zk6 hoi (.func 127) [.tmp 26] #[32] (by kernel_rfl) (by kernel_rfl) 127 _ zzM #[] (by rw[<-bz];kernel_rfl) _ (by rw[<-bz];kernel_rfl) _ had ?_;rintro v w4 ⟨hv,hb4⟩;exact hK.out _ _ hb4 hv
   ·intro oi hoi vs K w3 hb3 hd aa;obtain rfl:=Option.some.inj hoi;simp only[putP,Act.put,zA,zB,zC,zD,zE,zF]at aa ⊢;have hK:=zh aa;clear aa hoi;go_simp;exact hK.out _ _ zr rfl
  ·obtain⟨A1,c1,hv1,hr1⟩:=hF (1,25) (by decide);obtain⟨A3,c3,hv3,hr3⟩:=hF (3,27) (by decide);have hv4:[vs 1]=[vs 4]:=hF (4,7) (by decide);simp only[List.cons.injEq,and_true]at hv4;simp only at hv1 hv3;clear hF;simp only[putP,Act.put,zD,zE,zF];rw[<-hv4,hv1,hv3];clear hv1 hv3 hv4;refine zp 5 fun K hK=>?_;(try simp only[zA,zB,zC]);go_simp;refine hK.out _ _ (p8.out _ hb3) ?_;clear hK K;(try simp only[zQ]);refine zd ?_;refine NoPanic.normal ?_;have HB3:=zh (zkb HB2.out hb3);obtain⟨hbx,hkx,hby,uV,hne⟩:=HX.out;have hbx2:=zkp hkx;have hby2:=zkp uV;have hB1s:=HB1.out.size;have hB2s:=HB2.out.size;have qg:=zh (hr1.keep (w':=w3) (S':=fun q=>¬ (q=bx\/q=fG\/w3.heap.size<=q)) (fun q hq hlt e=>by have:=hq.1;have:=hq.2;rcases e with e|e|e<;>omega) fun _ _ _=>rfl)
   have dm:=zh (hr3.keep (w':=w3) (S':=fun q=>¬ (q=bx\/q=fG\/w3.heap.size<=q)) (fun q hq hlt e=>by have:=hq.1;have:=hq.2;rcases e with e|e|e<;>omega) fun _ _ _=>rfl);have lK:=zh (show XY w3 (fun q=>q=bx\/q=fG\/w3.heap.size<=q) w3 (some ⟨bx,0,none⟩) 2 2 (some ⟨fG,0,none⟩) 2 2 [wt (lisS a),(a.cells.length:Int)] [wt (lisS b),(b.cells.length:Int)]from
    ⟨Chg.refl _ _,fun b h=>.inr (.inr h),⟨rfl,.inr ⟨bx,2,_,rfl,Nat.zero_le _,zkc hkx hb3,zl,by unfold maxLen;omega,rfl,rfl⟩⟩,⟨rfl,.inr ⟨fG,2,_,rfl,Nat.zero_le _,zkc uV hb3,zl,by unfold maxLen;omega,rfl,rfl⟩⟩,
     fun b h=>by injection h with h;exact .inl h.symm,fun b h=>by injection h with h;exact .inr (.inl h.symm),fun b h1 h2=>by injection h1 with h1;injection h2 with h2;have h1:bx=b:=h1;have h2:fG=b:=h2;omega⟩)
   have bV:=zh (fun w' (h:Chg (fun q=>q=bx\/q=fG\/w3.heap.size<=q) w3 w')=>show Below w.heap.size w w' from(zkb HB1.out HB3.out).trans (h.below (zkb HB1.out HB3.out).size fun q e=>by have:=HB3.out.size;rcases e with e|e|e<;>omega));obtain⟨C,hC⟩:∃C:Nat->Prop,∀q,(q=bx\/q=fG\/w3.heap.size<=q)=C q:=⟨fun q=>q=bx\/q=fG\/w3.heap.size<=q,fun _=>rfl⟩
   simp only[hC]at qg dm lK bV;have qd:=zh zqT;have bK:=zh (show(lisS a).length=a.cells.length+2 by simp[lisS]);have xq:=zh (show(lisS b).length=b.cells.length+2 by simp[lisS]);obtain⟨L,hL⟩:=zX (lisS a);obtain⟨M,hM⟩:=zX (lisS b);obtain⟨nl,hnl⟩:=zX (a.cells.length+2);obtain⟨nm,hnm⟩:=zX (b.cells.length+2);have BN:=zh (show[wt (lisS a),(a.cells.length:Int)]++keyA L M=keyE a b by rw[<-hL,<-hM];rfl);have BM:=zh (show[wt (lisS b),(b.cells.length:Int)]++keyA M L=keyE b a by rw[<-hL,<-hM];rfl);rw[hL]at bK qg yR;rw[hM]at xq dm lS;rw[hnl]at bK ⊢;rw[hnm]at xq ⊢;have sJ:nl<=102:=by omega
   have sI:nm<=102:=by omega
   obtain⟨x0,hx0⟩:=zX ([wt (lisS a),(a.cells.length:Int)]);obtain⟨y0,hy0⟩:=zX ([wt (lisS b),(b.cells.length:Int)]);rw[hx0]at lK BN;rw[hy0]at lK BM;clear hr1 hr3 hbx hkx hby uV hne hbx2 hby2 hB1s hB2s hC hL hM hnl hnm hx0 hy0 hb3 HX HB1 HB2 HB3 az p8 HLA HLB HWA HWB aJ aB;clear hna hnb;have hI1:=bI1R;go_wp2_with fail
   go_loopw [9,5,6] (fun i xv yv wr=>∃(j p:Nat) (Ax:Option Addr) (cx:Nat) (Ay:Option Addr) (cy:Nat) (xs ys:List Int),j<=nl/\j<=nm/\i=.int .i64 j/\xv=.slice Ax p cx/\yv=.slice Ay p cy/\p<=2+j*1001/\Hid (XY w3 C wr Ax cx p Ay cy p xs ys)/\Hid (xs++keyA (L.drop j) (M.drop j)=keyE a b/\ys++keyA (M.drop j) (L.drop j)=keyE b a)) (fun i _ _ _=>nl+nm-(intOf i).toNat)
   case atStart=>exact⟨0,2,_,_,_,_,_,_,by omega,by omega,rfl,rfl,rfl,by omega,lK,zh ⟨BN.out,BM.out⟩⟩
   case round =>
    clear lK BN BM;obtain⟨j,p,Ax,cx,Ay,cy,xs,ys,hj1,hj2,rfl,rfl,rfl,hp,lK,HKK⟩:=hrel;obtain⟨W9,rfl⟩:∃x,x=wr:=⟨_,rfl⟩
    by_cases hlt:j<nl/\j<nm
    ·have hja:(j:Int)<(nl:Int):=by omega
     have hjb:(j:Int)<(nm:Int):=by omega
     have hj0:(0:Int)<=(j:Int):=by omega
     have hjl:j<L.length:=by rw[bK.out];exact hlt.1
     have hjm:j<M.length:=by rw[xq.out];exact hlt.2
     obtain⟨al,l,A5,c5,rfl,Hl,hlc,hLj⟩:=ztP qg.out hjl;obtain⟨am,m,A6,c6,rfl,Hm,hmc,hMj⟩:=ztP dm.out hjm;have rG:=zh (zqy hjl hjm);have oF:=zh (zqy hjm hjl);have hls:=yR.out _ (List.getElem_mem hjl);have hms:=lS.out _ (List.getElem_mem hjm);rw[Hl.out]at rG oF hls;rw[Hm.out]at rG oF hms;have xw:=zh hls.2;have HMS:=zh hms.2;have hl3:=hls.1;have wD:=hms.1;have rE:=zh hLj;have vK:=zh hMj;clear hls hms hLj hMj Hl Hm hjl hjm;obtain⟨z1,-⟩:=rE.out _ lK.out.bl;obtain⟨ll,hll⟩:=zX (l.length);obtain⟨ml,lC⟩:=zX (m.length);have bB:=zh (And.intro hll lC);rw[hll]at z1 hl3;rw[lC]at wD;have hIx:=bI1R;clear hll lC;go_wp2_with (at_builtin;first
      | (refine zki rfl (.tmp 40) (.tmp 46) rfl underlying30 zlO rfl (by decide) (by decide) 0 (.slice Ax (p) cx) (p) (zkg xs) rfl (zko lK.out.x (zka zr _)) (some ⟨W9.heap.size,0,none⟩) 1 1 [.int .i64 (ll:Int)] rfl rfl (fun e=>by cases e) (zl0 W9 _ _) (zol _) (by omega) (Nat.zero_le _) ?_;intro v9 w9 ho hg aj;obtain⟨Ax1,cx1,rfl,pX⟩:=lK.out.px ho hg aj;clear ho hg aj;have z2:=(vK.out _ pX.out.bl).1;rw[bB.out.2]at z2)
      | (refine zki rfl (.tmp 48) (.tmp 54) rfl underlying30 zlO rfl (by decide) (by decide) 0 (.slice Ay (p) cy) (p) (zkg ys) rfl (zko pX.out.y (zka zr _)) (some ⟨w9.heap.size,0,none⟩) 1 1 [.int .i64 (ml:Int)] rfl rfl (fun e=>by cases e) (zl0 w9 _ _) (zol _) (by omega) (Nat.zero_le _) ?_;intro v9 aT ho hg aj;obtain⟨Ay1,cy1,rfl,bH⟩:=pX.out.py ho hg aj;clear ho hg aj))
     clear z1 z2 lK pX
     go_loopw [10,5,6] (fun i xv yv wr=>∃(k:Nat) (Ax:Option Addr) (cx:Nat) (Ay:Option Addr) (cy:Nat),k<=ll/\k<=ml/\i=.int .i64 k/\xv=.slice Ax (p+1+k) cx/\yv=.slice Ay (p+1+k) cy/\Hid (XY w3 C wr Ax cx (p+1+k) Ay cy (p+1+k) (xs++[(ll:Int)]++(l.take k).map rnk) (ys++[(ml:Int)]++(m.take k).map rnk))) (fun i _ _ _=>ll+ml-(intOf i).toNat)
     case atStart=>exact⟨0,_,_,_,_,by omega,by omega,rfl,rfl,rfl,by simpa using bH⟩
     case round =>
      clear bH;obtain⟨k,Cn,AU,Cm,AR,hk1,hk2,rfl,rfl,rfl,bH⟩:=hrel;have hk0:(0:Int)<=(k:Int):=by omega
      obtain⟨z1,xM⟩:=rE.out _ bH.out.bl;obtain⟨z2,yU⟩:=vK.out _ bH.out.bl;rw[bB.out.1]at z1;rw[bB.out.2]at z2;by_cases hkk:k<ll/\k<ml
      ·have hka:(k:Int)<(ll:Int):=by omega
       have hkb:(k:Int)<(ml:Int):=by omega
       have hkl:k<l.length:=by rw[bB.out.1];exact hkk.1
       have uW:k<m.length:=by rw[bB.out.2];exact hkk.2
       obtain⟨a5,e5,-,hx,-⟩:=xM k hkl;subst e5;have hrx:=xw.out _ (List.getElem_mem hkl);have uT:=HMS.out _ (List.getElem_mem uW);have yu:=zh (show xs++[(ll:Int)]++(l.take (k+1)).map rnk=(xs++[(ll:Int)]++(l.take k).map rnk)++[rnk l[k]] by rw[List.take_succ_eq_append_getElem hkl,List.map_append,<-List.append_assoc];rfl);have yt:=zh (show ys++[(ml:Int)]++(m.take (k+1)).map rnk=(ys++[(ml:Int)]++(m.take k).map rnk)++[rnk m[k]] by rw[List.take_succ_eq_append_getElem uW,List.map_append,<-List.append_assoc];rfl);obtain⟨lk,hlk⟩:=zX (l[k]);obtain⟨mk,hmk⟩:=zX (m[k]);have BF:=zh (show ∀w',Chg C w3 w'->∃a6,A6=some a6/\w'.cell? (a6.add k)=some (.int .i64 mk)from fun w' h=>by
        obtain⟨a6,e6,-,hx6,-⟩:=(vK.out w' h).2 k uW;rw[hmk]at hx6;exact⟨a6,e6,hx6⟩)
       rw[hlk]at hx hrx yu;rw[hmk]at uT yt;have kN:=zh (fun w=>qd.out lk w hrx);have HRY:=zh (fun w=>qd.out mk w uT);clear hlk hmk hrx uT xM yU hkl uW;obtain⟨X,hX⟩:=zX (xs++[(ll:Int)]++(l.take k).map rnk);obtain⟨Y,hY⟩:=zX (ys++[(ml:Int)]++(m.take k).map rnk);rw[hX]at yu bH;rw[hY]at yt bH;clear hX hY;obtain⟨W8,rfl⟩:∃x,x=wr:=⟨_,rfl⟩
       go_wp2_with fail;refine(kN.out _).mono ?_;rintro e w9 ⟨rfl,rfl⟩;obtain⟨rx,hrx⟩:=zX (rnk lk);rw[hrx]at yu ⊢;clear hrx;go_wp2_with (at_builtin;(refine zki rfl (.tmp 74) (.tmp 83) rfl underlying30 zlO rfl (by decide) (by decide) 0 (.slice Cn (p+1+k) AU) (p+1+k) (zkg X) rfl (zko bH.out.x (zka zr _)) (some ⟨w9.heap.size,0,none⟩) 1 1 [.int .i64 rx] rfl rfl (fun e=>by cases e) (zl0 w9 _ _) (zol _) (by omega) (Nat.zero_le _) ?_;intro v9 aO ho hg aj;obtain⟨Ax3,cx3,rfl,pW⟩:=bH.out.px ho hg aj;clear ho hg aj;obtain⟨a6,rfl,hx7⟩:=BF.out _ pW.out.bl;have z3:=(vK.out _ pW.out.bl).1;rw[bB.out.2]at z3))
       refine(HRY.out _).mono ?_;rintro e iO ⟨rfl,rfl⟩;obtain⟨ry,uT⟩:=zX (rnk mk);rw[uT]at yt ⊢;clear uT;go_wp2_with (at_builtin;(refine zki rfl (.tmp 85) (.tmp 94) rfl underlying30 zlO rfl (by decide) (by decide) 0 (.slice Cm (p+1+k) AR) (p+1+k) (zkg Y) rfl (zko pW.out.y (zka zr _)) (some ⟨iO.heap.size,0,none⟩) 1 1 [.int .i64 ry] rfl rfl (fun e=>by cases e) (zl0 iO _ _) (zol _) (by omega) (Nat.zero_le _) ?_;intro v9 kY ho hg aj;obtain⟨Ay3,cy3,rfl,HXY4⟩:=pW.out.py ho hg aj;clear ho hg aj))
       go_roundw
       case rel=>exact⟨k+1,_,_,_,_,by omega,by omega,by go_num,rfl,rfl,by rw[yu.out,yt.out];exact HXY4⟩
       case measure=>simp[intOf];omega
      ·have hll9:k=ll\/k=ml:=by omega
       have mX:=zh (show xs++[(ll:Int)]++(l.take k).map rnk=xs++((l.length:Int)::(l.take m.length).map rnk) by
        rw[zrN (l:=l) (k:=k) (m:=m.length) (by have:=bB.out;omega),bB.out.1];simp)
       have xe:=zh (show ys++[(ml:Int)]++(m.take k).map rnk=ys++((m.length:Int)::(m.take l.length).map rnk) by
        rw[zrN (l:=m) (k:=k) (m:=l.length) (by have:=bB.out;omega),bB.out.2];simp)
       obtain⟨X9,hX⟩:=zX (xs++[(ll:Int)]++(l.take k).map rnk);obtain⟨Y9,hY⟩:=zX (ys++[(ml:Int)]++(m.take k).map rnk);obtain⟨p9,hp9⟩:=zX (p+1+k);have hp9b:p9<=2+(j+1)*1001:=by omega
       rw[hX]at bH mX;rw[hY]at bH xe;rw[hp9]at bH ⊢;clear hX hY hp9;by_cases hne:ll=ml
       ·have hnb:((ll:Int) != (ml:Int))=false:=by simp[hne]
        have qw:=zh hne;have gX:=zh (show X9++keyA (L.drop (j+1)) (M.drop (j+1))=keyE a b/\Y9++keyA (M.drop (j+1)) (L.drop (j+1))=keyE b a by
         have h1:=HKK.out;have h2:=bB.out;rw[rG.out,oF.out,if_pos (by omega),if_pos (by omega),<-List.append_assoc,<-List.append_assoc,<-mX.out,<-xe.out]at h1;exact h1)
        clear hne;by_cases aK:k<ll
        ·have hka:(k:Int)<(ll:Int):=by omega
         have hkb:¬ (k:Int)<(ml:Int):=by omega
         go_upto_region 13 with fail
         go_quiet (fail)
         have aP:=zh (bH.out.drew nq);go_wp2_with fail
         go_roundw
         case rel=>exact⟨j+1,p9,_,_,_,_,_,_,by omega,by omega,by go_num,rfl,rfl,hp9b,aP,gX⟩
         case measure=>simp[intOf];omega
        ·have hka:¬ (k:Int)<(ll:Int):=by omega
         go_upto_region 13 with fail
         go_quiet (fail)
         have aP:=zh (bH.out.drew nq);go_wp2_with fail
         go_roundw
         case rel=>exact⟨j+1,p9,_,_,_,_,_,_,by omega,by omega,by go_num,rfl,rfl,hp9b,aP,gX⟩
         case measure=>simp[intOf];omega
       ·have hnb:((ll:Int) != (ml:Int))=true:=by simp;omega
        have HCM:=zh (show cmpE a b=lexE X9 Y9 by
         have h1:=HKK.out;have h2:=bB.out;rw[rG.out,oF.out,if_neg (by omega),if_neg (by omega),List.append_nil,List.append_nil,<-mX.out,<-xe.out]at h1;rw[h1.1,h1.2];rfl)
        by_cases aK:k<ll
        ·have hka:(k:Int)<(ll:Int):=by omega
         have hkb:¬ (k:Int)<(ml:Int):=by omega
         go_upto_region 13 with fail
         go_quiet (fail)
         have aP:=zh (bH.out.drew nq);obtain⟨wq,hwq⟩:=zX (wr.drewN nq);rw[hwq]at aP ⊢;clear hwq rG oF rE vK HKK mX xe z1 z2 xM yU bH;clear nq;go_wp2_with fail
         go_loopw [11] (fun i wr=>∃j:Nat,j<=p9/\i=.int .i64 j/\Hid (XY w3 C wr Cn AU p9 Cm AR p9 X9 Y9)/\Hid (∀k (h1:k<X9.length) (h2:k<Y9.length),k<j->X9[k]=Y9[k])) (fun i _=>p9-(intOf i).toNat)
         case atStart=>exact⟨0,by omega,rfl,aP,zh fun k _ _ h=>by omega⟩
         case round =>
          clear aP;obtain⟨j9,zO,rfl,aP,jL⟩:=hrel;have hlx:=zmt aP.out.x;have o9:=zmt aP.out.y;by_cases hjp:j9<p9
          ·have hj1:(j9:Int)<(p9:Int):=by omega
           have hj0:(0:Int)<=(j9:Int):=by omega
           have jh:j9<X9.length:=by omega
           have jg:j9<Y9.length:=by omega
           obtain⟨ax,ex,y1⟩:=znN aP.out.x jh;obtain⟨ay,ey,y2⟩:=znN aP.out.y jg;have eG:=zh (zpM jL.out jh jg);have fK:=zh (fun(h:X9[j9]=Y9[j9])=>show ∀k (h1:k<X9.length) (h2:k<Y9.length),k<j9+1->X9[k]=Y9[k]from fun k h1 h2 hk=>by
            by_cases e:k<j9
            ·exact jL.out k h1 h2 e
            ·obtain rfl:k=j9:=by omega
             exact h)
           obtain⟨xj,hxj⟩:=zX (X9[j9]);obtain⟨yj,hyj⟩:=zX (Y9[j9]);rw[hxj]at y1 eG fK;rw[hyj]at y2 eG fK;subst ex ey;clear hxj hyj jh jg hlx o9;go_upto_region 17 with fail
           go_quiet (fail)
           have eY:=zh (aP.out.drew nq);by_cases hc1:xj<yj
           ·go_wp2_with fail;go_ret;exact⟨by rw[show cmpE a b = -1 by rw[HCM.out,eG.out,if_pos hc1]];rfl,bV.out _ eY.out.bl⟩
           go_upto_region 19 with fail;have y1':=zb (zkm (zs wr) nq) y1;have y2':=zb (zkm (zs wr) nq) y2;obtain⟨wq,hwq⟩:=zX (wr.drewN nq);rw[hwq]at y1' y2' eY ⊢;clear hwq y1 y2;clear nq
           go_quiet (fail)
           have bD:=zh (eY.out.drew nq);by_cases hc2:yj<xj
           ·go_wp2_with fail;go_ret;exact⟨by rw[show cmpE a b=1 by rw[HCM.out,eG.out,if_neg (by omega),if_pos hc2]];rfl,bV.out _ bD.out.bl⟩
           have jK:=zh (fK.out (by omega));go_wp2_with fail
           go_roundw
           case rel=>exact⟨j9+1,by omega,by go_num,bD,jK⟩
           case measure=>simp[intOf];omega
          ·obtain rfl:j9=p9:=by omega
           have hj1:¬ (j9:Int)<(j9:Int):=by omega
           go_wp2_with fail;go_ret;exact⟨by rw[show cmpE a b=0 by rw[HCM.out,zoq jL.out (by omega) (by omega),List.drop_eq_nil_of_le (by omega)];rfl];rfl,bV.out _ aP.out.bl⟩
        ·have hka:¬ (k:Int)<(ll:Int):=by omega
         go_upto_region 13 with fail
         go_quiet (fail)
         have aP:=zh (bH.out.drew nq);obtain⟨wq,hwq⟩:=zX (wr.drewN nq);rw[hwq]at aP ⊢;clear hwq rG oF rE vK HKK mX xe z1 z2 xM yU bH;clear nq;go_wp2_with fail
         go_loopw [11] (fun i wr=>∃j:Nat,j<=p9/\i=.int .i64 j/\Hid (XY w3 C wr Cn AU p9 Cm AR p9 X9 Y9)/\Hid (∀k (h1:k<X9.length) (h2:k<Y9.length),k<j->X9[k]=Y9[k])) (fun i _=>p9-(intOf i).toNat)
         case atStart=>exact⟨0,by omega,rfl,aP,zh fun k _ _ h=>by omega⟩
         case round =>
          clear aP;obtain⟨j9,zO,rfl,aP,jL⟩:=hrel;have hlx:=zmt aP.out.x;have o9:=zmt aP.out.y;by_cases hjp:j9<p9
          ·have hj1:(j9:Int)<(p9:Int):=by omega
           have hj0:(0:Int)<=(j9:Int):=by omega
           have jh:j9<X9.length:=by omega
           have jg:j9<Y9.length:=by omega
           obtain⟨ax,ex,y1⟩:=znN aP.out.x jh;obtain⟨ay,ey,y2⟩:=znN aP.out.y jg;have eG:=zh (zpM jL.out jh jg);have fK:=zh (fun(h:X9[j9]=Y9[j9])=>show ∀k (h1:k<X9.length) (h2:k<Y9.length),k<j9+1->X9[k]=Y9[k]from fun k h1 h2 hk=>by
            by_cases e:k<j9
            ·exact jL.out k h1 h2 e
            ·obtain rfl:k=j9:=by omega
             exact h)
           obtain⟨xj,hxj⟩:=zX (X9[j9]);obtain⟨yj,hyj⟩:=zX (Y9[j9]);rw[hxj]at y1 eG fK;rw[hyj]at y2 eG fK;subst ex ey;clear hxj hyj jh jg hlx o9;go_upto_region 17 with fail
           go_quiet (fail)
           have eY:=zh (aP.out.drew nq);by_cases hc1:xj<yj
           ·go_wp2_with fail;go_ret;exact⟨by rw[show cmpE a b = -1 by rw[HCM.out,eG.out,if_pos hc1]];rfl,bV.out _ eY.out.bl⟩
           go_upto_region 19 with fail;have y1':=zb (zkm (zs wr) nq) y1;have y2':=zb (zkm (zs wr) nq) y2;obtain⟨wq,hwq⟩:=zX (wr.drewN nq);rw[hwq]at y1' y2' eY ⊢;clear hwq y1 y2;clear nq
           go_quiet (fail)
           have bD:=zh (eY.out.drew nq);by_cases hc2:yj<xj
           ·go_wp2_with fail;go_ret;exact⟨by rw[show cmpE a b=1 by rw[HCM.out,eG.out,if_neg (by omega),if_pos hc2]];rfl,bV.out _ bD.out.bl⟩
           have jK:=zh (fK.out (by omega));go_wp2_with fail
           go_roundw
           case rel=>exact⟨j9+1,by omega,by go_num,bD,jK⟩
           case measure=>simp[intOf];omega
          ·obtain rfl:j9=p9:=by omega
           have hj1:¬ (j9:Int)<(j9:Int):=by omega
           go_wp2_with fail;go_ret;exact⟨by rw[show cmpE a b=0 by rw[HCM.out,zoq jL.out (by omega) (by omega),List.drop_eq_nil_of_le (by omega)];rfl];rfl,bV.out _ aP.out.bl⟩
    ·have aP:=lK;have HCM:=zh (show cmpE a b=lexE xs ys by
      have h1:=HKK.out;rw[zsj (by rw[bK.out,xq.out];exact hlt),zsj (by rw[bK.out,xq.out];omega),List.append_nil,List.append_nil]at h1;rw[h1.1,h1.2];rfl)
     clear HKK lK;by_cases aK:j<nl
     ·have hka:(j:Int)<(nl:Int):=by omega
      have hkb:¬ (j:Int)<(nm:Int):=by omega
      go_wp2_with fail
      go_loopw [11] (fun i wr=>∃j:Nat,j<=p/\i=.int .i64 j/\Hid (XY w3 C wr Ax cx p Ay cy p xs ys)/\Hid (∀k (h1:k<xs.length) (h2:k<ys.length),k<j->xs[k]=ys[k])) (fun i _=>p-(intOf i).toNat)
      case atStart=>exact⟨0,by omega,rfl,aP,zh fun k _ _ h=>by omega⟩
      case round =>
       clear aP;obtain⟨j9,zO,rfl,aP,jL⟩:=hrel;have hlx:=zmt aP.out.x;have o9:=zmt aP.out.y;by_cases hjp:j9<p
       ·have hj1:(j9:Int)<(p:Int):=by omega
        have hj0:(0:Int)<=(j9:Int):=by omega
        have jh:j9<xs.length:=by omega
        have jg:j9<ys.length:=by omega
        obtain⟨ax,ex,y1⟩:=znN aP.out.x jh;obtain⟨ay,ey,y2⟩:=znN aP.out.y jg;have eG:=zh (zpM jL.out jh jg);have fK:=zh (fun(h:xs[j9]=ys[j9])=>show ∀k (h1:k<xs.length) (h2:k<ys.length),k<j9+1->xs[k]=ys[k]from fun k h1 h2 hk=>by
         by_cases e:k<j9
         ·exact jL.out k h1 h2 e
         ·obtain rfl:k=j9:=by omega
          exact h)
        obtain⟨xj,hxj⟩:=zX (xs[j9]);obtain⟨yj,hyj⟩:=zX (ys[j9]);rw[hxj]at y1 eG fK;rw[hyj]at y2 eG fK;subst ex ey;clear hxj hyj jh jg hlx o9;go_upto_region 17 with fail
        go_quiet (fail)
        have eY:=zh (aP.out.drew nq);by_cases hc1:xj<yj
        ·go_wp2_with fail;go_ret;exact⟨by rw[show cmpE a b = -1 by rw[HCM.out,eG.out,if_pos hc1]];rfl,bV.out _ eY.out.bl⟩
        go_upto_region 19 with fail;have y1':=zb (zkm (zs wr) nq) y1;have y2':=zb (zkm (zs wr) nq) y2;obtain⟨wq,hwq⟩:=zX (wr.drewN nq);rw[hwq]at y1' y2' eY ⊢;clear hwq y1 y2;clear nq
        go_quiet (fail)
        have bD:=zh (eY.out.drew nq);by_cases hc2:yj<xj
        ·go_wp2_with fail;go_ret;exact⟨by rw[show cmpE a b=1 by rw[HCM.out,eG.out,if_neg (by omega),if_pos hc2]];rfl,bV.out _ bD.out.bl⟩
        have jK:=zh (fK.out (by omega));go_wp2_with fail
        go_roundw
        case rel=>exact⟨j9+1,by omega,by go_num,bD,jK⟩
        case measure=>simp[intOf];omega
       ·obtain rfl:j9=p:=by omega
        have hj1:¬ (j9:Int)<(j9:Int):=by omega
        go_wp2_with fail;go_ret;exact⟨by rw[show cmpE a b=0 by rw[HCM.out,zoq jL.out (by omega) (by omega),List.drop_eq_nil_of_le (by omega)];rfl];rfl,bV.out _ aP.out.bl⟩
     ·have hka:¬ (j:Int)<(nl:Int):=by omega
      go_wp2_with fail
      go_loopw [11] (fun i wr=>∃j:Nat,j<=p/\i=.int .i64 j/\Hid (XY w3 C wr Ax cx p Ay cy p xs ys)/\Hid (∀k (h1:k<xs.length) (h2:k<ys.length),k<j->xs[k]=ys[k])) (fun i _=>p-(intOf i).toNat)
      case atStart=>exact⟨0,by omega,rfl,aP,zh fun k _ _ h=>by omega⟩
      case round =>
       clear aP;obtain⟨j9,zO,rfl,aP,jL⟩:=hrel;have hlx:=zmt aP.out.x;have o9:=zmt aP.out.y;by_cases hjp:j9<p
       ·have hj1:(j9:Int)<(p:Int):=by omega
        have hj0:(0:Int)<=(j9:Int):=by omega
        have jh:j9<xs.length:=by omega
        have jg:j9<ys.length:=by omega
        obtain⟨ax,ex,y1⟩:=znN aP.out.x jh;obtain⟨ay,ey,y2⟩:=znN aP.out.y jg;have eG:=zh (zpM jL.out jh jg);have fK:=zh (fun(h:xs[j9]=ys[j9])=>show ∀k (h1:k<xs.length) (h2:k<ys.length),k<j9+1->xs[k]=ys[k]from fun k h1 h2 hk=>by
         by_cases e:k<j9
         ·exact jL.out k h1 h2 e
         ·obtain rfl:k=j9:=by omega
          exact h)
        obtain⟨xj,hxj⟩:=zX (xs[j9]);obtain⟨yj,hyj⟩:=zX (ys[j9]);rw[hxj]at y1 eG fK;rw[hyj]at y2 eG fK;subst ex ey;clear hxj hyj jh jg hlx o9;go_upto_region 17 with fail
        go_quiet (fail)
        have eY:=zh (aP.out.drew nq);by_cases hc1:xj<yj
        ·go_wp2_with fail;go_ret;exact⟨by rw[show cmpE a b = -1 by rw[HCM.out,eG.out,if_pos hc1]];rfl,bV.out _ eY.out.bl⟩
        go_upto_region 19 with fail;have y1':=zb (zkm (zs wr) nq) y1;have y2':=zb (zkm (zs wr) nq) y2;obtain⟨wq,hwq⟩:=zX (wr.drewN nq);rw[hwq]at y1' y2' eY ⊢;clear hwq y1 y2;clear nq
        go_quiet (fail)
        have bD:=zh (eY.out.drew nq);by_cases hc2:yj<xj
        ·go_wp2_with fail;go_ret;exact⟨by rw[show cmpE a b=1 by rw[HCM.out,eG.out,if_neg (by omega),if_pos hc2]];rfl,bV.out _ bD.out.bl⟩
        have jK:=zh (fK.out (by omega));go_wp2_with fail
        go_roundw
        case rel=>exact⟨j9+1,by omega,by go_num,bD,jK⟩
        case measure=>simp[intOf];omega
       ·obtain rfl:j9=p:=by omega
        have hj1:¬ (j9:Int)<(j9:Int):=by omega
        go_wp2_with fail;go_ret;exact⟨by rw[show cmpE a b=0 by rw[HCM.out,zoq jL.out (by omega) (by omega),List.drop_eq_nil_of_le (by omega)];rfl];rfl,bV.out _ aP.out.bl⟩
end
section
open Go Go.RowKit
theorem znC:∀(a b:List SS),(zkW a b).length=a.length+b.length
 | [],b=>by unfold zkW;simp
 | x::a,[]=>by unfold zkW;simp
 | x::a,y::b=>by
  rw[zkW]
  split
  ·rw[List.length_cons,znC (x::a) b];simp;omega
  ·rw[List.length_cons,znC a (y::b)];simp;omega
 termination_by a b=>a.length+b.length
theorem zmI(b:List SS):zkW [] b=b:=by unfold zkW;rfl
theorem zmg(a:List SS):zkW a []=a:=by cases a<;>unfold zkW<;>rfl
theorem zl6{s:SS}:∀(a b:List SS),s∈zkW a b->s∈a\/s∈b
 | [],b,h=>.inr (by rwa[zmI]at h)
 | x::a,[],h=>.inl (by rwa[zmg]at h)
 | x::a,y::b,h=>by
  rw[zkW]at h
  split at h
  ·rcases List.mem_cons.1 h with rfl|h
   ·exact .inr (by simp)
   ·exact(zl6 (x::a) b h).imp id (List.mem_cons_of_mem _)
  ·rcases List.mem_cons.1 h with rfl|h
   ·exact .inl (by simp)
   ·exact(zl6 a (y::b) h).imp (List.mem_cons_of_mem _) id
 termination_by a b=>a.length+b.length
theorem zoh:∀(n:Nat) (l:List SS),l.length=n->(zkX l).length=n:=by
 intro n
 induction n using Nat.strongRecOn with
 | _ n ih =>
  intro l hl;unfold zkX
  split
  ·exact hl
  ·rw[znC,ih (l.length / 2) (by omega) _ (by simp;omega),ih (l.length-l.length / 2) (by omega) _ (by simp)];omega
theorem zm4{s:SS}:∀(n:Nat) (l:List SS),l.length=n->s∈zkX l->s∈l:=by
 intro n
 induction n using Nat.strongRecOn with
 | _ n ih =>
  intro l hl h;unfold zkX at h
  split at h
  ·exact h
  ·rcases zl6 _ _ h with h|h
   ·exact List.mem_of_mem_take (ih (l.length / 2) (by omega) _ (by simp;omega) h)
   ·exact List.mem_of_mem_drop (ih (l.length-l.length / 2) (by omega) _ (by simp) h)
theorem ztH{l:List SS}(h:¬ l.length<2):zkX l=zkW (zkX (l.take (l.length / 2))) (zkX (l.drop (l.length / 2))):=by
 rw[zkX,dif_neg h]
theorem ztI{l:List SS}(h:l.length<2):zkX l=l:=by
 rw[zkX,dif_pos h]
def zk9(w:World)(A:Option Addr)(ss:List SS):Prop :=
 ∀k (hk:k<ss.length),∃b o u v x,A=some ⟨b,o,none⟩/\w.cell? ⟨b,o+k*3,none⟩=some u/\w.cell? ⟨b,o+k*3+1,none⟩=some v/\w.cell? ⟨b,o+k*3+2,none⟩=some x/\SV w (fun q=>q<w.heap.size) ss[k] (.agg #[u,v,x])
theorem zk9.later{w w':World}{A:Option Addr}{ss:List SS}(h:zk9 w A ss)(hb:Below w.heap.size w w'):zk9 w' A ss:=fun k hk=>by
 obtain⟨b,o,u,v,x,e,h0,h1,h2,h3⟩:=h k hk;exact⟨b,o,u,v,x,e,zb hb h0,zb hb h1,zb hb h2,h3.keep (fun q _ hq=>Nat.lt_of_lt_of_le hq hb.size) fun q _ hq=>hb.block q hq⟩
theorem zk9.nil(w:World)(A:Option Addr):zk9 w A []:=fun k hk=>by simp at hk
theorem zk9.take{w:World}{A:Option Addr}{ss:List SS}(h:zk9 w A ss)(m:Nat):zk9 w A (ss.take m):=fun k hk=>by
 have hk2:k<ss.length:=by simp at hk;omega
 obtain⟨b,o,u,v,x,e,h0,h1,h2,h3⟩:=h k hk2;exact⟨b,o,u,v,x,e,h0,h1,h2,by rw[List.getElem_take];exact h3⟩
theorem zk9.drop{w:World}{A:Option Addr}{ss:List SS}{c:Nat}(h:zk9 w A ss)(m:Nat)(hc:ss.length<=c):zk9 w (if c=m then A else A.map (·.add (m*3))) (ss.drop m):=by
 by_cases e:c=m
 ·rw[if_pos e,List.drop_eq_nil_of_le (by omega)];exact zk9.nil _ _
 ·rw[if_neg e];intro k hk;have hk2:m+k<ss.length:=by simp at hk;omega
  obtain⟨b,o,u,v,x,rfl,h0,h1,h2,h3⟩:=h (m+k) hk2;have e3:o+m*3+k*3=o+(m+k)*3:=by omega
  refine⟨b,o+m*3,u,v,x,by simp[Addr.add_lit],by rw[e3];exact h0,by rw[e3];exact h1,by rw[e3];exact h2,by rw[List.getElem_drop];exact h3⟩
theorem zk9.head{w:World}{A:Option Addr}{s:SS}{ss:List SS}(h:zk9 w A (s::ss)):∃b o u v x,A=some ⟨b,o,none⟩/\w.cell? ⟨b,o,none⟩=some u/\w.cell? ⟨b,o+1,none⟩=some v/\w.cell? ⟨b,o+2,none⟩=some x/\SV w (fun q=>q<w.heap.size) s (.agg #[u,v,x]):=by
 obtain⟨b,o,u,v,x,e,h0,h1,h2,h3⟩:=h 0 (by simp);exact⟨b,o,u,v,x,e,h0,h1,h2,h3⟩
theorem zk9.tail{w:World}{A:Option Addr}{s:SS}{ss:List SS}{c:Nat}(h:zk9 w A (s::ss))(hc:ss.length+1<=c):zk9 w (if c=1 then A else A.map (·.add (1*3))) ss:=h.drop 1 (by simpa using hc)
theorem zk9.vals{w:World}:∀ {ss:List SS} {A:Option Addr},zk9 w A ss->∃us:List (Value×Value×Value),us.length=ss.length/\(∀ad,A=some ad->∀j u,(zk1 us)[j]?=some u->w.cell? (ad.add j)=some u) /\
  ∀k (hk:k<ss.length) (hv:k<us.length),SV w (fun q=>q<w.heap.size) ss[k] (.agg #[us[k].1,us[k].2.1,us[k].2.2])
 | [],A,_=>⟨[],rfl,fun ad _ j u h=>by simp[zk1]at h,fun k hk=>by simp at hk⟩
 | s::ss,A,h=>by
  obtain⟨b,o,u,v,x,rfl,h0,h1,h2,h3⟩:=h.head;have ht:=h.tail (c:=ss.length+2) (by omega);rw[if_neg (by omega)]at ht;obtain⟨us,hl,hu,hs⟩:=zk9.vals ht;refine⟨(u,v,x)::us,by simp[hl],fun ad e j y hy=>?_,fun k hk hv=>?_⟩
  ·injection e with e;subst e;rw[Addr.add_lit];rw[show zk1 ((u,v,x)::us)=u::v::x::zk1 us from rfl]at hy
   match j,hy with
   | 0,hy=>simp at hy;subst hy;exact h0
   | 1,hy=>simp at hy;subst hy;exact h1
   | 2,hy=>simp at hy;subst hy;exact h2
   | j+3,hy =>
    have:=hu ⟨b,o+3,none⟩ (by simp[Addr.add_lit]) j y (by simpa using hy);rw[Addr.add_lit]at this;rw[show o+(j+3)=o+3+j by omega];exact this
  ·match k,hk,hv with
   | 0,_,_=>exact h3
   | k+1,hk,hv=>exact hs k (by simpa using hk) (by simpa using hv)
theorem SV.one{w:World}{S:Nat->Prop}{s:SS}{u v x:Value}(h:SV w S s (.agg #[u,v,x])):u.oneCell'=true/\v.oneCell'=true/\x.oneCell'=true:=by
 obtain⟨A,c,B,d,D,e,e1,-⟩:=h;injection e1 with e1;simp only[Array.mk.injEq,List.cons.injEq,and_true]at e1;obtain⟨rfl,rfl,rfl⟩:=e1;exact⟨rfl,rfl,rfl⟩
theorem zrJ{w:World}{P:Nat->Prop}{ss:List SS}{us:List (Value×Value×Value)}(hl:us.length=ss.length)(hs:∀k (hk:k<ss.length) (hv:k<us.length),SV w P ss[k] (.agg #[us[k].1,us[k].2.1,us[k].2.2])):∀u∈zk1 us,u.oneCell'=true:=fun u hu=>by
 obtain⟨t,ht,hu⟩:=List.mem_flatMap.1 hu;obtain⟨k,hk,rfl⟩:=List.getElem_of_mem ht;have h:=(hs k (by omega) hk).one;simp only[List.mem_cons,List.not_mem_nil,or_false]at hu;rcases hu with rfl|rfl|rfl
 ·exact h.1
 ·exact h.2.1
 ·exact h.2.2
theorem zk7.app{W W5:World}{n0:Nat}{S S':Nat->Prop}{v v':Value}{ls ys:List SS}{vs us:List (Value×Value×Value)}(hl:vs.length=ls.length)(ku:us.length=ys.length)
  (h2:∀k (hk:k<ls.length) (hv:k<vs.length),SV W (fun q=>S q/\v.ownBlock≠some q) ls[k] (.agg #[vs[k].1,vs[k].2.1,vs[k].2.2]))(hS:∀q,S q->q<W.heap.size->S' q)
  (hy:∀k (hk:k<ys.length) (hv:k<us.length),SV W (fun q=>S' q/\v.ownBlock≠some q) ys[k] (.agg #[us[k].1,us[k].2.1,us[k].2.2]))
  (ho:W5.ownsRow n0 32 3 v' (ls.length+ys.length) (zk1 vs++zk1 us))(hg:W.grownBy W5 v.ownBlock)(aj:v'.ownBlock=v.ownBlock\/v'.ownBlock=some W.heap.size):zk7 W5 n0 S' v' (ls++ys):=by
 have hB:∀q,v.ownBlock≠some q->q<W.heap.size->v'.ownBlock≠some q:=fun q h hq e=>by
  rcases aj with e1|e1
  ·exact h (e1▸e)
  ·rw[e1]at e;injection e with e;omega
 have hk:∀q,v.ownBlock≠some q->q<W.heap.size->W5.heap[q]?=W.heap[q]?:=fun q h hq=>hg.block q hq fun e=>h e.symm;have e1:zk1 (vs++us)=zk1 vs++zk1 us:=by simp[zk1]
 refine⟨vs++us,by rw[List.length_append,e1];exact ho,by simp[hl,ku],fun k hk1 hk2=>?_⟩;by_cases hlt:k<ls.length
 ·have hlv:k<vs.length:=by omega
  rw[List.getElem_append_left hlt,List.getElem_append_left hlv];exact(h2 k hlt hlv).keep (fun q h hq=>⟨hS q h.1 hq,hB q h.2 hq⟩) fun q h hq=>hk q h.2 hq
 ·have hk3:k-ls.length<ys.length:=by simp at hk1;omega
  have h9:=hy (k-ls.length) hk3 (by omega);rw[List.getElem_append_right (by omega),List.getElem_append_right (by omega)];simp only[hl];exact h9.keep (fun q h hq=>⟨h.1,hB q h.2 hq⟩) fun q h hq=>hk q h.2 hq
theorem zk7.addS{W0 wr we w':World}{n0:Nat}{S:Nat->Prop}{v v':Value}{ls ys:List SS}{vs us:List (Value×Value×Value)}(wJ:∀q,S q->q<n0)(hb:Below n0 W0 wr)(hn:n0<=W0.heap.size)(hown:wr.ownsRow n0 32 3 v ls.length (zk1 vs))(hl:vs.length=ls.length)
  (h2:∀k (hk:k<ls.length) (hv:k<vs.length),SV wr (fun q=>S q/\v.ownBlock≠some q) ls[k] (.agg #[vs[k].1,vs[k].2.1,vs[k].2.2]))(ku:us.length=ys.length)(hw:Below wr.heap.size wr we)
  (hy:∀k (hk:k<ys.length) (hv:k<us.length),SV we S ys[k] (.agg #[us[k].1,us[k].2.1,us[k].2.2]))
  (ho:w'.ownsRow n0 32 3 v' (ls.length+ys.length) (zk1 vs++zk1 us))(hg:we.grownBy w' v.ownBlock)(aj:v'.ownBlock=v.ownBlock\/v'.ownBlock=some we.heap.size) :
  ∃A' c',v'=.slice A' (ls.length+ys.length) c'/\(ls.length+ys.length)<=c'/\Hid (Below n0 W0 w')/\Hid (zk7 w' n0 S (.slice A' (ls.length+ys.length) c') (ls++ys)):=by
 obtain⟨A',c',rfl,hc,-⟩:=zkd ho;have hs:=hb.size;have hbe:Below n0 W0 we:=hb.trans (hw.mono (by omega));refine⟨A',c',rfl,hc,zh (hbe.grown hg (Nat.le_trans hn hbe.size) fun k hk=>(hown.lt k hk).1),zh ?_⟩;exact zk7.app (W:=we) (S:=S) (S':=S) hl ku (fun k hk hv=>(h2 k hk hv).later hw) (fun q h _=>h)
  (fun k hk hv=>(hy k hk hv).keep (fun q h _=>⟨h,fun e=>by have:=(hown.lt q e).1;have:=wJ q h;omega⟩) fun _ _ _=>rfl) ho hg aj
theorem zk7.sa{W:World}{n0:Nat}{S:Nat->Prop}{v:Value}{ss:List SS}(h:zk7 W n0 S v ss):∃A c,v=.slice A ss.length c/\ss.length<=c/\zk9 W A ss:=by
 obtain⟨vs,h1,hl,h2⟩:=h;obtain⟨A',c',rfl,hc',-⟩:=zkd h1;refine⟨A',c',rfl,hc',fun i hi=>?_⟩;obtain⟨g,cap,A,c,B,d,D,e,e0,hg1,hg2,x0,x1,x2,hs⟩:=zk7.nd ⟨vs,h1,hl,h2⟩ hi;injection e0 with e1 e2 e3;subst e1;refine⟨g,0,_,_,_,rfl,by rw[Nat.zero_add];exact x0,by rw[Nat.zero_add];exact x1,by rw[Nat.zero_add];exact x2,hs.keep (fun q _ h=>h) fun _ _ _=>rfl⟩
theorem zmE(w:World)(u v x:Value)(E:TypeId):∀ad,(some ⟨w.heap.size,0,none⟩:Option Addr)=some ad->∀j y,[u,v,x][j]?=some y->(w.alloc (.cells #[u,v,x] E)).cell? (ad.add j)=some y:=fun ad e j y hj=>by
 injection e with e;subst e;have hk:=heap_alloc_new w (.cells #[u,v,x] E);rw[Addr.add_lit,Nat.zero_add]
 match j,hj with
 | 0,hj=>simp at hj;subst hj;exact zc hk rfl
 | 1,hj=>simp at hj;subst hj;exact zc hk rfl
 | 2,hj=>simp at hj;subst hj;exact zc hk rfl
theorem zye(A:Option Addr)(n c h:Nat)(hh:h<=c)(w:World):(Instr.slice 27 (.slice A n c) none (some (.int .i64 (h:Int))) none).run prog w=.ok (.slice A h c) w:=by
 have h1:prog.underlying 27=some (.slice (prog.elem 27)):=by kernel_rfl
 have h2:(sizeOf (prog.elem 27)).run prog w=.ok 3 w:=by kernel_rfl
 refine(run_slice_h (P:=prog) (w:=w) 27 A n c h1 .i64 (h:Int) (by omega) (by omega)).trans ?_;rw[h2];simp[Result.andThen,sliced];intro _
 cases A<;>simp[Addr.add_zero']
theorem zq5(A:Option Addr)(n c k:Nat)(hk:k<=n)(w:World):(Instr.slice 27 (.slice A n c) (some (.int .i64 (k:Int))) none none).run prog w=.ok (.slice (if c=k then A else A.map (·.add (k*3))) (n-k) (c-k)) w:=by
 have h1:prog.underlying 27=some (.slice (prog.elem 27)):=by kernel_rfl
 have h2:(sizeOf (prog.elem 27)).run prog w=.ok 3 w:=by kernel_rfl
 refine(run_slice_l (P:=prog) (w:=w) 27 A n c h1 .i64 (k:Int) (by omega) (by omega)).trans ?_;rw[h2];simp[Result.andThen,sliced]
theorem zzL:IsFn prog 45 Tryz.f45:=⟨func45,by kernel_rfl,by kernel_rfl⟩
theorem zKF:IsFn prog 92 f92:=⟨func92,by kernel_rfl,by kernel_rfl⟩
theorem zk7.later{W W':World}{n0:Nat}{S:Nat->Prop}{v:Value}{ss:List SS}(h:zk7 W n0 S v ss)(hb:Below W.heap.size W W'):zk7 W' n0 S v ss:=h.keep (fun _ h _=>h) fun q _ hq=>hb.block q hq
theorem zk7.many{W0 wr we:World}{n0 e co:Nat}{Ao:Option Addr}{S:Nat->Prop}{acc ys:List SS}{us:List (Value×Value×Value)}(h:zk7 wr n0 S (.slice Ao e co) acc)(he:acc.length=e)(wJ:∀q,S q->q<n0)(hb:Below n0 W0 wr)(hn:n0<=W0.heap.size)
  (ku:us.length=ys.length)(hw:Below wr.heap.size wr we)(hy:∀k (hk:k<ys.length) (hv:k<us.length),SV we S ys[k] (.agg #[us[k].1,us[k].2.1,us[k].2.2])){m:Nat}(hm:ys.length=m) :
  ∃xs,we.ownsRow n0 32 3 (.slice Ao e co) e xs/\n0<=we.heap.size/\∀v' w',w'.ownsRow n0 32 3 v' (e+m) (xs++zk1 us)->we.grownBy w' (Value.slice Ao e co).ownBlock->(v'.ownBlock=(Value.slice Ao e co).ownBlock\/v'.ownBlock=some we.heap.size) ->
   ∃A' c',v'=.slice A' (e+m) c'/\e+m<=c'/\Hid (Below n0 W0 w')/\Hid (zk7 w' n0 S (.slice A' (e+m) c') (acc++ys)):=by
 subst he hm;obtain⟨vs,h1,hl,h2⟩:=h;exact⟨zk1 vs,zko h1 hw,Nat.le_trans (Nat.le_trans hn hb.size) hw.size,fun v' w' g1 g2 g3=>zk7.addS wJ hb hn h1 hl h2 ku hw hy g1 g2 g3⟩
theorem zk9.nilA{w:World}{A:Option Addr}{ss:List SS}(h:zk9 w A ss)(hA:A=none):ss.length=0:=by
 subst hA;rcases ss with _|⟨s,ss⟩
 ·rfl
 ·obtain⟨b,o,u,v,x,e,-⟩:=h.head
  cases e
abbrev c3R(w:World)(b o:Nat)(u v x:Value):Prop:=w.cell? ⟨b,o,none⟩=some u/\w.cell? ⟨b,o+1,none⟩=some v/\w.cell? ⟨b,o+2,none⟩=some x
def slN:Value->Nat
 | .slice _ n _=>n
 | _=>0
theorem one3{a b c:Value}(h:a.oneCell'=true/\b.oneCell'=true/\c.oneCell'=true):∀u∈[a,b,c],u.oneCell'=true:=by
 intro u hu;simp only[List.mem_cons,List.not_mem_nil,or_false]at hu;rcases hu with rfl|rfl|rfl
 ·exact h.1
 ·exact h.2.1
 ·exact h.2.2
attribute [local go_sem] Oper.semAt_some
theorem zsJ:∀(n:Nat) (ss:List SS) (A:Option Addr) (c:Nat) (w:World),ss.length=n->n<=c->n<=1000->zk9 w A ss->(∀s∈ss,SmC s) ->
  Calls prog 45 #[.slice A n c] w fun e w'=>∃v,e=.returned v/\(∃A' c',v=.slice A' n c'/\n<=c'/\zk9 w' A' (zkX ss))/\Below w.heap.size w w':=by
 intro n
 induction n using Nat.strongRecOn with
 | _ n ih =>
 intro ss A c w hl hc hn xL hS;have HA:=zh xL;have rz:=zh hS;have HL:=zh hl;have IH:=zh ih;clear ih xL hS hl;go_enter func45,ntmps45;by_cases h2:n<2
 ·have h2i:(n:Int)<2:=by omega
  go_wp2_with fail;go_ret;exact⟨_,rfl,⟨A,c,rfl,hc,by rw[ztI (by rw[HL.out];exact h2)];exact HA.out⟩,zr⟩
 ·have h2i:¬ (n:Int)<2:=by omega
  go_upto_region 3 with fail;have hSS:zW zU zU w.drew:=⟨trivial,trivial⟩
  obtain⟨m,hm⟩:=zX (n / 2);have hq:IntKind.i64.wrap ((n:Int) / 2)=(m:Int):=by
   rw[IntWalk.i64_in _ (by omega)];omega
  have hmc:(m:Int)<=(c:Int):=by omega
  have uU:(m:Int)<=(n:Int):=by omega
  have hm0:(0:Int)<=(m:Int):=by omega
  have hT:=zye A n c m (by omega);have hD:=zq5 A n c m (by omega);have BH:=zh (show(ss.take m).length=m by rw[List.length_take,HL.out];omega);have BG:=zh (show(ss.drop m).length=n-m by rw[List.length_drop,HL.out]);have HR2:=zh (HA.out.drop m (by rw[HL.out];exact hc));have HST:=zh (show zkX ss=zkW (zkX (ss.take m)) (zkX (ss.drop m)) by rw[ztH (by rw[HL.out];exact h2),HL.out,hm]);obtain⟨A2,hA2⟩:=zX ((if c=m then A else A.map (·.add (m*3))));rw[hA2]at HR2;simp only[hA2]at hD;have hm1:m<n:=by omega
  have hm2:n-m<n:=by omega
  clear hA2 hm h2;have HI1:=zh (fun w' (hb:Below w.heap.size w w')=>IH.out m hm1 (ss.take m) A c w' BH.out (by omega) (by omega) ((HA.out.take m).later hb) fun s h=>rz.out s (List.mem_of_mem_take h));have HI2:=zh (fun w' (hb:Below w.heap.size w w')=>IH.out (n-m) hm2 (ss.drop m) A2 (c-m) w' BG.out (by omega) (by omega) (HR2.out.later hb) fun s h=>rz.out s (List.mem_of_mem_drop h));have iH:=zh (show(zkX (ss.take m)).length=m from zoh m _ BH.out);have HL2:=zh (show(zkX (ss.drop m)).length=n-m from zoh (n-m) _ BG.out);have eF:=zh (show ∀s∈zkX (ss.take m),SmC s from fun s h=>rz.out s (List.mem_of_mem_take (zm4 _ _ rfl h)));have HS2:=zh (show ∀s∈zkX (ss.drop m),SmC s from fun s h=>rz.out s (List.mem_of_mem_drop (zm4 _ _ rfl h)));obtain⟨L,hLe⟩:=zX (zkX (ss.take m));obtain⟨R,hRe⟩:=zX (zkX (ss.drop m));rw[hLe]at HI1 iH eF HST
  rw[hRe]at HI2 HL2 HS2 HST;clear hLe hRe IH rz HA HR2 BH BG;refine wp_region_noPanic ?_;refine zG hSS 13 ?_;refine zT 0 hSS ?_;refine zT 1 hSS ?_;refine zT 2 hSS ?_;refine zT 3 hSS ?_;refine zT 4 hSS ?_;refine zT 6 hSS ?_;refine zT 7 hSS ?_;refine zT 8 hSS ?_;refine zT 9 hSS ?_;refine zT 10 hSS ?_;clear hT hD;have hb1:=Below.drew (zs w);have had:Calls prog 45 [.slice A m c].toArray w.drew fun e w'=>∃v,e=.returned v/\((∃A' c',v=.slice A' m c'/\m<=c'/\zk9 w' A' L)/\Below w.drew.heap.size w.drew w'):=HI1.out _ hb1;refine zo 5 fun K hK=>?_;refine zke (by rfl) (.func 45) [.tmp 14] _ (by rfl) 45 _ zzL (by rfl) _ (by rfl) _ had ?_;rintro v2 w2 ⟨⟨A3,c3,rfl,hc3,hr3⟩,hb2⟩;refine hK.out _ _ hSS ?_;clear hK K had;(try simp only[zQ]);have HB2:=zh (zkb hb1 hb2);clear hb1 hb2
  have had:Calls prog 45 [.slice A2 (n-m) (c-m)].toArray w2 fun e w'=>∃v,e=.returned v/\((∃A' c',v=.slice A' (n-m) c'/\n-m<=c'/\zk9 w' A' R)/\Below w2.heap.size w2 w'):=HI2.out _ HB2.out;refine zo 11 fun K hK=>?_;refine zke (by rfl) (.func 45) [.tmp 20] _ (by rfl) 45 _ zzL (by rfl) _ (by rfl) _ had ?_;rintro v3 w3 ⟨⟨A4,c4,rfl,hc4,hr4⟩,hb3⟩;refine hK.out _ _ hSS ?_;clear hK K had;(try simp only[zQ]);refine zT 12 hSS ?_;refine zp 13 fun K hK=>?_;(try simp only[zA,zB,zC]);go_simp;refine hK.out _ _ trivial ?_;clear hK K;(try simp only[zQ]);refine zd ?_;refine NoPanic.normal ?_;have HB3:=zh (zkb HB2.out hb3);have HR3:=zh (hr3.later hb3);have HR4:=zh hr4;clear hr3 hr4 hb3 hSS HI1 HI2 HB2 hq hmc uU hm0 h2i;obtain⟨n2,hn2⟩:=zX (n-m);rw[hn2]at HL2 hc4 ⊢;have qp:=zh (show n=m+n2 by omega);clear hn2 hm1 hm2;obtain⟨B3,hB3⟩:=zX (w3.heap.size)
  have HB0:=zh (show Below B3 w3 w3 from zr);have hI:=bSts;go_wp2_with fail
  go_loopw [5,3,4] (fun ov lv rv wr=>∃(Ao:Option Addr) (e co:Nat) (Al:Option Addr) (p cl:Nat) (Ar:Option Addr) (q cr:Nat) (acc ls rs:List SS),ov=.slice Ao e co/\lv=.slice Al p cl/\rv=.slice Ar q cr/\p<=cl/\q<=cr/\e+p+q=n/\Hid (acc.length=e/\ls.length=p/\rs.length=q)/\Hid (Below B3 w3 wr) /\
   Hid (zk7 wr B3 (fun b=>b<B3) (.slice Ao e co) acc)/\Hid (zk9 w3 Al ls)/\Hid (zk9 w3 Ar rs)/\Hid (acc++zkW ls rs=zkX ss)/\Hid ((∀s∈ls,SmC s)/\∀s∈rs,SmC s)) (fun ov _ _ _=>n-slN ov)
  case atStart=>exact⟨_,0,_,_,m,_,_,n2,_,[],L,R,rfl,rfl,rfl,hc3,hc4,by have:=qp.out;omega,zh ⟨rfl,iH.out,HL2.out⟩,HB0,zh (zk7.nil _ _ _),HR3,HR4,zh (by rw[HST.out];rfl),zh ⟨eF.out,HS2.out⟩⟩
  case round =>
   clear HR3 HR4 HST eF HS2 iH HL2 hc3 hc4 HB0 qp;obtain⟨Ao,e,co,Al,p,cl,Ar,q,cr,acc,ls,rs,rfl,rfl,rfl,hpc,hqc,hsum,bB,HB,yA,gT,HRR,HM,gQ⟩:=hrel;by_cases hpq:0<p/\0<q
   ·have hp0:(0:Int)<(p:Int):=by omega
    have hq0:(0:Int)<(q:Int):=by omega
    obtain⟨x,ls',rfl⟩:∃x l,ls=x::l:=by
     have:=bB.out.2.1
     cases ls with
     | nil=>simp at this;omega
     | cons x l=>exact⟨x,l,rfl⟩
    obtain⟨y,rs',rfl⟩:∃x l,rs=x::l:=by
     have:=bB.out.2.2
     cases rs with
     | nil=>simp at this;omega
     | cons x l=>exact⟨x,l,rfl⟩
    obtain⟨b1,o1,u1,v1,x1,rfl,h10,h11,h12,hs1⟩:=gT.out.head;obtain⟨b2,o2,u2,v2,x2,rfl,h20,h21,h22,hs2⟩:=HRR.out.head;have hsz:=HB.out.size;have HF:=zh (show ∀w',Below B3 w3 w'->c3R w' b2 o2 u2 v2 x2/\c3R w' b1 o1 u1 v1 x1 from fun w' h=>by
     rw[<-hB3]at h;exact⟨⟨zb h h20,zb h h21,zb h h22⟩,zb h h10,zb h h11,zb h h12⟩)
    have eF:=zh (show ∀w',Below B3 w3 w'->SV w' (fun b=>b<B3) x (.agg #[u1,v1,x1])from fun w' h=>by
     rw[<-hB3]at h ⊢;exact hs1.later h)
    have HS2:=zh (show ∀w',Below B3 w3 w'->SV w' (fun b=>b<B3) y (.agg #[u2,v2,x2])from fun w' h=>by
     rw[<-hB3]at h ⊢;exact hs2.later h)
    have HCM:=zh (fun w' (h:Below B3 w3 w')=>zrD y x (.agg #[u2,v2,x2]) (.agg #[u1,v1,x1]) w' (HS2.out _ h).any (eF.out _ h).any (gQ.out.2 y (by simp)) (gQ.out.1 x (by simp)));have qx:=zh (show acc++(if cmpE y x<0 then y::zkW (x::ls') rs' else x::zkW ls' (y::rs'))=zkX ss by have h:=HM.out;rw[zkW]at h;exact h);obtain⟨r,hr⟩:=zX (cmpE y x);rw[hr]at qx;simp only[hr]at HCM;clear hr h10 h11 h12 h20 h21 h22 hs1 hs2;go_upto_region 6 with fail;have hb1:=(HB.out.trans ((zs wr).drew.mono (by omega)))
    have hSS:zW (fun w':World=>c3R w' b2 o2 u2 v2 x2/\c3R w' b1 o1 u1 v1 x1) zU wr.drew:=⟨HF.out _ hb1,trivial⟩
    have had:Calls prog 92 [.agg #[u2,v2,x2],.agg #[u1,v1,x1]].toArray wr.drew fun e w'=>∃v,e=.returned v/\(v=.int .i64 r/\Below wr.drew.heap.size wr.drew w'):=(HCM.out _ hb1).mono fun e w' ⟨h1,h2⟩=>⟨_,h1,rfl,h2⟩
    refine wp_region_noPanic ?_;refine zG hSS 7 ?_;refine zT 0 hSS ?_;refine zT 1 hSS ?_;refine zT 2 hSS ?_;refine zT 3 hSS ?_;refine zT 4 hSS ?_;refine zT 5 hSS ?_;refine zo 6 fun K hK=>?_;refine zke (by rfl) (.func 92) [.tmp 32,.tmp 35] _ (by rfl) 92 _ zKF (by rfl) _ (by rfl) _ had ?_;rintro v5 w5 ⟨rfl,hb5⟩;have hb6:=hb1.trans (hb5.mono (by have:=hb1.size;omega));refine hK.out _ _ ⟨HF.out _ hb6,trivial⟩ ?_;clear hK K had hSS;(try simp only[zQ]);refine zp 7 fun K hK=>?_;(try simp only[zA,zB,zC]);go_simp;refine hK.out _ _ (HF.out _ hb6) ?_;clear hK K;(try simp only[zQ]);refine zd ?_;refine NoPanic.normal ?_;have aV:=zh hb6;have HRT6:=zh (yA.out.later (((zs wr).drew).trans (hb5.mono (zs wr).drew.size)));clear hb1 hb5 hb6 yA HCM;obtain⟨⟨g20,g21,g22⟩,g10,g11,g12⟩:=HF.out _ aV.out;by_cases hr:r<0
    ·have xu:=zh (show(acc++[y])++zkW (x::ls') rs'=zkX ss by have h:=qx.out;rw[if_pos hr]at h;simpa using h);have hD:∀w,(Instr.slice 27 (.slice (some ⟨b2,o2,none⟩) q cr) (some (.int .i64 1)) none none).run prog w=.ok (.slice (if cr=1 then(some ⟨b2,o2,none⟩:Option Addr)else(some ⟨b2,o2,none⟩:Option Addr).map (·.add (1*3))) (q-1) (cr-1)) w:=zq5 (some ⟨b2,o2,none⟩) q cr 1 (by omega);have HRR2:=zh (HRR.out.tail (c:=cr) (by have:=bB.out.2.2;simp at this;omega));obtain⟨A7,tY⟩:=zX ((if cr=1 then(some ⟨b2,o2,none⟩:Option Addr)else(some ⟨b2,o2,none⟩:Option Addr).map (·.add (1*3))));simp only[tY]at hD;rw[tY]at HRR2;clear tY;have h1c:=(HS2.out _ aV.out).one;obtain⟨xs,hown,eP,hpush⟩:=HRT6.out.many (W0:=w3) (we:=w5.alloc (.cells #[u2,v2,x2] 32)) (ys:=[y]) (us:=[(u2,v2,x2)]) bB.out.1 (fun _ h=>h) aV.out (by omega) rfl (zka zr _) (fun k hk hv=>by
      obtain rfl:k=0:=by simpa using hk
      exact(HS2.out _ aV.out).later (zka zr _)) (m:=1) rfl
     have iU:=zh hpush;clear hpush;clear eP;go_wp2_with (at_builtin;refine zki rfl (.tmp 38) (.tmp 42) rfl underlying27 zmp rfl (by decide) (by decide) B3 (.slice Ao e co) e xs rfl hown (some ⟨w5.heap.size,0,none⟩) 1 1 [u2,v2,x2] rfl rfl (fun e=>by cases e) (zmE w5 _ _ _ _) (one3 h1c) (by omega) (Nat.le_trans (by have:=aV.out.size;omega) (zka (zs w5) _).size) ?_;intro v9 w9 ho hg aj;obtain⟨A9,c9,rfl,bG,aF,bI⟩:=iU.out _ _ ho hg aj;clear ho hg aj)
     go_roundw
     case rel=>exact⟨A9,e+1,c9,_,p,cl,_,q-1,cr-1,acc++[y],x::ls',rs',rfl,rfl,rfl,hpc,by omega,by omega,zh (by have:=bB.out;simp at this ⊢;omega),aF,bI,gT,HRR2,xu,zh ⟨gQ.out.1,fun s h=>gQ.out.2 s (by simp[h])⟩⟩
     case measure=>simp[slN];omega
    ·have xu:=zh (show(acc++[x])++zkW ls' (y::rs')=zkX ss by have h:=qx.out;rw[if_neg hr]at h;simpa using h);have hD:∀w,(Instr.slice 27 (.slice (some ⟨b1,o1,none⟩) p cl) (some (.int .i64 1)) none none).run prog w=.ok (.slice (if cl=1 then(some ⟨b1,o1,none⟩:Option Addr)else(some ⟨b1,o1,none⟩:Option Addr).map (·.add (1*3))) (p-1) (cl-1)) w:=zq5 (some ⟨b1,o1,none⟩) p cl 1 (by omega);have HRL2:=zh (gT.out.tail (c:=cl) (by have:=bB.out.2.1;simp at this;omega));obtain⟨A7,tY⟩:=zX ((if cl=1 then(some ⟨b1,o1,none⟩:Option Addr)else(some ⟨b1,o1,none⟩:Option Addr).map (·.add (1*3))));simp only[tY]at hD;rw[tY]at HRL2;clear tY;have h1c:=(eF.out _ aV.out).one;obtain⟨xs,hown,eP,hpush⟩:=HRT6.out.many (W0:=w3) (we:=w5.alloc (.cells #[u1,v1,x1] 32)) (ys:=[x]) (us:=[(u1,v1,x1)]) bB.out.1 (fun _ h=>h) aV.out (by omega) rfl (zka zr _) (fun k hk hv=>by
      obtain rfl:k=0:=by simpa using hk
      exact(eF.out _ aV.out).later (zka zr _)) (m:=1) rfl
     have iU:=zh hpush;clear hpush;clear eP;go_wp2_with (at_builtin;refine zki rfl (.tmp 46) (.tmp 50) rfl underlying27 zmp rfl (by decide) (by decide) B3 (.slice Ao e co) e xs rfl hown (some ⟨w5.heap.size,0,none⟩) 1 1 [u1,v1,x1] rfl rfl (fun e=>by cases e) (zmE w5 _ _ _ _) (one3 h1c) (by omega) (Nat.le_trans (by have:=aV.out.size;omega) (zka (zs w5) _).size) ?_;intro v9 w9 ho hg aj;obtain⟨A9,c9,rfl,bG,aF,bI⟩:=iU.out _ _ ho hg aj;clear ho hg aj)
     go_roundw
     case rel=>exact⟨A9,e+1,c9,_,p-1,cl-1,_,q,cr,acc++[x],ls',y::rs',rfl,rfl,rfl,by omega,hqc,by omega,zh (by have:=bB.out;simp at this ⊢;omega),aF,bI,HRL2,HRR,xu,zh ⟨fun s h=>gQ.out.1 s (by simp[h]),gQ.out.2⟩⟩
     case measure=>simp[slN];omega
   ·have xu:=zh (show acc++ls++rs=zkX ss by
     have h:=HM.out;have hl:=bB.out;by_cases hp:p=0
     ·obtain rfl:ls=[]:=List.eq_nil_of_length_eq_zero (by omega);rw[zmI]at h;simpa using h
     ·obtain rfl:rs=[]:=List.eq_nil_of_length_eq_zero (by omega);rw[zmg]at h;simpa using h)
    have HRT2:=yA;have hsz:=HB.out.size;obtain⟨us,lh,hun0,dS⟩:=gT.out.vals;have hun:∀ad,Al=some ad->∀j u,(zk1 us)[j]?=some u->wr.cell? (ad.add j)=some u:=fun ad h j u hj=>zb (hB3▸HB.out) (hun0 ad h j u hj);have sw:∀k (hk:k<ls.length) (hv:k<us.length),SV wr (fun b=>b<B3) ls[k] (.agg #[us[k].1,us[k].2.1,us[k].2.2]):=fun k hk hv=>by
     have h:=dS k hk hv;rw[hB3]at h;exact h.later (hB3▸HB.out)
    obtain⟨ut,htl,htn0,hts⟩:=HRR.out.vals;have wY:=zh (show ∀w',Below B3 w3 w'->∀ad,Ar=some ad->∀j u,(zk1 ut)[j]?=some u->w'.cell? (ad.add j)=some u from fun w' hw ad h j u hj=>zb (hB3▸hw) (htn0 ad h j u hj));have yw:=zh (show ∀w',Below B3 w3 w'->∀k (hk:k<rs.length) (hv:k<ut.length),SV w' (fun b=>b<B3) rs[k] (.agg #[ut[k].1,ut[k].2.1,ut[k].2.2])from fun w' hw k hk hv=>by
     have h:=hts k hk hv;rw[hB3]at h;exact h.later (hB3▸hw))
    obtain⟨xs,hown,eP,hpush⟩:=yA.out.many (W0:=w3) (we:=wr) (ys:=ls) (us:=us) bB.out.1 (fun _ h=>h) HB.out (by omega) lh zr sw (m:=p) bB.out.2.1;have iU:=zh hpush;have hun1:=zrJ lh sw;have hut1:=zrJ htl hts;have hul3:(zk1 us).length=p*3:=by rw[zqD,lh,bB.out.2.1]
    have hut3:(zk1 ut).length=q*3:=by rw[zqD,htl,bB.out.2.2]
    have hnL:Al=none->p=0:=fun h=>by rw[<-bB.out.2.1];exact gT.out.nilA h
    have hnR:Ar=none->q=0:=fun h=>by rw[<-bB.out.2.2];exact HRR.out.nilA h
    have HPQ:=zh (show ∀A9 c9 w9,Below B3 w3 w9->zk7 w9 B3 (fun b=>b<B3) (.slice A9 (e+p) c9) (acc++ls)->∃xs,w9.ownsRow B3 32 3 (.slice A9 (e+p) c9) (e+p) xs/\B3<=w9.heap.size/\∀v' w',w'.ownsRow B3 32 3 v' (e+p+q) (xs++zk1 ut)->w9.grownBy w' (Value.slice A9 (e+p) c9).ownBlock->(v'.ownBlock=(Value.slice A9 (e+p) c9).ownBlock\/v'.ownBlock=some w9.heap.size) ->
      ∃A' c',v'=.slice A' (e+p+q) c'/\e+p+q<=c'/\Hid (Below B3 w3 w')/\Hid (zk7 w' B3 (fun b=>b<B3) (.slice A' (e+p+q) c') (acc++ls++rs))from fun A9 c9 w9 aU lq =>
     lq.many (W0:=w3) (we:=w9) (ys:=rs) (us:=ut) (by have:=bB.out;simp;omega) (fun _ h=>h) aU (by omega) htl zr (yw.out _ aU) (m:=q) bB.out.2.2)
    clear hpush dS sw lh htl hts hun0 htn0 gQ HM HRT2;have hpb:e+p<=1000000:=by omega
    have hqb:e+p+q<=1000000:=by omega
    have aS:=zh (show ∀A9 c9 w9,Hid (Below B3 w3 w9)->Hid (zk7 w9 B3 (fun b=>b<B3) (.slice A9 (e+p+q) c9) (acc++ls++rs))->e+p+q<=c9->(∃A' c',Value.slice A9 (e+p+q) c9=.slice A' n c'/\n<=c'/\zk9 w9 A' (zkX ss))/\Below w.heap.size w w9 from fun A9 c9 w9 h1 h2 h3=>by
     rw[xu.out]at h2;obtain⟨A1,c1,e1,-,h4⟩:=h2.out.sa;injection e1 with e1 e2 e3;subst e1;refine⟨⟨A9,c9,by rw[hsum],by omega,h4⟩,zkb HB3.out (hB3▸h1.out)⟩)
    by_cases hp0:0<p
    ·have hpi:(0:Int)<(p:Int):=by omega
     have hqi:¬ (0:Int)<(q:Int):=by omega
     go_wp2_with (at_builtin;first
      | (refine zki rfl (.tmp 54) (.tmp 55) rfl underlying27 zmp rfl (by decide) (by decide) B3 (.slice Ao e co) e xs rfl hown Al p cl (zk1 us) rfl hul3 hnL hun hun1 hpb eP ?_;intro v9 w9 ho hg aj;obtain⟨A9,c9,rfl,bG,aF,bI⟩:=iU.out _ _ ho hg aj;clear ho hg aj;obtain⟨xN,dZ,ji,dY⟩:=HPQ.out _ _ _ aF.out bI.out;have kR:=zh dY;clear dY;have sD:=wY.out _ aF.out)
      | (refine zki rfl (.tmp 56) (.tmp 57) rfl underlying27 zmp rfl (by decide) (by decide) B3 (.slice A9 (e+p) c9) (e+p) xN rfl dZ Ar q cr (zk1 ut) rfl hut3 hnR sD hut1 hqb ji ?_;intro v8 w8 ho hg aj;obtain⟨A8,c8,rfl,hc8,eH,gU⟩:=kR.out _ _ ho hg aj;clear ho hg aj))
     go_ret;exact⟨_,rfl,by have h:=aS.out _ _ _ eH gU hc8;rw[hsum]at h;exact h⟩
    ·have hpi:¬ (0:Int)<(p:Int):=by omega
     go_wp2_with (at_builtin;first
      | (refine zki rfl (.tmp 54) (.tmp 55) rfl underlying27 zmp rfl (by decide) (by decide) B3 (.slice Ao e co) e xs rfl hown Al p cl (zk1 us) rfl hul3 hnL hun hun1 hpb eP ?_;intro v9 w9 ho hg aj;obtain⟨A9,c9,rfl,bG,aF,bI⟩:=iU.out _ _ ho hg aj;clear ho hg aj;obtain⟨xN,dZ,ji,dY⟩:=HPQ.out _ _ _ aF.out bI.out;have kR:=zh dY;clear dY;have sD:=wY.out _ aF.out)
      | (refine zki rfl (.tmp 56) (.tmp 57) rfl underlying27 zmp rfl (by decide) (by decide) B3 (.slice A9 (e+p) c9) (e+p) xN rfl dZ Ar q cr (zk1 ut) rfl hut3 hnR sD hut1 hqb ji ?_;intro v8 w8 ho hg aj;obtain⟨A8,c8,rfl,hc8,eH,gU⟩:=kR.out _ _ ho hg aj;clear ho hg aj))
     go_ret;exact⟨_,rfl,by have h:=aS.out _ _ _ eH gU hc8;rw[hsum]at h;exact h⟩
end
section
open Go Go.RowKit
theorem zqe(a b:Int)(w:World)(ha:1<=a/\a<=1099511627777)(hb:1<=b/\b<=1099511627777):Calls prog 89 #[.int .i64 a,.int .i64 b] w fun e w'=>e=.returned (.int .i64 (timR a b))/\w'=w:=by
 have e0:(a != 0)=true:=by simp;omega
 have e1:(a==0)=false:=by simp;omega
 have hq:=Int.tdiv_eq_ediv_of_nonneg (a:=1099511627776) (b:=a) (by decide);have hq2:0<=(1099511627776:Int) / a/\(1099511627776:Int) / a<=1099511627776:=⟨Int.ediv_nonneg (by decide) (by omega),Int.ediv_le_self _ (by decide)⟩
 have hw:IntKind.i64.wrap ((1099511627776:Int).tdiv a)=(1099511627776:Int).tdiv a:=IntWalk.i64_in _ (by rw[hq];omega);by_cases h:(1099511627776:Int).tdiv a<b
 ·have HT:=zh (show timR a b=1099511627777 by unfold timR;rw[if_pos ⟨by omega,h⟩]);clear hq hq2;go_enter func89,ntmps89;go_wp2_with fail;go_ret;exact⟨by rw[HT.out];rfl,rfl⟩
 ·have HT:=zh (show timR a b=a*b by unfold timR;rw[if_neg fun h2=>h h2.2]);have hm:IntKind.i64.wrap (a*b)=a*b:=IntWalk.i64_in _ (by have:=zpw ha hb;rw[HT.out]at this;omega);clear hq hq2;go_enter func89,ntmps89;go_wp2_with fail;go_ret;exact⟨by rw[HT.out];rfl,rfl⟩
theorem zqt(b:Int)(n:Nat)(w:World)(hb:1<=b/\b<=2001)(hn:n<=1000):Calls prog 90 #[.int .i64 b,.int .i64 (n:Int)] w fun e w'=>e=.returned (.int .i64 (powR b n))/\w'=w:=by
 have HT:=zh (fun i w'=>zqe (powR b i) b w' (zmd hb i) (by omega));have HB:=zh hb;clear hb;go_enter func90,ntmps90;go_wp2_with fail
 go_loopw [6,5] (fun i s wr=>∃j:Nat,j<=n/\i=.int .i64 j/\s=.int .i64 (powR b j)/\wr=w) (fun i _ _=>n-(intOf i).toNat)
 case atStart=>exact⟨0,by omega,rfl,rfl,rfl⟩
 case round =>
  obtain⟨j,hj,rfl,rfl,rfl⟩:=hrel;by_cases hlt:j<n
  ·have hj1:(j:Int)<(n:Int):=by omega
   have hj0:(0:Int)<=(j:Int):=by omega
   go_wp2_with fail;refine(HT.out j _).mono ?_;rintro e w1 ⟨rfl,rfl⟩;go_wp2_with fail
   go_roundw
   case rel=>exact⟨j+1,by omega,by go_num,rfl,trivial⟩
   case measure=>simp[intOf];omega
  ·obtain rfl:j=n:=by omega
   have hj1:¬ (j:Int)<(j:Int):=by omega
   go_wp2_with fail;go_ret;simp
theorem zvR(b:Int)(n:Nat)(w:World)(hb:1<=b/\b<=2001)(hn:n<=1000):Calls prog 88 #[.int .i64 b,.int .i64 (n:Int)] w fun e w'=>e=.returned (.int .i64 (upR b n))/\w'=w:=by
 have HT:=zh (fun i w' (hi:i<=1000)=>zqt b i w' hb hi);have HB:=zh hb;clear hb;go_enter func88,ntmps88;go_wp2_with fail
 go_loopw [6,5] (fun i s wr=>∃(j:Nat) (x:Int),j<=n+1/\i=.int .i64 j/\s=.int .i64 x/\(0<=x/\x<=1099511627776)/\wr=w/\Hid (upR b n=upA b x ((List.range (n+1)).drop j))) (fun i _ _=>n+1-(intOf i).toNat)
 case atStart=>exact⟨0,0,by omega,rfl,rfl,by omega,rfl,zh rfl⟩
 case round =>
  obtain⟨j,x,hj,rfl,rfl,hx,rfl,HU⟩:=hrel;by_cases hlt:j<=n
  ·have hj1:(j:Int)<=(n:Int):=by omega
   have hj0:(0:Int)<=(j:Int):=by omega
   go_wp2_with fail;refine(HT.out j _ (by omega)).mono ?_;rintro e w1 ⟨rfl,rfl⟩;have hp:=zmd HB.out j;obtain⟨y,hy⟩:=zX (powR b j);have HU2:=zh (show upR b n=if 1099511627776<x+y then 1099511627777 else upA b (x+y) ((List.range (n+1)).drop (j+1)) by
    rw[HU.out,List.drop_eq_getElem_cons (by simp;omega),List.getElem_range,upA,hy])
   rw[hy]at hp ⊢;have hw:IntKind.i64.wrap (x+y)=x+y:=IntWalk.i64_in _ (by omega);by_cases hg:1099511627776<x+y
   ·go_wp2_with fail;go_ret;exact⟨by rw[HU2.out,if_pos hg];rfl,rfl⟩
   ·go_wp2_with fail
    go_roundw
    case rel=>exact⟨j+1,x+y,by omega,by go_num,rfl,by omega,trivial,zh (by rw[HU2.out,if_neg (by omega)])⟩
    case measure=>simp[intOf];omega
  ·obtain rfl:j=n+1:=by omega
   have hj1:¬ ((n+1:Nat):Int)<=(n:Int):=by omega
   go_wp2_with fail;go_ret;exact⟨by rw[HU.out,List.drop_eq_nil_of_le (by simp)];rfl,rfl⟩
theorem zsD{v:VD}(h:vdB v=true):(v.k=1/\v.n=0)\/(v.k=2/\1<=v.n/\v.n<=16)\/(v.k=3/\v.n=0):=by
 unfold vdB at h;by_cases h1:v.k=1\/v.k=3
 ·rw[if_pos h1]at h;have h:=eq_of_beq h;rcases h1 with h1|h1
  ·exact .inl ⟨h1,h⟩
  ·exact .inr (.inr ⟨h1,h⟩)
 ·rw[if_neg h1]at h;by_cases h2:v.k=2
  ·rw[if_pos h2]at h;exact .inr (.inl ⟨h2,of_decide_eq_true h⟩)
  ·rw[if_neg h2]at h;cases h
theorem zqh{vs:List VD}(h:svB vs=true):vs.length<=32/\∀v∈vs,vdB v=true:=by
 unfold svB at h;simp only[Bool.and_eq_true,decide_eq_true_eq,List.all_eq_true]at h;exact h
theorem zta(vs:List VD)(b:BX)(A:Option Addr)(c:Nat)(w:World)(hr:RowV w Any A vs)(hok:(b.ok&&svB vs)=true) :
  Calls prog 43 #[.slice A vs.length c,.int .i64 b.v,.int .i64 b.l,.int .i64 b.i] w fun e w'=>e=.returned (.int .i64 (cntF vs b))/\w'=w:=by
 simp only[Bool.and_eq_true]at hok;have hb:=zld hok.1;obtain⟨hn,hvd⟩:=zqh hok.2;have HB:=zh hb;have HV:=zh hvd;have HC:=zh (fun i (hi:i<=vs.length)=>zn4 hok.1 (vs.take i));obtain⟨V,hV⟩:=zX (b.v);obtain⟨nl,hnl⟩:∃nl:Nat,b.l=(nl:Int):=⟨b.l.toNat,by omega⟩
 obtain⟨ni,hni⟩:∃ni:Nat,b.i=(ni:Int):=⟨b.i.toNat,by omega⟩
 have dW:=zh (And.intro hV (And.intro hnl hni));have vB:=zh (fun n w' (h:n<=1000)=>zvR (2*V+1) n w' (by omega) h);have yE:=zh (fun n w' (h:n<=1000)=>zqt (2*V+1) n w' (by omega) h);have Bp:=zh (fun i v w' (hi:i<=vs.length)=>zqe (cntF (vs.take i) b) (cnt1 b v) w' (zn4 hok.1 (vs.take i)) (zn5 hb.1 v));have rq:=zh (fun i (hi:i<vs.length)=>znj (b:=b) hi);have lT:=zh (fun v=>show cnt1 b v=if v.k=1 then 2*V+1 else if v.k=2 then powR (2*V+1) v.n.toNat else upR (2*V+1) nl by unfold cnt1;rw[hV,hnl];rfl);have bC:=zh (show cntF (vs.take 0) b=upR (2*V+1) ni by unfold cntF;rw[hV,hni];rfl);have e1:IntKind.i64.wrap (2*V)=2*V:=IntWalk.i64_in _ (by omega);have e2:IntKind.i64.wrap (2*V+1)=2*V+1:=IntWalk.i64_in _ (by omega);have sJ:nl<=1000:=by omega
 have sK:ni<=1000:=by omega
 have HR:=zh hr;have HT:=zh (show cntF (vs.take vs.length) b=cntF vs b by rw[List.take_length]);obtain⟨CF,hCF⟩:∃CF:Nat->Int,∀i,cntF (vs.take i) b=CF i:=⟨fun i=>cntF (vs.take i) b,fun _=>rfl⟩
 simp only[hCF]at HC Bp rq bC HT;rw[<-HT.out,hV,hnl,hni];obtain⟨C1,cZ⟩:∃C1:VD->Int,∀v,cnt1 b v=C1 v:=⟨fun v=>cnt1 b v,fun _=>rfl⟩
 simp only[cZ]at Bp rq lT;clear hok hb hvd hr hV hnl hni hCF cZ;obtain⟨n,hn'⟩:=zX (vs.length);have HN:=zh hn';rw[hn']at hn ⊢;clear hn';go_enter func43,ntmps43;go_wp2_with fail;refine(vB.out ni w sK).mono ?_;rintro e w1 ⟨rfl,rfl⟩;rw[<-bC.out];go_wp2_with fail
 go_loopw [10,9] (fun i s wr=>∃j:Nat,j<=n/\i=.int .i64 j/\s=.int .i64 (CF j)/\wr=w1) (fun i _ _=>n-(intOf i).toNat)
 case atStart=>exact⟨0,by omega,rfl,rfl,rfl⟩
 case round =>
  obtain⟨j,hj,rfl,rfl,rfl⟩:=hrel;by_cases hlt:j<n
  ·have hj1:(j:Int)<(n:Int):=by omega
   have hj0:(0:Int)<=(j:Int):=by omega
   have di:j<vs.length:=by rw[HN.out];exact hlt
   obtain⟨a,v,rfl,-,hv,⟨x0,x1,x2⟩,-⟩:=HR.out.nd di;have hvb:=zsD (HV.out _ (List.getElem_mem di));have nT:=Bp.out j v wr (by omega);have htk:=rq.out j di;have hc1:=lT.out v;rw[hv.out]at hvb htk;rw[<-htk]at nT;clear htk hv di;obtain⟨v0,v1,v2⟩:=v;simp only at x0 x1 x2 hvb hc1;rcases hvb with⟨rfl,rfl⟩|⟨rfl,hn1,hn2⟩|⟨rfl,rfl⟩
   ·rw[if_pos rfl]at hc1;rw[hc1]at nT;have mR:=zh nT;clear nT hc1;go_wp2_with fail;refine mR.out.mono ?_;rintro e w2 ⟨rfl,rfl⟩;go_wp2_with fail
    go_roundw
    case rel=>exact⟨j+1,by omega,by go_num,rfl,trivial⟩
    case measure=>simp[intOf];omega
   ·rw[if_neg (by decide),if_pos rfl]at hc1;obtain⟨m,rfl⟩:∃m:Nat,v2=(m:Int):=⟨v2.toNat,by omega⟩
    rw[show((m:Int)).toNat=m from rfl]at hc1;have hm:m<=1000:=by omega
    rw[hc1]at nT;have mR:=zh nT;clear nT hc1;go_wp2_with fail;refine(yE.out m wr hm).mono ?_;rintro e w2 ⟨rfl,rfl⟩;go_wp2_with fail;refine mR.out.mono ?_;rintro e w2 ⟨rfl,rfl⟩;go_wp2_with fail
    go_roundw
    case rel=>exact⟨j+1,by omega,by go_num,rfl,trivial⟩
    case measure=>simp[intOf];omega
   ·rw[if_neg (by decide),if_neg (by decide)]at hc1;rw[hc1]at nT;have mR:=zh nT;clear nT hc1;go_wp2_with fail;refine(vB.out nl wr sJ).mono ?_;rintro e w2 ⟨rfl,rfl⟩;go_wp2_with fail;refine mR.out.mono ?_;rintro e w2 ⟨rfl,rfl⟩;go_wp2_with fail
    go_roundw
    case rel=>exact⟨j+1,by omega,by go_num,rfl,trivial⟩
    case measure=>simp[intOf];omega
  ·obtain rfl:j=n:=by omega
   have hj1:¬ (j:Int)<(j:Int):=by omega
   go_wp2_with fail;go_ret;exact⟨rfl,rfl⟩
theorem zvQ{v:VD}(h:(v.k=1/\v.n=0)\/(v.k=2/\1<=v.n/\v.n<=16)\/(v.k=3/\v.n=0)):vdB v=true:=by
 unfold vdB;rcases h with⟨h1,h2⟩|⟨h1,h2⟩|⟨h1,h2⟩
 ·rw[if_pos (.inl h1),h2];rfl
 ·rw[if_neg (by omega),if_pos h1];exact decide_eq_true h2
 ·rw[if_pos (.inr h1),h2];rfl
theorem ztw{v:VD}(h:¬ ((v.k=1/\v.n=0)\/(v.k=2/\1<=v.n/\v.n<=16)\/(v.k=3/\v.n=0))):vdB v=false:=by
 cases e:vdB v with
 | false=>rfl
 | true=>exact absurd (zsD e) h
theorem zx8{vs:List VD}{i:Nat}(hi:i<vs.length)(h:vdB vs[i]=false):svB vs=false:=by
 cases e:svB vs with
 | false=>rfl
 | true=>rw[(zqh e).2 _ (List.getElem_mem hi)]at h;cases h
theorem zx9{vs:List VD}{n:Nat}(hn:vs.length=n)(h32:n<=32)(h:∀i (hi:i<vs.length),vdB vs[i]=true):svB vs=true:=by
 unfold svB;simp only[Bool.and_eq_true,decide_eq_true_eq,List.all_eq_true];exact⟨by omega,fun v hv=>by obtain⟨i,hi,rfl⟩:=List.mem_iff_getElem.1 hv;exact h i hi⟩
theorem zyp{b:BX}(h:((0<=b.v/\b.v<=1000)/\(0<=b.l/\b.l<=1000)/\0<=b.i/\b.i<=1000)):b.ok=true:=by
 simp only[BX.ok,okI,Bool.and_eq_true,decide_eq_true_eq];omega
theorem zwi{b:BX}(h:¬ ((0<=b.v/\b.v<=1000)/\(0<=b.l/\b.l<=1000)/\0<=b.i/\b.i<=1000)):b.ok=false:=by
 cases e:b.ok with
 | false=>rfl
 | true=>exact absurd (zld e) h
theorem zs9(vs:List VD)(b:BX)(A:Option Addr)(c:Nat)(w:World)(hr:RowV w Any A vs)(hl:vs.length<=LV) :
  Calls prog 42 #[.slice A vs.length c,.int .i64 b.v,.int .i64 b.l,.int .i64 b.i] w fun e w'=>e=.returned (.bool (b.ok&&svB vs))/\Below w.heap.size w w':=by
 have hl1:=zlc hl;have HR:=zh hr;obtain⟨RR,hRR⟩:=zX ((b.ok&&svB vs));have HRR:=zh hRR;rw[hRR];obtain⟨V,hV⟩:=zX (b.v);obtain⟨L,hL⟩:=zX (b.l);obtain⟨I,hI⟩:=zX (b.i);have HKT:=zh (fun h=>zyp (b:=b) h);have jE:=zh (fun h=>zwi (b:=b) h);have kK:=zh (fun(n:Nat)=>zx9 (vs:=vs) (n:=n));rw[hV,hL,hI]at HKT jE ⊢;clear hr hl hRR hV hL hI;obtain⟨n,hn⟩:=zX (vs.length);have HN:=zh hn;rw[hn]at hl1 ⊢;clear hn;go_enter func42,ntmps42;by_cases h32:32<n
 ·have h32i:(32:Int)<(n:Int):=by omega
  go_wp2_with fail;go_ret;exact⟨by rw[<-HRR.out,show svB vs=false by { cases e:svB vs with|false=>rfl|true=>have:=(zqh e).1;have:=HN.out;omega },Bool.and_false];rfl,zr⟩
 have h32i:¬ (32:Int)<(n:Int):=by omega
 go_wp2_with fail
 go_loopw [9] (fun i wr=>∃j:Nat,j<=n/\i=.int .i64 j/\Hid (Below w.heap.size w wr)/\Hid (∀i (hi:i<vs.length),i<j->vdB vs[i]=true)) (fun i _=>n-(intOf i).toNat)
 case atStart=>exact⟨0,by omega,rfl,zh zr,zh fun i _ h=>by omega⟩
 case round =>
  obtain⟨j,hj,rfl,ah,HE⟩:=hrel;by_cases hlt:j<n
  ·have hj1:(j:Int)<(n:Int):=by omega
   have hj0:(0:Int)<=(j:Int):=by omega
   have di:j<vs.length:=by rw[HN.out];exact hlt
   obtain⟨a,v,rfl,-,hv,⟨x0,x1,x2⟩,hfl⟩:=(HR.out.later ah.out).nd di;have Bg:=zh (fun h=>(congrArg vdB hv.out).trans (zvQ (v:=v) h));have mQ:=zh (fun h=>zx8 di ((congrArg vdB hv.out).trans (ztw (v:=v) h)));have HJ:=zh di;obtain⟨v0,v1,v2⟩:=v;have hk:=hfl.2.1;simp only at x0 x1 x2 Bg mQ hk;have hk1:=heap_alloc_new wr (.cells #[.string v0,.int .u8 v1,.int .i64 v2] 57);have rO:=zh (zka ah.out (.cells #[.string v0,.int .u8 v1,.int .i64 v2] 57));obtain⟨wm,vY⟩:=zX (wr.alloc (.cells #[.string v0,.int .u8 v1,.int .i64 v2] 57));rw[vY]at hk1 rO;obtain⟨y0,y1,y2⟩:=zky hk1;clear hv hfl hk1;by_cases c1:v1<1
   ·go_wp2_with fail;go_ret;exact⟨by rw[<-HRR.out,mQ.out (by omega),Bool.and_false];rfl,rO.out⟩
   by_cases c2:3<v1
   ·go_wp2_with fail;go_ret;exact⟨by rw[<-HRR.out,mQ.out (by omega),Bool.and_false];rfl,rO.out⟩
   by_cases c3:v1=2
   ·subst c3;by_cases c4:v2<1
    ·go_wp2_with fail;go_ret;exact⟨by rw[<-HRR.out,mQ.out (by omega),Bool.and_false];rfl,rO.out⟩
    by_cases c5:16<v2
    ·go_wp2_with fail;go_ret;exact⟨by rw[<-HRR.out,mQ.out (by omega),Bool.and_false];rfl,rO.out⟩
    go_wp2_with fail
    go_roundw
    case rel =>
     refine⟨j+1,by omega,by go_num,rO,zh fun i hi hij=>?_⟩;by_cases e:i<j
     ·exact HE.out i hi e
     ·obtain rfl:i=j:=by omega
      exact Bg.out (by omega)
    case measure=>simp[intOf];omega
   ·have c3b:(v1==2)=false:=by simpa using c3
    have c3c:(v1 != 2)=true:=by simpa using c3
    by_cases c4:v2=0;rotate_left 1
    ·have c4b:(v2 != 0)=true:=by simpa using c4
     go_wp2_with fail;go_ret;exact⟨by rw[<-HRR.out,mQ.out (by omega),Bool.and_false];rfl,rO.out⟩
    ·have c4b:(v2 != 0)=false:=by simpa using c4
     have vS:=zh c4;clear c4;go_wp2_with fail
     go_roundw
     case rel =>
      refine⟨j+1,by omega,by go_num,rO,zh fun i hi hij=>?_⟩;by_cases e:i<j
      ·exact HE.out i hi e
      ·obtain rfl:i=j:=by omega
       exact Bg.out (by have:=vS.out;omega)
     case measure=>simp[intOf];omega
  ·obtain rfl:j=n:=by omega
   have hj1:¬ (j:Int)<(j:Int):=by omega
   by_cases g1:0<=V;rotate_left 1
   ·go_wp2_with fail;go_ret;exact⟨by rw[<-HRR.out,show b.ok=false from jE.out (by omega)];rfl,ah.out⟩
   by_cases g2:V<=1000;rotate_left 1
   ·go_wp2_with fail;go_ret;exact⟨by rw[<-HRR.out,show b.ok=false from jE.out (by omega)];rfl,ah.out⟩
   by_cases g3:0<=L;rotate_left 1
   ·go_wp2_with fail;go_ret;exact⟨by rw[<-HRR.out,show b.ok=false from jE.out (by omega)];rfl,ah.out⟩
   by_cases g4:L<=1000;rotate_left 1
   ·go_wp2_with fail;go_ret;exact⟨by rw[<-HRR.out,show b.ok=false from jE.out (by omega)];rfl,ah.out⟩
   by_cases g5:0<=I;rotate_left 1
   ·go_wp2_with fail;go_ret;exact⟨by rw[<-HRR.out,show b.ok=false from jE.out (by omega)];rfl,ah.out⟩
   by_cases g6:I<=1000;rotate_left 1
   ·go_wp2_with fail;go_ret;exact⟨by rw[<-HRR.out,show b.ok=false from jE.out (by omega)];rfl,ah.out⟩
   go_wp2_with fail;go_ret;exact⟨by rw[<-HRR.out,show b.ok=true from HKT.out (by omega),kK.out _ HN.out (by omega) fun i hi=>HE.out i hi (by have:=HN.out;omega)];rfl,ah.out⟩
def GdL(l:List Int):Prop:=l.length<=1000/\∀e∈l,-1000<=e/\e<=1000
def GdS(k:Nat)(s:SS):Prop:=s.cells.length<=k/\(∀l∈s.cells,GdL l)/\GdL s.tin/\s.tout=[]
theorem zv8{v x:Int}(h:x∈rngZ v) : -v<=x/\x<=v:=by
 unfold rngZ at h;obtain⟨i,hi,rfl⟩:=List.mem_map.1 h;rw[List.mem_range]at hi;omega
theorem zrK{v x:Int}:∀ {n:Nat} {l:List Int},l∈tupE v n->x∈l -> -v<=x/\x<=v
 | 0,l,h,hx=>by
  rw[tupE,List.mem_singleton]at h;subst h;simp at hx
 | n+1,l,h,hx=>by
  rw[tupE]at h;obtain⟨t,ht,h⟩:=List.mem_flatMap.1 h;obtain⟨y,hy,rfl⟩:=List.mem_map.1 h;rcases List.mem_append.1 hx with hx|hx
  ·exact zrK ht hx
  ·rw[List.mem_singleton]at hx;subst hx;exact zv8 hy
theorem zpZ{v:Int}{a m:Nat}(hv:0<=v/\v<=1000)(hm:m<=1000){l:List Int}(h:l∈betE v a m):GdL l:=by
 unfold betE at h;obtain⟨i,hi,h⟩:=List.mem_flatMap.1 h;rw[List.mem_range]at hi;exact⟨by rw[zl3 h];omega,fun e he=>by have:=zrK h he;omega⟩
theorem zys{b:BX}{v:VD}(hb:b.ok=true)(hv:vdB v=true){l:List Int}(h:l∈lstE b v):GdL l:=by
 have hk:=zld hb;unfold lstE at h
 split at h
 ·exact zpZ hk.1 (by omega) h
 ·split at h
  ·have:=zsD hv;exact zpZ hk.1 (by omega) h
  ·exact zpZ hk.1 (by omega) h
def nwS(n j:Nat)(s:SS)(x:List Int):SS:=if j=n then⟨s.cells,x,[]⟩else⟨s.cells++[x],[],[]⟩
def lsJ(vs:List VD)(b:BX)(j:Nat):List (List Int):=if h:j<vs.length then lstE b vs[j]else betE b.v 0 b.i.toNat
def stJ(vs:List VD)(b:BX)(j:Nat):List SS:=if j<=vs.length then stgF b (vs.take j)else allU vs b
theorem zrR{vs:List VD}{b:BX}{j:Nat}(h:j<=vs.length):stJ vs b (j+1)=(stJ vs b j).flatMap fun s=>(lsJ vs b j).map (nwS vs.length j s):=by
 unfold stJ lsJ;rw[if_pos h];by_cases hj:j<vs.length
 ·rw[if_pos (by omega),dif_pos hj,zqj hj];unfold stg nwS;simp only[show ¬ j=vs.length by omega,if_false]
 ·obtain rfl:j=vs.length:=by omega
  rw[if_neg (by omega),dif_neg hj,List.take_length];unfold allU nwS;simp only[if_true]
theorem zv1(vs:List VD)(b:BX):stJ vs b (vs.length+1)=allU vs b:=by
 unfold stJ;rw[if_neg (by omega)]
theorem zyc{vs:List VD}{b:BX}(h:RefB vs b)(j:Nat):(stJ vs b j).length<=60:=by
 unfold stJ
 split
 ·exact(h.st j ‹_›).2
 ·exact h.all.2
theorem zyt{vs:List VD}{b:BX}(h:RefB vs b)(j:Nat):(lsJ vs b j).length<=60:=by
 unfold lsJ
 split
 ·exact(h.one j ‹_›).2
 ·exact h.inp.2
theorem zxE{vs:List VD}{b:BX}(hb:b.ok=true)(hv:svB vs=true){j:Nat}{l:List Int}(h:l∈lsJ vs b j):GdL l:=by
 unfold lsJ at h
 split at h
 ·exact zys hb ((zqh hv).2 _ (List.getElem_mem _)) h
 ·have hk:=zld hb;exact zpZ hk.1 (by omega) h
theorem zxC{n j k:Nat}{s:SS}{x:List Int}(hs:GdS k s)(hx:GdL x):GdS (k+1) (nwS n j s x):=by
 unfold nwS
 split
 ·exact⟨Nat.le_succ_of_le hs.1,hs.2.1,hx,rfl⟩
 ·refine⟨by simp;exact hs.1,fun l hl=>?_,⟨by simp,fun e he=>by simp at he⟩,rfl⟩;rcases List.mem_append.1 hl with hl|hl
  ·exact hs.2.1 l hl
  ·rw[List.mem_singleton]at hl;subst hl;exact hx
theorem zxB{vs:List VD}{b:BX}(hb:b.ok=true)(hv:svB vs=true):∀ {j:Nat},j<=vs.length+1->∀s∈stJ vs b j,GdS j s
 | 0,_,s,h=>by
  unfold stJ at h;rw[if_pos (Nat.zero_le _)]at h;simp[stgF]at h;subst h;exact⟨by simp[nilS],by simp[nilS],⟨by simp[nilS],by simp[nilS]⟩,rfl⟩
 | j+1,hj,s,h=>by
  rw[zrR (by omega)]at h;obtain⟨t,ht,h⟩:=List.mem_flatMap.1 h;obtain⟨x,hx,rfl⟩:=List.mem_map.1 h;exact zxC (zxB hb hv (by omega) t ht) (zxE hb hv hx)
theorem GdS.sm{k:Nat}{s:SS}(h:GdS k s)(hk:k<=98):SmC s :=
 ⟨by have:=h.1;omega,fun l hl=>by
  simp only[lisS,List.mem_append,List.mem_cons,List.not_mem_nil,or_false]at hl;have hg:GdL l:=by
   rcases hl with hl|rfl|rfl
   ·exact h.2.1 l hl
   ·exact h.2.2.1
   ·rw[h.2.2.2];exact⟨by simp,fun e he=>by simp at he⟩
  exact⟨hg.1,fun e he=>by have:=hg.2 e he;omega⟩⟩
theorem GdS.lim{k:Nat}{s:SS}(h:GdS k s)(hk:k<=98):s.Lim :=
 ⟨by have:=h.1;unfold LI;omega,fun l hl=>by have:=(h.2.1 l hl).1;unfold LI;omega,by have:=h.2.2.1.1;unfold LI;omega,by rw[h.2.2.2];unfold LI;simp⟩
theorem zlo.vals{w:World}{S:Nat->Prop}{A:Option Addr}{ls:List (List Int)}(h:zlo w S A ls):∃us:List Value,us.length=ls.length/\(A=none->ls.length=0)/\(∀ad,A=some ad->∀j u,us[j]?=some u->w.cell? (ad.add j)=some u)/\(∀u∈us,u.oneCell'=true) /\
  ∀k (hk:k<ls.length) (hv:k<us.length),∃A c,us[k]=.slice A ls[k].length c/\ls[k].length<=c/\RowI w S A ls[k]:=by
 have h0:∀i:Nat,∃u:Value,i<ls.length->∃(hi:i<ls.length) (a:Addr) (A':Option Addr) (c':Nat),A=some a/\u=.slice A' ls[i].length c'/\w.cell? (a.add i)=some u/\ls[i].length<=c'/\RowI w S A' ls[i]:=fun i=>by
  by_cases hi:i<ls.length
  ·obtain⟨a,A',c',h1,h2,h3,h4,h5⟩:=h i hi;exact⟨_,fun _=>⟨hi,a,A',c',h1,rfl,h3,h4,h5⟩⟩
  ·exact⟨undef,fun h=>absurd h hi⟩
 obtain⟨f,hf⟩:=Classical.skolem.1 h0;refine⟨(List.range ls.length).map f,by simp,fun e=>?_,fun ad e j u hj=>?_,fun u hu=>?_,fun k hk hv=>?_⟩
 ·rcases Nat.eq_zero_or_pos ls.length with h0|h0
  ·exact h0
  ·obtain⟨a,A',c',h1,-⟩:=h 0 h0;rw[e]at h1
   cases h1
 ·have hj2:j<ls.length:=by
   obtain⟨h1,-⟩:=List.getElem?_eq_some_iff.1 hj;simpa using h1
  obtain⟨_,a,A',c',h1,h2,h3,-⟩:=hf j hj2;simp[hj2]at hj;rw[e]at h1;injection h1 with h1;subst h1 hj;exact h3
 ·obtain⟨i,hi,rfl⟩:=List.mem_map.1 hu;rw[List.mem_range]at hi;obtain⟨_,a,A',c',h1,h2,-⟩:=hf i hi;rw[h2];rfl
 ·obtain⟨_,a,A',c',h1,h2,h3,h4,h5⟩:=hf k hk;refine⟨A',c',?_,h4,h5⟩;simp only[List.getElem_map,List.getElem_range];exact h2
theorem zk7.manyA{W0 wr we:World}{n0 e co:Nat}{Ao:Option Addr}{acc ys:List SS}{us:List (Value×Value×Value)}(h:zk7 wr n0 Any (.slice Ao e co) acc)(he:acc.length=e)(hb:Below n0 W0 wr)(hn:n0<=W0.heap.size)
  (ku:us.length=ys.length)(hw:Below wr.heap.size wr we)(hy:∀k (hk:k<ys.length) (hv:k<us.length),SV we (fun q=>q<n0\/wr.heap.size<=q) ys[k] (.agg #[us[k].1,us[k].2.1,us[k].2.2])){m:Nat}(hm:ys.length=m) :
  ∃xs,we.ownsRow n0 32 3 (.slice Ao e co) e xs/\n0<=we.heap.size/\∀v' w',w'.ownsRow n0 32 3 v' (e+m) (xs++zk1 us)->we.grownBy w' (Value.slice Ao e co).ownBlock->(v'.ownBlock=(Value.slice Ao e co).ownBlock\/v'.ownBlock=some we.heap.size) ->
   ∃A' c',v'=.slice A' (e+m) c'/\e+m<=c'/\Hid (Below n0 W0 w')/\Hid (zk7 w' n0 Any (.slice A' (e+m) c') (acc++ys)):=by
 subst he hm;obtain⟨vs,h1,hl,h2⟩:=h;refine⟨zk1 vs,zko h1 hw,Nat.le_trans (Nat.le_trans hn hb.size) hw.size,fun v' w' g1 g2 g3=>?_⟩;obtain⟨A',c',rfl,hc,-⟩:=zkd g1;have hs:=hb.size;have hbe:Below n0 W0 we:=hb.trans (hw.mono (by omega));refine⟨A',c',rfl,hc,zh (hbe.grown g2 (Nat.le_trans hn hbe.size) fun k hk=>(h1.lt k hk).1),zh ?_⟩;exact zk7.app (W:=we) (S:=Any) (S':=Any) hl ku (fun k hk hv=>(h2 k hk hv).later hw) (fun q h _=>h)
  (fun k hk hv=>(hy k hk hv).keep (fun q h _=>⟨trivial,fun e=>by have:=h1.lt q e;omega⟩) fun _ _ _=>rfl) g1 g2 g3
theorem zmb{ops:Array Oper}{o:Oper}{a:Act}{W:World}{K:Act->World->Prop}{Q:Exit->Act->World->Prop}{F:Prop}{tS E:TypeId}{z:Value}{sz fG:Nat}(hgd:o.guard=none)(s x:Operand)
  (ho:o.op=.call { callee:=.builtin .append,args := #[s,x],argTypes := #[tS,tS] })(hu:prog.underlying tS=some (.slice E))(hin:(prog.info? E).map (fun i=>(i.zero,i.size,i.bytes))=some (some z,sz,fG))(hzc:z.cells.size=sz)(hsz:0<sz)(hby:fG<=100)
  (base:Nat)(v:Value)(n:Nat)(xs:List Value)(hs:a.eval s=v)(hrow:W.ownsRow base E sz v n xs)
  (ad:Addr)(m c:Nat)(news:List Value)(hx:a.eval x=.slice (some ad) m c)(hl:news.length=m*sz)(hc:∀j u,news[j]?=some u->W.cell? (ad.add j)=some u)(h1c:∀u∈news,u.oneCell'=true)(hm:n+m<=1000000)(hb:base<=W.heap.size)
  (h:∀v' w',w'.ownsRow base E sz v' (n+m) (xs++news)->W.grownBy w' v.ownBlock->(v'.ownBlock=v.ownBlock\/v'.ownBlock=some W.heap.size)->K (a.put o.dst v') w') :
  if Region.wanted o (yielded ops a.tmps)=true then Oper.wp prog o a W K Q else F:=by
 obtain⟨i,hi,hz0,hz1,hz2⟩:=info_parts hin;have h9:(n+m)*fG<=1000000*100:=Nat.mul_le_mul hm hby;exact zkP hgd s x tS ho base E i z sz fG hu hi hz0 hz1 hz2 hzc hsz v n xs hs hrow ad m c news hx hl hc h1c (by unfold maxLen;omega) (by omega) hb h
theorem zkq.copy{wr w2:World}{B2:Nat}{v':Value}{ls:List (List Int)}{us:List Value}(hl:us.length=ls.length)(hB:B2<=wr.heap.size)
  (hs:∀k (hk:k<ls.length) (hv:k<us.length),∃A c,us[k]=.slice A ls[k].length c/\ls[k].length<=c/\RowI wr (fun q=>q<B2) A ls[k])
  (ho:w2.ownsRow wr.heap.size 30 1 v' (0+ls.length) ([]++us))(hg:(wr.alloc (.cells #[] 30)).grownBy w2 (some wr.heap.size))(aj:v'.ownBlock=some wr.heap.size\/v'.ownBlock=some (wr.alloc (.cells #[] 30)).heap.size) :
  Below wr.heap.size wr w2/\zkq w2 wr.heap.size (fun q=>q<B2) v' ls:=by
 have aW:=zka (zs wr) (.cells #[] 30);refine⟨aW.grown hg aW.size fun k hk=>by injection hk with hk;omega,?_⟩;have:=zkq.app (W:=wr.alloc (.cells #[] 30)) (W5:=w2) (n0:=wr.heap.size) (S:=fun q=>q<B2) (S':=fun q=>q<B2) (v:=.slice (some ⟨wr.heap.size,0,none⟩) 0 0) (v':=v') (ls:=[]) (ys:=ls) (vs:=[]) (us:=us) rfl hl
  (fun k hk=>by simp at hk) (fun _ h _=>h) (fun k hk hv=>by
   obtain⟨A,c,e1,e2,e3⟩:=hs k hk hv;exact⟨A,c,e1,e2,(e3.later aW).keep (fun q h _=>⟨h,fun e=>by injection e with e;have e:wr.heap.size=q:=e;omega⟩) fun _ _ _=>rfl⟩) ho hg aj
 simpa using this
theorem zkq.copy2{wr:World}{B2 l5:Nat}{ls:List (List Int)}{us:List Value}(hl:us.length=ls.length)(hl5:ls.length=l5)(hB:B2<=wr.heap.size)
  (hs:∀k (hk:k<ls.length) (hv:k<us.length),∃A c,us[k]=.slice A ls[k].length c/\ls[k].length<=c/\RowI wr (fun q=>q<B2) A ls[k])(v':Value)(w2:World)
  (ho:w2.ownsRow wr.heap.size 30 1 v' (0+l5) ([]++us))(hg:(wr.alloc (.cells #[] 30)).grownBy w2 (Value.slice (some ⟨wr.heap.size,0,none⟩) 0 0).ownBlock)(aj:v'.ownBlock=(Value.slice (some ⟨wr.heap.size,0,none⟩) 0 0).ownBlock\/v'.ownBlock=some (wr.alloc (.cells #[] 30)).heap.size) :
  ∃A' c',v'=.slice A' l5 c'/\Hid (Below wr.heap.size wr w2)/\Hid (zkq w2 wr.heap.size (fun q=>q<B2) (.slice A' l5 c') ls):=by
 obtain⟨A',c',rfl,-⟩:=zkd ho;subst hl5;obtain⟨h1,h2⟩:=zkq.copy hl hB hs ho hg aj;rw[Nat.zero_add]at h2;exact⟨A',c',by rw[Nat.zero_add],zh h1,zh h2⟩
theorem zkq.more{W:World}{n0 B2 l c Nb lx cx:Nat}{A Ax:Option Addr}{ls:List (List Int)}{x:List Int}(h:zkq W n0 (fun q=>q<B2) (.slice A l c) ls)(hl:ls.length=l)(hB:B2<=n0)(hx:RowI W (fun q=>q<B2) Ax x)(hlx:x.length=lx)(hcx:lx<=cx)(hN:Nb<W.heap.size)(hne:(Value.slice A l c).ownBlock≠some Nb)(hn0:n0<=W.heap.size) :
  ∃vs,W.ownsRow n0 30 1 (.slice A l c) l vs/\∀v' w',w'.ownsRow n0 30 1 v' (l+1) (vs++[.slice Ax lx cx])->W.grownBy w' (Value.slice A l c).ownBlock->(v'.ownBlock=(Value.slice A l c).ownBlock\/v'.ownBlock=some W.heap.size) ->
   ∃A' c',v'=.slice A' (l+1) c'/\Hid (Below n0 W w')/\Hid (zkq w' n0 (fun q=>q<B2) (.slice A' (l+1) c') (ls++[x]))/\Hid (w'.heap[Nb]?=W.heap[Nb]?)/\Hid ((Value.slice A' (l+1) c').ownBlock≠some Nb):=by
 subst hl hlx;obtain⟨vs,h1,h2,h3⟩:=h;refine⟨vs,h1,fun v' w' g1 g2 g3=>?_⟩;obtain⟨A',c',rfl,-⟩:=zkd g1;refine⟨A',c',rfl,zh ((Below.refl n0 W).grown g2 hn0 fun k hk=>(h1.lt k hk).1),zh ?_,zh (g2.block Nb hN fun e=>hne e.symm),zh fun e=>?_⟩
 ·exact zkq.app (W:=W) (W5:=w') (S:=fun q=>q<B2) (S':=fun q=>q<B2) (ys:=[x]) (us:=[.slice Ax x.length cx]) h2 rfl h3 (fun _ h _=>h) (fun k hk hv=>by
   obtain rfl:k=0:=by simpa using hk
   exact⟨Ax,cx,rfl,hcx,hx.keep (fun q h _=>⟨h,fun e=>by have:=(h1.lt q e).1;omega⟩) fun _ _ _=>rfl⟩) g1 g2 g3
 ·rcases g3 with g3|g3
  ·exact hne (g3▸e)
  ·rw[g3]at e;injection e with e;omega
theorem zzy{w':World}{n0 B2 n j l5 c9 lx cx:Nat}{A9 Ax:Option Addr}{s:SS}{x:List Int}(hj:j=n)(h:zkq w' n0 (fun q=>q<B2) (.slice A9 l5 c9) s.cells)(hl:s.cells.length=l5)(hx:RowI w' (fun q=>q<B2) Ax x)(hlx:x.length=lx)(hcx:lx<=cx)(hlim:(nwS n j s x).Lim) :
  SV w' (fun q=>q<B2\/n0<=q) (nwS n j s x) (.agg #[.slice A9 l5 c9,.slice Ax lx cx,.slice none 0 0]):=by
 subst hl hlx;have e:nwS n j s x=⟨s.cells,x,[]⟩:=by unfold nwS;rw[if_pos hj]
 rw[e]at hlim ⊢;obtain⟨A,c,e1,hc,h2⟩:=(h.keep (S':=fun q=>q<B2\/n0<=q) (fun q h _=>.inl h) fun _ _ _=>rfl).ii fun q h _=>.inr h;injection e1 with e1 e2 e3;subst e1 e3;exact⟨A9,c9,Ax,cx,none,0,rfl,h2,hx.keep (fun q h _=>.inl h) fun _ _ _=>rfl,fun i hi=>by simp at hi,hc,hcx,Nat.zero_le _,hlim⟩
theorem zzx{w':World}{n0 B2 n j l5 c9:Nat}{A9:Option Addr}{s:SS}{x:List Int}(hj:¬ j=n)(h:zkq w' n0 (fun q=>q<B2) (.slice A9 (l5+1) c9) (s.cells++[x]))(hl:s.cells.length=l5)(hlim:(nwS n j s x).Lim) :
  SV w' (fun q=>q<B2\/n0<=q) (nwS n j s x) (.agg #[.slice A9 (l5+1) c9,.slice none 0 0,.slice none 0 0]):=by
 subst hl;have e:nwS n j s x=⟨s.cells++[x],[],[]⟩:=by unfold nwS;rw[if_neg hj]
 rw[e]at hlim ⊢;obtain⟨A,c,e1,hc,h2⟩:=(h.keep (S':=fun q=>q<B2\/n0<=q) (fun q h _=>.inl h) fun _ _ _=>rfl).ii fun q h _=>.inr h;have hll:(s.cells++[x]).length=s.cells.length+1:=by simp
 rw[hll]at e1 hc;injection e1 with e1 e2 e3;subst e1 e3;exact⟨A9,c9,none,0,none,0,by simp,h2,fun i hi=>by simp at hi,fun i hi=>by simp at hi,by simpa using hc,Nat.zero_le _,Nat.zero_le _,hlim⟩
theorem bRA0(w:World):(Instr.buildSlice 29 0 #[]).run prog w=.ok (.slice (some ⟨w.heap.size,0,none⟩) 0 0) (w.alloc (.cells #[] 30)):=by kernel_rfl
theorem bRA2(A B:Option Addr)(l c m d:Nat)(w:World):(Instr.buildSlice 29 2 #[(0,.slice A l c),(1,.slice B m d)]).run prog w=.ok (.slice (some ⟨w.heap.size,0,none⟩) 2 2) (w.alloc (.cells #[.slice A l c,.slice B m d] 30)):=by kernel_rfl
theorem bRA1(A:Option Addr)(l c:Nat)(w:World):(Instr.buildSlice 29 1 #[(0,.slice A l c)]).run prog w=.ok (.slice (some ⟨w.heap.size,0,none⟩) 1 1) (w.alloc (.cells #[.slice A l c] 30)):=by kernel_rfl
theorem zpA:(prog.info? 30).map (fun i=>(i.zero,i.size,i.bytes))=some (some (.slice none 0 0),1,24):=by kernel_rfl
theorem znx{W:World}{n0 n c:Nat}{E:TypeId}{A:Option Addr}{xs:List Value}(h:W.ownsRow n0 E 1 (.slice A n c) n xs):(A=none->n=0)/\∀ad,A=some ad->∀j u,xs[j]?=some u->W.cell? (ad.add j)=some u:=by
 have hl:=h.1;rcases h.2 with⟨e,h0⟩|⟨g,cap,cur,e,-⟩
 ·simp only[Value.slice.injEq]at e;obtain⟨rfl,rfl,rfl⟩:=e;exact⟨fun _=>rfl,nofun⟩
 ·simp only[Value.slice.injEq]at e;obtain⟨rfl,-,rfl⟩:=e;refine⟨nofun,fun ad had j u hj=>?_⟩;injection had with had;subst had;have hj':=(List.getElem?_eq_some_iff.1 hj).1;rw[Addr.add_lit,Nat.zero_add,h.cellAt j (by omega)];exact hj
def OthL(W:World)(S:Nat->Prop)(u:Value)(ys:List (List Int)):Prop :=
 ∃(A:Option Addr) (c:Nat) (us:List Value),u=.slice A ys.length c/\us.length=ys.length/\(A=none->ys.length=0)/\(∀ad,A=some ad->∀j z,us[j]?=some z->W.cell? (ad.add j)=some z)/\(∀z∈us,z.oneCell'=true)/\∀k (hk:k<ys.length) (hv:k<us.length),∃A c,us[k]=.slice A ys[k].length c/\ys[k].length<=c/\RowI W S A ys[k]
theorem zlo.oth{w:World}{S:Nat->Prop}{A:Option Addr}{ls:List (List Int)}(h:zlo w S A ls)(c:Nat):OthL w S (.slice A ls.length c) ls:=by
 obtain⟨us,h1,h2,h3,h4,h5⟩:=h.vals;exact⟨A,c,us,rfl,h1,h2,h3,h4,h5⟩
theorem zkq.oth{w:World}{n0:Nat}{S:Nat->Prop}{v:Value}{ls:List (List Int)}(h:zkq w n0 S v ls):OthL w S v ls:=by
 obtain⟨us,h1,h2,h3⟩:=h;obtain⟨A,c,rfl,-⟩:=zkd h1;obtain⟨r1,r2⟩:=znx h1;refine⟨A,c,us,rfl,h2,r1,r2,fun z hz=>?_,fun k hk hv=>?_⟩
 ·obtain⟨k,hk,rfl⟩:=List.mem_iff_getElem.1 hz;obtain⟨A',c',e,-⟩:=h3 k (by omega) hk;rw[e];rfl
 ·obtain⟨A',c',e,hc,hr⟩:=h3 k hk hv;exact⟨A',c',e,hc,hr.keep (fun q h _=>h.1) fun _ _ _=>rfl⟩
theorem zkq.built{w:World}{N0 n:Nat}{S:Nat->Prop}{ls:List (List Int)}{us:List Value}(hN:N0<=w.heap.size)(hl:us.length=n)(hn:ls.length=n)(hS:∀q,S q->q<w.heap.size)
  (hs:∀k (hk:k<ls.length) (hv:k<us.length),∃A c,us[k]=.slice A ls[k].length c/\ls[k].length<=c/\RowI w S A ls[k])(hm:n<=1000000):zkq (w.alloc (.cells us.toArray 30)) N0 S (.slice (some ⟨w.heap.size,0,none⟩) n n) ls:=by
 subst hn;refine⟨us,⟨by omega,.inr ⟨w.heap.size,ls.length,us.toArray,rfl,hN,heap_alloc_new w _,zl,by unfold maxLen;omega,by simp[hl],by simp[<-hl]⟩⟩,hl,fun k hk hv=>?_⟩;obtain⟨A,c,e,hc,hr⟩:=hs k hk hv;exact⟨A,c,e,hc,(hr.later (zka (zs w) _)).keep (fun q h _=>⟨h,fun e=>by injection e with e;have e:w.heap.size=q:=e;have:=hS q h;omega⟩) fun _ _ _=>rfl⟩
theorem zm3{ops:Array Oper}{o:Oper}{i:Nat}{a:Act}{W:World}{K:Act->World->Prop}{Q:Exit->Act->World->Prop}{F:Prop}{N0:Nat}{S:Nat->Prop}(hoi:ops[i]?=some o)(s x:Operand)(hgd:(ops[i]?).map (fun o=>o.guard)=some none)
  (ho:(ops[i]?).map (fun o=>o.op)=some (.call { callee:=.builtin .append,args := #[s,x],argTypes := #[29,29] }))(hN:N0<=W.heap.size)(hS:∀q,S q->q<N0){v u:Value}{ls ys:List (List Int)}(hs:a.eval s=v)(hr:zkq W N0 S v ls)(hx:a.eval x=u)(hu:OthL W S u ys)(hm:ls.length+ys.length<=1000000)
  (h:∀v' w',Chg (fun b=>v.ownBlock=some b) W w'->(∀b,v'.ownBlock=some b->(W.heap.size<=b\/v.ownBlock=some b)/\b<w'.heap.size)->zkq w' N0 S v' (ls++ys)->K (a.put o.dst v') w') :
  if Region.wanted o (yielded ops a.tmps)=true then Oper.wp prog o a W K Q else F:=by
 have hgd:=opF hoi (fun o=>o.guard) hgd;have ho:=opF hoi (fun o=>o.op) ho;obtain⟨vs,h1,h2,h3⟩:=hr;obtain⟨A,c,us,rfl,u1,u2,u3,u4,u5⟩:=hu;have hfin:∀v' w',w'.ownsRow N0 30 1 v' (ls.length+ys.length) (vs++us)->W.grownBy w' v.ownBlock->(v'.ownBlock=v.ownBlock\/v'.ownBlock=some W.heap.size)->K (a.put o.dst v') w':=fun v' w' g1 g2 g3=>by
  refine h v' w' (Chg.row g2) (fun b hb=>⟨?_,(g1.lt b hb).2⟩) (zkq.app h2 u1 h3 (fun q h _=>h) (fun k hk hv=>?_) g1 g2 g3)
  ·rcases g3 with e|e
   ·exact .inr (e▸hb)
   ·rw[e]at hb;injection hb with hb;exact .inl (by omega)
  ·obtain⟨A,c,e,hc,hr⟩:=u5 k hk hv;exact⟨A,c,e,hc,hr.keep (fun q h _=>⟨h,fun e=>by have:=(h1.lt q e).1;have:=hS q h;omega⟩) fun _ _ _=>rfl⟩
 rcases A with _|ad
 ·have h0:=u2 rfl;have hnil:us=[]:=List.eq_nil_of_length_eq_zero (by omega);have hw:Region.wanted o (yielded ops a.tmps)=true:=by simp[Region.wanted,hgd]
  rw[if_pos hw];obtain⟨j,hj,hz0,hz1,hz2⟩:=info_parts zpA;have hrun:(Builtin.append_ #[29,29] o.type #[v,.slice none 0 c]).run prog W=.ok v W:=by
   rcases h1.2 with⟨rfl,h0⟩|⟨g,cap,cur,rfl,_,_,hnc,_⟩
   ·simp[Builtin.append_,run_underlying underlying29,sizeOf,typeInfo,hj,Builtin.lenOf,Builtin.firstCells]
   ·simp[Builtin.append_,run_underlying underlying29,sizeOf,typeInfo,hj,Builtin.lenOf,Builtin.firstCells,hnc,storeCells]
  rw[h0]at hx;unfold Oper.wp execOp;simp only[ho,resolve,invoke,builtin,Sem.run_bind,Sem.run_pure,Result.andThen_ok,List.map_toArray,List.map_cons,List.map_nil,hs,hx,hrun];exact hfin v W (by rw[hnil,h0];simpa using h1) (zm7 _ _) (.inl rfl)
 ·exact zmb hgd s x ho underlying29 zpA rfl (by decide) (by decide) N0 v ls.length vs hs h1 ad ys.length c us hx (by omega) (u3 ad rfl) u4 hm hN hfin
theorem zkq.chg{w w':World}{N0:Nat}{S:Nat->Prop}{C:Nat->Prop}{v:Value}{ls:List (List Int)}(h:zkq w N0 S v ls)(hS:∀q,S q->q<N0)(hc:Chg C w w')(hC:∀b,C b->N0<=b)(ho:∀b,v.ownBlock=some b->¬ C b):zkq w' N0 S v ls :=
 h.keep (fun _ h _=>h) fun q hq hlt=>hc.block q hlt fun hcq=>by
  rcases hq with hq|hq
  ·have:=hS q hq;have:=hC q hcq;omega
  ·exact ho q hq hcq
section
variable {P:Program} {ops:Array Oper} {Q:Exit->Act->World->Prop} {md:Region.Mode} {S1 S2:World->Prop} {k:Nat}
theorem zvN{i j:Nat}{o o':Oper}{fuel:Nat}{listed:Array Bool}{a:Act}{w:World}(hr:Region.ready md ops listed=[i,j])(ho:ops[i]?=some o)(ho':ops[j]?=some o')
  (h:∀K':Act->World->Prop,Shut (∀a w,S1 w/\S2 w->wpG P md ops Q S1 S2 k fuel (listed.setIfInBounds i true) a w->K' a w)->if Region.wanted o (yielded ops a.tmps)=true then Oper.wp P o a w K' Q else K' (a.put o.dst undef) w)
  (h':∀K':Act->World->Prop,Shut (∀a w,S1 w/\S2 w->wpG P md ops Q S1 S2 k fuel (listed.setIfInBounds j true) a w->K' a w)->if Region.wanted o' (yielded ops a.tmps)=true then Oper.wp P o' a w K' Q else K' (a.put o'.dst undef) w) :
  wpG P md ops Q S1 S2 k (fuel+1) listed a w:=by
 refine⟨(fun h0=>by rw[hr]at h0;cases h0),fun x hx=>?_⟩;rw[hr]at hx;simp only[List.mem_cons,List.not_mem_nil,or_false]at hx;rcases hx with rfl|rfl
 ·exact wpOp_step ho fun K' hK=>h K' fun a w hS hW=>hK a w ⟨⟨hS.1,fun _=>hS.2⟩,hW⟩
 ·exact wpOp_step ho' fun K' hK=>h' K' fun a w hS hW=>hK a w ⟨⟨hS.1,fun _=>hS.2⟩,hW⟩
end
theorem set4{W:World}{b:Nat}{x0 x1 x2 x3 u0 u1 u2 u3:Value}{E:TypeId}(h:W.heap[b]?=some (.cells #[x0,x1,x2,x3] E (0,0))) :
  ((((W.setCell ⟨b,0,none⟩ u0).setCell ⟨b,1,none⟩ u1).setCell ⟨b,2,none⟩ u2).setCell ⟨b,3,none⟩ u3).heap[b]?=some (.cells #[u0,u1,u2,u3] E (0,0)) /\
   Chg (fun q=>q=b) W ((((W.setCell ⟨b,0,none⟩ u0).setCell ⟨b,1,none⟩ u1).setCell ⟨b,2,none⟩ u2).setCell ⟨b,3,none⟩ u3):=by
 refine⟨?_,((((Chg.refl (fun q=>q=b) W).setCell (p:=⟨b,0,none⟩) (.inl rfl) _).setCell (p:=⟨b,1,none⟩) (.inl rfl) _).setCell (p:=⟨b,2,none⟩) (.inl rfl) _).setCell (p:=⟨b,3,none⟩) (.inl rfl) _⟩;rw[heap_setCell_same _ b 3 _ _ u3 (heap_setCell_same _ b 2 _ _ u2 (heap_setCell_same _ b 1 _ _ u1 (heap_setCell_same W b 0 _ _ u0 h)))];simp
theorem zpW(t:T)(v:Value)(back:Bool)(w0 w:World)(hB0:Below w0.heap.size w0 w)(hv:NV w0 Any t v)(hk:0<t.ks.length):Calls prog 197 #[v,.bool back] w fun e W'=>∃v1 v2,e=.returned (.tuple #[v1,v2])/\NV w0 Any (fstT back t) v1/\NV w0 Any (lstT back t) v2/\Below w.heap.size w W':=by
 have HV:=zh hv;obtain⟨A,c,rfl,hf,hlk,hlc,hrow⟩:=hv.open_;obtain⟨m,hm⟩:∃m,t.ks.length=m+1:=⟨t.ks.length-1,by omega⟩
 obtain⟨a,a0,a1,a2,a3,rfl,-,ha,hna⟩:=hrow 0 (by omega);obtain⟨a',b0,b1,b2,b3,e',-,hb,hnb⟩:=hrow m (by omega);injection e' with e';subst e';obtain⟨t6,zn⟩:=zX (t.ks[0]'(by omega));obtain⟨t7,zm⟩:=zX (t.ks[m]'(by omega));rw[zn]at hna;rw[zm]at hnb;have kT:=zh hna;have oC:=zh hnb;have Br:=zh (show kid t 0=t6 by simp[kid,show 0<t.ks.length by omega,zn]);have Bq:=zh (show kid t (t.ks.length-1)=t7 by simp[kid,hm,show m<t.ks.length by omega,zm]);obtain⟨A6,c6,e6,-⟩:=hna.open_;obtain⟨A7,c7,e7,-⟩:=hnb.open_;simp only[nv,Value.agg.injEq,Array.mk.injEq,List.cons.injEq,and_true]at e6 e7;obtain⟨rfl,rfl,rfl,rfl⟩:=e6;obtain⟨rfl,rfl,rfl,rfl⟩:=e7;clear hna hnb zn zm;obtain⟨ha0,ha1,ha2,wH⟩:=ha;obtain⟨hb0,hb1,hb2,hb3⟩:=hb;simp only[Nat.zero_mul,Addr.add_zero']at ha0 ha1 ha2 wH
 replace ha0:=zb hB0 ha0
 replace ha1:=zb hB0 ha1
 replace ha2:=zb hB0 ha2
 replace wH:=zb hB0 wH
 replace hb0:=zb hB0 hb0
 replace hb1:=zb hB0 hb1
 replace hb2:=zb hB0 hb2
 replace hb3:=zb hB0 hb3
 clear hB0;have vY:IntKind.i64.wrap (m:Int)=(m:Int):=IntWalk.i64_in _ (by unfold LK at hlk;omega);have hm0:(0:Int)<=(m:Int):=by omega
 have hm1:(m:Int)<((m:Int)+1):=by omega
 have hbl:Below w.heap.size w (((w.alloc (.cells #[.int .u8 t.k,.int .i64 t.n,.string t.s,.slice (some a) (m+1) c] 41)).alloc (.cells #[.int .u8 0,.int .i64 0,.string ⟨#[]⟩,.slice none 0 0] 41)).alloc (.cells #[.int .u8 0,.int .i64 0,.string ⟨#[]⟩,.slice none 0 0] 41)):=zka (zka (zka zr _) _) _;have hk0:=zkf (zkf (heap_alloc_new w (.cells #[.int .u8 t.k,.int .i64 t.n,.string t.s,.slice (some a) (m+1) c] 41)) (.cells #[.int .u8 0,.int .i64 0,.string ⟨#[]⟩,.slice none 0 0] 41)) (.cells #[.int .u8 0,.int .i64 0,.string ⟨#[]⟩,.slice none 0 0] 41);have hk4:=zkf (heap_alloc_new (w.alloc (.cells #[.int .u8 t.k,.int .i64 t.n,.string t.s,.slice (some a) (m+1) c] 41)) (.cells #[.int .u8 0,.int .i64 0,.string ⟨#[]⟩,.slice none 0 0] 41)) (.cells #[.int .u8 0,.int .i64 0,.string ⟨#[]⟩,.slice none 0 0] 41)
 have hk5:=heap_alloc_new ((w.alloc (.cells #[.int .u8 t.k,.int .i64 t.n,.string t.s,.slice (some a) (m+1) c] 41)).alloc (.cells #[.int .u8 0,.int .i64 0,.string ⟨#[]⟩,.slice none 0 0] 41)) (.cells #[.int .u8 0,.int .i64 0,.string ⟨#[]⟩,.slice none 0 0] 41);simp only[World.size_alloc]at hk4 hk5;go_enter func197,ntmps197;go_upto_region 1 with fail;obtain⟨w1,hw1⟩:=zX (((w.alloc (.cells #[.int .u8 t.k,.int .i64 t.n,.string t.s,.slice (some a) (m+1) c] 41)).alloc (.cells #[.int .u8 0,.int .i64 0,.string ⟨#[]⟩,.slice none 0 0] 41)).alloc (.cells #[.int .u8 0,.int .i64 0,.string ⟨#[]⟩,.slice none 0 0] 41));rw[hw1]at hbl hk0 hk4 hk5 ⊢
 have hSS:zW (fun w':World=>zv w' w.heap.size 3 (.slice (some a) (m+1) c)/\(w'.cell? a=some (.int .u8 t6.k)/\zv w' a.block (a.off+1) (.int .i64 t6.n)/\zv w' a.block (a.off+2) (.string t6.s)/\zv w' a.block (a.off+3) (.slice A6 t6.ks.length c6))/\(w'.cell? (a.add (m*4))=some (.int .u8 t7.k)/\zv w' ((a.add (m*4)).block) ((a.add (m*4)).off+1) (.int .i64 t7.n)/\zv w' ((a.add (m*4)).block) ((a.add (m*4)).off+2) (.string t7.s)/\zv w' ((a.add (m*4)).block) ((a.add (m*4)).off+3) (.slice A7 t7.ks.length c7))) zU w1.drew:=⟨⟨zc hk0 rfl,⟨zb hbl.drew ha0,zb hbl.drew ha1,zb hbl.drew ha2,zb hbl.drew wH⟩,⟨zb hbl.drew hb0,zb hbl.drew hb1,zb hbl.drew hb2,zb hbl.drew hb3⟩⟩,trivial⟩
 have dI:=zh (show w1.heap[w.heap.size+1]?=some (.cells #[.int .u8 0,.int .i64 0,.string ⟨#[]⟩,.slice none 0 0] 41 (0,0))from hk4);have iI:=zh (show w1.heap[w.heap.size+1+1]?=some (.cells #[.int .u8 0,.int .i64 0,.string ⟨#[]⟩,.slice none 0 0] 41 (0,0))from hk5);have ah:=zh hbl;clear hw1 hbl hk0 hk4 hk5 ha0 ha1 ha2 wH hb0 hb1 hb2 hb3 hrow HV;refine wp_region_noPanic ?_;refine zG hSS 15 ?_;refine zT 0 hSS ?_;refine zT 1 hSS ?_;refine zT 2 hSS ?_;refine zT 3 hSS ?_;refine zT 4 hSS ?_;refine zT 5 hSS ?_;refine zT 6 hSS ?_;refine zT 7 hSS ?_;refine zT 8 hSS ?_;refine zT 9 hSS ?_;refine zT 10 hSS ?_;refine zT 11 hSS ?_
 have uq:=zh (show ∀w',Below w1.heap.size w1 w'->(fun w':World=>zv w' w.heap.size 3 (.slice (some a) (m+1) c)/\(w'.cell? a=some (.int .u8 t6.k)/\zv w' a.block (a.off+1) (.int .i64 t6.n)/\zv w' a.block (a.off+2) (.string t6.s)/\zv w' a.block (a.off+3) (.slice A6 t6.ks.length c6))/\(w'.cell? (a.add (m*4))=some (.int .u8 t7.k)/\zv w' ((a.add (m*4)).block) ((a.add (m*4)).off+1) (.int .i64 t7.n)/\zv w' ((a.add (m*4)).block) ((a.add (m*4)).off+2) (.string t7.s)/\zv w' ((a.add (m*4)).block) ((a.add (m*4)).off+3) (.slice A7 t7.ks.length c7))) w' from fun w' hb=>by
  obtain⟨⟨q0,⟨q1,q2,q3,q4⟩,q5,q6,q7,q8⟩,-⟩:=hSS;exact⟨zb hb q0,⟨zb hb q1,zb hb q2,zb hb q3,zb hb q4⟩,zb hb q5,zb hb q6,zb hb q7,zb hb q8⟩)
 clear hSS;refine zvN (i:=12) (j:=13) (by kernel_rfl) rfl rfl (fun K hK=>?_) (fun K hK=>?_);(try simp only[zA,zB,zC]);go_simp;have hb2:=zka (zs w1) (.cells #[.int .u8 0,.int .i64 0,.string ⟨#[]⟩,.slice none 0 0] 41);refine hK.out _ _ ⟨uq.out _ hb2.drew,trivial⟩ ?_;clear hK K;(try simp only[zQ]);refine zo 13 fun K hK=>?_;(try simp only[zA,zB,zC]);go_simp;have hb3:Below w1.heap.size w1 ((w1.alloc (.cells #[.int .u8 0,.int .i64 0,.string ⟨#[]⟩,.slice none 0 0] 41)).alloc (.cells #[.int .u8 0,.int .i64 0,.string ⟨#[]⟩,.slice none 0 0] 41)):=zka hb2 (.cells #[.int .u8 0,.int .i64 0,.string ⟨#[]⟩,.slice none 0 0] 41);have dK:=zkf (heap_alloc_new w1 (.cells #[.int .u8 0,.int .i64 0,.string ⟨#[]⟩,.slice none 0 0] 41)) (.cells #[.int .u8 0,.int .i64 0,.string ⟨#[]⟩,.slice none 0 0] 41)
 have jf:=heap_alloc_new (w1.alloc (.cells #[.int .u8 0,.int .i64 0,.string ⟨#[]⟩,.slice none 0 0] 41)) (.cells #[.int .u8 0,.int .i64 0,.string ⟨#[]⟩,.slice none 0 0] 41);rw[World.size_alloc]at jf;refine hK.out _ _ ⟨uq.out _ hb3.drew,trivial⟩ ?_;clear hK K;(try simp only[zQ]);obtain⟨w3,hw3⟩:=zX ((w1.alloc (.cells #[.int .u8 0,.int .i64 0,.string ⟨#[]⟩,.slice none 0 0] 41)).alloc (.cells #[.int .u8 0,.int .i64 0,.string ⟨#[]⟩,.slice none 0 0] 41));rw[hw3]at hb3 dK jf ⊢;clear hw3 hb2;generalize GE7:w1.heap.size+1=b7 at jf ⊢;generalize GE6:w1.heap.size=b6 at dK ⊢;rotate_left 1;(try simp only[zA,zB,zC]);go_simp;have hb2:=zka (zs w1) (.cells #[.int .u8 0,.int .i64 0,.string ⟨#[]⟩,.slice none 0 0] 41);refine hK.out _ _ ⟨uq.out _ hb2.drew,trivial⟩ ?_;clear hK K;(try simp only[zQ]);refine zo 12 fun K hK=>?_;(try simp only[zA,zB,zC]);go_simp
 have hb3:Below w1.heap.size w1 ((w1.alloc (.cells #[.int .u8 0,.int .i64 0,.string ⟨#[]⟩,.slice none 0 0] 41)).alloc (.cells #[.int .u8 0,.int .i64 0,.string ⟨#[]⟩,.slice none 0 0] 41)):=zka hb2 (.cells #[.int .u8 0,.int .i64 0,.string ⟨#[]⟩,.slice none 0 0] 41);have jf:=zkf (heap_alloc_new w1 (.cells #[.int .u8 0,.int .i64 0,.string ⟨#[]⟩,.slice none 0 0] 41)) (.cells #[.int .u8 0,.int .i64 0,.string ⟨#[]⟩,.slice none 0 0] 41);have dK:=heap_alloc_new (w1.alloc (.cells #[.int .u8 0,.int .i64 0,.string ⟨#[]⟩,.slice none 0 0] 41)) (.cells #[.int .u8 0,.int .i64 0,.string ⟨#[]⟩,.slice none 0 0] 41);rw[World.size_alloc]at dK;refine hK.out _ _ ⟨uq.out _ hb3.drew,trivial⟩ ?_;clear hK K;(try simp only[zQ]);obtain⟨w3,hw3⟩:=zX ((w1.alloc (.cells #[.int .u8 0,.int .i64 0,.string ⟨#[]⟩,.slice none 0 0] 41)).alloc (.cells #[.int .u8 0,.int .i64 0,.string ⟨#[]⟩,.slice none 0 0] 41))
 rw[hw3]at hb3 jf dK ⊢;clear hw3 hb2;generalize GE7:w1.heap.size+1=b6 at dK ⊢;generalize GE6:w1.heap.size=b7 at jf ⊢
 all_goals
  have gE:w1.heap.size<=b6/\w1.heap.size<=b7/\b6≠b7:=by omega
  obtain⟨g6,g7,gN⟩:=gE;clear GE6 GE7;have HB3:=zh hb3;have c0:w3.cell? ⟨b6,0,none⟩=some (.int .u8 0):=zc dK rfl;have c1:w3.cell? ⟨b6,1,none⟩=some (.int .i64 0):=zc dK rfl;have c2:w3.cell? ⟨b6,2,none⟩=some (.string ⟨#[]⟩):=zc dK rfl;have c3:w3.cell? ⟨b6,3,none⟩=some (.slice none 0 0):=zc dK rfl;have cf:∀o,w3.frozen? ⟨b6,o,none⟩=false:=fun _=>zf dK;refine zo 14 fun K hK=>?_;(try simp only[zA,zB,zC]);go_simp;obtain⟨hh,hch⟩:=set4 (u0:=(.int .u8 t6.k)) (u1:=(.int .i64 t6.n)) (u2:=(.string t6.s)) (u3:=(.slice A6 t6.ks.length c6)) dK;obtain⟨w4,hwn⟩:=zX ((((w3.setCell ⟨b6,0,none⟩ (.int .u8 t6.k)).setCell ⟨b6,1,none⟩ (.int .i64 t6.n)).setCell ⟨b6,2,none⟩ (.string t6.s)).setCell ⟨b6,3,none⟩ (.slice A6 t6.ks.length c6));rw[hwn]at hh hch ⊢;have hb4:Below w1.heap.size w1 w4:=HB3.out.trans (hch.below HB3.out.size fun b e=>by omega);refine hK.out _ _ ⟨uq.out _ hb4.drew,trivial⟩ ?_
  clear hK K c0 c1 c2 c3 cf hwn;(try simp only[zQ]);have aG:=zh hb4;have jc:=hch.keep jf (by omega);have c0:w4.cell? ⟨b7,0,none⟩=some (.int .u8 0):=zc jc rfl;have c1:w4.cell? ⟨b7,1,none⟩=some (.int .i64 0):=zc jc rfl;have c2:w4.cell? ⟨b7,2,none⟩=some (.string ⟨#[]⟩):=zc jc rfl;have c3:w4.cell? ⟨b7,3,none⟩=some (.slice none 0 0):=zc jc rfl;have cf:∀o,w4.frozen? ⟨b7,o,none⟩=false:=fun _=>zf jc;refine zp 15 fun K hK=>?_;(try simp only[zA,zB,zC]);go_simp;obtain⟨pE,pJ⟩:=set4 (u0:=(.int .u8 t7.k)) (u1:=(.int .i64 t7.n)) (u2:=(.string t7.s)) (u3:=(.slice A7 t7.ks.length c7)) jc;obtain⟨w5,hwn⟩:=zX ((((w4.setCell ⟨b7,0,none⟩ (.int .u8 t7.k)).setCell ⟨b7,1,none⟩ (.int .i64 t7.n)).setCell ⟨b7,2,none⟩ (.string t7.s)).setCell ⟨b7,3,none⟩ (.slice A7 t7.ks.length c7));rw[hwn]at pE pJ ⊢;have hb5:Below w1.heap.size w1 w5:=aG.out.trans (pJ.below aG.out.size fun b e=>by omega)
  refine hK.out _ _ (uq.out _ hb5.drew) ?_;clear hK K c0 c1 c2 c3 cf hwn;(try simp only[zQ]);have xB:=zh (pJ.keep hh (by omega));have BV:=zh pE;have aQ:=zh (show Below w1.heap.size w1 w5 from hb5);clear hb3 dK jf jc hh pE hch pJ hb4 hb5 aG HB3 uq;refine zd ?_;refine NoPanic.normal ?_;have qX:=zh (zkc dI.out aQ.out);have pV:=zh (zkc iI.out aQ.out);obtain⟨P,Q,X,Y,AX,AY,CX,CY,hE⟩:∃P Q X Y AX AY CX CY,cond back (P=b7/\Q=b6/\X=t7/\Y=t6/\AX=A7/\AY=A6/\CX=c7/\CY=c6) (P=b6/\Q=b7/\X=t6/\Y=t7/\AX=A6/\AY=A7/\CX=c6/\CY=c7):=by cases back<;>exact⟨_,_,_,_,_,_,_,_,rfl,rfl,rfl,rfl,rfl,rfl,rfl,rfl⟩
  cases back
  obtain⟨rfl,rfl,rfl,rfl,rfl,rfl,rfl,rfl⟩:=hE;have HX:=xB;have HY:=BV;have NX:=kT;have NY:=oC;have EX:=Br;have EY:=Bq;go_upto_region 4 with fail;rotate_left 1;obtain⟨rfl,rfl,rfl,rfl,rfl,rfl,rfl,rfl⟩:=hE;have HX:=BV;have HY:=xB;have NX:=oC;have NY:=kT;have EX:=Bq;have EY:=Br;go_upto_region 3 with fail
  all_goals
   clear xB BV kT oC Br Bq;have hS5:(fun w':World=>(zN4 w' P (.int .u8 X.k) (.int .i64 X.n) (.string X.s) (.slice AX X.ks.length CX))/\zN4 w' Q (.int .u8 Y.k) (.int .i64 Y.n) (.string Y.s) (.slice AY Y.ks.length CY)) w5.drew:=⟨⟨zc HX.out rfl,zc HX.out rfl,zc HX.out rfl,zc HX.out rfl⟩,⟨zc HY.out rfl,zc HY.out rfl,zc HY.out rfl,zc HY.out rfl⟩⟩
   refine wp_region_noPanic ?_;refine zkk (fun w':World=>(zN4 w' P (.int .u8 X.k) (.int .i64 X.n) (.string X.s) (.slice AX X.ks.length CX))/\zN4 w' Q (.int .u8 Y.k) (.int .i64 Y.n) (.string Y.s) (.slice AY Y.ks.length CY)) zU 3 (by kernel_rfl) ?_;refine zkQ (i:=0) (v:=?_) rfl (by kernel_rfl) (by kernel_rfl) (by kernel_rfl) (by decide) (fun _ _ _ h=>h) (Or.inl ⟨by rfl,?_⟩) ⟨hS5,trivial⟩ ?_;rotate_left 1
   ·(intro w hSw;(try dsimp only at hSw);(try simp only[zA,zC]);go_simp;(try with_reducible rfl))
   (try simp only[zQ]);refine zkQ (i:=1) (v:=?_) rfl (by kernel_rfl) (by kernel_rfl) (by kernel_rfl) (by decide) (fun _ _ _ h=>h) (Or.inl ⟨by rfl,?_⟩) ⟨hS5,trivial⟩ ?_;rotate_left 1
   ·(intro w hSw;(try dsimp only at hSw);(try simp only[zA,zB,zC]);go_simp;(try with_reducible rfl))
   (try simp only[zQ]);have hsz:w.heap.size+1+1<w1.heap.size:=(Array.getElem?_eq_some_iff.mp iI.out).1;have fM:=zh (ah.out.trans (aQ.out.mono (by omega)));have HC:=zh (show ∀W':World,W'.heap[P]?=w5.heap[P]?->W'.heap[Q]?=w5.heap[Q]?->(fun w':World=>(zN4 w' P (.int .u8 X.k) (.int .i64 X.n) (.string X.s) (.slice AX X.ks.length CX)/\zN4 w' Q (.int .u8 Y.k) (.int .i64 Y.n) (.string Y.s) (.slice AY Y.ks.length CY))) W'.drew from fun W' h6 h7=>⟨⟨zc (h6.trans HX.out) rfl,zc (h6.trans HX.out) rfl,zc (h6.trans HX.out) rfl,zc (h6.trans HX.out) rfl⟩,⟨zc (h7.trans HY.out) rfl,zc (h7.trans HY.out) rfl,zc (h7.trans HY.out) rfl,zc (h7.trans HY.out) rfl⟩⟩);have HZQ:=zh qX.out;have kI:=qX.out;have HZ5K:=pV.out;have c0:w5.cell? ⟨(w.heap.size+1),0,none⟩=some (.int .u8 0):=zc kI rfl;have c1:w5.cell? ⟨(w.heap.size+1),1,none⟩=some (.int .i64 0):=zc kI rfl
   have c2:w5.cell? ⟨(w.heap.size+1),2,none⟩=some (.string ⟨#[]⟩):=zc kI rfl;have c3:w5.cell? ⟨(w.heap.size+1),3,none⟩=some (.slice none 0 0):=zc kI rfl;have cf:∀o,w5.frozen? ⟨(w.heap.size+1),o,none⟩=false:=fun _=>zf kI;refine zo 2 fun K hK=>?_;(try simp only[zA,zB,zC]);go_simp;obtain⟨hh,hch⟩:=set4 (u0:=(.int .u8 X.k)) (u1:=(.int .i64 X.n)) (u2:=(.string X.s)) (u3:=(.slice AX X.ks.length CX)) kI;obtain⟨w6,hwn⟩:=zX ((((w5.setCell ⟨(w.heap.size+1),0,none⟩ (.int .u8 X.k)).setCell ⟨(w.heap.size+1),1,none⟩ (.int .i64 X.n)).setCell ⟨(w.heap.size+1),2,none⟩ (.string X.s)).setCell ⟨(w.heap.size+1),3,none⟩ (.slice AX X.ks.length CX));rw[hwn]at hh hch ⊢;clear c0 c1 c2 c3 cf hwn;have HBW6:=zh (fM.out.trans (hch.below fM.out.size fun b e=>by omega));have k6:=hch.block (P) (Array.getElem?_eq_some_iff.mp HX.out).1 (by omega)
   have k7:=hch.block (Q) (Array.getElem?_eq_some_iff.mp HY.out).1 (by omega);have kH:=hch.keep HZ5K (by omega);refine hK.out _ _ ⟨HC.out _ k6 k7,trivial⟩ ?_;have HF4:=zh hh;have K6:=zh k6;have K7:=zh k7;have bS:=zh hch;clear hK K k6 k7 hh hch;(try simp only[zQ]);have c0:w6.cell? ⟨(w.heap.size+1+1),0,none⟩=some (.int .u8 0):=zc kH rfl;have c1:w6.cell? ⟨(w.heap.size+1+1),1,none⟩=some (.int .i64 0):=zc kH rfl;have c2:w6.cell? ⟨(w.heap.size+1+1),2,none⟩=some (.string ⟨#[]⟩):=zc kH rfl;have c3:w6.cell? ⟨(w.heap.size+1+1),3,none⟩=some (.slice none 0 0):=zc kH rfl;have cf:∀o,w6.frozen? ⟨(w.heap.size+1+1),o,none⟩=false:=fun _=>zf kH;refine zp 3 fun K hK=>?_;(try simp only[zA,zB,zC]);go_simp;obtain⟨hh,hch⟩:=set4 (u0:=(.int .u8 Y.k)) (u1:=(.int .i64 Y.n)) (u2:=(.string Y.s)) (u3:=(.slice AY Y.ks.length CY)) kH
   obtain⟨w7,hwn⟩:=zX ((((w6.setCell ⟨(w.heap.size+1+1),0,none⟩ (.int .u8 Y.k)).setCell ⟨(w.heap.size+1+1),1,none⟩ (.int .i64 Y.n)).setCell ⟨(w.heap.size+1+1),2,none⟩ (.string Y.s)).setCell ⟨(w.heap.size+1+1),3,none⟩ (.slice AY Y.ks.length CY));rw[hwn]at hh hch ⊢;clear c0 c1 c2 c3 cf hwn;have HBW7:=zh (HBW6.out.trans (hch.below HBW6.out.size fun b e=>by omega));have k6:=hch.block (P) (by have:=(Array.getElem?_eq_some_iff.mp HX.out).1;have:=bS.out.size;omega) (by omega);have k7:=hch.block (Q) (by have:=(Array.getElem?_eq_some_iff.mp HY.out).1;have:=bS.out.size;omega) (by omega);have HF4':=zh (hch.keep HF4.out (by omega));refine hK.out _ _ (HC.out _ (k6.trans K6.out) (k7.trans K7.out)) ?_;have HF5:=zh hh;clear hK K k6 k7 hh hch;(try simp only[zQ]);refine zd ?_;refine NoPanic.normal ?_;have d4:=HF4'.out;have d5:=HF5.out
   have g0:w7.drew.cell? ⟨w.heap.size+1,0,none⟩=some (.int .u8 X.k):=zc d4 rfl;have g1:w7.drew.cell? ⟨w.heap.size+1,1,none⟩=some (.int .i64 X.n):=zc d4 rfl;have g2:w7.drew.cell? ⟨w.heap.size+1,2,none⟩=some (.string X.s):=zc d4 rfl;have g3:w7.drew.cell? ⟨w.heap.size+1,3,none⟩=some (.slice AX X.ks.length CX):=zc d4 rfl;have g4:w7.drew.cell? ⟨w.heap.size+1+1,0,none⟩=some (.int .u8 Y.k):=zc d5 rfl;have g5:w7.drew.cell? ⟨w.heap.size+1+1,1,none⟩=some (.int .i64 Y.n):=zc d5 rfl;have g6:w7.drew.cell? ⟨w.heap.size+1+1,2,none⟩=some (.string Y.s):=zc d5 rfl;have g7:w7.drew.cell? ⟨w.heap.size+1+1,3,none⟩=some (.slice AY Y.ks.length CY):=zc d5 rfl;go_wp2_with fail
   refine bodyPost_ret (v:=.tuple #[.agg #[.int .u8 X.k,.int .i64 X.n,.string X.s,.slice AX X.ks.length CX],.agg #[.int .u8 Y.k,.int .i64 Y.n,.string Y.s,.slice AY Y.ks.length CY]]) (by simp[results,results197,go_sem,g0,g1,g2,g3,g4,g5,g6,g7]) rfl ⟨_,_,rfl,?_,?_,HBW7.out.drew.drew⟩
   ·simp only[fstT,lstT,if_true,if_false,Bool.false_eq_true,EX.out,EY.out];exact NX.out
   ·simp only[fstT,lstT,if_true,if_false,Bool.false_eq_true,EX.out,EY.out];exact NY.out
def IStC(G:List PR->T->Prop)(g:Nat):Prop:=∀C:RC,C.Ok->∀(W:World) (r:RS),RI C W r->∀(t:T) (v:Value) (back:Bool),NV C.w Any t v->G C.p.prs t->zkB C.p.prs C.F g back t r ≠ .gas ->
 Calls prog 137 #[.pointer (some ⟨C.rb,0,none⟩),v,.bool back] W (RunP C W (zkB C.p.prs C.F g back t r))
theorem zlh{G:List PR->T->Prop}{g:Nat}(hS:IStC G g){C:RC}(hC:C.Ok){W:World}{r:RS}(h:RI C W r)(t:T)(v:Value)(back:Bool)(hv:NV C.w Any t v)(hG:∀u∈t.ks,G C.p.prs u)(aD:runO C.p.prs C.F g back t r ≠ .gas) :
  Calls prog 101 #[.pointer (some ⟨C.rb,0,none⟩),v,.bool back] W (RunP C W (runO C.p.prs C.F g back t r)):=by
 obtain⟨A,c,rfl,-,hlk,hlc,hrow⟩:=hv.open_;have af:=zh hrow;have HS:=zh hS;have HG:=zh hG;have hb0:=zka (zs W) (.cells #[.int .u8 t.k,.int .i64 t.n,.string t.s,.slice A t.ks.length c] 41);obtain⟨cZ,h1⟩:=h.plus hC hb0;have hz1:(W.alloc (.cells #[.int .u8 t.k,.int .i64 t.n,.string t.s,.slice A t.ks.length c] 41)).heap.size=W.heap.size+1:=by simp
 have hbx:=box4 (heap_alloc_new W (.cells #[.int .u8 t.k,.int .i64 t.n,.string t.s,.slice A t.ks.length c] 41));have aJ:=zh (Kpt.of_below (n0:=C.n0) (kb:=C.kb) hb0);obtain⟨W1,hW1⟩:=zX (W.alloc (.cells #[.int .u8 t.k,.int .i64 t.n,.string t.s,.slice A t.ks.length c] 41));rw[hW1]at cZ h1 hz1 hbx aJ;obtain⟨hi,hhi⟩:=zX (W1.heap.size);rw[hhi]at cZ h1 hz1;have lT:=zh cZ;have H1:=zh h1;have aX:=zh hbx;have hz2:W.heap.size<hi:=by omega
 have hwn:IntKind.i64.wrap ((t.ks.length:Int)-1)=(t.ks.length:Int)-1:=IntWalk.i64_in _ (by unfold LK at hlk;omega);have hwq:∀j:Nat,j<t.ks.length->IntKind.i64.wrap ((t.ks.length:Int)-1-(j:Int))=((t.ks.length-1-j:Nat):Int):=fun j hj=>by rw[IntWalk.i64_in _ (by unfold LK at hlk;omega)];omega
 obtain⟨o,ho⟩:=zX (runO C.p.prs C.F g back t r);have HO:=zh (show zlb (zkB C.p.prs C.F g back) ((blkL back t).drop 0) r=o by rw[List.drop_zero];exact ho);have qF:=zh (show o ≠ .gas from ho▸aD);have lG:(blkL back t).length=t.ks.length:=by unfold blkL;split<;>simp
 rw[ho];have bK:=zh lG;have hlk2:t.ks.length<=17592186044416:=by unfold LK at hlk;omega
 clear lG hlk;clear hv cZ h1 hbx hb0 h hz1 hS hG hrow ho aD;obtain⟨x0,x1,x2,x3⟩:=aX.out;go_enter func101,ntmps101;go_wp2_with fail;clear x0 x1 x2 x3 hW1
 go_loopw [15] (fun i wr=>∃(j:Nat) (r1:RS),j<=t.ks.length/\i=.int .i64 j/\Hid (RI (C.plus W.heap.size hi) wr r1)/\Hid (Kpt C.n0 (C.plus W.heap.size hi).kb W1 wr)/\Hid (zlb (zkB C.p.prs C.F g back) ((blkL back t).drop j) r1=o)) (fun i _=>t.ks.length-(intOf i).toNat)
 case atStart=>exact⟨0,r,Nat.zero_le _,rfl,H1,zh (Kpt.refl _ _ _),HO⟩
 case round =>
  obtain⟨j,r1,hj,rfl,HR,HK,HB⟩:=hrel;by_cases hlt:j<t.ks.length
  ·cases back
   ·skip
    have hj1:(j:Int)<(t.ks.length:Int):=by omega
    have hj0:(0:Int)<=(j:Int):=by omega
    have zx:j<t.ks.length:=by omega
    have hqs1:(j:Int)<(t.ks.length:Int):=by omega
    have hqs0:(0:Int)<=(j:Int):=by omega
    have ed:=HR.out.below;obtain⟨a,u,A1,c1,rfl,-,hu,⟨p0,p1,p2,p3⟩,hnu⟩:=af.out.nd zx;have hgu:=HG.out u (by rw[<-hu.out];exact List.getElem_mem _);have hbs:zlb (zkB C.p.prs C.F g false) ((blkL false t).drop j) r1=(zkB C.p.prs C.F g false u r1).bind (zlb (zkB C.p.prs C.F g false) ((blkL false t).drop (j+1))):=by
     rw[show(blkL false t).drop j=u::(blkL false t).drop (j+1) by rw[List.drop_eq_getElem_cons (by rw[bK.out];exact hlt),<-hu.out];congr 1;all_goals simp[blkL,hlt]];rfl
    rw[HB.out]at hbs;have nP:=zh hbs;have wZ:=zh (HS.out (C.plus W.heap.size hi) lT.out wr r1 HR.out u _ false hnu hgu (fun e=>qF.out (by rw[hbs,show zkB C.p.prs C.F g false u r1=.gas from e];rfl)));have q0:=zb ed p0;have q1:=zb ed p1;have q2:=zb ed p2;have q3:=zb ed p3;have x3:wr.cell? ⟨W.heap.size,3,none⟩=some (.slice (some a) t.ks.length c):=HK.out.cell (.inr (.inr ⟨zl,hz2⟩)) aX.out.2.2.2;clear hbs ed hnu hgu p0 p1 p2 p3 hu;go_wp2_with fail;refine wZ.out.mono ?_;rintro e w2 ⟨hk2,hb2,ho2⟩;have fZ:match zkB C.p.prs C.F g false u r1 with
     | .gas=>True
     | .err x=>e=zlE x
     | .ok r=>(∃u,e=.returned u)/\RI (C.plus W.heap.size hi) w2 r:=ho2
    have aR:=zh (HK.out.trans hk2);clear ho2 hk2 wZ q0 q1 q2 q3 x3
    cases hx:zkB C.p.prs C.F g false u r1 with
    | gas=>exact absurd (by rw[nP.out,hx];rfl) qF.out
    | err x =>
     rw[hx]at fZ;subst fZ;have ho3:o=.err x:=by rw[nP.out,hx];rfl
     dsimp only;refine⟨rfl,aJ.out.trans (Kpt.less aR.out),hb2,?_⟩;rw[ho3]
    | ok r2 =>
     rw[hx]at fZ;obtain⟨⟨u2,rfl⟩,hr2⟩:=fZ;have HR2:=zh hr2;have HB2:=zh (show zlb (zkB C.p.prs C.F g false) ((blkL false t).drop (j+1)) r2=o by rw[nP.out,hx];rfl);clear hr2 hx;go_wp2_with fail
     go_roundw
     case rel=>exact⟨j+1,r2,by omega,by go_num,HR2,aR,HB2⟩
     case measure=>simp[intOf];omega
   ·skip
    have hwq1:=hwq j hlt;obtain⟨q,hq⟩:=zX (t.ks.length-1-j);rw[hq]at hwq1;have hj1:(j:Int)<(t.ks.length:Int):=by omega
    have hj0:(0:Int)<=(j:Int):=by omega
    have zx:q<t.ks.length:=by omega
    have hqs1:(q:Int)<(t.ks.length:Int):=by omega
    have hqs0:(0:Int)<=(q:Int):=by omega
    have ed:=HR.out.below;obtain⟨a,u,A1,c1,rfl,-,hu,⟨p0,p1,p2,p3⟩,hnu⟩:=af.out.nd zx;have hgu:=HG.out u (by rw[<-hu.out];exact List.getElem_mem _);have hbs:zlb (zkB C.p.prs C.F g true) ((blkL true t).drop j) r1=(zkB C.p.prs C.F g true u r1).bind (zlb (zkB C.p.prs C.F g true) ((blkL true t).drop (j+1))):=by
     rw[show(blkL true t).drop j=u::(blkL true t).drop (j+1) by rw[List.drop_eq_getElem_cons (by rw[bK.out];exact hlt),<-hu.out];congr 1;all_goals simp[blkL,hq]];rfl
    rw[HB.out]at hbs;have nP:=zh hbs;have wZ:=zh (HS.out (C.plus W.heap.size hi) lT.out wr r1 HR.out u _ true hnu hgu (fun e=>qF.out (by rw[hbs,show zkB C.p.prs C.F g true u r1=.gas from e];rfl)));have q0:=zb ed p0;have q1:=zb ed p1;have q2:=zb ed p2;have q3:=zb ed p3;have x3:wr.cell? ⟨W.heap.size,3,none⟩=some (.slice (some a) t.ks.length c):=HK.out.cell (.inr (.inr ⟨zl,hz2⟩)) aX.out.2.2.2;clear hbs ed hnu hgu p0 p1 p2 p3 hu;go_wp2_with fail;refine wZ.out.mono ?_;rintro e w2 ⟨hk2,hb2,ho2⟩;have fZ:match zkB C.p.prs C.F g true u r1 with
     | .gas=>True
     | .err x=>e=zlE x
     | .ok r=>(∃u,e=.returned u)/\RI (C.plus W.heap.size hi) w2 r:=ho2
    have aR:=zh (HK.out.trans hk2);clear ho2 hk2 wZ q0 q1 q2 q3 x3
    cases hx:zkB C.p.prs C.F g true u r1 with
    | gas=>exact absurd (by rw[nP.out,hx];rfl) qF.out
    | err x =>
     rw[hx]at fZ;subst fZ;have ho3:o=.err x:=by rw[nP.out,hx];rfl
     dsimp only;refine⟨rfl,aJ.out.trans (Kpt.less aR.out),hb2,?_⟩;rw[ho3]
    | ok r2 =>
     rw[hx]at fZ;obtain⟨⟨u2,rfl⟩,hr2⟩:=fZ;have HR2:=zh hr2;have HB2:=zh (show zlb (zkB C.p.prs C.F g true) ((blkL true t).drop (j+1)) r2=o by rw[nP.out,hx];rfl);clear hr2 hx;go_wp2_with fail
     go_roundw
     case rel=>exact⟨j+1,r2,by omega,by go_num,HR2,aR,HB2⟩
     case measure=>simp[intOf];omega
  ·have ho3:o=.ok r1:=by
    rw[<-HB.out,show(blkL back t).drop j=[] by rw[List.drop_eq_nil_iff,bK.out];omega];rfl
   have hbr:=HR.out.below;have hj1:¬ (j:Int)<(t.ks.length:Int):=by omega
   go_wp2_with fail;go_end0;refine⟨aJ.out.trans (Kpt.less HK.out),hbr,?_⟩
   try rw[ho3]
   exact⟨⟨_,rfl⟩,HR.out.less⟩
end
end Go.Proofs.YtembgnhbpmfhpaaGreat
