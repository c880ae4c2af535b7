/-
  Texts of the proof, put together without their remarks: Kg, Rcp, Scl, Ip, Ir, Stn, Enp, Enq, En1, En2, En3, En4.
-/
import Derived.Test.YthjinpodhacleaaGreatR7
import Derived.Recover
set_option linter.unusedSimpArgs false
set_option linter.unusedVariables false
set_option maxHeartbeats 8000000
set_option maxRecDepth 100000
namespace Go.Proofs.YthjinpodhacleaaGreat
open Tryz
section
open Go Go.RowKit
def FrK(S S':ST):Prop:=S'.base=S.base/\S'.calls=S.calls/\S'.nc=S.nc
theorem zwj(S:ST)(k:Int)(id i aj:Nat):FrK S (znN S k id i aj).2:=by
 unfold znN
 repeat' split
 all_goals exact⟨rfl,rfl,rfl⟩
theorem ztq(S:ST)(k:Int)(id i:Nat):FrK S (zlv S k id i).2:=by
 unfold zlv
 repeat' split
 all_goals exact⟨rfl,rfl,rfl⟩
theorem zwP(S:ST)(k:Int)(s qs:ByteArray)(r2:Int)(id i:Nat):FrK S (zou S k s qs r2 id i).2:=by
 unfold zou
 repeat' split
 all_goals first|exact zwj _ _ _ _ _|exact ztq _ _ _ _|exact⟨rfl,rfl,rfl⟩
theorem zwQ(S:ST)(k:Int)(s ps qs:ByteArray)(r1:Int)(r2:Int×Int):FrK S (zov S k s ps qs r1 r2).2:=by
 unfold zov
 repeat' split
 all_goals first|exact zwP _ _ _ _ _ _ _|exact⟨rfl,rfl,rfl⟩
theorem zwR(S:ST)(k:Int)(s:ByteArray)(p q:T)(r1 r2:Int×Int):FrK S (zlp S k s p q r1 r2).2:=by
 unfold zlp;by_cases h:r1.2≠0
 ·rw[if_pos h];exact⟨rfl,rfl,rfl⟩
 ·rw[if_neg h];exact zwQ _ _ _ _ _ _ _
theorem zxI(S:ST)(t:T):FrK S (doE S t).2:=by
 unfold doE
 repeat' split
 all_goals first|exact⟨rfl,rfl,rfl⟩|skip
 obtain⟨k,n,s,ks⟩:=t;exact zwR _ _ _ _ _ _ _
theorem zvO(S:ST)(t:T):FrK S (zoK S t).2:=by
 obtain⟨k,n,s,ks⟩:=t;exact zxI _ _
theorem zse{f:FR}:∀(l:List (VD×ByteArray)) (acc g:FR),entL f acc l=.ok g->g.vs.length=acc.vs.length+l.length
 | [],acc,g,h=>by rw[entL]at h;injection h with h;subst h;simp
 | (v,a)::r,acc,g,h=>by
  rw[entL]at h
  split at h
  ·cases h
  ·split at h
   ·have:=zse r _ _ h;simp at this ⊢;omega
   ·cases h
theorem zv0{W:World}{b:Nat}{E:TypeId}{vs:List VD}(h:W.heap[b]?=some (.cells (zkD vs).toArray E (0,0)))(hx:∀v∈vs,FldV v):RowV W Any (some ⟨b,0,none⟩) vs:=fun i hi=>by
 have ha:(⟨b,0,none⟩:Addr).add (i*3)=⟨b,i*3,none⟩:=by rw[Addr.add_lit,Nat.zero_add]
 obtain⟨g1,g2,g3⟩:=zmx vs i hi;refine⟨⟨b,0,none⟩,rfl,trivial,?_,hx _ (List.getElem_mem hi)⟩;rw[ha];have key:∀o u,(zkD vs)[o]?=some u->W.cell? ⟨b,o,none⟩=some u:=fun o u ho=>by
  simp only[World.cell?,h];simpa using ho
 exact⟨key _ _ g1,key _ _ g2,key _ _ g3⟩
theorem zlG{w:World}{b:Nat}{E:TypeId}{u0 u1 u2:Value}(h:w.heap[b]?=some (.cells #[u0,u1,u2] E (0,0))):w.cell? ⟨b,0,none⟩=some u0/\w.cell? ⟨b,1,none⟩=some u1/\w.cell? ⟨b,2,none⟩=some u2 :=
 ⟨zc h rfl,zc h rfl,zc h rfl⟩
theorem zrU{W:World}{n0:Nat}{E:TypeId}{v:Value}{l:List Int}(h:W.ownsRow n0 E 1 v l.length (zki l))(hf:∀x∈l,I64 x):∃A c,v=.slice A l.length c/\l.length<=c/\RowI W (fun b=>n0<=b) A l:=by
 obtain⟨A,c,e,hc,hr⟩:=zld (xs:=l) h hf;exact⟨A,c,e,hc,hr.keep (fun b hb _=>(h.lt b hb).1) (fun _ _ _=>rfl)⟩
theorem OwnS.svR{W:World}{n0:Nat}{s:SS}{v:Value}(h:OwnS W n0 s v)(hl:s.Lim):SV W (fun b=>n0<=b) s v:=by
 obtain⟨vc,vi,vo,fc,rfl,hr,h1,h2,h3⟩:=h;obtain⟨AI,cI,e2,k2,r2⟩:=zrU (hr.row .inp) h2;obtain⟨AO,cO,e3,k3,r3⟩:=zrU (hr.row .out) h3;change vi=_ at e2;change vo=_ at e3;have key:∃A c,vc=.slice A s.cells.length c/\s.cells.length<=c/\znh W (fun b=>n0<=b) A s.cells:=by
  rcases Nat.eq_zero_or_pos s.cells.length with h0|h0
  ·obtain⟨A,c,e1,hc,_⟩:=zkg (hr.row .all);exact⟨A,c,e1,hc,fun i hi=>by omega⟩
  ·obtain⟨g,c,e1,hc,_,hcell⟩:=zk7 (hr.row .all) h0;change vc=_ at e1;have hg:n0<=g:=(hr.lt .all g (by show vc.ownBlock=some g;rw[e1];rfl)).1;refine⟨_,c,e1,hc,fun i hi=>?_⟩;have aX:=hr.row (.el i);simp only[znM,hi,if_true,List.getD_eq_getElem?_getD,List.getElem?_eq_getElem hi,Option.getD_some]at aX;obtain⟨A',c',e4,k4,r4⟩:=zrU aX (h1 _ (List.getElem_mem hi));have ha:(⟨g,0,none⟩:Addr).add i=⟨g,i,none⟩:=by rw[Addr.add_lit,Nat.zero_add]
   refine⟨⟨g,0,none⟩,A',c',rfl,hg,?_,k4,r4⟩;rw[ha,<-e4,hcell i (by show i<s.cells.length*1;omega)];simp[znM,hi]
 obtain⟨A,c,e1,k1,r1⟩:=key;exact⟨A,c,AI,cI,AO,cO,by rw[e1,e2,e3],r1,r2,r3,k1,k2,k3,hl⟩
theorem SV.any{W:World}{S:Nat->Prop}{s:SS}{v:Value}(h:SV W S s v):SV W Any s v:=h.keep (fun _ _ _=>trivial) fun _ _ _=>rfl
theorem SR.n0le{W:World}{n0:Nat}{P:Ph}{S:ST}(h:SR W n0 P S):n0<=W.heap.size:=by have:=h.rws.lt .sb _ rfl;omega
theorem SR.own_lt{W:World}{n0:Nat}{P:Ph}{S:ST}(h:SR W n0 P S){b:Nat}(hb:OwnB (rows P S) b):n0<=b/\b<W.heap.size:=by
 obtain⟨q,hq⟩:=hb;exact h.rws.lt q b hq
theorem SStp.frame{w W W':World}{n0:Nat}{P P':Ph}{S S':ST}(hst:SStp n0 P S W P' S' W')(hs:SR W n0 P S)(hb:Below w.heap.size w W)(hn:w.heap.size<=n0):Below w.heap.size w W' :=
 hb.trans (hst.st.chg.below (Nat.le_trans hn hs.n0le) fun _ ho=>Nat.le_trans hn (hs.own_lt ho).1)
theorem SStp.no{W W':World}{n0:Nat}{P P':Ph}{S S':ST}{b:Nat}(hst:SStp n0 P S W P' S' W')(hlt:b<W.heap.size)(hno:¬ OwnB (rows P S) b):¬ OwnB (rows P' S') b:=fun ho=>by
 rcases hst.st.own _ ho with h|h
 ·exact hno h
 ·omega
theorem zlc{P:Program}{ops:Array Oper}{o:Oper}{a:Act}{w:World}{K:Act->World->Prop}{Q:Exit->Act->World->Prop}{F:Prop}(hw:Region.wanted o (yielded ops a.tmps)=true)(x:Operand)(xs:List Operand)(ats:Array TypeId)
  (ho:o.op=.call { callee:=.value x,args:=xs.toArray,argTypes:=ats })(f:FuncId)(fn:Func)(hf:IsFn P f fn)(hv:a.eval x=.func (.func f) #[] #[])(l:List Value)(hargs:xs.map a.eval=l)(R:Value->World->Prop)
  (hc:Calls P f l.toArray w fun e w'=>∃v,e=.returned v/\R v w')(h:∀v w',R v w'->K (a.put o.dst v) w') :
  if Region.wanted o (yielded ops a.tmps)=true then Oper.wp P o a w K Q else F:=by
 rw[if_pos hw];subst hargs;have e:(execOp a.eval o).run P w=.ok (.enter f (xs.map a.eval).toArray) w:=by
  unfold execOp;simp only[ho,resolve,hv,Deferred.ofValue,Sem.run_bind,Sem.run_pure,Result.andThen_ok,invoke,zkG hf,Array.empty_append,List.map_toArray,Array.append_empty]
 unfold Oper.wp;rw[e,Oper.upon_enter];refine hc.mono ?_;rintro e w' ⟨v,rfl,hR⟩;exact h v w' hR
structure KS(w:World)(n0 sb:Nat)(kb:Nat->Prop)(W:World)(S:ST):Prop where
 bl:Below w.heap.size w W
 hn:w.heap.size<=n0
 sr:∃P,SR W n0 P S/\P.sb=sb/\∀b,kb b->b<W.heap.size/\¬ OwnB (rows P S) b
structure Kpt(n0:Nat)(kb:Nat->Prop)(W W':World):Prop where
 size:W.heap.size<=W'.heap.size
 kept:∀b,b<W.heap.size->(b<n0\/kb b)->W'.heap[b]?=W.heap[b]?
section
variable {w W W' W'':World} {n0 sb:Nat} {kb kb':Nat->Prop} {S S':ST}
theorem Kpt.refl(n0:Nat)(kb:Nat->Prop)(W:World):Kpt n0 kb W W:=⟨zl,fun _ _ _=>rfl⟩
theorem Kpt.trans(h:Kpt n0 kb W W')(h':Kpt n0 kb W' W''):Kpt n0 kb W W'':=⟨Nat.le_trans h.size h'.size,fun b hb hk=>(h'.kept b (Nat.lt_of_lt_of_le hb h.size) hk).trans (h.kept b hb hk)⟩
theorem Kpt.of_below(h:Below W.heap.size W W'):Kpt n0 kb W W':=⟨h.size,fun b hb _=>h.block b hb⟩
theorem Kpt.cell{b o:Nat}{u:Value}(h:Kpt n0 kb W W')(hk:b<n0\/kb b)(hc:W.cell? ⟨b,o,none⟩=some u):W'.cell? ⟨b,o,none⟩=some u :=
 zkM hc (h.kept b (World.block_lt_of_cell? W _ hc) hk)
theorem Kpt.blk{b:Nat}{o:Obj}(h:Kpt n0 kb W W')(hk:b<n0\/kb b)(hc:W.heap[b]?=some o):W'.heap[b]?=some o:=(h.kept b (zkf hc) hk).trans hc
theorem KS.wf(h:KS w n0 sb kb W S):S.WF:=by obtain⟨P,hs,_⟩:=h.sr;exact hs.wf
theorem KS.later(h:KS w n0 sb kb W S)(hb:Below W.heap.size W W'):KS w n0 sb kb W' S:=by
 obtain⟨P,hs,e,hk⟩:=h.sr;exact⟨zka h.bl hb,h.hn,P,hs.later hb,e,fun b hb'=>⟨Nat.lt_of_lt_of_le (hk b hb').1 hb.size,(hk b hb').2⟩⟩
theorem KS.also(h:KS w n0 sb kb W S)(hb:Below W.heap.size W W')(hkb:∀b,kb' b->kb b\/(W.heap.size<=b/\b<W'.heap.size)):KS w n0 sb kb' W' S:=by
 obtain⟨P,hs,e,hk⟩:=h.sr;refine⟨zka h.bl hb,h.hn,P,hs.later hb,e,fun b hb'=>?_⟩;rcases hkb b hb' with h1|⟨h1,h2⟩
 ·exact⟨Nat.lt_of_lt_of_le (hk b h1).1 hb.size,(hk b h1).2⟩
 ·exact⟨h2,fun ho=>by have:=(hs.own_lt ho).2;omega⟩
theorem KS.less(h:KS w n0 sb kb W S)(hkb:∀b,kb' b->kb b):KS w n0 sb kb' W S:=h.also zr fun b hb=>.inl (hkb b hb)
theorem KS.new{P:Ph}{vs:List VD}{s:SS}{W0:World}(h0:Below w.heap.size w W0)(hb:Below W0.heap.size W0 W)(hs:SR W W0.heap.size P (newS vs s)):KS w W0.heap.size P.sb (fun _=>False) W (newS vs s) :=
 ⟨zka h0 hb,h0.size,P,hs,rfl,fun _ h=>h.elim⟩
def KP(w:World)(n0 sb:Nat)(kb:Nat->Prop)(W:World)(R:Int×ST)(e:Ending)(W':World):Prop:=e=.returned (.int .i64 R.1)/\KS w n0 sb kb W' R.2/\Kpt n0 kb W W'
theorem KS.stp{P P':Ph}(hbl:Below w.heap.size w W)(hn0:w.heap.size<=n0)(hs:SR W n0 P S)(hk:∀b,kb b->b<W.heap.size/\¬ OwnB (rows P S) b)(hst:SStp n0 P S W P' S' W')(hsb:P'.sb=sb):KS w n0 sb kb W' S'/\Kpt n0 kb W W':=by
 refine⟨⟨hst.frame hs hbl hn0,hn0,P',hst.sr,hsb,fun b hb=>⟨Nat.lt_of_lt_of_le (hk b hb).1 hst.st.chg.size,hst.no (hk b hb).1 (hk b hb).2⟩⟩,hst.st.chg.size,fun b hlt hb=>hst.st.chg.block b hlt fun ho=>?_⟩;rcases hb with hb|hb
 ·have:=(hs.own_lt ho).1;omega
 ·exact(hk b hb).2 ho
theorem KS.dop(h:KS w n0 sb kb W S){f:FuncId}{args:Array Value}{R:Int×ST}(hc:∀P,SR W n0 P S->P.sb=sb->Calls prog f args W (DoP n0 P S W R)):Calls prog f args W (KP w n0 sb kb W R):=by
 obtain⟨P,hs,e,hk⟩:=h.sr;refine(hc P hs e).mono ?_;rintro e' W2 ⟨a1,P',a2,a3⟩;exact⟨a1,KS.stp h.bl h.hn hs hk a2 (a3.trans e)⟩
theorem KS.do_(h:KS w n0 sb kb W S)(t:T)(v:Value)(hv:NV W Any t v):Calls prog 141 #[.pointer (some ⟨sb,0,none⟩),v] W (KP w n0 sb kb W (doE S t)) :=
 h.dop fun _ hs e=>e▸zxP hs t v hv
theorem KS.undo(h:KS w n0 sb kb W S)(t:T)(v:Value)(hv:NV W Any t v):Calls prog 140 #[.pointer (some ⟨sb,0,none⟩),v] W (KP w n0 sb kb W (zoK S t)) :=
 h.dop fun _ hs e=>e▸zxe hs t v hv
theorem KS.open_(h:KS w n0 sb kb W S)(v:VD)(hfv:FldV v)(x:Int)(hx:I64 x)(hlim:S.cur.vs.length+1<=4398046511000):Calls prog 137 #[.pointer (some ⟨sb,0,none⟩),.agg #[.string v.s,.int .u8 v.k,.int .i64 v.n],.int .i64 x] W (KP w n0 sb kb W (zl4 S v x)) :=
 h.dop fun _ hs e=>e▸zxl hs v hfv x hx hlim
theorem KS.close(h:KS w n0 sb kb W S)(s:ByteArray)(x:Int):Calls prog 138 #[.pointer (some ⟨sb,0,none⟩),.string s,.int .i64 x] W (KP w n0 sb kb W (zlf S s x)) :=
 h.dop fun _ hs e=>e▸zvC hs s x
theorem KS.enter(h:KS w n0 sb kb W S)(ps:List VD)(ss:List ByteArray)(A D:Option Addr)(c d:Nat)(hp:RowV W Any A ps)(hs:RowS W D ss)(hlp:ps.length<=4398046511000)(hls:ss.length<=17592186044416):Calls prog 158 #[.pointer (some ⟨sb,0,none⟩),.slice A ps.length c,.slice D ss.length d] W (KP w n0 sb kb W (zl8 S ps ss)) :=
 h.dop fun _ hs' e=>e▸zvz hs' ps ss A D c d hp hs hlp hls
theorem KS.leave(h:KS w n0 sb kb W S):Calls prog 159 #[.pointer (some ⟨sb,0,none⟩)] W (KP w n0 sb kb W (zml S)) :=
 h.dop fun _ hs e=>e▸zvh hs
theorem KS.cell(h:KS w n0 sb kb W S)(s:ByteArray):Calls prog 167 #[.pointer (some ⟨sb,0,none⟩),.string s] W (zKe W S s):=by
 obtain⟨P,hs,rfl,-⟩:=h.sr;exact zve hs s
theorem KS.state(h:KS w n0 sb kb W S):Calls prog 77 #[.pointer (some ⟨sb,0,none⟩)] W fun e W'=>∃v,e=.returned v/\OwnS W' W.heap.size S.state v/\Below W.heap.size W W':=by
 obtain⟨P,hs,rfl,-⟩:=h.sr;exact zvc hs
end
theorem KS.chg{w W W':World}{n0 sb:Nat}{kb C:Nat->Prop}{S:ST}(h:KS w n0 sb kb W S)(hc:Chg C W W')(hC:∀b,b<W.heap.size->C b->w.heap.size<=b/\(b<n0\/kb b)):KS w n0 sb kb W' S:=by
 obtain⟨P,hs,e,hk⟩:=h.sr;have hno:∀b,OwnB (rows P S) b->¬ C b:=fun b ho hcb=>by
  obtain⟨-,h2⟩:=hC b (hs.own_lt ho).2 hcb;rcases h2 with h2|h2
  ·have:=(hs.own_lt ho).1;omega
  ·exact(hk b h2).2 ho
 refine⟨?_,h.hn,P,⟨hs.rws.chg hc fun i b hb=>hno b ⟨i,hb⟩,hs.wf⟩,e,fun b hb=>⟨Nat.lt_of_lt_of_le (hk b hb).1 hc.size,(hk b hb).2⟩⟩;exact⟨hc.os.trans h.bl.os,hc.tape.trans h.bl.tape,hc.output.trans h.bl.output,Nat.le_trans h.bl.size hc.size,fun b hb=>by
  rw[hc.block b (Nat.lt_of_lt_of_le hb h.bl.size) fun hcb=>by have:=(hC b (Nat.lt_of_lt_of_le hb h.bl.size) hcb).1;omega];exact h.bl.block b hb⟩
theorem zz0(A:Option Addr)(l c:Nat)(w:World):(Instr.buildSlice 41 1 #[(0,.slice A l c)]).run prog w=.ok (.slice (some ⟨w.heap.size,0,none⟩) 1 1) (w.alloc (.cells #[.slice A l c] 42)):=by kernel_rfl
theorem bS12(B C:Option Addr)(m d n e:Nat)(w:World):(Instr.build 44 #[(1,.slice B m d),(2,.slice C n e)]).run prog w=.ok (.agg #[.slice none 0 0,.slice B m d,.slice C n e]) w:=by kernel_rfl
section
variable {P:Program} {ops:Array Oper} {Q:Exit->Act->World->Prop} {md:Region.Mode} {S1 S2:World->Prop} {k:Nat}
theorem zp3(I:Nat->Array Bool->Act->World->Prop)(hS:∀f l a w,I f l a w->S1 w/\S2 w)
  (h:∀f l a w,I f l a w->wpG P md ops Q S1 S2 k f l a w\/∃f',f=f'+1/\Region.ready md ops l≠[]/\∀i∈Region.ready md ops l,wpOp P ops Q i (fun a' w'=>I f' (l.setIfInBounds i true) a' w') a w) :
  ∀f l a w,I f l a w->wpG P md ops Q S1 S2 k f l a w
 | 0,l,a,w,hi=>by
  rcases h 0 l a w hi with h1|⟨f',h1,_⟩
  ·exact h1
  ·omega
 | f+1,l,a,w,hi=>by
  rcases h (f+1) l a w hi with h1|⟨f',h1,h2,h3⟩
  ·exact h1
  ·obtain rfl:f=f':=by omega
   exact⟨fun h0=>absurd h0 h2,fun i hm=>wpOp_mono (fun a' w' h'=>⟨⟨(hS _ _ _ _ h').1,fun _=>(hS _ _ _ _ h').2⟩,zp3 I hS h f _ a' w' h'⟩) (h3 i hm)⟩
theorem zrF{a0:Act}{f0:Nat}{l0:Array Bool}{w0:World}(I:Act->Nat->Array Bool->Act->World->Prop)(hS:∀A f l a w,I A f l a w->S1 w/\S2 w)
  (h:∀A,A=a0->∀f l a w,I A f l a w->wpG P md ops Q S1 S2 k f l a w\/∃f',f=f'+1/\Region.ready md ops l≠[]/\∀i∈Region.ready md ops l,wpOp P ops Q i (fun a' w'=>I A f' (l.setIfInBounds i true) a' w') a w)
  (h0:I a0 f0 l0 a0 w0):wpG P md ops Q S1 S2 k f0 l0 a0 w0:=zp3 (I a0) (hS a0) (h a0 rfl) _ _ _ _ h0
end
def zoM(l0 l3 l4 l7 l9:Bool)(v5 v8 v9 v12:Value)(b3:Nat)(s:SS):Option SI->RowD
 | none=>if l9=true then⟨boxV b3,44,3,1,[.slice none 0 0,.slice none 0 0,.slice none 0 0]⟩else nilR
 | some .inp=>if l3=true then⟨v8,3,1,s.tin.length,zki s.tin⟩else if l0=true then⟨v5,3,1,0,[]⟩else nilR
 | some .out=>if l7=true then⟨v12,3,1,s.tout.length,zki s.tout⟩else if l4=true then⟨v9,3,1,0,[]⟩else nilR
 | some _=>nilR
def zlS(vc vi vo:Value)(fc:Nat->Value)(b3:Nat)(s:SS)(j:Nat):Option SI->RowD
 | none=>⟨boxV b3,44,3,1,[vc,vi,vo]⟩
 | some .all=>⟨vc,42,1,j,(List.range j).map fc⟩
 | some (.el i)=>if i<j then⟨fc i,3,1,(s.cells.getD i []).length,zki (s.cells.getD i [])⟩else nilR
 | some .inp=>⟨vi,3,1,s.tin.length,zki s.tin⟩
 | some .out=>⟨vo,3,1,s.tout.length,zki s.tout⟩
theorem zyh(w:World)(n0:Nat)(v5 v8 v9 v12:Value)(b3:Nat)(s:SS):Rws w n0 (zoM false false false false false v5 v8 v9 v12 b3 s):=by
 have e:∀i,zoM false false false false false v5 v8 v9 v12 b3 s i=nilR:=by
  intro i;rcases i with _|i
  ·rfl
  ·cases i<;>rfl
 refine⟨fun i=>by rw[e];exact zlY w n0,fun i j b _ hi _=>?_⟩;rw[e]at hi;simp[nilR,Value.ownBlock]at hi
theorem zv9(w:World)(n0:Nat)(h:n0<=w.heap.size)(a b c:Value)(E:TypeId):(w.alloc (.cells #[a,b,c] E)).ownsRow n0 E 3 (boxV w.heap.size) 1 [a,b,c] :=
 ⟨rfl,.inr ⟨w.heap.size,1,#[a,b,c],rfl,h,heap_alloc_new w _,zl,by unfold maxLen;omega,rfl,rfl⟩⟩
theorem zsz(vc iU vi vo:Value)(fc:Nat->Value)(b3:Nat)(s:SS)(j:Nat)(l:List Int)(v8 r5:Value)(hl:s.cells.getD j []=l) :
  updR (updR (updR (updR (zlS vc vi vo fc b3 s j) (some (.el j)) ⟨r5,3,1,0,[]⟩) (some (.el j)) ⟨v8,3,1,l.length,zki l⟩) (some .all) ⟨iU,42,1,j+1,(List.range j).map fc++[v8]⟩) none ⟨boxV b3,44,3,1,[iU,vi,vo]⟩=zlS iU vi vo (fun i=>if i=j then v8 else fc i) b3 s (j+1):=by
 funext i;rcases i with _|i
 ·rfl
 ·cases i with
  | all =>
   simp only[updR,zlS,reduceCtorEq,if_false,if_true,RowD.mk.injEq,true_and];rw[List.range_succ,List.map_append];congr 1
   ·refine List.map_congr_left fun i hi=>?_;have:i≠j:=by have:=List.mem_range.1 hi;omega
    simp[this]
   ·simp
  | inp=>rfl
  | out=>rfl
  | el i =>
   by_cases e:i=j
   ·subst e;simp[updR,zlS,<-hl]
   ·have e2:(i<j+1)↔(i<j):=by omega
    simp[updR,zlS,e,e2]
theorem zqc{W:World}{n0:Nat}{vc vi vo:Value}{fc:Nat->Value}{b3:Nat}{s:SS}(h:Rws W n0 (zlS vc vi vo fc b3 s s.cells.length)):Rws W n0 (znM vc vi vo fc s):=by
 have e:∀i,znM vc vi vo fc s i=zlS vc vi vo fc b3 s s.cells.length (some i):=fun i=>by cases i<;>rfl
 refine⟨fun i=>by rw[e];exact h.row (some i),fun i j b hij hi hj=>?_⟩;rw[e]at hi hj;exact h.sep (some i) (some j) b (fun e'=>hij (by injection e')) hi hj
theorem ztR{w:World}{n0 b:Nat}{x y z:Value}{E:TypeId}(hn:n0<=b)(h:w.heap[b]?=some (.cells #[x,y,z] E (0,0))):w.ownsRow n0 E 3 (boxV b) 1 [x,y,z] :=
 ⟨rfl,.inr ⟨b,1,#[x,y,z],rfl,hn,h,zl,by unfold maxLen;omega,rfl,rfl⟩⟩
theorem zrc(w:World)(n0:Nat)(E:TypeId):w.ownsRow n0 E 1 (.slice none 0 0) 0 []:=⟨rfl,.inl ⟨rfl,rfl⟩⟩
theorem k_2(l5 l9:Bool)(v5 v8 v8' v9 v12:Value)(b3:Nat)(s:SS):updR (zoM false false false l5 l9 v5 v8' v9 v12 b3 s) (some .inp) ⟨v8,3,1,s.tin.length,zki s.tin⟩=zoM false true false l5 l9 v5 v8 v9 v12 b3 s:=by
 funext i;rcases i with _|i
 ·rfl
 ·cases i<;>rfl
theorem k_5(l2 l9:Bool)(v5 v8 v9 v12 v12':Value)(b3:Nat)(s:SS):updR (zoM false l2 false false l9 v5 v8 v9 v12' b3 s) (some .out) ⟨v12,3,1,s.tout.length,zki s.tout⟩=zoM false l2 false true l9 v5 v8 v9 v12 b3 s:=by
 funext i;rcases i with _|i
 ·rfl
 ·cases i<;>rfl
theorem k_7(l2 l5:Bool)(v5 v8 v9 v12:Value)(b3 b3':Nat)(s:SS):updR (zoM false l2 false l5 false v5 v8 v9 v12 b3' s) none ⟨boxV b3,44,3,1,[.slice none 0 0,.slice none 0 0,.slice none 0 0]⟩=zoM false l2 false l5 true v5 v8 v9 v12 b3 s:=by
 funext i;rcases i with _|i
 ·rfl
 ·cases i<;>rfl
theorem zKu(vi vo v5 v9:Value)(fc:Nat->Value)(b3:Nat)(s:SS):updR (updR (zoM false true false true true v5 vi v9 vo b3 s) none ⟨boxV b3,44,3,1,[.slice none 0 0,vi,vo]⟩) (some .all) ⟨.slice none 0 0,42,1,0,[]⟩=zlS (.slice none 0 0) vi vo fc b3 s 0:=by
 funext i;rcases i with _|i
 ·rfl
 ·cases i<;>rfl
theorem zxD(vc iU vi vo:Value)(fc:Nat->Value)(b3:Nat)(s:SS)(j:Nat)(l:List Int)(v8:Value)(hl:s.cells.getD j []=l) :
  updR (updR (updR (zlS vc vi vo fc b3 s j) (some (.el j)) ⟨v8,3,1,l.length,zki l⟩) (some .all) ⟨iU,42,1,j+1,(List.range j).map fc++[v8]⟩) none ⟨boxV b3,44,3,1,[iU,vi,vo]⟩=zlS iU vi vo (fun i=>if i=j then v8 else fc i) b3 s (j+1):=by
 rw[<-zsz vc iU vi vo fc b3 s j l v8 v8 hl];congr 2;funext i;by_cases e:i=some (.el j)
 ·subst e;simp[updR]
 ·simp[updR,e]
theorem zp1(s:SS)(v:Value)(w:World)(hv:SV w Any s v)(hcl:s.cells.length<=5864062014800):Calls prog 31 #[v] w fun e W'=>∃v',e=.returned v'/\OwnS W' w.heap.size s v'/\Below w.heap.size w W':=by
 have h1:=bS12;have HV:=zh hv;obtain⟨A,c,B,d,D,e,rfl,hr1,hr2,hr3,hc1,hc2,hc3,hl1,hl2,hl3,hl4⟩:=hv;have hk:=heap_alloc_new w (.cells #[.slice A s.cells.length c,.slice B s.tin.length d,.slice D s.tout.length e] 44);have hbw:Below w.heap.size w ((w.alloc (.cells #[.slice A s.cells.length c,.slice B s.tin.length d,.slice D s.tout.length e] 44)).alloc (.cells #[.slice none 0 0,.slice none 0 0,.slice none 0 0] 44)):=zkb (zkb zr _) _;have hk2:=zkd hk (.cells #[.slice none 0 0,.slice none 0 0,.slice none 0 0] 44);have hz1:((w.alloc (.cells #[.slice A s.cells.length c,.slice B s.tin.length d,.slice D s.tout.length e] 44)).alloc (.cells #[.slice none 0 0,.slice none 0 0,.slice none 0 0] 44)).heap.size=w.heap.size+1+1:=by simp
 have hk3:=heap_alloc_new (w.alloc (.cells #[.slice A s.cells.length c,.slice B s.tin.length d,.slice D s.tout.length e] 44)) (.cells #[.slice none 0 0,.slice none 0 0,.slice none 0 0] 44);rw[World.size_alloc]at hk3;have HI:=zh (show s.I from⟨fun l hl=>by
  obtain⟨i,hi,rfl⟩:=List.mem_iff_getElem.1 hl;obtain⟨_,_,_,_,_,_,_,hr⟩:=hr1 i hi;exact hr.fits,hr2.fits,hr3.fits⟩)
 go_enter func31,ntmps31;go_upto_region 1 with fail;obtain⟨w1,hw1⟩:=zX ((w.alloc (.cells #[.slice A s.cells.length c,.slice B s.tin.length d,.slice D s.tout.length e] 44)).alloc (.cells #[.slice none 0 0,.slice none 0 0,.slice none 0 0] 44));rw[hw1]at hbw hk2 hk3 hz1 ⊢;have HB1:=zh hbw;have aD:=zh hk2;have fH:=zh hk3;have HR1:=zh (hr1.later hbw);have HR2:=zh (hr2.later hbw);have HR3:=zh (hr3.later hbw);have HL:=zh (show s.Lim from⟨hl1,hl2,hl3,hl4⟩);clear hk hbw hk2 hk3 hw1 hr1 hr2 hr3 hl1 hl2 hl3 hl4 HV;obtain⟨z0,z1,z2⟩:=zlG aD.out;have hSS:zW (fun w':World=>zv w' w.heap.size 1 (.slice B s.tin.length d)/\zv w' w.heap.size 2 (.slice D s.tout.length e)) zU w1.drew:=⟨⟨z1,z2⟩,trivial⟩
 refine wp_region_noPanic ?_;refine zG hSS 8 ?_;refine zT 0 hSS ?_;refine zT 1 hSS ?_;refine zT 3 hSS ?_;refine zT 4 hSS ?_;refine zrF (fun A f l a wr=>∃(l2 l5 l6 l7:Bool) (v8 v12 v13 v3:Value) (b3:Nat),f=(!l2).toNat+(!l5).toNat+(!l6).toNat+(!l7).toNat+1/\l = #[true,true,l2,true,true,l5,l6,l7,false] /\
  a=(((A.put (some 8) v8).put (some 11) v12).put (some 12) v13).put (some 3) v3/\Hid (Below w1.heap.size w1 wr)/\Hid (Rws wr w1.heap.size (zoM false l2 false l5 l7 undef v8 undef v12 b3 s))/\Hid ((l5=true->l2=true)/\(l6=true->v13=.agg #[.slice none 0 0,v8,v12]/\l2=true/\l5=true)/\(l7=true->v3=.pointer (some ⟨b3,0,none⟩)))/\Hid (l7=false->v3=undef)) (fun A f l a wr h=>?_) ?_ ⟨false,false,false,false,undef,undef,undef,undef,0,rfl,rfl,(by simp only[Act.put,zD,zE,zF]),zh zr.drew,zh (zyh _ _ _ _ _ _ _ _),zh ⟨fun h=>(by cases h),fun h=>(by cases h),fun h=>(by cases h)⟩,zh (fun _=>rfl)⟩
 ·obtain⟨_,_,_,_,_,_,_,_,_,_,_,_,hb,_⟩:=h;exact⟨⟨zb hb.out z1,zb hb.out z2⟩,trivial⟩
 rintro A' hA f l a wr ⟨l2,l5,l6,l7,v8,v12,v13,v3,b3,hf,rfl,ha,af,HRW,HC,HU⟩;by_cases hall:(l2&&l5&&l6&&l7)=true
 ·left
  simp only[Bool.and_eq_true]at hall;obtain⟨⟨⟨rfl,rfl⟩,rfl⟩,rfl⟩:=hall;obtain⟨-,mY,h3⟩:=HC.out;obtain⟨rfl,-,-⟩:=mY rfl;obtain rfl:=h3 rfl;subst hf ha hA;have hrow:=HRW.out.row none;obtain⟨B8,c8,e8,-,-⟩:=zkg (HRW.out.row (some .inp));change v8=.slice B8 s.tin.length c8 at e8;obtain⟨lH,c12,e12,-,-⟩:=zkg (HRW.out.row (some .out));change v12=.slice lH s.tout.length c12 at e12;subst e8 e12;have hbx:=zlP hrow;have c0:wr.cell? ⟨b3,0,none⟩=some (.slice none 0 0):=zc hbx rfl;have c1:wr.cell? ⟨b3,1,none⟩=some (.slice none 0 0):=zc hbx rfl;have c2:wr.cell? ⟨b3,2,none⟩=some (.slice none 0 0):=zc hbx rfl;have cf:∀j,wr.frozen? ⟨b3,j,none⟩=false:=fun j=>zf hbx;refine zp 8 fun K hK=>?_;(try simp only[zQ]);go_simp;have hb3:w1.heap.size<=b3/\b3<wr.heap.size:=hrow.lt b3 rfl
  have hch:Chg (fun b=>b=b3) wr (((wr.setCell ⟨b3,0,none⟩ (.slice none 0 0)).setCell ⟨b3,1,none⟩ (.slice B8 s.tin.length c8)).setCell ⟨b3,2,none⟩ (.slice lH s.tout.length c12)) :=
   (((Chg.refl (fun b=>b=b3) wr).setCell (p:=⟨b3,0,none⟩) (.inl rfl) _).setCell (p:=⟨b3,1,none⟩) (.inl rfl) _).setCell (p:=⟨b3,2,none⟩) (.inl rfl) _
  have hh:=heap_setCell_same _ b3 2 _ _ (.slice lH s.tout.length c12) (heap_setCell_same _ b3 1 _ _ (.slice B8 s.tin.length c8) (heap_setCell_same wr b3 0 _ _ (.slice none 0 0) hbx));have aS:=zh (af.out.trans (hch.below af.out.size fun b e=>by omega));have hrw:=(HRW.out.upd none (r:=⟨boxV b3,44,3,1,[.slice none 0 0,.slice B8 s.tin.length c8,.slice lH s.tout.length c12]⟩) (hch.mono fun b _ e=>by subst e;rfl) (ztR hb3.1 hh) (fun b hb=>.inl hb)).upd (some .all) (r:=⟨.slice none 0 0,42,1,0,[]⟩) (Chg.refl _ _) (zrc _ _ _) (fun b hb=>by simp[Value.ownBlock]at hb);rw[zKu (fc:=fun _=>.slice none 0 0)]at hrw;have qP:=zh hrw;obtain⟨w2,hw2⟩:=zX (((wr.setCell ⟨b3,0,none⟩ (.slice none 0 0)).setCell ⟨b3,1,none⟩ (.slice B8 s.tin.length c8)).setCell ⟨b3,2,none⟩ (.slice lH s.tout.length c12));rw[hw2]at aS qP ⊢
  have aC:(fun w':World=>zv w' w.heap.size 1 (.slice B s.tin.length d)/\zv w' w.heap.size 2 (.slice D s.tout.length e)) w2:=⟨zb aS.out z1,zb aS.out z2⟩
  refine hK.out _ _ aC ?_;clear hK K hSS aC hch hh hrw hw2 hbx c0 c1 c2 cf hrow HRW af HU HC mY h3 h1;refine zd ?_;refine NoPanic.normal ?_;obtain⟨vi,rR⟩:=zX (Value.slice B8 s.tin.length c8);obtain⟨vo,AB⟩:=zX (Value.slice lH s.tout.length c12);rw[rR,AB]at qP;have xQ:=zh rR;have HVO:=zh AB;clear rR AB;have q0:=zb aS.out z0;go_wp2_with fail;clear q0
  go_loopw [16] (fun i wr=>∃j:Nat,j<=s.cells.length/\i=.int .i64 j/\Hid (Below w1.heap.size w1 wr)/\∃vc fc,Hid (Rws wr w1.heap.size (zlS vc vi vo fc b3 s j))) (fun i _=>s.cells.length-(intOf i).toNat)
  case atStart=>exact⟨0,Nat.zero_le _,rfl,aS,_,_,qP⟩
  case round =>
   clear aS qP;obtain⟨j,hj,rfl,af,vc,fc,HRW⟩:=hrel;have y0:=zb af.out z0;by_cases hlt:j<s.cells.length
   ·have hj1:(j:Int)<(s.cells.length:Int):=by omega
    have hj0:(0:Int)<=(j:Int):=by omega
    obtain⟨a,l,Al,cl,rfl,Hl,hcl0,hlc,hrl⟩:=(HR1.out.later af.out).nd hlt;have lV:=zh hrl;have gM:=zh (show l.length<=LI by rw[<-Hl.out];exact HL.out.2.1 _ (List.getElem_mem hlt));have hbx:=zlP (HRW.out.row none);have x0:wr.cell? ⟨b3,0,none⟩=some vc:=zc hbx rfl;have hz0:wr.frozen? ⟨b3,0,none⟩=false:=zf hbx;obtain⟨Av,cv,dw,-⟩:=zkg (HRW.out.row (some .all));change vc=.slice Av j cv at dw;subst dw;have hS0:zU wr.drew/\(fun w':World=>zv w' b3 0 (.slice Av j cv)) wr.drew:=⟨trivial,x0⟩
    obtain⟨i0,hi0,hq0,hq1,hq2⟩:=info_parts ztz;have dR:=zh (zkQ l Al cl Any wr.drew (lV.out.later zr.drew) gM.out);go_upto_region 5 with fail;refine wp_region_noPanic ?_;refine zkk zU (fun w':World=>zv w' b3 0 (.slice Av j cv)) 7 (by kernel_rfl) ?_;refine zT 0 hS0 ?_;refine zJ 1 hS0 ?_;refine zT 2 hS0 ?_;have hsz:=af.out.size;have had:Calls prog 55 [.slice Al l.length cl].toArray wr.drew fun e w'=>∃v,e=.returned v/\(w'.ownsRow wr.heap.size 3 1 v l.length (zki l)/\Below wr.heap.size wr w') :=
     dR.out.mono fun e w' ⟨v,h1,h2,_,h4⟩=>⟨v,h1,h2,zka (zs wr).drew h4⟩
    refine zo 3 fun K hK=>?_;refine zke (by rfl) (.func 55) [.tmp 22] _ (by rfl) 55 _ zmH (by rfl) _ (by rfl) _ had ?_;rintro v8 wb ⟨ho,hbb⟩;have hd1:=HRW.out.upd (some (.el j)) (r:=⟨v8,3,1,l.length,zki l⟩) (Chg.of_below hbb) (zli ho hsz) (fun b hb=>.inr (ho.lt b hb).1);have HD1:=zh hd1;have dE:=zh hbb;have hS2:zU wb/\(fun w':World=>zv w' b3 0 (.slice Av j cv)) wb:=⟨trivial,zb dE.out x0⟩
    obtain⟨A8,ng,rfl,-⟩:=zkg ho;refine hK.out _ _ hS2 ?_;clear hK K hd1 ho hS0 hbb had;(try simp only[zQ]);have h1:=zz0;refine zo 4 fun K hK=>?_;(try simp only[zA,zB,zC]);go_simp;have kF:=zh (show Below wr.heap.size wr (wb.alloc (.cells #[.slice A8 l.length ng] 42))from zkb dE.out _);have HD2:=zh (HD1.out.later (show Below wb.heap.size wb (wb.alloc (.cells #[.slice A8 l.length ng] 42))from zkb zr _));have aG:=zh (show(wb.alloc (.cells #[.slice A8 l.length ng] 42)).heap[wb.heap.size]?=some (.cells #[.slice A8 l.length ng] 42 (0,0))from heap_alloc_new wb _);have BA:zU (wb.alloc (.cells #[.slice A8 l.length ng] 42))/\(fun w':World=>zv w' b3 0 (.slice Av j cv)) (wb.alloc (.cells #[.slice A8 l.length ng] 42)):=⟨trivial,zb kF.out x0⟩
    obtain⟨wc,hwc⟩:=zX ((wb.alloc (.cells #[.slice A8 l.length ng] 42)));rw[hwc]at kF HD2 aG BA ⊢;refine hK.out _ _ BA ?_;clear hK K hwc hS2 HD1;(try simp only[zQ]);have oU:=(zka af.out kF.out).size;have hrow:=HD2.out.row (some .all);rw[zkl (by simp)]at hrow;change wc.ownsRow w1.heap.size 42 1 (.slice Av j cv) j ((List.range j).map fc)at hrow;refine zo 5 fun K hK=>?_;refine zkT (by rfl) (.tmp 21) (.tmp 24) 41 (by rfl) w1.heap.size 42 i0 _ 1 24 underlying41 hi0 hq0 hq1 hq2 rfl (by decide) (.slice Av j cv) j ((List.range j).map fc) (by rfl) hrow ⟨wb.heap.size,0,none⟩ 1 1 [.slice A8 l.length ng] (by rfl) rfl (fun q u hq=>by
     match q,hq with
     | 0,hq=>injection hq with hq;subst hq;exact zc aG.out rfl) (fun u hu=>by simp at hu;subst hu;rfl) (by unfold maxLen;omega) (by omega) oU (fun vd wd ho hg aY=>?_)
    have hd3:=HD2.out.upd (some .all) (r:=⟨vd,42,1,j+1,(List.range j).map fc++[.slice A8 l.length ng]⟩) ((Chg.row hg).mono fun b _ hb=>hb) ho (fun b hb=>by
     rcases aY with h5|h5
     ·exact .inl (h5▸hb)
     ·exact .inr (by rw[h5]at hb;injection hb with hb;omega))
    have HD3:=zh hd3;have hav:∀g,(Value.slice Av j cv).ownBlock=some g->(zlS (.slice Av j cv) vi vo fc b3 s j (some .all)).v.ownBlock=some g:=fun g e=>e;have hsep:∀g,(Value.slice Av j cv).ownBlock=some g->g≠b3:=fun g e h=>HRW.out.sep (some .all) none g (by simp) e (by rw[h];rfl);have hlo:∀g,(Value.slice Av j cv).ownBlock=some g->w1.heap.size<=g:=fun g e=>(HRW.out.lt (some .all) g e).1;have dC:Chg (fun b=>(Value.slice Av j cv).ownBlock=some b) wc wd:=Chg.row hg;have cB:=zh (show Below w1.heap.size w1 wd from(zka af.out kF.out).grown hg oU (fun g e=>hlo g e));have jA:=zlP (HD3.out.row none);have e0:wd.cell? ⟨b3,0,none⟩=some (.slice Av j cv):=zc jA rfl;have ez:wd.frozen? ⟨b3,0,none⟩=false:=zf jA;have hab:a.block<w1.heap.size:=by
     obtain⟨a',_,_,e',_,hc',_⟩:=HR1.out j hlt;injection e' with e';subst e';have:=World.block_lt_of_cell? w1 _ hc';rwa[zkE]at this
    have mU:zU wd/\(fun w':World=>zv w' b3 0 (.slice Av j cv)) wd:=⟨trivial,e0⟩
    have hd4:=HD3.out.set none (g:=b3) (o:=0) (by rfl) (by show 0<3;decide) vd;have hd5:Rws (wd.setCell ⟨b3,0,none⟩ vd) w1.heap.size (zlS vd vi vo (fun i=>if i=j then .slice A8 l.length ng else fc i) b3 s (j+1)):=by
     rw[<-zxD (.slice Av j cv) vd vi vo fc b3 s j l (.slice A8 l.length ng) (by rw[List.getD_eq_getElem?_getD,List.getElem?_eq_getElem hlt];exact Hl.out)];exact hd4
    have HD5:=zh hd5;have hb3lt:=(HD3.out.lt none b3 rfl)
    have yz:=zh (show Below w1.heap.size w1 (wd.setCell ⟨b3,0,none⟩ vd)from cB.out.trans ((((Chg.refl (fun b=>b=b3) wd).setCell (p:=⟨b3,0,none⟩) (.inl rfl) vd)).below cB.out.size fun b e=>by omega));obtain⟨Ad,cd',rfl,-⟩:=zkg ho;refine hK.out _ _ mU ?_;clear hK K hd3 hd4 hd5 ho hg aY hrow BA dC hav hsep hlo jA;(try simp only[zQ]);refine zo 6 fun K hK=>?_;(try simp only[zA,zB,zC]);go_simp;refine hK.out _ _ mU ?_;clear hK K;(try simp only[zQ]);refine zp 7 fun K hK=>?_;(try simp only[zA,zB,zC]);go_simp;refine hK.out _ _ trivial ?_;clear hK K;(try simp only[zQ]);refine zd ?_;refine NoPanic.normal ?_;go_wp2_with fail
    go_roundw
    case rel=>exact⟨j+1,by omega,by go_num,yz,_,_,HD5⟩
    case measure=>simp[intOf];omega
   ·obtain rfl:j=s.cells.length:=by omega
    have hj1:¬ (s.cells.length:Int)<(s.cells.length:Int):=by omega
    have hbx:=zlP (HRW.out.row none);have x0:wr.cell? ⟨b3,0,none⟩=some vc:=zc hbx rfl;have x1:wr.cell? ⟨b3,1,none⟩=some vi:=zc hbx rfl;have x2:wr.cell? ⟨b3,2,none⟩=some vo:=zc hbx rfl;obtain⟨Av,cv,dw,-⟩:=zkg (HRW.out.row (some .all));change vc=.slice Av s.cells.length cv at dw;subst dw;rw[<-xQ.out]at x1;rw[<-HVO.out]at x2;have hk3:=zkc fH.out af.out;have q0:wr.cell? ⟨w.heap.size+1,0,none⟩=some (.slice none 0 0):=zc hk3 rfl;have q1:wr.cell? ⟨w.heap.size+1,1,none⟩=some (.slice none 0 0):=zc hk3 rfl;have q2:wr.cell? ⟨w.heap.size+1,2,none⟩=some (.slice none 0 0):=zc hk3 rfl;have cf:∀j,wr.frozen? ⟨w.heap.size+1,j,none⟩=false:=fun j=>zf hk3;have gK:=zh (zqc HRW.out);have HK3E:=zh hk3;clear hbx hk3 HRW;go_wp2_with fail
    have hch:Chg (fun b=>b=w.heap.size+1) wr (((wr.setCell ⟨w.heap.size+1,0,none⟩ (.slice Av s.cells.length cv)).setCell ⟨w.heap.size+1,1,none⟩ (.slice B8 s.tin.length c8)).setCell ⟨w.heap.size+1,2,none⟩ (.slice lH s.tout.length c12)) :=
     (((Chg.refl (fun b=>b=w.heap.size+1) wr).setCell (p:=⟨w.heap.size+1,0,none⟩) (.inl rfl) _).setCell (p:=⟨w.heap.size+1,1,none⟩) (.inl rfl) _).setCell (p:=⟨w.heap.size+1,2,none⟩) (.inl rfl) _
    have hh:=heap_setCell_same _ (w.heap.size+1) 2 _ _ (.slice lH s.tout.length c12) (heap_setCell_same _ (w.heap.size+1) 1 _ _ (.slice B8 s.tin.length c8) (heap_setCell_same wr (w.heap.size+1) 0 _ _ (.slice Av s.cells.length cv) HK3E.out));obtain⟨w9,dF⟩:=zX (((wr.setCell ⟨w.heap.size+1,0,none⟩ (.slice Av s.cells.length cv)).setCell ⟨w.heap.size+1,1,none⟩ (.slice B8 s.tin.length c8)).setCell ⟨w.heap.size+1,2,none⟩ (.slice lH s.tout.length c12));rw[dF]at hch hh ⊢;have t0:w9.cell? ⟨w.heap.size+1,0,none⟩=some (.slice Av s.cells.length cv):=zc hh (by simp);have t1:w9.cell? ⟨w.heap.size+1,1,none⟩=some (.slice B8 s.tin.length c8):=zc hh (by simp);have t2:w9.cell? ⟨w.heap.size+1,2,none⟩=some (.slice lH s.tout.length c12):=zc hh (by simp)
    refine bodyPost_ret (v:=.agg #[.slice Av s.cells.length cv,.slice B8 s.tin.length c8,.slice lH s.tout.length c12]) (by simp[results,results31,go_sem,t0,t1,t2]) rfl ⟨_,rfl,?_,(zka HB1.out af.out).trans (hch.below (zka HB1.out af.out).size fun b e=>by omega)⟩;have hrw:=gK.out.chg hch (fun i b hb e=>by have:=(gK.out.lt i b hb).1;omega);rw[<-xQ.out,<-HVO.out]at hrw;exact⟨_,_,_,_,rfl,hrw.mono (by omega),HI.out⟩
 ·right
  have bD:=HC.out;have hcc:(l5=true->l2=true)/\(l6=true->l2=true/\l5=true):=⟨bD.1,fun h=>(bD.2.1 h).2⟩
  refine⟨f-1,?_,?_,?_⟩
  ·clear HC bD HRW HU ha af hcc;subst hf;revert hall;revert l2 l5 l6 l7
   decide
  ·clear HC bD HRW HU ha af hf;revert hall hcc;revert l2 l5 l6 l7
   decide +kernel
  intro i hi;have hcase:(i=2/\l2=false)\/(i=5/\l5=false/\l2=true)\/(i=6/\l6=false/\l2=true/\l5=true)\/(i=7/\l7=false):=by
   refine of_decide_eq_true ((List.all_eq_true (p:=fun i=>decide ((i=2/\l2=false)\/(i=5/\l5=false/\l2=true)\/(i=6/\l6=false/\l2=true/\l5=true)\/(i=7/\l7=false)))).1 ?_ i hi);clear HC bD HRW HU ha af hf hi;revert hall hcc;revert l2 l5 l6 l7
   decide +kernel
  clear hi hall;subst ha hA;rcases hcase with⟨rfl,rfl⟩|⟨rfl,rfl,rfl⟩|⟨rfl,rfl,rfl,rfl⟩|⟨rfl,rfl⟩
  ·refine wpOp_step rfl (fun K' aP=>?_);have hK:=zh aP;clear aP;have hsz:=af.out.size;have had:Calls prog 55 [.slice B s.tin.length d].toArray wr fun e w'=>∃v,e=.returned v/\(w'.ownsRow wr.heap.size 3 1 v s.tin.length (zki s.tin)/\Below wr.heap.size wr w') :=
    (zkQ s.tin B d Any wr (HR2.out.later af.out) HL.out.2.2.1).mono fun e w' ⟨v,h1,h2,_,h4⟩=>⟨v,h1,h2,h4⟩
   refine zke (by rfl) (.func 55) [.tmp 7] _ (by rfl) 55 _ zmH (by rfl) _ (by rfl) _ had ?_;rintro v' w' ⟨ho,hb⟩;obtain rfl:l6=false:=by
    rcases l6 with _|_
    ·rfl
    ·exact absurd (hcc.2 rfl).1 (by decide)
   obtain rfl:l5=false:=by
    rcases l5 with _|_
    ·rfl
    ·exact absurd (hcc.1 rfl) (by decide)
   have hrw:=HRW.out.upd (some .inp) (r:=⟨v',3,1,s.tin.length,zki s.tin⟩) (Chg.of_below hb) (zli ho hsz) (fun b hb=>.inr (ho.lt b hb).1);rw[k_2]at hrw;exact hK.out _ _ ⟨true,false,false,l7,_,v12,v13,v3,b3,(by subst hf;simp<;>omega),rfl,(by simp only[zQ]),zh (zka af.out hb),zh hrw,zh ⟨fun h=>(by cases h),fun h=>(by cases h),bD.2.2⟩,HU⟩
  ·refine wpOp_step rfl (fun K' aP=>?_);have hK:=zh aP;clear aP;have hsz:=af.out.size;have had:Calls prog 55 [.slice D s.tout.length e].toArray wr fun e w'=>∃v,e=.returned v/\(w'.ownsRow wr.heap.size 3 1 v s.tout.length (zki s.tout)/\Below wr.heap.size wr w') :=
    (zkQ s.tout D e Any wr (HR3.out.later af.out) HL.out.2.2.2).mono fun e w' ⟨v,h1,h2,_,h4⟩=>⟨v,h1,h2,h4⟩
   refine zke (by rfl) (.func 55) [.tmp 10] _ (by rfl) 55 _ zmH (by rfl) _ (by rfl) _ had ?_;rintro v' w' ⟨ho,hb⟩;obtain rfl:l6=false:=by
    rcases l6 with _|_
    ·rfl
    ·exact absurd (hcc.2 rfl).2 (by decide)
   have hrw:=HRW.out.upd (some .out) (r:=⟨v',3,1,s.tout.length,zki s.tout⟩) (Chg.of_below hb) (zli ho hsz) (fun b hb=>.inr (ho.lt b hb).1);rw[k_5]at hrw;exact hK.out _ _ ⟨true,true,false,l7,v8,_,v13,v3,b3,(by subst hf;simp<;>omega),rfl,(by simp only[zQ]),zh (zka af.out hb),zh hrw,zh ⟨fun _=>rfl,fun h=>(by cases h),bD.2.2⟩,HU⟩
  ·refine wpOp_step rfl (fun K' aP=>?_);have hK:=zh aP;clear aP;obtain⟨B8,c8,e8,-,-⟩:=zkg (HRW.out.row (some .inp));change v8=.slice B8 s.tin.length c8 at e8;obtain⟨lH,c12,e12,-,-⟩:=zkg (HRW.out.row (some .out));change v12=.slice lH s.tout.length c12 at e12;subst e8 e12;(try simp only[zQ]);go_simp;exact hK.out _ _ ⟨true,true,true,l7,_,_,_,v3,b3,(by subst hf;simp<;>omega),rfl,(by simp only[Act.put,zD,zE,zF]),af,HRW,zh ⟨fun _=>rfl,fun _=>⟨rfl,rfl,rfl⟩,bD.2.2⟩,HU⟩
  ·refine wpOp_step rfl (fun K' aP=>?_);have hK:=zh aP;clear aP;obtain rfl:=HU.out rfl;(try simp only[zQ]);go_simp;have hsz:=af.out.size;have hrw:=HRW.out.upd none (r:=⟨boxV wr.heap.size,44,3,1,[.slice none 0 0,.slice none 0 0,.slice none 0 0]⟩) (W':=wr.alloc (.cells #[.slice none 0 0,.slice none 0 0,.slice none 0 0] 44)) (Chg.of_below (zkb zr _)) (zv9 wr _ hsz _ _ _ _) (fun b hb=>.inr (by simp[Value.ownBlock]at hb;omega));rw[k_7]at hrw;exact hK.out _ _ ⟨l2,l5,l6,true,v8,v12,v13,_,wr.heap.size,(by subst hf;simp<;>omega),rfl,(by simp only[Act.put,zD,zE,zF]),zh (zkb af.out _),zh hrw,zh ⟨bD.1,bD.2.1,fun _=>rfl⟩,zh (fun h=>(by cases h))⟩
structure RS where
 S:ST
 n:Nat
 ent:List Nat
inductive Out where
 | gas
 | err (e:Int)
 | ok (r:RS)
def Out.bind:Out->(RS->Out)->Out
 | .ok r,f=>f r
 | .err e,_=>.err e
 | .gas,_=>.gas
def zkz(F:Int)(r:RS):Out:=if F<=r.n then .err 18 else .ok { r with n:=r.n+1 }
def zkm(r:RS)(R:Int×ST):Out:=if R.1≠0 then .err R.1 else .ok { r with S:=R.2 }
def valO(t:T)(r:RS)(f:Int->RS->Out):Out:=if (zl1 r.S.look t).2≠0 then .err (zl1 r.S.look t).2 else f (zl1 r.S.look t).1 r
def zk8(F:Int)(t:T)(r:RS)(f:Bool->RS->Out):Out:=(zkz F r).bind fun r=>valO t r fun x r=>f (decide (x≠0)) r
def zkq(F:Int)(t:T)(b:Bool)(r:RS):Out:=zk8 F t r fun b' r=>if b'=b then .ok r else .err 15
def zk1(f:T->RS->Out):List T->RS->Out
 | [],r=>.ok r
 | t::ts,r=>(f t r).bind (zk1 f ts)
def blkL(back:Bool)(b:T):List T:=if back=true then b.ks.reverse else b.ks
def zlT(F:Int)(f:T->RS->Out)(entry test:T)(l1 l2:List T):Nat->RS->Out
 | 0,_=>.gas
 | m+1,r=>(zk1 f l1 r).bind fun r=>zk8 F test r fun b r=>if b=true then .ok r else(zk1 f l2 r).bind fun r=>(zkq F entry false r).bind (zlT F f entry test l1 l2 m)
def prcI:List PR->ByteArray->Option Nat
 | [],_=>none
 | q::qs,s=>if (q.s.toList==s.toList)=true then some 0 else(prcI qs s).map (· + 1)
def kid(t:T)(i:Nat):T:=t.ks.getD i nil0
def fstT(back:Bool)(t:T):T:=if back=true then kid t (t.ks.length-1)else kid t 0
def lstT(back:Bool)(t:T):T:=if back=true then kid t 0 else kid t (t.ks.length-1)
def zku(prs:List PR)(F:Int):Nat->Bool->T->RS->Out
 | 0,_,_,_=>.gas
 | g+1,back,t,r =>
  if t.k=52 then
   zk8 F (fstT back t) r fun yes r=>(zk1 (zku prs F g back) (blkL back (if yes=true then kid t 1 else kid t 2)) r).bind (zkq F (lstT back t) yes)
  else if t.k=53 then
   (zkq F (fstT back t) true r).bind (zlT F (zku prs F g back) (fstT back t) (lstT back t) (blkL back (kid t 1)) (blkL back (kid t 2)) g)
  else if t.k=54 then
   (zkz F r).bind fun r=>valO (fstT back t) r fun x r=>(zkm r (zl4 r.S ⟨t.s,1,0⟩ x)).bind fun r=>(zk1 (zku prs F g back) (blkL back (kid t 1)) r).bind fun r =>
    (zkz F r).bind fun r=>valO (lstT back t) r fun x r=>zkm r (zlf r.S t.s x)
  else if t.k=55 then
   (zkz F r).bind fun r=>(zkm r (zl4 r.S ⟨t.s,3,0⟩ 0)).bind fun r=>(zk1 (zku prs F g back) (blkL back (kid t 0)) r).bind fun r =>
    (zkz F r).bind fun r=>zkm r (zlf r.S t.s 0)
  else if t.k=50\/t.k=51 then
   match prcI prs t.s with
   | none=>.err 0
   | some i=>(zkz F r).bind fun r=>(zkm r (zl8 r.S (prs.getD i ⟨⟨#[]⟩,[],nil0⟩).ps (t.ks.map (·.s)))).bind fun r =>
     (zk1 (zku prs F g (back != decide (t.k=51))) (blkL (back != decide (t.k=51)) (prs.getD i ⟨⟨#[]⟩,[],nil0⟩).b) { r with ent:=r.ent.set i (r.ent.getD i 0+1) }).bind fun r =>
      (zkz F r).bind fun r=>zkm r (zml r.S)
  else(zkz F r).bind fun r=>zkm r (if back=true then zoK r.S t else doE r.S t)
def runO(prs:List PR)(F:Int)(g:Nat)(back:Bool)(b:T)(r:RS):Out:=zk1 (zku prs F g back) (blkL back b) r
def Good(n:Nat)(o:Out):Prop:=o ≠ .gas/\∀r,o=.ok r->n<=r.n
theorem Good.err(n:Nat)(e:Int):Good n (.err e):=⟨by simp,by simp⟩
theorem Good.ok{n:Nat}{r:RS}(h:n<=r.n):Good n (.ok r):=⟨by simp,fun r' e=>by injection e with e;subst e;exact h⟩
theorem Good.mono{m n:Nat}{o:Out}(h:Good n o)(hm:m<=n):Good m o:=⟨h.1,fun r e=>Nat.le_trans hm (h.2 r e)⟩
theorem Good.bind{m n:Nat}{o:Out}{f:RS->Out}(h:Good n o)(yH:m<=n)(hf:∀r,n<=r.n->o=.ok r->Good m (f r)):Good m (o.bind f):=by
 cases o with
 | gas=>exact absurd rfl h.1
 | err e=>exact Good.err _ _
 | ok r=>exact hf r (h.2 r rfl) rfl
theorem zlh{F:Int}{r r':RS}(h:zkz F r=.ok r'):r'={ r with n:=r.n+1 }/\(r.n:Int)<F:=by
 unfold zkz at h
 split at h
 ·cases h
 ·injection h with h;exact⟨h.symm,by omega⟩
theorem zkr(F:Int)(r:RS):Good (r.n+1) (zkz F r):=by
 unfold zkz
 split
 ·exact Good.err _ _
 ·exact Good.ok zl
theorem zkB(r:RS)(R:Int×ST):Good r.n (zkm r R):=by
 unfold zkm
 split
 ·exact Good.err _ _
 ·exact Good.ok zl
theorem zn5{m:Nat}{t:T}{r:RS}{f:Int->RS->Out}(hf:∀x,Good m (f x r)):Good m (valO t r f):=by
 unfold valO
 split
 ·exact Good.err _ _
 ·exact hf _
theorem zmV{m:Nat}{F:Int}{t:T}{r:RS}{f:Bool->RS->Out}(hm:m<=r.n+1)(hf:∀b,(r.n:Int)<F->Good m (f b { r with n:=r.n+1 })):Good m (zk8 F t r f):=by
 unfold zk8;refine(zkr F r).bind hm fun r' _ e=>?_;obtain⟨rfl,h⟩:=zlh e;exact zn5 fun x=>hf _ h
theorem zlg(F:Int)(t:T)(b:Bool)(r:RS):Good (r.n+1) (zkq F t b r):=by
 unfold zkq;refine zmV zl fun b' _=>?_
 split
 ·exact Good.ok zl
 ·exact Good.err _ _
theorem znB{F:Int}{t:T}{b:Bool}{r r':RS}(h:zkq F t b r=.ok r'):r'={ r with n:=r.n+1 }/\(r.n:Int)<F:=by
 unfold zkq zk8 at h
 cases hs:zkz F r with
 | gas=>rw[hs]at h;cases h
 | err e=>rw[hs]at h;cases h
 | ok r1 =>
  rw[hs]at h;obtain⟨rfl,hl⟩:=zlh hs;simp only[Out.bind,valO]at h
  split at h
  ·cases h
  ·split at h
   ·injection h with h;exact⟨h.symm,hl⟩
   ·cases h
theorem zlI{f:T->RS->Out}:∀(l:List T) (r:RS),(∀t∈l,∀r',r.n<=r'.n->Good r'.n (f t r'))->Good r.n (zk1 f l r)
 | [],r,_=>Good.ok zl
 | t::ts,r,h=>by
  rw[zk1];refine(h t (List.mem_cons_self ..) r zl).bind zl fun r1 h1 _=>?_;exact(zlI ts r1 fun u hu r' hr'=>h u (List.mem_cons_of_mem _ hu) r' (Nat.le_trans h1 hr')).mono h1
theorem zo4{F:Int}{f:T->RS->Out}{entry test:T}{l1 l2:List T}:∀(m:Nat) (r:RS),F.toNat-r.n<m->(∀t∈l1,∀r',r.n<=r'.n->Good r'.n (f t r'))->(∀t∈l2,∀r',r.n<=r'.n->Good r'.n (f t r'))->Good r.n (zlT F f entry test l1 l2 m r)
 | 0,_,h,_,_=>by omega
 | m+1,r,h,h1,h2=>by
  rw[zlT];refine(zlI l1 r h1).bind zl fun r1 hr1 _=>?_;refine zmV (by omega) fun b hF=>?_
  split
  ·exact Good.ok (by simp only;omega)
  ·refine(zlI l2 { r1 with n:=r1.n+1 } fun t ht r' hr'=>h2 t ht r' (by simp only at hr';omega)).bind (by simp only;omega) fun r2 hr2 _=>?_;refine(zlg F entry false r2).bind (by simp only at hr2;omega) fun r3 hr3 e=>?_;obtain⟨rfl,hF2⟩:=znB e;refine(zo4 m _ ?_ (fun t ht r' hr'=>h1 t ht r' ?_) (fun t ht r' hr'=>h2 t ht r' ?_)).mono ?_
   all_goals (simp only at *;omega)
theorem zma:∀ {ts:List T} {u:T},u∈ts->size u<=zkU ts
 | t::ts,u,h=>by
  rw[zkU];rcases List.mem_cons.1 h with rfl|h
  ·omega
  ·have:=zma h;omega
theorem zwq{t:T}{i:Nat}(h:i<t.ks.length):size (kid t i)<size t:=by
 obtain⟨k,n,s,ks⟩:=t;have h':i<ks.length:=h;have:kid (.nd k n s ks) i=ks[i]:=by simp[kid,h']
 rw[this,size];have:=zma (List.getElem_mem h');omega
theorem zpF{t u:T}(h:u∈t.ks):size u<size t:=by
 obtain⟨k,n,s,ks⟩:=t;rw[size];have:=zma (ts:=ks) h;omega
theorem zlH{back:Bool}{b u:T}(h:u∈blkL back b):u∈b.ks:=by
 unfold blkL at h
 split at h
 ·simpa using h
 ·exact h
theorem zuf(t:T)(i:Nat):∀u∈(kid t i).ks,size u+1<size t:=by
 intro u hu;by_cases h:i<t.ks.length
 ·have:=zwq h;have:=zpF hu;omega
 ·have:kid t i=nil0:=by
   unfold kid;rw[List.getD_eq_getElem?_getD,List.getElem?_eq_none (by omega)];rfl
  rw[this]at hu;simp[nil0]at hu
theorem zl7{prs:List PR}{F:Int}{M:Nat}(hM:∀q∈prs,size q.b<=M)(hM1:1<=M):∀(g:Nat) (back:Bool) (t:T) (r:RS),(F.toNat-r.n)*M+size t<=g->Good r.n (zku prs F g back t r)
 | 0,_,t,r,h=>by
  have:0<size t:=by obtain⟨k,n,s,ks⟩:=t;rw[size];omega
  omega
 | g+1,back,t,r,h=>by
  have hmul:∀a b:Nat,a<=b->a*M<=b*M:=fun a b h=>Nat.mul_le_mul_right _ h;have hone:F.toNat-r.n<=(F.toNat-r.n)*M:=Nat.le_mul_of_pos_right _ hM1;have hb:∀(back:Bool) i r1,r.n<=r1.n->Good r1.n (zk1 (zku prs F g back) (blkL back (kid t i)) r1):=fun back i r1 h1 =>
   zlI _ _ fun u hu r2 h2=>zl7 hM hM1 g back u r2 (by
    have:=zuf t i u (zlH hu);have:=hmul (F.toNat-r2.n) (F.toNat-r.n) (by omega);omega)
  rw[zku]
  split
  ·refine zmV (by omega) fun yes hF=>?_;have:Good (r.n+1) (zk1 (zku prs F g back) (blkL back (if yes=true then kid t 1 else kid t 2)) { r with n:=r.n+1 }):=by
    split
    ·exact hb back 1 _ (by simp only;omega)
    ·exact hb back 2 _ (by simp only;omega)
   exact this.bind (by omega) fun r1 h1 _=>(zlg _ _ _ _).mono (by omega)
  ·split
   ·refine(zlg _ _ _ _).bind (by omega) fun r1 h1 e=>?_;obtain⟨rfl,hF⟩:=znB e;have hs:0<size t:=by obtain⟨k,n,s,ks⟩:=t;rw[size];omega
    refine(zo4 g _ (by simp only;omega) (fun u hu r' hr'=>?_) (fun u hu r' hr'=>?_)).mono (by simp only;omega)
    ·have:=zuf t 1 u (zlH hu);have:=hmul (F.toNat-r'.n) (F.toNat-r.n) (by simp only at hr';omega);exact zl7 hM hM1 g back u r' (by omega)
    ·have:=zuf t 2 u (zlH hu);have:=hmul (F.toNat-r'.n) (F.toNat-r.n) (by simp only at hr';omega);exact zl7 hM hM1 g back u r' (by omega)
   ·split
    ·refine(zkr F r).bind (by omega) fun r1 h1 _=>zn5 fun x=>?_;refine(zkB r1 _).bind (by omega) fun r2 h2 _=>?_;refine(hb back 1 r2 (by omega)).bind (by omega) fun r3 h3 _=>?_;refine(zkr F r3).bind (by omega) fun r4 h4 _=>zn5 fun x=>?_;exact(zkB r4 _).mono (by omega)
    ·split
     ·refine(zkr F r).bind (by omega) fun r1 h1 _=>?_;refine(zkB r1 _).bind (by omega) fun r2 h2 _=>?_;refine(hb back 0 r2 (by omega)).bind (by omega) fun r3 h3 _=>?_;refine(zkr F r3).bind (by omega) fun r4 h4 _=>?_;exact(zkB r4 _).mono (by omega)
     ·split
      ·split
       ·exact Good.err _ _
       ·rename_i i hi;refine(zkr F r).bind (by omega) fun r1 h1 e1=>?_;obtain⟨rfl,hF⟩:=zlh e1;refine(zkB _ _).bind (by simp only;omega) fun r2 h2 _=>?_;have hbody:Good r2.n (zk1 (zku prs F g (back != decide (t.k=51))) (blkL (back != decide (t.k=51)) (prs.getD i ⟨⟨#[]⟩,[],nil0⟩).b) { r2 with ent:=r2.ent.set i (r2.ent.getD i 0+1) }):=by
         refine zlI _ _ fun u hu r3 h3=>zl7 hM hM1 g _ u r3 ?_;have hu':=zlH hu;by_cases hi:i<prs.length
         ·have hq:prs.getD i ⟨⟨#[]⟩,[],nil0⟩=prs[i]:=by simp[hi]
          rw[hq]at hu';have hl:=zpF hu';have hMq:=hM _ (List.getElem_mem hi);have hsub:F.toNat-r3.n+1<=F.toNat-r.n:=by simp only at h2 h3;omega
          have:=hmul _ _ hsub;rw[Nat.add_mul,Nat.one_mul]at this;omega
         ·have hq:prs.getD i ⟨⟨#[]⟩,[],nil0⟩=⟨⟨#[]⟩,[],nil0⟩:=by
           rw[List.getD_eq_getElem?_getD,List.getElem?_eq_none (by omega)];rfl
          rw[hq]at hu';simp[nil0]at hu'
        refine hbody.bind (by simp only at h2;omega) fun r3 h3 _=>?_;refine(zkr F r3).bind (by simp only at h2;omega) fun r4 h4 _=>?_;exact(zkB r4 _).mono (by simp only at h2;omega)
      ·refine(zkr F r).bind (by omega) fun r1 h1 _=>?_;exact(zkB r1 _).mono (by omega)
abbrev zly(x:Int):Ending:=.panicked [{ v:=.iface 175 (.agg #[.int .i64 x]),recovered:=false }]
theorem zpZ(x:Int)(hx:x≠0)(w:World):Calls prog 155 #[.int .i64 x] w fun e w'=>e=zly x/\w'=w:=by
 have e1:(x==0)=false:=by simpa using hx
 have hb:∀w,(Instr.build 175 #[(0,.int .i64 x)]).run prog w=.ok (.agg #[.int .i64 x]) w:=fun w=>by kernel_rfl
 go_enter func155,ntmps155;go_wp2_with fail;exact⟨rfl,rfl,rfl⟩
theorem znx{W W':World}{base:Nat}{E:TypeId}{size:Nat}{v:Value}{n:Nat}{xs:List Value}(h:W.ownsRow base E size v n xs)(hk:∀b,v.ownBlock=some b->W'.heap[b]?=W.heap[b]?):W'.ownsRow base E size v n xs:=by
 obtain⟨e1,h2⟩:=h;refine⟨e1,?_⟩;rcases h2 with h2|⟨g,cap,cur,rfl,hb,hg,rest⟩
 ·exact .inl h2
 ·exact .inr ⟨g,cap,cur,rfl,hb,(hk g rfl).trans hg,rest⟩
structure RC where
 w:World
 n0:Nat
 sb:Nat
 rb:Nat
 p:PG
 A1:Option Addr
 c1:Nat
 A2:Option Addr
 c2:Nat
 A3:Option Addr
 c3:Nat
 F:Int
 ev:Value
 kb:Nat->Prop
structure RC.Ok(C:RC):Prop where
 pg:PgR C.w Any C.p C.A1 C.c1 C.A2 C.c2 C.A3 C.c3
 F:I64 C.F
 F6:C.F<=1000000
 rb:C.n0<=C.rb/\¬ C.kb C.rb
 ev:C.ev.ownBlock≠some C.rb/\∀b,C.ev.ownBlock=some b->¬ C.kb b
 ps:∀q∈C.p.prs,q.ps.length<=1000
def RC.cells(C:RC)(n:Nat):Array Value := #[.slice C.A1 C.p.vs.length C.c1,.slice C.A2 C.p.prs.length C.c2,.int .u8 C.p.m.k,.int .i64 C.p.m.n,.string C.p.m.s,.slice C.A3 C.p.m.ks.length C.c3,.pointer (some ⟨C.sb,0,none⟩),.int .i64 n,.int .i64 C.F,C.ev]
def FB(j:Nat)(S:ST):Prop:=S.base.vs.length<=1000+j/\∀f∈S.calls,f.vs.length<=1000+j
structure RI(C:RC)(W:World)(r:RS):Prop where
 ks:KS C.w C.n0 C.sb (fun b=>C.kb b\/b=C.rb\/C.ev.ownBlock=some b) W r.S
 box:W.heap[C.rb]?=some (.cells (C.cells r.n) 127 (0,0))
 ent:W.ownsRow C.n0 3 1 C.ev r.ent.length (zki (r.ent.map Int.ofNat))
 el:r.ent.length=C.p.prs.length
 en:∀c∈r.ent,c<=r.n
 n:(r.n:Int)<=1000000
 fb:FB r.n r.S
section
variable {C:RC} {W W' W'':World} {r r':RS}
theorem RI.below(h:RI C W r):Below C.w.heap.size C.w W:=h.ks.bl
theorem RI.later(h:RI C W r)(hb:Below W.heap.size W W'):RI C W' r:=⟨h.ks.later hb,zkc h.box hb,zkJ h.ent hb,h.el,h.en,h.n,h.fb⟩
def RunP(C:RC)(W:World)(o:Out)(e:Ending)(W':World):Prop :=
 Kpt C.n0 C.kb W W'/\Below C.w.heap.size C.w W'/\match o with
 | .gas=>True
 | .err x=>e=zly x
 | .ok r=>(∃u,e=.returned u)/\RI C W' r
theorem RI.cells(h:RI C W r):W.cell? ⟨C.rb,6,none⟩=some (.pointer (some ⟨C.sb,0,none⟩))/\W.cell? ⟨C.rb,7,none⟩=some (.int .i64 r.n)/\W.cell? ⟨C.rb,8,none⟩=some (.int .i64 C.F)/\W.cell? ⟨C.rb,9,none⟩=some C.ev/\∀o,W.frozen? ⟨C.rb,o,none⟩=false :=
 ⟨zc h.box rfl,zc h.box rfl,zc h.box rfl,zc h.box rfl,fun _=>zf h.box⟩
theorem FB.mono{j k:Nat}{S:ST}(h:FB j S)(hk:j<=k):FB k S:=⟨by have:=h.1;omega,fun f hf=>by have:=h.2 f hf;omega⟩
theorem Kpt.chg{n0:Nat}{kb Cc:Nat->Prop}(h:Chg Cc W W')(hC:∀b,Cc b->n0<=b/\¬ kb b):Kpt n0 kb W W' :=
 ⟨h.size,fun b hb hk=>h.block b hb fun hc=>by rcases hk with hk|hk;have:=(hC b hc).1;omega;exact(hC b hc).2 hk⟩
theorem RI.tick(hC:C.Ok)(h:RI C W r)(hF:(r.n:Int)<C.F):RI C (W.setCell ⟨C.rb,7,none⟩ (.int .i64 ((r.n:Int)+1))) { r with n:=r.n+1 }/\Kpt C.n0 C.kb W (W.setCell ⟨C.rb,7,none⟩ (.int .i64 ((r.n:Int)+1))):=by
 have hch:Chg (fun b=>b=C.rb) W (W.setCell ⟨C.rb,7,none⟩ (.int .i64 ((r.n:Int)+1))):=(Chg.refl (fun b=>b=C.rb) W).setCell (p:=⟨C.rb,7,none⟩) (.inl rfl) _;have hn:=h.ks.hn;refine⟨⟨h.ks.chg hch fun b _ e=>⟨by have:=hC.rb.1;omega,.inr (.inr (.inl e))⟩,?_,znx h.ent fun b hb=>?_,h.el,fun c hc=>by have:=h.en c hc;simp only;omega,by have:=hC.F6;simp only;omega,h.fb.mono (Nat.le_succ _)⟩,Kpt.chg hch fun b e=>⟨by have:=hC.rb.1;omega,by rw[e];exact hC.rb.2⟩⟩
 ·have:=heap_setCell_same W C.rb 7 _ _ (.int .i64 ((r.n:Int)+1)) h.box;rw[this];simp[RC.cells]
 ·have hne:b≠C.rb:=fun e=>hC.ev.1 (by rw[hb,e]);have hlt:=(h.ent.lt b hb).2;exact hch.block b hlt hne
end
theorem zlW{C:RC}(hC:C.Ok){W:World}{r:RS}(h:RI C W r):Calls prog 135 #[.pointer (some ⟨C.rb,0,none⟩)] W (RunP C W (zkz C.F r)):=by
 obtain⟨-,y7,y8,-,yf⟩:=h.cells;have iB:=h.n;obtain⟨rb,hrb⟩:=zX (C.rb);obtain⟨F,hF⟩:=zX (C.F);obtain⟨n,hn⟩:=zX (r.n);have HS:=zh (show(fun w':World=>zv w' rb 7 (.int .i64 n)/\zv w' rb 8 (.int .i64 F)) W.drew from⟨by rw[<-hrb,<-hn];exact y7,by rw[<-hrb,<-hF];exact y8⟩);have hd:Below W.heap.size W W.drew:=zr.drew;have HK:=zh (show Kpt C.n0 C.kb W W.drew/\Below C.w.heap.size C.w W.drew from⟨Kpt.of_below hd,zka h.below hd⟩);have HT:=zh (fun hlt=>RI.tick hC h hlt);have dE:=zh h.below;have yf':∀o,W.drew.frozen? ⟨rb,o,none⟩=false:=by rw[<-hrb];exact yf
 rw[hrb]at HT;rw[hn]at HT iB;rw[hF]at HT;by_cases hlt:F<=(n:Int)
 ·have HO:=zh (show zkz C.F r=.err 18 by unfold zkz;rw[if_pos (by rw[hF,hn];exact hlt)]);rw[hrb];clear h y7 y8 yf hrb hF hn HT;go_enter func135,ntmps135;go_upto_region 0 with fail
  go_region_held3 (fun w':World=>zv w' rb 7 (.int .i64 n)/\zv w' rb 8 (.int .i64 F))
   (with_reducible exact HS.out)
   (first|fail)
  go_wp2_with fail;refine(zpZ 18 (by decide) _).mono ?_;rintro e w1 ⟨rfl,rfl⟩;refine⟨rfl,?_⟩;rw[HO.out];exact⟨HK.out.1,HK.out.2,rfl⟩
 ·have hw1:IntKind.i64.wrap ((n:Int)+1)=(n:Int)+1:=IntWalk.i64_in _ (by omega);have HO:=zh (show zkz C.F r=.ok { r with n:=n+1 } by unfold zkz;rw[if_neg (by rw[hF,hn];exact hlt),hn]);have HT2:=zh (HT.out (by omega));rw[hrb];have hlt':¬ F<=(n:Int):=hlt;clear h y7 y8 yf hrb hF hn HT;go_enter func135,ntmps135;go_upto_region 0 with fail
  go_region_held3 (fun w':World=>zv w' rb 7 (.int .i64 n)/\zv w' rb 8 (.int .i64 F))
   (with_reducible exact HS.out)
   (first|fail)
  obtain⟨z7,z8⟩:=HS.out;go_wp2_with fail;go_end0;rw[HO.out];have hd2:∀W:World,Below W.heap.size W W.drew:=fun W=>zr.drew;exact⟨HT2.out.2.trans (Kpt.of_below (hd2 _)),(HT2.out.1.later (hd2 _)).below,⟨_,rfl⟩,HT2.out.1.later (hd2 _)⟩
theorem zk9(p:Addr)(x:Int)(w:World):Calls prog 136 #[.pointer (some p),.int .i64 x] w fun e w'=>w'=w/\((x=0/\∃u,e=.returned u)\/(x≠0/\e=zly x)):=by
 by_cases hx:x=0
 ·subst hx;go_enter func136,ntmps136;go_wp2_with fail;go_end0;exact⟨rfl,.inl ⟨trivial,_,rfl⟩⟩
 ·have e1:(x != 0)=true:=by simpa using hx
  go_enter func136,ntmps136;go_wp2_with fail;refine(zpZ x hx _).mono ?_;rintro e w1 ⟨rfl,rfl⟩;exact⟨rfl,rfl,.inr ⟨hx,rfl⟩⟩
theorem zwC:IsFn prog 167 f167:=⟨func167,by kernel_rfl,by kernel_rfl⟩
theorem zzQ(w:World)(n0 sb:Nat)(kb:Nat->Prop)(S:ST)(hw:S.WF):zrx 167 f167 (.pointer (some ⟨sb,0,none⟩)) (fun W=>KS w n0 sb kb W S) S.look where
 isFn:=zwC
 later:=fun _ _ h hb=>h.later hb
 fits:=(zt4 0 ⟨0,0,undef,undef,undef,undef,undef,fun _=>undef,fun _=>undef,fun _=>0,fun _=>undef⟩ S hw).fits
 call:=fun s W h=>by
  refine(h.cell s).mono ?_;rintro e W' ⟨v,l,b,rfl,hlk,hl0,ho,hf,hb⟩;refine⟨hb,?_⟩
  cases b
  ·obtain rfl:=hl0 rfl;obtain⟨A,c,rfl,-⟩:=zkg ho;exact .inl ⟨by simpa using hlk,A,c,rfl⟩
  ·obtain⟨A,c,rfl,-,hr⟩:=zq5 ho hf;exact .inr ⟨l,A,c,by simpa using hlk,rfl,hr⟩
theorem zxf{f:FuncId}{fn:Func}{rv:Value}{Rd:World->Prop}{look:ByteArray->Option (List Int)}(hL:zrx f fn rv Rd look)(t:T)(v:Value)(w:World)(hv:NV w Any t v)(hR:Rd w) :
  Calls prog 166 #[v,.func (.func f) #[rv] #[]] w fun e w'=>e=.returned (.tuple #[.bool (decide ((zl1 look t).1≠0)),.int .i64 (zl1 look t).2])/\Below w.heap.size w w':=by
 have HV:=zh hv;obtain⟨A,c,rfl,-⟩:=hv.open_;have q9:=zh (fun w' (hb:Below w.heap.size w w')=>zp0 hL t _ w' (hv.later hb) (hL.later _ _ hR hb));obtain⟨⟨x,y⟩,hx⟩:=zX (zl1 look t);rw[hx]at q9 ⊢;dsimp only[NumE]at q9 ⊢;clear hv hR hx;go_enter func166,ntmps166;have hb0:=zkb (zs w) (.cells #[.int .u8 t.k,.int .i64 t.n,.string t.s,.slice A t.ks.length c] 28);have HB0:=zh hb0;obtain⟨x0,x1,x2,x3⟩:=box4 (heap_alloc_new w (.cells #[.int .u8 t.k,.int .i64 t.n,.string t.s,.slice A t.ks.length c] 28));clear hb0;go_wp2_with fail;refine(q9.out _ HB0.out).mono ?_;rintro e w1 ⟨rfl,aa⟩;have HB1:=zh (zka HB0.out aa);clear aa x0 x1 x2 x3;by_cases h0:x=0
 ·subst h0;go_wp2_with fail;go_ret2;exact⟨by simp,HB1.out⟩
 ·have e1:(x != 0)=true:=by simpa using h0
  go_wp2_with fail;go_ret2;exact⟨by simp[h0],HB1.out⟩
def RC.plus(C:RC)(lo hi:Nat):RC:={ C with kb:=fun b=>C.kb b\/(lo<=b/\b<hi) }
section
variable {C:RC} {W W' W'':World} {r r':RS} {lo hi:Nat}
theorem RI.rlt(h:RI C W r):C.rb<W.heap.size:=zkf h.box
theorem RI.plus(hC:C.Ok)(h:RI C W r)(hb:Below W.heap.size W W'):(C.plus W.heap.size W'.heap.size).Ok/\RI (C.plus W.heap.size W'.heap.size) W' r:=by
 have h1:=h.rlt;refine⟨⟨hC.pg,hC.F,hC.F6,⟨hC.rb.1,fun hk=>?_⟩,⟨hC.ev.1,fun b hb' hk=>?_⟩,hC.ps⟩,⟨h.ks.also hb fun b hk=>?_,zkc h.box hb,zkJ h.ent hb,h.el,h.en,h.n,h.fb⟩⟩
 ·rcases hk with hk|hk
  ·exact hC.rb.2 hk
  ·have:W.heap.size<=C.rb:=hk.1;omega
 ·rcases hk with hk|hk
  ·exact hC.ev.2 b hb' hk
  ·have:=(h.ent.lt b hb').2;have:=hk.1;omega
 ·rcases hk with(hk|hk)|hk|hk
  ·exact .inl (.inl hk)
  ·exact .inr hk
  ·exact .inl (.inr (.inl hk))
  ·exact .inl (.inr (.inr hk))
theorem RI.less(h:RI (C.plus lo hi) W r):RI C W r :=
 ⟨h.ks.less fun b hk=>hk.elim (fun hk=>.inl (.inl hk)) .inr,h.box,h.ent,h.el,h.en,h.n,h.fb⟩
theorem Kpt.less(h:Kpt C.n0 (C.plus lo hi).kb W W'):Kpt C.n0 C.kb W W':=⟨h.size,fun b hb hk=>h.kept b hb (hk.imp id .inl)⟩
theorem Kpt.plus{b o:Nat}{u:Value}(h:Kpt C.n0 (C.plus lo hi).kb W W')(hb:lo<=b/\b<hi)(hc:W.cell? ⟨b,o,none⟩=some u):W'.cell? ⟨b,o,none⟩=some u:=h.cell (.inr (.inr hb)) hc
end
def zKL(C:RC)(W:World)(t:T)(r:RS)(e:Ending)(W':World):Prop :=
 Kpt C.n0 C.kb W W'/\Below C.w.heap.size C.w W'/\((∃x,e=zly x/\∀f,zk8 C.F t r f=.err x)\/∃b r',e=.returned (.bool b)/\RI C W' r'/\∀f,zk8 C.F t r f=f b r')
theorem zol{C:RC}(hC:C.Ok){W:World}{r:RS}(h:RI C W r)(t:T)(v:Value)(hv:NV C.w Any t v):Calls prog 152 #[.pointer (some ⟨C.rb,0,none⟩),v] W (zKL C W t r):=by
 have HV:=zh hv;obtain⟨A,c,rfl,-⟩:=hv.open_;have yI:∀(fn:Fn) (first cap:Array Value) (w:World),(Instr.makeFunc fn first cap).run prog w=.ok (.func fn first cap) w:=fun _ _ _ _=>rfl;have hb0:=zkb (zs W) (.cells #[.int .u8 t.k,.int .i64 t.n,.string t.s,.slice A t.ks.length c] 28);obtain⟨bA,h1⟩:=h.plus hC hb0;have hz1:(W.alloc (.cells #[.int .u8 t.k,.int .i64 t.n,.string t.s,.slice A t.ks.length c] 28)).heap.size=W.heap.size+1:=by simp
 have hbx:=box4 (heap_alloc_new W (.cells #[.int .u8 t.k,.int .i64 t.n,.string t.s,.slice A t.ks.length c] 28));have aH:=zh (Kpt.of_below (n0:=C.n0) (kb:=C.kb) hb0);obtain⟨W1,hW1⟩:=zX (W.alloc (.cells #[.int .u8 t.k,.int .i64 t.n,.string t.s,.slice A t.ks.length c] 28));rw[hW1]at bA h1 hz1 hbx aH;have mf:=zh bA;have H1:=zh h1;have HST:=zh (zlW bA h1);obtain⟨hi,hhi⟩:=zX (W1.heap.size);rw[hhi]at mf H1 HST hz1;have aS:=zh hbx;have HZ1:=zh (show W.heap.size<hi by omega);clear hv bA h1 hbx hb0 h hhi hz1;go_enter func152,ntmps152;go_wp2_with fail;refine HST.out.mono ?_;rintro e w1 ⟨hk1,hbl1,ho1⟩;have aD:=zh (aH.out.trans (Kpt.less (C:=C) hk1));have HB1:=zh hbl1
 cases hs:zkz C.F r with
 | gas=>exact absurd hs (zkr _ _).1
 | err x =>
  rw[show zkz (C.plus W.heap.size hi).F r=zkz C.F r from rfl,hs]at ho1;subst ho1;exact⟨rfl,aD.out,HB1.out,.inl ⟨x,rfl,fun f=>by unfold zk8;rw[hs];rfl⟩⟩
 | ok r1 =>
  rw[show zkz (C.plus W.heap.size hi).F r=zkz C.F r from rfl,hs]at ho1;obtain⟨⟨u,rfl⟩,hr1⟩:=ho1;have x0:=Kpt.plus (C:=C) hk1 (b:=W.heap.size) ⟨zl,HZ1.out⟩ aS.out.1;have x1:=Kpt.plus (C:=C) hk1 (b:=W.heap.size) ⟨zl,HZ1.out⟩ aS.out.2.1;have x2:=Kpt.plus (C:=C) hk1 (b:=W.heap.size) ⟨zl,HZ1.out⟩ aS.out.2.2.1;have x3:=Kpt.plus (C:=C) hk1 (b:=W.heap.size) ⟨zl,HZ1.out⟩ aS.out.2.2.2;have HS:=zh hs;have HR1:=zh hr1.less;obtain⟨y6,-⟩:=hr1.cells;have y6':w1.cell? ⟨C.rb,6,none⟩=some (.pointer (some ⟨C.sb,0,none⟩)):=y6;have uA:=zh (fun w' (hb:Below w1.heap.size w1 w')=>zxf (zzQ C.w C.n0 C.sb _ r1.S HR1.out.ks.wf) t _ w' (HV.out.later (zka HR1.out.below hb)) (HR1.out.ks.later hb));obtain⟨⟨x,y⟩,hx⟩:=zX (zl1 r1.S.look t);rw[hx]at uA;dsimp only at uA;obtain⟨bb,hbb⟩:=zX (decide (x≠0));rw[hbb]at uA;have lT:=zh hx;have HBBB:=zh hbb;clear hbb hk1 hbl1 hs hr1 y6 hx HST aS
  have aB:=zh (show ∀w',Below w1.heap.size w1 w'->(fun w':World=>zv w' W.heap.size 0 (.int .u8 t.k)/\zv w' W.heap.size 1 (.int .i64 t.n)/\zv w' W.heap.size 2 (.string t.s)/\zv w' W.heap.size 3 (.slice A t.ks.length c)/\zv w' C.rb 6 (.pointer (some ⟨C.sb,0,none⟩))) w' from fun w' hb=>⟨zb hb x0,zb hb x1,zb hb x2,zb hb x3,zb hb y6'⟩);have ig:=zh (aB.out _ zr.drew);clear x0 x1 x2 x3 y6';go_upto_region 2 with fail
  go_region_held3 (fun w':World=>zv w' W.heap.size 0 (.int .u8 t.k)/\zv w' W.heap.size 1 (.int .i64 t.n)/\zv w' W.heap.size 2 (.string t.s)/\zv w' W.heap.size 3 (.slice A t.ks.length c)/\zv w' C.rb 6 (.pointer (some ⟨C.sb,0,none⟩)))
   (first|with_reducible exact bL.out|with_reducible exact ig.out)
   (first
    | (go_at_call 166;refine(uA.out _ zr.drew).mono ?_;rintro e y1 ⟨rfl,bG⟩;have b1:=zka (zs w1).drew bG;have bL:=zh (aB.out _ b1))
    | fail)
  have HB2:=zh b1;clear b1 bG bL;go_wp2_with fail;refine(zk9 _ y _).mono ?_;rintro e w3 ⟨rfl,hcs⟩;rcases hcs with⟨rfl,u2,rfl⟩|⟨hy,rfl⟩
  ·go_wp2_with fail;go_ret;refine⟨aD.out.trans (Kpt.of_below HB2.out),zka HB1.out HB2.out,.inr ⟨bb,r1,rfl,HR1.out.later HB2.out,fun f=>?_⟩⟩;unfold zk8;rw[HS.out];simp only[Out.bind,valO,lT.out];simp[<-HBBB.out]
  ·refine⟨rfl,aD.out.trans (Kpt.of_below HB2.out),zka HB1.out HB2.out,.inl ⟨y,rfl,fun f=>?_⟩⟩;unfold zk8;rw[HS.out];simp only[Out.bind,valO,lT.out];rw[if_pos hy]
theorem znn(x:Int):I64 (wrap64 x):=by
 unfold wrap64 I64
 constructor<;>omega
theorem zr1(b:Bool):I64 (numI b):=by
 cases b
 ·exact⟨by decide,by decide⟩
 ·exact⟨by decide,by decide⟩
theorem zero_I64:I64 0:=⟨by decide,by decide⟩
theorem zrK{x y:Int}(h:I64 x):I64 (x.tmod y):=by
 obtain⟨h1,h2⟩:=h;rcases Int.le_total 0 x with h0|h0
 ·have a1:=Int.tmod_nonneg y h0;have a2:(x.tmod y).natAbs<=x.natAbs:=by rw[Int.natAbs_tmod];exact Nat.mod_le _ _
  exact⟨by omega,by omega⟩
 ·have a1:=Int.tmod_nonneg y (show 0 <= -x by omega);rw[Int.neg_tmod]at a1;have a2:(x.tmod y).natAbs<=x.natAbs:=by rw[Int.natAbs_tmod];exact Nat.mod_le _ _
  exact⟨by omega,by omega⟩
theorem zwS{k x y:Int}(hx:I64 x):I64 (divE k x y).1:=by
 unfold divE
 repeat' split
 all_goals first|exact zero_I64|exact znn _|exact zrK hx
theorem zxX(k x:Int):I64 (unE k x).1:=by
 unfold unE
 split
 ·exact znn _
 ·exact zr1 _
theorem zym{c:Prop}[Decidable c]{a b:Int×Int}(ha:I64 a.1)(hb:I64 b.1):I64 (if c then a else b).1:=by
 split
 ·exact ha
 ·exact hb
theorem zyZ{k x y:Int}(hx:I64 x):I64 (apE k x y).1:=by
 unfold apE
 repeat' apply zym
 all_goals first|exact znn _|exact zwS hx|exact zrK hx|exact ztd _|exact zr1 _|exact zero_I64
theorem zwv{l:List Int}(h:∀x∈l,I64 x)(i:Nat):I64 (l.getD i 0):=by
 rw[List.getD_eq_getElem?_getD];rcases hx:l[i]? with _|x
 ·exact zero_I64
 ·exact h x (List.mem_of_getElem? hx)
theorem zyD{look:ByteArray->Option (List Int)}(hl:∀s l,look s=some l->l.length<=100000/\∀x∈l,I64 x){k n:Int}{s:ByteArray}{rs:List (Int×Int)}(hn:I64 n)(h0:I64 (rs.getD 0 (0,0)).1):I64 (evK look k n s rs).1:=by
 unfold evK
 split
 ·exact hn
 ·split
  ·unfold varE
   split
   ·exact zero_I64
   ·rename_i l hlk;obtain⟨h1,h2⟩:=hl s l hlk
    repeat' split
    all_goals first|exact zwv h2 _|exact zero_I64|exact⟨by simp only;omega,by simp only;omega⟩
  ·repeat' split
   all_goals first|exact zxX _ _|exact zyZ h0|exact zero_I64
theorem zuH{look:ByteArray->Option (List Int)}(hl:∀s l,look s=some l->l.length<=100000/\∀x∈l,I64 x){w:World}:∀(m:Nat) (t:T) (v:Value),size t<=m->NV w Any t v->I64 (evE look t).1
 | 0,t,_,h,_=>by obtain⟨k,n,s,ks⟩:=t;rw[size]at h;omega
 | m+1,.nd k n s ks,v,h,hv=>by
  obtain⟨A,c,-,hf,-,-,hrow⟩:=hv.open_;rw[evE];refine zyD hl hf.2.1 ?_;rw[zpP,List.getD_eq_getElem?_getD,List.getElem?_map];rcases hk:ks[0]? with _|u
  ·exact zero_I64
  ·obtain⟨h1,h2⟩:=List.getElem?_eq_some_iff.1 hk;obtain⟨a,u0,u1,u2,u3,-,-,-,hn⟩:=hrow 0 h1;have hs:=zma (List.getElem_mem h1);rw[size]at h;have:=zuH hl m ks[0] _ (by omega) hn;rw[h2]at this;exact this
theorem zwm{S:ST}(h:S.WF):∀s l,S.look s=some l->l.length<=100000/\∀x∈l,I64 x:=fun s l hl=>by
 obtain⟨i,id,h1,h2,rfl⟩:=ST.look_num hl;obtain⟨kd,hc⟩:=h.cur;have:=h.cells id (hc.num id (List.mem_of_getElem? h2));exact⟨by omega,this.2⟩
theorem zwM{S:ST}(h:S.WF){w:World}{t:T}{v:Value}(hv:NV w Any t v):I64 (zl1 S.look t).1:=by
 unfold zl1
 split
 ·exact zuH (zwm h) _ _ _ zl hv
 ·exact zero_I64
def ValP(C:RC)(W:World)(t:T)(r:RS)(e:Ending)(W':World):Prop :=
 Below W.heap.size W W'/\((∃x,e=zly x/\∀f,valO t r f=.err x)\/∃x,e=.returned (.int .i64 x)/\I64 x/\∀f,valO t r f=f x r)
theorem zp4{C:RC}{W:World}{r:RS}(h:RI C W r)(t:T)(v:Value)(hv:NV C.w Any t v):Calls prog 154 #[.pointer (some ⟨C.rb,0,none⟩),v] W (ValP C W t r):=by
 have HV:=zh hv;obtain⟨A,c,rfl,-⟩:=hv.open_;have yI:∀(fn:Fn) (first cap:Array Value) (w:World),(Instr.makeFunc fn first cap).run prog w=.ok (.func fn first cap) w:=fun _ _ _ _=>rfl;have hb0:=zkb (zs W) (.cells #[.int .u8 t.k,.int .i64 t.n,.string t.s,.slice A t.ks.length c] 28);have hbx:=box4 (heap_alloc_new W (.cells #[.int .u8 t.k,.int .i64 t.n,.string t.s,.slice A t.ks.length c] 28));obtain⟨y6,-⟩:=(h.later hb0).cells;have HR:=zh (h.later hb0);have HB0:=zh hb0;obtain⟨w1,hW1⟩:=zX (W.alloc (.cells #[.int .u8 t.k,.int .i64 t.n,.string t.s,.slice A t.ks.length c] 28));rw[hW1]at hbx HR HB0 y6;obtain⟨x0,x1,x2,x3⟩:=hbx;have uA:=zh (fun w' (hb:Below w1.heap.size w1 w')=>zp0 (zzQ C.w C.n0 C.sb _ r.S HR.out.ks.wf) t _ w' (HV.out.later (zka HR.out.below hb)) (HR.out.ks.later hb));obtain⟨⟨x,y⟩,hx⟩:=zX (zl1 r.S.look t);rw[hx]at uA;have lT:=zh hx
 have aB:=zh (show ∀w',Below w1.heap.size w1 w'->(fun w':World=>zv w' W.heap.size 0 (.int .u8 t.k)/\zv w' W.heap.size 1 (.int .i64 t.n)/\zv w' W.heap.size 2 (.string t.s)/\zv w' W.heap.size 3 (.slice A t.ks.length c)/\zv w' C.rb 6 (.pointer (some ⟨C.sb,0,none⟩))) w' from fun w' hb=>⟨zb hb x0,zb hb x1,zb hb x2,zb hb x3,zb hb y6⟩);have ig:=zh (aB.out _ zr.drew);clear hv hb0 hx x0 x1 x2 x3 y6 h;go_enter func154,ntmps154;go_upto_region 1 with fail;clear hW1
 go_region_held3 (fun w':World=>zv w' W.heap.size 0 (.int .u8 t.k)/\zv w' W.heap.size 1 (.int .i64 t.n)/\zv w' W.heap.size 2 (.string t.s)/\zv w' W.heap.size 3 (.slice A t.ks.length c)/\zv w' C.rb 6 (.pointer (some ⟨C.sb,0,none⟩)))
  (first|with_reducible exact bL.out|with_reducible exact ig.out)
  (first
   | (go_at_call 168;refine(uA.out _ zr.drew).mono ?_;rintro e y1 ⟨rfl,bG⟩;have b1:=zka (zs w1).drew bG;have bL:=zh (aB.out _ b1))
   | fail)
 have HB2:=zh (zka HB0.out b1);clear b1 bG bL;go_wp2_with fail;refine(zk9 _ y _).mono ?_;rintro e w3 ⟨rfl,hcs⟩;rcases hcs with⟨rfl,u2,rfl⟩|⟨hy,rfl⟩
 ·go_wp2_with fail;go_ret;refine⟨HB2.out,.inr ⟨x,rfl,?_,fun f=>?_⟩⟩
  ·have:=zwM HR.out.ks.wf HV.out;rw[lT.out]at this;exact this
  ·unfold valO;rw[lT.out];simp
 ·refine⟨rfl,HB2.out,.inl ⟨y,rfl,fun f=>?_⟩⟩;unfold valO;rw[lT.out,if_pos hy]
theorem zmN{C:RC}(hC:C.Ok){W:World}{r:RS}(h:RI C W r)(t:T)(v:Value)(hv:NV C.w Any t v)(b:Bool):Calls prog 153 #[.pointer (some ⟨C.rb,0,none⟩),v,.bool b] W (RunP C W (zkq C.F t b r)):=by
 have HV:=zh hv;obtain⟨A,c,rfl,-⟩:=hv.open_;have hb0:=zkb (zs W) (.cells #[.int .u8 t.k,.int .i64 t.n,.string t.s,.slice A t.ks.length c] 28);obtain⟨x0,x1,x2,x3⟩:=box4 (heap_alloc_new W (.cells #[.int .u8 t.k,.int .i64 t.n,.string t.s,.slice A t.ks.length c] 28));have aH:=zh (Kpt.of_below (n0:=C.n0) (kb:=C.kb) hb0);have iP:=zh (zol hC (h.later hb0) t _ hv);clear hv hb0 h;go_enter func153,ntmps153;go_wp2_with fail;refine iP.out.mono ?_;rintro e w1 ⟨hk1,hb1,ho⟩;have aD:=zh (aH.out.trans hk1);have HB1:=zh hb1;clear hk1 hb1 iP x0 x1 x2 x3 aH;rcases ho with⟨x,rfl,hx⟩|⟨b1,r1,rfl,hr1,hx⟩
 ·refine⟨rfl,aD.out,HB1.out,?_⟩;rw[show zkq C.F t b r=.err x from hx _]
 ·have HX:=zh (show zkq C.F t b r=if b1=b then .ok r1 else .err 15 from hx _);have HR:=zh hr1;clear hr1 hx;by_cases hbb:b1=b
  ·subst hbb;have bY:=zh (show zkq C.F t b1 r=.ok r1 by rw[HX.out,if_pos rfl]);clear HX;go_wp2_with fail;go_end0;refine⟨aD.out,HB1.out,?_⟩;rw[bY.out];exact⟨⟨_,rfl⟩,HR.out⟩
  ·have e1:(b1 != b)=true:=by simpa using hbb
   have e2:(b1==b)=false:=by simpa using hbb
   go_wp2_with fail;refine(zpZ 15 (by decide) _).mono ?_;rintro e w2 ⟨rfl,rfl⟩;refine⟨rfl,aD.out,HB1.out,?_⟩;rw[HX.out,if_neg hbb]
def zS(vs:List VD):SS:=⟨vs.map fun v=>List.replicate (fixE v).toNat 0,[],[]⟩
theorem bMkI(n:Nat)(hn:n<=4096)(w:World):(Instr.makeSlice 42 (.int .i64 (n:Int)) (.int .i64 (n:Int))).run prog w=.ok (.slice (some ⟨w.heap.size,0,none⟩) n n) (w.alloc (.cells (madeCells #[.int .i64 0] n) 3)):=by
 obtain⟨i,hi,h1,h2,h3⟩:=info_parts znA;have:=zk6 (P:=prog) 42 3 i (.int .i64 0) underlying42 hi h1 .i64 .i64 n n zl (by rw[h3];omega) (by omega) w;rw[h2,Nat.mul_one]at this;exact this
theorem ztS(w:World)(n0 n:Nat)(h:n0<=w.heap.size)(hn:n<=4096):(w.alloc (.cells (madeCells #[.int .i64 0] n) 3)).ownsRow n0 3 1 (.slice (some ⟨w.heap.size,0,none⟩) n n) (List.replicate n (0:Int)).length (zki (List.replicate n 0)) :=
 ⟨by simp[zki],.inr ⟨w.heap.size,n,madeCells #[.int .i64 0] n,by simp,h,heap_alloc_new w _,by simp,by unfold maxLen;omega,by rw[size_madeCells];simp,by rw[zm4];simp[zki]⟩⟩
theorem zq4{W:World}{n0 b3:Nat}{vi:Value}{fc:Nat->Value}{s:SS}(hn:n0<=b3)(h:W.heap[b3]?=some (.cells #[.slice none 0 0,vi,.slice none 0 0] 44 (0,0)))(hv:W.ownsRow n0 3 1 vi 0 [])(hne:vi.ownBlock≠some b3)(h1:s.tin=[])(h2:s.tout=[]) :
  Rws W n0 (zlS (.slice none 0 0) vi (.slice none 0 0) fc b3 s 0):=by
 refine⟨fun i=>?_,fun i j b hij hi hj=>?_⟩
 ·rcases i with _|i
  ·exact ztR hn h
  ·cases i with
   | all=>exact zrc _ _ _
   | inp=>simp only[zlS,h1];exact hv
   | out=>simp only[zlS,h2];exact zrc _ _ _
   | el i=>simp only[zlS,Nat.not_lt_zero,if_false];exact zlY W n0
 ·rcases i with _|i<;>rcases j with _|j
  ·exact hij rfl
  ·cases j<;>simp[zlS,nilR,Value.ownBlock,boxV]at hi hj
   subst hi;exact hne hj
  ·cases i<;>simp[zlS,nilR,Value.ownBlock,boxV]at hi hj
   subst hj;exact hne hi
  ·cases i<;>cases j<;>simp[zlS,nilR,Value.ownBlock]at hi hj hij
theorem zqV{v:VD}(h:vdB v=true):0<=fixE v/\fixE v<=16:=by
 unfold vdB at h;unfold fixE
 split
 ·omega
 ·rename_i h1
  split at h
  ·have:=eq_of_beq h;omega
  ·split at h
   ·have:=of_decide_eq_true h;omega
   ·cases h
theorem zSLim(vs:List VD)(h:svB vs=true):(zS vs).Lim:=by
 simp only[svB,Bool.and_eq_true,decide_eq_true_eq,List.all_eq_true]at h;refine⟨by simp only[zS,List.length_map];unfold LI;omega,fun l hl=>?_,Nat.zero_le _,Nat.zero_le _⟩;obtain⟨v,hv,rfl⟩:=List.mem_map.1 hl;have:=zqV (h.2 v hv);rw[List.length_replicate];unfold LI;omega
theorem st3{W:World}{b:Nat}{a0 a1 a2:Value}{ty:TypeId}(v0 v1 v2:Value)(h:W.heap[b]?=some (.cells #[a0,a1,a2] ty (0,0))) :
  ∃W',((W.setCell ⟨b,0,none⟩ v0).setCell ⟨b,1,none⟩ v1).setCell ⟨b,2,none⟩ v2=W'/\Chg (fun q=>q=b) W W'/\W'.heap[b]?=some (.cells #[v0,v1,v2] ty (0,0)):=by
 have hch:Chg (fun q=>q=b) W (((W.setCell ⟨b,0,none⟩ v0).setCell ⟨b,1,none⟩ v1).setCell ⟨b,2,none⟩ v2) :=
  (((Chg.refl (fun q=>q=b) W).setCell (p:=⟨b,0,none⟩) (.inl rfl) _).setCell (p:=⟨b,1,none⟩) (.inl rfl) _).setCell (p:=⟨b,2,none⟩) (.inl rfl) _
 have hh:=heap_setCell_same _ b 2 _ _ v2 (heap_setCell_same _ b 1 _ _ v1 (heap_setCell_same W b 0 _ _ v0 h));exact⟨_,rfl,hch,by simpa using hh⟩
def zKH(vs:List VD)(w:World)(e:Ending)(w':World):Prop:=Below w.heap.size w w'/\∃v er,e=.returned (.tuple #[v,.int .i64 er])/\(svB vs=false->er=3/\v=.agg #[.slice none 0 0,.slice none 0 0,.slice none 0 0])/\(svB vs=true->er=0/\OwnS w' w.heap.size (zS vs) v)
theorem zyw:IsFn prog 79 f79:=⟨func79,by kernel_rfl,by kernel_rfl⟩
theorem zxj(vs:List VD)(A:Option Addr)(c:Nat)(w:World)(hrow:RowV w Any A vs)(hl:vs.length<=LV):Calls prog 69 #[.slice A vs.length c,.slice none 0 0] w (zKH vs w):=by
 have hb1:=zkb (zs w) (.cells #[.slice none 0 0,.slice none 0 0,.slice none 0 0] 44);have hk1:=heap_alloc_new w (.cells #[.slice none 0 0,.slice none 0 0,.slice none 0 0] 44);have h1:=bS12;have ae:=zh hrow;obtain⟨b0,hb0⟩:=zX (svB vs);have HB0:=zh hb0;have dO:=zh (fun w' (hb:Below w.heap.size w w')=>hb0▸zoY vs A c w' (hrow.later hb) hl);clear hrow hl hb0;go_enter func69,ntmps69;go_upto_region 1 with fail;obtain⟨w1,hw1⟩:=zX (w.alloc (.cells #[.slice none 0 0,.slice none 0 0,.slice none 0 0] 44));rw[hw1]at hb1 hk1 ⊢;have HB1:=zh hb1;have aD:=zh hk1;clear hw1 hb1 hk1;go_wp2_with fail;refine(dO.out _ HB1.out).mono ?_;rintro e w2 ⟨rfl,hb2⟩;have HB2:=zh (zka HB1.out hb2);have aQ:=zh (zkc aD.out hb2);have q0:w2.cell? ⟨w.heap.size,0,none⟩=some (.slice none 0 0):=zc aQ.out rfl;have q1:w2.cell? ⟨w.heap.size,1,none⟩=some (.slice none 0 0):=zc aQ.out rfl
 have q2:w2.cell? ⟨w.heap.size,2,none⟩=some (.slice none 0 0):=zc aQ.out rfl;have cf:∀j,w2.frozen? ⟨w.heap.size,j,none⟩=false:=fun j=>zf aQ.out;clear hb2
 cases b0
 ·obtain⟨w9,dF,xu,xm⟩:=st3 (.slice none 0 0) (.slice none 0 0) (.slice none 0 0) aQ.out;have bE:=zh (HB2.out.trans (xu.below HB2.out.size fun q e=>by have e:q=w.heap.size:=e;omega));obtain⟨t0,t1,t2⟩:=zlG xm;clear xu xm;go_wp2_with fail;refine bodyPost_ret (v:=.tuple #[.agg #[.slice none 0 0,.slice none 0 0,.slice none 0 0],.int .i64 3]) (by simp[results,results69,go_sem,t0,t1,t2]) rfl ?_;exact⟨bE.out,_,_,rfl,fun _=>⟨rfl,rfl⟩,fun h=>by rw[HB0.out]at h;cases h⟩
 ·have dR:=zh (zkQ [] none 0 Any w2 (fun i hi=>absurd hi (Nat.not_lt_zero i)) (Nat.zero_le _));have hsv:=HB0.out;simp only[svB,Bool.and_eq_true,decide_eq_true_eq,List.all_eq_true]at hsv;have nE:=zh hsv;have hln:vs.length<=32:=hsv.1;clear hsv;go_wp2_with fail;refine dR.out.mono ?_;rintro e w3 ⟨vi,rfl,aX,-,kT⟩;have HB3:=zh (zka HB2.out kT);have bZ:=zh aX;clear aX q0 q1 q2 cf dR;obtain⟨B,d,rfl,-⟩:=zkg bZ.out;have hk4:=heap_alloc_new w3 (.cells #[.slice none 0 0,.slice none 0 0,.slice none 0 0] 44);have hb4:=zkb (zs w3) (.cells #[.slice none 0 0,.slice none 0 0,.slice none 0 0] 44);obtain⟨w4,hw4⟩:=zX (w3.alloc (.cells #[.slice none 0 0,.slice none 0 0,.slice none 0 0] 44));rw[hw4]at hk4 hb4;obtain⟨b3,hb3⟩:=zX (w3.heap.size);rw[hb3]at hk4;obtain⟨w5,mF,dH,lL⟩:=st3 (.slice none 0 0) (.slice B 0 d) (.slice none 0 0) hk4
  have aO:=zh (HB3.out.trans (hb4.trans (dH.below hb4.size fun q e=>by have e:q=b3:=e;omega) |>.mono HB3.out.size));have qP:=zh (zq4 (n0:=w.heap.size+1) (fc:=fun _=>.slice none 0 0) (s:=zS vs) (by have:=kT.size;have:=zkf aQ.out;omega) lL (zli (znx (zkJ bZ.out hb4) fun q hq=>dH.block q (Nat.lt_of_lt_of_le (bZ.out.lt q hq).2 hb4.size) fun e=>by have e:q=b3:=e;have:=(bZ.out.lt q hq).2;omega) (by have:=zkf aQ.out;omega)) (fun e=>by have:=(bZ.out.lt _ e).2;omega) rfl rfl);obtain⟨d0,d1,d2⟩:=zlG hk4;have cf:∀j,w4.frozen? ⟨b3,j,none⟩=false:=fun j=>zf hk4;have HH5:=zh lL;have fO:=zh ((dH.block _ (Nat.lt_of_lt_of_le (zkf aQ.out) (Nat.le_trans (zka zr kT).size hb4.size)) fun e=>by have e:w.heap.size=b3:=e;have:=zkf aQ.out;have:=kT.size;omega).trans (zkc (zkc aQ.out kT) hb4));clear hb4 hk4 dH lL kT;go_wp2_with fail
  clear hw4 mF d0 d1 d2 cf h1;obtain⟨vi,rR⟩:=zX (Value.slice B 0 d);rw[rR]at qP;have xQ:=zh rR;clear rR bZ HH5
  go_loopw [22] (fun i wr=>∃j:Nat,j<=vs.length/\i=.int .i64 j/\Hid (Below w.heap.size w wr)/\∃vc fc,Hid (Rws wr (w.heap.size+1) (zlS vc vi (.slice none 0 0) fc b3 (zS vs) j))/\Hid (wr.heap[w.heap.size]?=some (.cells #[.slice none 0 0,.slice none 0 0,.slice none 0 0] 44 (0,0)))) (fun i _=>vs.length-(intOf i).toNat)
  case atStart=>exact⟨0,Nat.zero_le _,rfl,aO,_,_,qP,fO⟩
  case round =>
   clear qP aO fO;obtain⟨j,hj,rfl,af,vc,fc,HRW,HK⟩:=hrel;by_cases hlt:j<vs.length
   ·have hj1:(j:Int)<(vs.length:Int):=by omega
    have hj0:(0:Int)<=(j:Int):=by omega
    obtain⟨a,v,rfl,-,Hv,⟨p0,p1,p2⟩,hf⟩:=(ae.out.later af.out).nd hlt;have hfx:=zqV (nE.out.2 _ (List.getElem_mem hlt));rw[Hv.out]at hfx;obtain⟨m,hm⟩:=zX ((fixE v).toNat);have hm2:fixE v=(m:Int):=by omega
    have hm3:m<=4096:=by omega
    have vw:=zh (fun w'=>hm2▸zqA v w');have hgd:(zS vs).cells.getD j []=List.replicate m 0:=by
     rw[<-hm,<-Hv.out];simp[zS,List.getD_eq_getElem?_getD,List.getElem?_map,List.getElem?_eq_getElem hlt]
    have HGD:=zh hgd;obtain⟨oN,vk,vn⟩:=v;simp only at p0 p1 p2;have hbx:=zlP (HRW.out.row none);obtain⟨Av,cv,dw,-⟩:=zkg (HRW.out.row (some .all));change vc=.slice Av j cv at dw;subst dw;have lK:=heap_alloc_new wr (.cells #[.string oN,.int .u8 vk,.int .i64 vn] 38);have eZ:=zkb (zs wr) (.cells #[.string oN,.int .u8 vk,.int .i64 vn] 38);obtain⟨w9,dF⟩:=zX (wr.alloc (.cells #[.string oN,.int .u8 vk,.int .i64 vn] 38));rw[dF]at lK eZ;have bE:=zh eZ;have uH:=zh (HRW.out.later bE.out);obtain⟨e0,e1,e2⟩:=zlG lK;have hbx:=zlP (uH.out.row none);have x0:w9.cell? ⟨b3,0,none⟩=some (.slice Av j cv):=zc hbx rfl;clear lK eZ hgd hm2 hfx hf;go_upto_region 9 with fail;clear dF p0 p1 p2;obtain⟨vb,hvb⟩:=zX (wr.heap.size);have aZ:=zh hvb;rw[hvb]at e0 e1 e2 ⊢
    have hS0:(fun w':World=>zN3 w' vb (.string oN) (.int .u8 vk) (.int .i64 vn)) w9.drew/\(fun w':World=>zv w' b3 0 (.slice Av j cv)) w9.drew:=⟨⟨e0,e1,e2⟩,x0⟩
    have aB:=zh (show ∀w',Below w9.heap.size w9 w'->(fun w':World=>zN3 w' vb (.string oN) (.int .u8 vk) (.int .i64 vn)) w'/\(fun w':World=>zv w' b3 0 (.slice Av j cv)) w' from fun w' h=>⟨⟨zb h e0,zb h e1,zb h e2⟩,zb h x0⟩);obtain⟨i0,hi0,hq0,hq1,hq2⟩:=info_parts ztz;refine wp_region_noPanic ?_;refine zkk (fun w':World=>zN3 w' vb (.string oN) (.int .u8 vk) (.int .i64 vn)) (fun w':World=>zv w' b3 0 (.slice Av j cv)) 8 (by kernel_rfl) ?_;clear e0 e1 e2 x0 hvb;refine zT 0 hS0 ?_;refine zJ 1 hS0 ?_;refine zT 2 hS0 ?_;refine zo 3 fun K hK=>?_;have had:Calls prog 79 [.agg #[.string oN,.int .u8 vk,.int .i64 vn]].toArray w9.drew fun e w'=>∃u,e=.returned u/\(u=.int .i64 (m:Int)/\Below w9.heap.size w9 w') :=
     (vw.out _).mono fun e w' ⟨h1,h2⟩=>⟨_,h1,rfl,zka (zs w9).drew h2⟩
    refine zke (by rfl) (.func 79) [.tmp 28] _ (by rfl) 79 _ zyw (by rfl) _ (by rfl) _ had ?_;rintro v8 wb ⟨rfl,hbb⟩;have dE:=zh hbb;refine hK.out _ _ (aB.out _ hbb) ?_;clear hK K hS0 hbb had;(try simp only[zQ]);have hmk:=bMkI m hm3 wb;refine zo 4 fun K hK=>?_;(try simp only[zA,zB,zC]);go_simp;have hb4:=zka dE.out (zkb (zs wb) (.cells (madeCells #[.int .i64 0] m) 3));have hsz:=af.out.size;have hd1:=(uH.out.later dE.out).upd (some (.el j)) (r:=⟨.slice (some ⟨wb.heap.size,0,none⟩) m m,3,1,(List.replicate m (0:Int)).length,zki (List.replicate m 0)⟩) (Chg.of_below (zkb (zs wb) (.cells (madeCells #[.int .i64 0] m) 3))) (ztS wb (w.heap.size+1) m (by have:=bE.out.size;have:=dE.out.size;have:=zkf HK.out;omega) hm3) (fun b hb=>.inr (by have hb:some wb.heap.size=some b:=hb;injection hb with hb;omega));have HD1:=zh hd1;have ax:=zh hb4
    obtain⟨g,hg⟩:=zX (wb.heap.size);obtain⟨wx,hwx⟩:=zX (wb.alloc (.cells (madeCells #[.int .i64 0] m) 3));rw[hwx]at HD1 ax ⊢;rw[hg]at HD1 ⊢;refine hK.out _ _ (aB.out _ ax.out) ?_;clear hK K hmk hd1 hb4 hwx hg uH;(try simp only[zQ]);have h1:=zz0;refine zo 5 fun K hK=>?_;(try simp only[zA,zB,zC]);go_simp;have kF:=zh (zka ax.out (zkb (zs wx) (.cells #[.slice (some ⟨g,0,none⟩) m m] 42)));have HD2:=zh (HD1.out.later (zkb (zs wx) (.cells #[.slice (some ⟨g,0,none⟩) m m] 42)));have aG:=zh (heap_alloc_new wx (.cells #[.slice (some ⟨g,0,none⟩) m m] 42));obtain⟨wc,hwc⟩:=zX (wx.alloc (.cells #[.slice (some ⟨g,0,none⟩) m m] 42));rw[hwc]at kF HD2 aG ⊢;refine hK.out _ _ (aB.out _ kF.out) ?_;clear hK K hwc HD1 h1;(try simp only[zQ]);have hbC:=zka af.out (zka bE.out kF.out);have oU:=hbC.size;have hrow:=HD2.out.row (some .all);rw[zkl (by simp)]at hrow
    change wc.ownsRow (w.heap.size+1) 42 1 (.slice Av j cv) j ((List.range j).map fc)at hrow;refine zo 6 fun K hK=>?_;refine zkT (by rfl) (.tmp 27) (.tmp 31) 41 (by rfl) (w.heap.size+1) 42 i0 _ 1 24 underlying41 hi0 hq0 hq1 hq2 rfl (by decide) (.slice Av j cv) j ((List.range j).map fc) (by rfl) hrow ⟨wx.heap.size,0,none⟩ 1 1 [.slice (some ⟨g,0,none⟩) m m] (by rfl) rfl (fun q u hq=>by
     match q,hq with
     | 0,hq=>injection hq with hq;subst hq;exact zc aG.out rfl) (fun u hu=>by simp at hu;subst hu;rfl) (by unfold maxLen;omega) (by omega) (by have:=bE.out.size;have:=kF.out.size;have:=zkf HK.out;omega) (fun vd wd ho hg aY=>?_)
    have hd3:=HD2.out.upd (some .all) (r:=⟨vd,42,1,j+1,(List.range j).map fc++[.slice (some ⟨g,0,none⟩) m m]⟩) ((Chg.row hg).mono fun b _ hb=>hb) ho (fun b hb=>by
     rcases aY with h5|h5
     ·exact .inl (h5▸hb)
     ·exact .inr (by rw[h5]at hb;injection hb with hb;omega))
    have HD3:=zh hd3;have hlo:∀g,(Value.slice Av j cv).ownBlock=some g->w.heap.size+1<=g:=fun g e=>(HRW.out.lt (some .all) g e).1;have dC:Chg (fun b=>(Value.slice Av j cv).ownBlock=some b) wc wd:=Chg.row hg;have hbD:=hbC.grown hg oU (fun g e=>by have:=hlo g e;omega);have mU:(fun w':World=>zN3 w' vb (.string oN) (.int .u8 vk) (.int .i64 vn)) wd:=by
     obtain⟨f0,f1,f2⟩:=(aB.out _ kF.out).1;have hne:∀b,(Value.slice Av j cv).ownBlock=some b->b≠vb:=fun b h e=>by have:=(HRW.out.lt (some .all) b h).2;have:=aZ.out;omega
     have hk:=dC.block vb (World.block_lt_of_cell? wc _ f0) fun h=>hne _ h rfl;exact⟨zkM f0 hk,zkM f1 hk,zkM f2 hk⟩
    have jA:=zlP (HD3.out.row none);have e0:wd.cell? ⟨b3,0,none⟩=some (.slice Av j cv):=zc jA rfl;have ez:wd.frozen? ⟨b3,0,none⟩=false:=zf jA;have hd4:=HD3.out.set none (g:=b3) (o:=0) (by rfl) (by show 0<3;decide) vd;have hd5:Rws (wd.setCell ⟨b3,0,none⟩ vd) (w.heap.size+1) (zlS vd vi (.slice none 0 0) (fun i=>if i=j then .slice (some ⟨g,0,none⟩) m m else fc i) b3 (zS vs) (j+1)):=by
     rw[<-zxD (.slice Av j cv) vd vi (.slice none 0 0) fc b3 (zS vs) j (List.replicate m 0) (.slice (some ⟨g,0,none⟩) m m) HGD.out];exact hd4
    have HD5:=zh hd5;have hb3lt:=(HD3.out.lt none b3 rfl)
    have hkd:wd.heap[w.heap.size]?=some (.cells #[.slice none 0 0,.slice none 0 0,.slice none 0 0] 44 (0,0)):=dC.keep (zkc (zkc HK.out bE.out) kF.out) fun h=>by have:=hlo _ h;omega
    have hcs:=((Chg.refl (fun b=>b=b3) wd).setCell (p:=⟨b3,0,none⟩) (.inl rfl) vd)
    have yz:=zh (show Below w.heap.size w (wd.setCell ⟨b3,0,none⟩ vd)from hbD.trans (hcs.below hbD.size fun b e=>by omega));have HKE:=zh (hcs.keep hkd fun e=>by have e:w.heap.size=b3:=e;have:=hb3lt;omega);have hS5:(fun w':World=>zN3 w' vb (.string oN) (.int .u8 vk) (.int .i64 vn)) (wd.setCell ⟨b3,0,none⟩ vd):=by
     obtain⟨f0,f1,f2⟩:=mU;have hk:=hcs.block vb (World.block_lt_of_cell? wd _ f0) fun e=>by have e:vb=b3:=e;have:=(HRW.out.lt none b3 rfl).2;have:=aZ.out;omega
     exact⟨zkM f0 hk,zkM f1 hk,zkM f2 hk⟩
    obtain⟨Ad,cd',rfl,-⟩:=zkg ho;refine hK.out _ _ ⟨mU,e0⟩ ?_;clear hK K hd3 hd4 hd5 ho hg aY hrow dC hlo jA hkd hcs hbC hbD aB;(try simp only[zQ]);refine zo 7 fun K hK=>?_;(try simp only[zA,zB,zC]);go_simp;refine hK.out _ _ ⟨mU,e0⟩ ?_;clear hK K;(try simp only[zQ]);refine zp 8 fun K hK=>?_;(try simp only[zA,zB,zC]);go_simp;refine hK.out _ _ hS5 ?_;clear hK K;(try simp only[zQ]);refine zd ?_;refine NoPanic.normal ?_;clear mU hS5 e0 ez;go_wp2_with fail
    go_roundw
    case rel=>exact⟨j+1,by omega,by go_num,yz,_,_,HD5,HKE⟩
    case measure=>simp[intOf];omega
   ·obtain rfl:j=vs.length:=by omega
    have hj1:¬ (vs.length:Int)<(vs.length:Int):=by omega
    have hbx:=zlP (HRW.out.row none);obtain⟨x0,x1,x2⟩:=zlG hbx;obtain⟨Av,cv,dw,-⟩:=zkg (HRW.out.row (some .all));change vc=.slice Av vs.length cv at dw;subst dw;rw[<-xQ.out]at x1;obtain⟨w9,dF,xu,xm⟩:=st3 (.slice Av vs.length cv) (.slice B 0 d) (.slice none 0 0) HK.out;obtain⟨q0,q1,q2⟩:=zlG HK.out;have cf:∀j,wr.frozen? ⟨w.heap.size,j,none⟩=false:=fun j=>zf HK.out;obtain⟨t0,t1,t2⟩:=zlG xm;have bE:=zh (af.out.trans (xu.below af.out.size fun q e=>by have e:q=w.heap.size:=e;omega));clear xm hbx;go_wp2_with fail;refine bodyPost_ret (v:=.tuple #[.agg #[.slice Av vs.length cv,.slice B 0 d,.slice none 0 0],.int .i64 0]) (by simp[results,results69,go_sem,t0,t1,t2]) rfl ?_;refine⟨bE.out,_,_,rfl,fun h=>(by rw[HB0.out]at h;cases h),fun _=>⟨rfl,?_⟩⟩;have hre:=zqc (b3:=b3) (s:=zS vs) (by rw[show(zS vs).cells.length=vs.length by simp[zS]];exact HRW.out)
    have hrw:=hre.chg xu (fun i b hb e=>by
     have e:b=w.heap.size:=e;have:=(hre.lt i b hb).1;omega)
    rw[<-xQ.out]at hrw;exact⟨_,_,_,_,rfl,hrw.mono (by omega),⟨fun l hl x hx=>by
     obtain⟨v,_,rfl⟩:=List.mem_map.1 hl;obtain rfl:=List.eq_of_mem_replicate hx;unfold I64;omega,fun x hx=>(by cases hx),fun x hx=>(by cases hx)⟩⟩
def unrk(r:Int):Int:=if r<0 then 0 else if r.tmod 2=1 then r.tdiv 2+1 else -(r.tdiv 2)
abbrev Bn:=Nat×Nat
def wlo(bs:List Bn):Nat:=(bs.map (·.1)).sum
def whi(h:Int)(bs:List Bn):Int:=(bs.map fun b=>(b.2:Int)*h).sum
def ranE(lo hi:Int):List Int:=(List.range (hi-lo+1).toNat).map fun(m:Nat)=>lo+(m:Int)
def hdC(x:Int):List (List Int)->List (List Int)
 | []=>[]
 | l::ls=>(x::l)::ls
def numE(h:Int)(bs:List Bn)(rec:Int->List (List (List Int))):Nat->Int->List (List (List Int))
 | 0,left=>(rec left).map ([] :: ·)
 | k+1,left=>(ranE (max 0 (left-1-k*h-whi h bs)) (min (h-1) (left-1-k-wlo bs))).flatMap fun r=>(numE h bs rec k (left-1-r)).map (hdC (unrk r))
def zk0(h:Int):List Bn->Int->List (List (List Int))
 | [],_=>[[]]
 | (lo,hi)::bs,left=>(ranE (max lo ((left-whi h bs+h-1).tdiv h)) (min hi (left-wlo bs))).flatMap fun m=>numE h bs (zk0 h bs) m.toNat left
def allB(h:Int)(bs:List Bn):List (List (List Int)):=(ranE (wlo bs) (whi h bs)).flatMap (zk0 h bs)
def FitB(v:Int):List Bn->List (List Int)->Prop
 | [],[]=>True
 | (lo,hi)::bs,x::xs=>lo<=x.length/\x.length<=hi/\(∀e∈x,-v<=e/\e<=v)/\FitB v bs xs
 | _,_=>False
theorem zm3{lo hi x:Int}(h:x∈ranE lo hi):lo<=x/\x<=hi:=by
 obtain⟨m,hm,rfl⟩:=List.mem_map.1 h;have:=List.mem_range.1 hm;omega
theorem ztp{v r:Int}(h0:0<=r)(h1:r<=2*v) : -v<=unrk r/\unrk r<=v:=by
 unfold unrk;rw[Int.tmod_eq_emod_of_nonneg h0,Int.tdiv_eq_ediv_of_nonneg h0];rw[if_neg (by omega)]
 split<;>omega
theorem zr2{v h:Int}(hh:h=2*v+1){bs:List Bn}{rec:Int->List (List (List Int))}(hr:∀left,∀x∈rec left,FitB v bs x) :
  ∀(k:Nat) (left:Int),∀x∈numE h bs rec k left,∃l ls,x=l::ls/\l.length=k/\(∀e∈l,-v<=e/\e<=v)/\FitB v bs ls
 | 0,left,x,hx=>by
  obtain⟨y,hy,rfl⟩:=List.mem_map.1 hx;exact⟨[],y,rfl,rfl,by simp,hr _ _ hy⟩
 | k+1,left,x,hx=>by
  rw[numE]at hx;obtain⟨r,hr1,hx⟩:=List.mem_flatMap.1 hx;obtain⟨y,hy,rfl⟩:=List.mem_map.1 hx;obtain⟨l,ls,rfl,h1,h2,h3⟩:=zr2 hh hr k _ y hy;have h4:=zm3 hr1;refine⟨unrk r::l,ls,rfl,by simp[h1],fun e he=>?_,h3⟩;rcases List.mem_cons.1 he with rfl|he
  ·exact ztp (by omega) (by omega)
  ·exact h2 e he
theorem zqE{v h:Int}(hh:h=2*v+1):∀(bs:List Bn) (left:Int),∀x∈zk0 h bs left,FitB v bs x
 | [],left,x,hx=>by
  simp only[zk0,List.mem_singleton]at hx;subst hx;trivial
 | (lo,hi)::bs,left,x,hx=>by
  rw[zk0]at hx;obtain⟨m,hm,hx⟩:=List.mem_flatMap.1 hx;obtain⟨l,ls,rfl,h1,h2,h3⟩:=zr2 hh (zqE hh bs) _ _ x hx;have h4:=zm3 hm;exact⟨by omega,by omega,h2,h3⟩
theorem zxa{v h:Int}(hh:h=2*v+1){bs:List Bn}:∀x∈allB h bs,FitB v bs x:=fun x hx=>by
 obtain⟨w,_,hx⟩:=List.mem_flatMap.1 hx;exact zqE hh bs w x hx
theorem FitB.len{v:Int}:∀ {bs:List Bn} {x:List (List Int)},FitB v bs x->x.length=bs.length
 | [],[],_=>rfl
 | _::_,_::_,h=>by simp[FitB.len h.2.2.2]
 | [],_::_,h=>h.elim
 | _::_,[],h=>h.elim
def sumZ(f:Int->Nat)(A:Int):Nat->Nat
 | 0=>0
 | n+1=>sumZ f A n+f (A+n)
theorem zts{f g:Int->Nat}(A:Int)(h:∀x,f x<=g x):∀n,sumZ f A n<=sumZ g A n
 | 0=>zl
 | n+1=>Nat.add_le_add (zts A h n) (h _)
theorem zrN(f g:Int->Nat)(A:Int):∀n,sumZ (fun x=>f x+g x) A n=sumZ f A n+sumZ g A n
 | 0=>rfl
 | n+1=>by
  rw[sumZ,sumZ,sumZ,zrN f g A n];omega
theorem zqa(A:Int):∀n,sumZ (fun _=>0) A n=0
 | 0=>rfl
 | n+1=>by rw[sumZ,zqa A n]
theorem zoZ(f:Int->Nat)(A d:Int):∀n,sumZ (fun x=>f (x-d)) A n=sumZ f (A-d) n
 | 0=>rfl
 | n+1=>by
  rw[sumZ,sumZ,zoZ f A d n,show A+(n:Int)-d=A-d+n by omega]
theorem zpx(f:Int->Nat):∀(n:Nat) (A lo hi:Int),A<=lo->hi<A+n->((ranE lo hi).map f).sum<=sumZ f A n:=by
 have key:∀(m:Nat) (lo:Int),(((List.range m).map fun(i:Nat)=>lo+(i:Int)).map f).sum=sumZ f lo m:=by
  intro m lo
  induction m with
  | zero=>rfl
  | succ m ih=>rw[List.range_succ,List.map_append,List.map_append,List.sum_append,ih,sumZ];simp
 have mono:∀(a m:Nat) (A:Int),sumZ f (A+a) m<=sumZ f A (a+m):=by
  intro a m A
  induction m with
  | zero=>exact Nat.zero_le _
  | succ m ih =>
   rw[sumZ,show a+(m+1)=(a+m)+1 by omega,sumZ,show A+(a:Int)+m=A+((a+m:Nat):Int) by omega];omega
 have grow:∀(m k:Nat) (A:Int),sumZ f A m<=sumZ f A (m+k):=by
  intro m k A
  induction k with
  | zero=>exact zl
  | succ k ih=>rw[show m+(k+1)=(m+k)+1 by omega,sumZ];omega
 intro n A lo hi h1 h2;unfold ranE;rw[key];by_cases hm:hi-lo+1<=0
 ·rw[show(hi-lo+1).toNat=0 by omega];exact Nat.zero_le _
 ·obtain⟨a,rfl⟩:∃a:Nat,lo=A+a:=⟨(lo-A).toNat,by omega⟩
  refine Nat.le_trans (mono a _ A) ?_;have:=grow (a+(hi-(A+a)+1).toNat) (n-(a+(hi-(A+a)+1).toNat)) A;rwa[show a+(hi-(A+a)+1).toNat+(n-(a+(hi-(A+a)+1).toNat))=n by omega]at this
theorem znT{α β:Type}(f:α->List β):∀l:List α,(l.flatMap f).length=(l.map fun x=>(f x).length).sum
 | []=>rfl
 | x::l=>by rw[List.flatMap_cons,List.length_append,znT f l,List.map_cons,List.sum_cons]
def Tot(f:Int->Nat)(N:Nat):Prop:=∀(A:Int) (n:Nat),sumZ f A n<=N
theorem Tot.shift{f:Int->Nat}{N:Nat}(h:Tot f N)(d:Int):Tot (fun x=>f (x-d)) N:=fun A n=>by rw[zoZ];exact h _ _
theorem Tot.le{f g:Int->Nat}{N:Nat}(h:Tot f N)(hg:∀x,g x<=f x):Tot g N:=fun A n=>Nat.le_trans (zts A hg n) (h A n)
theorem Tot.add{f g:Int->Nat}{N M:Nat}(h:Tot f N)(h':Tot g M):Tot (fun x=>f x+g x) (N+M):=fun A n=>by rw[zrN];exact Nat.add_le_add (h A n) (h' A n)
theorem Tot.many{f:Int->Int->Nat}{F:Nat->Nat}(h:∀i:Nat,Tot (fun x=>f x i) (F i))(lo:Nat):∀m,Tot (fun x=>sumZ (f x) lo m) (((List.range m).map fun i=>F (lo+i)).sum)
 | 0=>fun A n=>by rw[show(fun x=>sumZ (f x) lo 0)=fun _=>0 from rfl,zqa];exact Nat.zero_le _
 | m+1=>by
  rw[List.range_succ,List.map_append,List.sum_append];have:=(Tot.many h lo m).add (h (lo+m));simp only[List.map_cons,List.map_nil,List.sum_cons,List.sum_nil,Nat.add_zero];refine this.le fun x=>?_;rw[sumZ];exact Nat.le_of_eq (by rw[show((lo:Int)+(m:Int))=((lo+m:Nat):Int) by omega])
def nLst(h:Nat)(b:Bn):Nat:=((List.range (b.2+1-b.1)).map fun i=>h ^ (b.1+i)).sum
def nAll(h:Nat):List Bn->Nat
 | []=>1
 | b::bs=>nLst h b*nAll h bs
def fD(h:Int)(bs:List Bn)(w:Int):Nat:=if (wlo bs:Int)<=w/\w<=whi h bs then(zk0 h bs w).length else 0
def fN(h:Int)(bs:List Bn)(k:Nat)(w:Int):Nat:=if (k+wlo bs:Int)<=w/\w<=k*h+whi h bs then(numE h bs (zk0 h bs) k w).length else 0
theorem zmC{f g:Int->Nat}:∀ {l:List Int},(∀x∈l,f x=g x)->(l.map f).sum=(l.map g).sum
 | [],_=>rfl
 | x::l,h=>by
  rw[List.map_cons,List.map_cons,List.sum_cons,List.sum_cons,h x (List.mem_cons_self ..),zmC fun y hy=>h y (List.mem_cons_of_mem _ hy)]
theorem zxF{h:Nat}{bs:List Bn}{N:Nat}(hr:Tot (fD h bs) N):∀k,Tot (fN h bs k) (h ^ k*N)
 | 0=>by
  refine Tot.le (by simpa using hr) fun x=>?_;unfold fN fD;rw[numE,List.length_map];simp
 | k+1=>by
  have h1:∀i:Nat,Tot (fun w=>(fun(w r:Int)=>fN h bs k (w-1-r)) w i) (h ^ k*N):=fun i=>by
   refine((zxF hr k).shift (1+(i:Int))).le fun x=>?_;simp only;rw[show x-1-(i:Int)=x-(1+i) by omega];exact zl
  have h2:=Tot.many (f:=fun(w r:Int)=>fN h bs k (w-1-r)) (F:=fun _=>h ^ k*N) h1 0 h;have e:((List.range h).map fun _=>h ^ k*N).sum=h ^ (k+1)*N:=by
   rw[List.map_const',List.sum_replicate_nat,List.length_range,Nat.pow_succ,Nat.mul_comm (h ^ k) h,Nat.mul_assoc]
  rw[e]at h2;refine h2.le fun x=>?_;unfold fN
  split
  ·rw[numE,znT];simp only[List.length_map];rw[zmC (g:=fun r=>fN h bs k (x-1-r)) fun r hr=>by
    have hr:=zm3 hr;unfold fN;rw[if_pos (by omega)]]
   exact zpx (fun r=>fN h bs k (x-1-r)) h 0 _ _ (by omega) (by omega)
  ·exact Nat.zero_le _
theorem ztN:Tot (fun w=>if w=0 then 1 else 0) 1:=by
 have key:∀(A:Int) (n:Nat),sumZ (fun w=>if w=0 then 1 else 0) A n=if A<=0/\0<A+n then 1 else 0:=by
  intro A n
  induction n with
  | zero=>rw[sumZ,if_neg (by omega)]
  | succ n ih =>
   rw[sumZ,ih];by_cases h1:A<=0/\0<A+(n:Int)
   ·rw[if_pos h1,if_neg (by omega),if_pos (by omega)]
   ·rw[if_neg h1];by_cases h2:A+(n:Int)=0
    ·rw[if_pos h2,if_pos (by omega)]
    ·rw[if_neg h2,if_neg (by omega)]
 intro A n;rw[key]
 split<;>omega
theorem ztr{a h m:Int}(hh:0<h)(hm:0<=m)(h1:(a+h-1).tdiv h<=m):a<=m*h:=by
 by_cases ha:0<=a+h-1
 ·rw[Int.tdiv_eq_ediv_of_nonneg ha]at h1;have h2:=Int.emod_lt_of_pos (a+h-1) hh;have h3:=Int.mul_ediv_add_emod (a+h-1) h;have h4:h*((a+h-1) / h)<=h*m:=Int.mul_le_mul_of_nonneg_left h1 (by omega);rw[Int.mul_comm m h];omega
 ·have:0<=m*h:=Int.mul_nonneg hm (by omega);omega
theorem zxG{h:Nat}(hh:0<h):∀bs:List Bn,(∀b∈bs,b.1<=b.2)->Tot (fD h bs) (nAll h bs)
 | [],_=>by
  refine ztN.le fun x=>?_;unfold fD;simp only[wlo,whi,zk0,List.map_nil,List.sum_nil,List.length_cons,List.length_nil];by_cases hx:x=0
  ·rw[if_pos hx];split<;>omega
  ·rw[if_neg hx,if_neg (by omega)];exact zl
 | (lo,hi)::bs,hb=>by
  have ih:=zxG hh bs fun b h=>hb b (List.mem_cons_of_mem _ h);have hlh:lo<=hi:=hb (lo,hi) (List.mem_cons_self ..);have h1:∀i:Nat,Tot (fun w=>(fun(w m:Int)=>fN h bs m.toNat w) w i) (h ^ i*nAll h bs):=fun i=>zxF ih i;have h2:=Tot.many (f:=fun(w m:Int)=>fN h bs m.toNat w) (F:=fun i=>h ^ i*nAll h bs) h1 lo (hi+1-lo);have e:((List.range (hi+1-lo)).map fun i=>h ^ (lo+i)*nAll h bs).sum=nAll h ((lo,hi)::bs):=by
   rw[nAll,nLst]
   induction List.range (hi+1-lo)with
   | nil=>simp
   | cons x l ih=>rw[List.map_cons,List.sum_cons,ih,List.map_cons,List.sum_cons,Nat.add_mul]
  rw[e]at h2;refine h2.le fun x=>?_;have e1:wlo ((lo,hi)::bs)=lo+wlo bs:=by simp[wlo]
  have e2:whi h ((lo,hi)::bs)=hi*h+whi h bs:=by simp[whi]
  rw[fD,zk0]
  split
  ·rename_i hx;rw[znT,zmC (g:=fun m=>fN h bs m.toNat x) fun m hm=>by
    have hm:=zm3 hm;have hm0:0<=m:=by omega
    have hc:(x-whi h bs+h-1).tdiv h<=m:=by omega
    have hc2:=ztr (by omega) hm0 hc;rw[fN,if_pos];rw[show((m.toNat:Nat):Int)=m by omega];omega]
   exact zpx (fun m=>fN h bs m.toNat x) (hi+1-lo) lo _ _ (by omega) (by omega)
  ·exact Nat.zero_le _
theorem zy0{h:Nat}(hh:0<h){bs:List Bn}(hb:∀b∈bs,b.1<=b.2):(allB h bs).length<=nAll h bs:=by
 unfold allB;rw[znT,zmC (g:=fD h bs) fun w hw=>by
  have hw:=zm3 hw;rw[fD,if_pos hw]]
 refine Nat.le_trans (zpx (fD h bs) (whi h bs-wlo bs+1).toNat (wlo bs) _ _ (by omega) (by omega)) (zxG hh bs hb _ _)
def maxC:Int:=1099511627776
def prdE(x y:Int):Int:=if maxC.tdiv y<x then maxC+1 else x*y
def lcL(lo:Nat)(v:Int):Nat->Int×Int
 | 0=>(0,1)
 | n+1=>(if lo<=n then min ((lcL lo v n).1+(lcL lo v n).2) (maxC+1)else(lcL lo v n).1,prdE (lcL lo v n).2 v)
def lcE(b:Bn)(v:Int):Int:=(lcL b.1 v (b.2+1)).1
def cntE(v:Int)(bs:List Bn):Int:=bs.foldl (fun s b=>prdE s (lcE b v)) 1
structure Sat(c:Int)(n:Nat):Prop where
 le:c<=maxC->(n:Int)<=c
 top:c<=maxC+1
 pos:0<=c
theorem Sat.prd{c d:Int}{n m:Nat}(h:Sat c n)(h':Sat d m)(hc:1<=c)(hd:1<=d):Sat (prdE c d) (n*m)/\1<=prdE c d:=by
 unfold prdE
 split
 ·exact⟨⟨fun h=>by omega,Int.le_refl _,by unfold maxC;omega⟩,by unfold maxC;omega⟩
 ·rename_i h1;rw[Int.tdiv_eq_ediv_of_nonneg (by unfold maxC;omega)]at h1;have h2:c<=maxC / d:=by omega
  have h3:c*d<=maxC:=by
   have h4:=Int.mul_le_mul_of_nonneg_right h2 (show 0<=d by omega);have h5:=Int.ediv_mul_le maxC (show d≠0 by omega);omega
  have h4:1*1<=c*d:=Int.mul_le_mul hc hd (by decide) (by omega);have h5:c*1<=c*d:=Int.mul_le_mul_of_nonneg_left hd (by omega);have h6:1*d<=c*d:=Int.mul_le_mul_of_nonneg_right hc (by omega);refine⟨⟨fun _=>?_,by omega,by omega⟩,by omega⟩;have a:=h.le (by omega);have b:=h'.le (by omega);rw[Int.natCast_mul];exact Int.mul_le_mul a b (by omega) (by omega)
theorem Sat.sum{c d:Int}{n m:Nat}(h:Sat c n)(h':Sat d m):Sat (min (c+d) (maxC+1)) (n+m):=by
 have h0:=h.pos;have h1:=h'.pos;refine⟨fun hle=>?_,by omega,by unfold maxC;omega⟩;have a:=h.le (by omega);have b:=h'.le (by omega);omega
theorem zrh{v:Nat}(hv:1<=v)(hv2:(v:Int)<=maxC)(lo:Nat):∀n,Sat (lcL lo v n).1 (((List.range (n-lo)).map fun i=>v ^ (lo+i)).sum)/\Sat (lcL lo v n).2 (v ^ n)/\1<=(lcL lo v n).2/\(lo<n->1<=(lcL lo v n).1)
 | 0=>by
  simp only[lcL];refine⟨⟨fun _=>?_,by decide,by decide⟩,⟨fun _=>by simp,by decide,by decide⟩,by decide,fun h=>by omega⟩;rw[Nat.zero_sub];exact Int.le_refl _
 | n+1=>by
  obtain⟨h1,h2,h3,h4⟩:=zrh hv hv2 lo n;have hp:=h2.prd (d:=(v:Int)) (m:=v) ⟨fun _=>Int.le_refl _,by omega,by omega⟩ h3 (by omega);rw[lcL];refine⟨?_,by rw[Nat.pow_succ];exact hp.1,hp.2,fun hl=>?_⟩
  ·simp only
   split
   ·rename_i hl;rw[show n+1-lo=(n-lo)+1 by omega,List.range_succ,List.map_append,List.sum_append];simp only[List.map_cons,List.map_nil,List.sum_cons,List.sum_nil,Nat.add_zero];rw[show lo+(n-lo)=n by omega];exact h1.sum h2
   ·rename_i hl;rw[show n+1-lo=n-lo by omega];exact h1
  ·have:=h1.pos;simp only;rw[if_pos (by omega)];unfold maxC;omega
theorem zub{v:Nat}(hv:1<=v)(hv2:(v:Int)<=maxC){b:Bn}(hb:b.1<=b.2):Sat (lcE b v) (nLst v b)/\1<=lcE b v:=by
 obtain⟨h1,-,-,h4⟩:=zrh hv hv2 b.1 (b.2+1);exact⟨h1,h4 (by omega)⟩
theorem zuQ{v:Nat}(hv:1<=v)(hv2:(v:Int)<=maxC):∀(bs:List Bn) (c:Int) (n:Nat),(∀b∈bs,b.1<=b.2)->Sat c n->1<=c->Sat (bs.foldl (fun s b=>prdE s (lcE b v)) c) (n*nAll v bs)/\1<=bs.foldl (fun s b=>prdE s (lcE b v)) c
 | [],c,n,_,h,hc=>by rw[nAll,Nat.mul_one];exact⟨h,hc⟩
 | b::bs,c,n,hb,h,hc=>by
  obtain⟨a1,a2⟩:=zub hv hv2 (hb b (List.mem_cons_self ..));obtain⟨b1,b2⟩:=h.prd a1 hc a2;have:=zuQ hv hv2 bs _ _ (fun x hx=>hb x (List.mem_cons_of_mem _ hx)) b1 b2;rw[List.foldl_cons,nAll,<-Nat.mul_assoc];exact this
theorem zoc(x y:Int)(w:World)(hx:0<=x/\x<=maxC+1)(hy:1<=y/\y<=maxC+1):Calls prog 67 #[.int .i64 x,.int .i64 y] w fun e w'=>e=.returned (.int .i64 (prdE x y))/\w'=w:=by
 obtain⟨q,hq⟩:=zX ((1099511627776:Int).tdiv y);have hq1:0<=q/\q<=1099511627776:=by
  rw[<-hq,Int.tdiv_eq_ediv_of_nonneg (by decide)];exact⟨Int.ediv_nonneg (by decide) (by omega),Int.ediv_le_self _ (by decide)⟩
 have hwq:IntKind.i64.wrap q=q:=IntWalk.i64_in _ (by omega);have hy0:¬ y=0:=by omega
 have HP:=zh (show prdE x y=if q<x then 1099511627777 else x*y by unfold prdE maxC;rw[hq];rfl);by_cases h:q<x
 ·have HN:=zh (HP.out.trans (if_pos h));go_enter func67,ntmps67;go_wp2_with fail;go_ret;exact⟨by rw[HN.out];rfl,rfl⟩
 ·have hm:0<=x*y/\x*y<=1099511627776:=by
   have h1:x<=1099511627776 / y:=by rw[Int.tdiv_eq_ediv_of_nonneg (by decide)]at hq;omega
   have h2:=Int.mul_le_mul_of_nonneg_right h1 (show 0<=y by omega);have h3:=Int.ediv_mul_le 1099511627776 (show y≠0 by omega);exact⟨Int.mul_nonneg hx.1 (by omega),by omega⟩
  have HN:=zh (HP.out.trans (if_neg h));have oQ:IntKind.i64.wrap (x*y)=x*y:=IntWalk.i64_in _ (by omega);go_enter func67,ntmps67;go_wp2_with fail;go_ret;exact⟨by rw[HN.out];rfl,rfl⟩
theorem zs1(r:Int)(w:World)(hr:0<=r/\r<=1000000):Calls prog 72 #[.int .i64 r] w fun e w'=>e=.returned (.int .i64 (unrk r))/\w'=w:=by
 obtain⟨q,hq⟩:=zX (r.tdiv 2);obtain⟨m,hm⟩:=zX (r.tmod 2);have hq1:0<=q/\q<=1000000:=by
  rw[<-hq,Int.tdiv_eq_ediv_of_nonneg hr.1];omega
 have hm1:0<=m/\m<2:=by
  rw[<-hm,Int.tmod_eq_emod_of_nonneg hr.1];omega
 have hwq:IntKind.i64.wrap q=q:=IntWalk.i64_in _ (by omega);have oQ:IntKind.i64.wrap m=m:=IntWalk.i64_in _ (by omega);have hwq1:IntKind.i64.wrap (q+1)=q+1:=IntWalk.i64_in _ (by omega);have hwq2:IntKind.i64.wrap (-q) = -q:=IntWalk.i64_in _ (by omega);have hr0:¬ r<0:=by omega
 have HU:=zh (show unrk r=if m=1 then q+1 else -q by unfold unrk;rw[if_neg hr0,hq,hm]);by_cases h:m=1
 ·have e1:(m==1)=true:=by simpa using h
  go_enter func72,ntmps72;go_wp2_with fail;go_ret;exact⟨by rw[HU.out,if_pos h];rfl,rfl⟩
 ·have e1:(m==1)=false:=by simpa using h
  go_enter func72,ntmps72;go_wp2_with fail;go_ret;exact⟨by rw[HU.out,if_neg h];rfl,rfl⟩
theorem zyk{v:Nat}(hv:1<=v)(hv2:(v:Int)<=maxC)(lo n:Nat):0<=(lcL lo v n).1/\(lcL lo v n).1<=maxC+1/\1<=(lcL lo v n).2/\(lcL lo v n).2<=maxC+1:=by
 obtain⟨h1,h2,h3,-⟩:=zrh hv hv2 lo n;exact⟨h1.pos,h1.top,h3,h2.top⟩
theorem zpH(b:Bn)(v:Nat)(w:World)(hb:b.1<=1000000/\b.2<=1000000)(hv:1<=v)(hv2:v<=1000000) :
  Calls prog 68 #[.agg #[.int .i64 (b.1:Int),.int .i64 (b.2:Int)],.int .i64 (v:Int)] w fun e w'=>e=.returned (.int .i64 (lcE b v))/\Below w.heap.size w w':=by
 obtain⟨lo,hi⟩:=b;simp only at hb;have HTP:=zh (fun n=>zyk hv (by unfold maxC;omega) lo n);have oK:=zh (show lcE (lo,hi) v=(lcL lo v (hi+1)).1 from rfl);have HV:=zh (And.intro hv hv2);have hb1:=zkb (zs w) (.cells #[.int .i64 (lo:Int),.int .i64 (hi:Int)] 89);have hk1:=heap_alloc_new w (.cells #[.int .i64 (lo:Int),.int .i64 (hi:Int)] 89);have hwh:IntKind.i64.wrap ((hi:Int)+1)=(hi:Int)+1:=IntWalk.i64_in _ (by omega);go_enter func68,ntmps68;go_upto_region 2 with fail;obtain⟨w1,hw1⟩:=zX (w.alloc (.cells #[.int .i64 (lo:Int),.int .i64 (hi:Int)] 89));rw[hw1]at hb1 hk1 ⊢;have x0:w1.cell? ⟨w.heap.size,0,none⟩=some (.int .i64 (lo:Int)):=zc hk1 rfl;have x1:w1.cell? ⟨w.heap.size,1,none⟩=some (.int .i64 (hi:Int)):=zc hk1 rfl;have HB1:=zh hb1;clear hw1 hb1 hk1;go_wp2_with fail
 go_loopw [11,5,6] (fun i s p wr=>∃n:Nat,n<=hi+1/\i=.int .i64 n/\s=.int .i64 (lcL lo v n).1/\p=.int .i64 (lcL lo v n).2/\wr=w1) (fun i _ _ _=>hi+1-(intOf i).toNat)
 case atStart=>exact⟨0,Nat.zero_le _,rfl,rfl,rfl,rfl⟩
 case round =>
  obtain⟨n,hn,rfl,rfl,rfl,rfl⟩:=hrel;obtain⟨S,hS⟩:=zX ((lcL lo v n).1);obtain⟨Q,hQ⟩:=zX ((lcL lo v n).2);have HX:=zh (show lcL lo v (n+1)=(if lo<=n then min (S+Q) (maxC+1)else S,prdE Q v) by rw[lcL,hS,hQ]);have hT:=HTP.out n;rw[hS,hQ]at hT;have HT:=zh hT;rw[hS,hQ];have aB:=zh hS;clear hT hS hQ;have cz:=zh (zoc Q v wr ⟨by have:=HT.out;omega,HT.out.2.2.2⟩ ⟨by have:=HV.out;omega,by have:=HV.out;unfold maxC;omega⟩);by_cases hlt:n<hi+1
  ·have hn1:(n:Int)<(hi:Int)+1:=by omega
   have hwn:IntKind.i64.wrap ((n:Int)+1)=(n:Int)+1:=IntWalk.i64_in _ (by omega);by_cases hl:lo<=n
   ·have hl1:(lo:Int)<=(n:Int):=by omega
    have hws:IntKind.i64.wrap (S+Q)=S+Q:=IntWalk.i64_in _ (by have:=HT.out;unfold maxC at this;omega);go_wp2_with fail
    all_goals
     refine cz.out.mono ?_;rintro e w2 ⟨rfl,hw2⟩;rw[hw2];go_wp2_with fail
     go_roundw
     case rel=>exact⟨n+1,by omega,by go_num,by rw[HX.out,if_pos hl];exact congrArg (Value.int .i64) (show _=min (S+Q) (maxC+1) by unfold maxC;omega),by rw[HX.out],trivial⟩
     case measure=>simp[intOf];omega
   ·have hl1:¬ (lo:Int)<=(n:Int):=by omega
    go_wp2_with fail;refine cz.out.mono ?_;rintro e w2 ⟨rfl,hw2⟩;rw[hw2];go_wp2_with fail
    go_roundw
    case rel=>exact⟨n+1,by omega,by go_num,by rw[HX.out,if_neg hl],by rw[HX.out],trivial⟩
    case measure=>simp[intOf];omega
  ·have hn1:¬ (n:Int)<(hi:Int)+1:=by omega
   obtain rfl:n=hi+1:=by omega
   have HF:=zh (oK.out.trans aB.out);go_wp2_with fail;go_ret;exact⟨by rw[HF.out];rfl,HB1.out⟩
def RowB(w:World)(S:Nat->Prop)(A:Option Addr)(bs:List Bn):Prop :=
 ∀i (hi:i<bs.length),∃a:Addr,A=some a/\S a.block/\w.cell? (a.add (i*2))=some (.int .i64 (bs[i].1:Int))/\w.cell? ⟨(a.add (i*2)).block,(a.add (i*2)).off+1,none⟩=some (.int .i64 (bs[i].2:Int))
theorem RowB.keep{w w':World}{S S':Nat->Prop}{A:Option Addr}{bs:List Bn}(h:RowB w S A bs)(hS:∀b,S b->b<w.heap.size->S' b)(hk:∀b,S b->b<w.heap.size->w'.heap[b]?=w.heap[b]?):RowB w' S' A bs:=fun i hi=>by
 obtain⟨a,hA,iF,h0,h1⟩:=h i hi;have hlt:a.block<w.heap.size:=by have:=World.block_lt_of_cell? w _ h0;rwa[zkE]at this
 refine⟨a,hA,hS _ iF hlt,zkM h0 ?_,zkM h1 ?_⟩
 all_goals simp only[zkE];exact hk _ iF hlt
theorem RowB.later{w w':World}{S:Nat->Prop}{A:Option Addr}{bs:List Bn}(h:RowB w S A bs)(hb:Below w.heap.size w w'):RowB w' S A bs:=h.keep (fun _ hb _=>hb) fun b _ hlt=>hb.block b hlt
def zqO(w:World)(b:Nat)(h:Int)(bs:List Bn):Prop :=
 ∀i,i<=bs.length->w.cell? ⟨b,i*2,none⟩=some (.int .i64 (wlo (bs.drop i):Int))/\w.cell? ⟨b,i*2+1,none⟩=some (.int .i64 (whi h (bs.drop i)))
theorem zqO.keep{w w':World}{b:Nat}{h:Int}{bs:List Bn}(hr:zqO w b h bs)(hk:w'.heap[b]?=w.heap[b]?):zqO w' b h bs:=fun i hi =>
 ⟨zkM (hr i hi).1 hk,zkM (hr i hi).2 hk⟩
theorem zvJ{bs:List Bn}{i:Nat}(hi:i<bs.length):wlo (bs.drop i)=wlo (bs.drop (i+1))+bs[i].1:=by
 unfold wlo;rw[List.drop_eq_getElem_cons hi,List.map_cons,List.sum_cons];omega
theorem zvK{h:Int}{bs:List Bn}{i:Nat}(hi:i<bs.length):whi h (bs.drop i)=whi h (bs.drop (i+1))+bs[i].2*h:=by
 unfold whi;rw[List.drop_eq_getElem_cons hi,List.map_cons,List.sum_cons];omega
theorem zu1:(prog.info? 89).map (fun i=>(i.zero,i.size,i.bytes))=some (some (.agg #[.int .i64 0,.int .i64 0]),2,16):=by kernel_rfl
theorem bMkB(n:Nat)(hn:n<=4096)(w:World):(Instr.makeSlice 83 (.int .i64 (n:Int)) (.int .i64 (n:Int))).run prog w=.ok (.slice (some ⟨w.heap.size,0,none⟩) n n) (w.alloc (.cells (madeCells #[.int .i64 0,.int .i64 0] (n*2)) 89)):=by
 have h:=zu1;obtain⟨i,hi,hz⟩:=Option.map_eq_some_iff.1 h;injection hz with h1 h2;injection h2 with h2 h3;have:=zk6 (P:=prog) 83 89 i (.agg #[.int .i64 0,.int .i64 0]) underlying83 hi h1 .i64 .i64 n n zl (by rw[h3];omega) (by omega) w;rw[h2]at this;exact this
def zKa(w:World)(b:Nat)(h:Int)(bs:List Bn)(k:Nat):Prop :=
 ∃us:Array Value,w.heap[b]?=some (.cells us 89 (0,0))/\us.size=(bs.length+1)*2/\∀i,k<=i->i<=bs.length->us[i*2]?=some (.int .i64 (wlo (bs.drop i):Int))/\us[i*2+1]?=some (.int .i64 (whi h (bs.drop i)))
theorem zzf{bs:List Bn}(hb:∀b∈bs,b.1<=1000/\b.2<=1000):wlo bs<=bs.length*1000:=by
 induction bs with
 | nil=>simp[wlo]
 | cons b bs ih =>
  have h1:=hb b (List.mem_cons_self ..);have h2:=ih fun c hc=>hb c (List.mem_cons_of_mem _ hc);have e:wlo (b::bs)=b.1+wlo bs:=by simp[wlo]
  rw[e,List.length_cons];omega
theorem zzg{bs:List Bn}{h:Nat}(hb:∀b∈bs,b.1<=1000/\b.2<=1000):0<=whi h bs/\whi h bs<=bs.length*(1000*h):=by
 induction bs with
 | nil=>exact⟨Int.le_refl _,by rw[List.length_nil];show(0:Int)<=_;omega⟩
 | cons b bs ih =>
  have h1:=hb b (List.mem_cons_self ..);have h2:=ih fun c hc=>hb c (List.mem_cons_of_mem _ hc);have e:whi h (b::bs)=b.2*h+whi h bs:=by unfold whi;rw[List.map_cons,List.sum_cons]
  rw[e,List.length_cons];have h4:((bs.length+1:Nat):Int)*(1000*(h:Int))=bs.length*(1000*(h:Int))+1000*(h:Int):=by rw[Int.natCast_add,Int.add_mul];omega
  have h5:(0:Int)<=(b.2:Int)*(h:Int):=Int.mul_nonneg (by omega) (by omega);have h6:(b.2:Int)*(h:Int)<=1000*(h:Int):=Int.mul_le_mul_of_nonneg_right (by omega) (by omega);omega
theorem ztj{bs:List Bn}{h:Nat}(hb:∀b∈bs,b.1<=1000/\b.2<=1000)(hn:bs.length<=1000)(hh:h<=10000):wlo bs<=1000000/\0<=whi h bs/\whi h bs<=10000000000:=by
 have h1:=zzf hb;have h2:=zzg (h:=h) hb;refine⟨by omega,h2.1,Int.le_trans h2.2 ?_⟩;have h3:(bs.length:Int)*(1000*(h:Int))<=1000*(1000*(h:Int)):=Int.mul_le_mul_of_nonneg_right (by omega) (by omega);omega
theorem zsm{bs:List Bn}(hb:∀b∈bs,b.1<=1000/\b.2<=1000)(i:Nat):∀b∈bs.drop i,b.1<=1000/\b.2<=1000:=fun b h=>hb b (List.mem_of_mem_drop h)
theorem zzx(n i:Nat)(hi:i<n):(madeCells #[Value.int .i64 0,.int .i64 0] n)[i]?=some (.int .i64 0):=by
 unfold madeCells;rw[Array.getElem?_map,Array.getElem?_eq_getElem (by simpa using hi)];have h:i % 2<2:=Nat.mod_lt _ (by decide);rcases Nat.lt_succ_iff_lt_or_eq.1 h with h|h
 ·simp[show i % 2=0 by omega]
 ·simp[h]
theorem setU{W:World}{b o:Nat}{us:Array Value}{ty:TypeId}(v:Value)(h:W.heap[b]?=some (.cells us ty (0,0))):∃W',W.setCell ⟨b,o,none⟩ v=W'/\Chg (fun q=>q=b) W W'/\W'.heap[b]?=some (.cells (us.setIfInBounds o v) ty (0,0)) :=
 ⟨_,rfl,(Chg.refl (fun q=>q=b) W).setCell (p:=⟨b,o,none⟩) (.inl rfl) _,heap_setCell_same W b o us ty v h⟩
theorem zqU(bs:List Bn)(h:Nat)(A:Option Addr)(c:Nat)(w:World)(hr:RowB w Any A bs)(hn:bs.length<=1000)(hb:∀b∈bs,b.1<=1000/\b.2<=1000)(hh:h<=10000) :
  Calls prog 40 #[.slice A bs.length c,.int .i64 h] w fun e w'=>∃b,e=.returned (.slice (some ⟨b,0,none⟩) (bs.length+1) (bs.length+1))/\w.heap.size<=b/\zqO w' b h bs/\Below w.heap.size w w':=by
 have HR:=zh (hr.keep (S':=fun q=>q<w.heap.size) (fun _ _ h=>h) fun _ _ _=>rfl);have HB:=zh hb;have HH:=zh hh;have hmk:=bMkB (bs.length+1) (by omega) w;obtain⟨n,hnn⟩:=zX (bs.length);rw[hnn]at hn hmk ⊢;rw[show((n+1:Nat):Int)=(n:Int)+1 from rfl]at hmk;have HN:=zh hnn;have hwn:IntKind.i64.wrap ((n:Int)+1)=(n:Int)+1:=IntWalk.i64_in _ (by omega);have oQ:IntKind.i64.wrap ((n:Int)-1)=(n:Int)-1:=IntWalk.i64_in _ (by omega);have hk0:=heap_alloc_new w (.cells (madeCells #[.int .i64 0,.int .i64 0] ((n+1)*2)) 89);have hb0:=zkb (zs w) (.cells (madeCells #[.int .i64 0,.int .i64 0] ((n+1)*2)) 89);clear hr hnn hb hh;go_enter func40,ntmps40;go_upto_region 2 with fail;obtain⟨w1,hw1⟩:=zX (w.alloc (.cells (madeCells #[.int .i64 0,.int .i64 0] ((n+1)*2)) 89));rw[hw1]at hb0 hk0 ⊢;have HB0:=zh hb0;have aH:=zh hk0;clear hw1 hb0 hk0 hmk;obtain⟨b,hbb⟩:=zX (w.heap.size);have dE:=zh hbb
 rw[hbb]at aH ⊢;clear hbb;go_wp2_with fail
 go_loopw [6] (fun iv wr=>∃k:Nat,k<=n/\iv=.int .i64 ((k:Int)-1)/\Hid (Chg (fun q=>q=b) w1 wr)/\Hid (zKa wr b h bs k)) (fun iv _=>(intOf iv+1).toNat)
 case atStart =>
  refine⟨n,zl,rfl,zh (Chg.refl _ _),zh ⟨_,aH.out,?_,?_⟩⟩
  ·rw[size_madeCells,HN.out]
  ·intro j h1 h2;obtain rfl:j=n:=by have:=HN.out;omega
   rw[List.drop_of_length_le (by rw[HN.out];exact zl),zzx _ _ (by omega),zzx _ _ (by omega)];exact⟨rfl,rfl⟩
 case round =>
  obtain⟨k,hk,rfl,HC,za⟩:=hrel;by_cases hlt:0<k
  ·obtain⟨i,rfl⟩:∃i,k=i+1:=⟨k-1,by omega⟩
   obtain⟨us,hu,iw,jk⟩:=za.out;have hin:i<bs.length:=by have:=HN.out;omega
   have hin1:i+1<=bs.length:=by omega
   obtain⟨a,rfl,has,x0,x1⟩:=(HR.out.later HB0.out).keep (w':=wr) (S':=fun q=>q<w.heap.size) (fun _ h _=>h) (fun q h hq=>HC.out.block q hq (fun e=>by have e:q=b:=e;have h:q<w.heap.size:=h;have:=dE.out;omega)) i hin;have e1:((i+1:Nat):Int)-1=(i:Int):=by omega
   rw[e1];have hlt1:(0:Int)<=(i:Int):=by omega
   obtain⟨y0,y1⟩:wr.cell? ⟨b,(i+1)*2,none⟩=some (.int .i64 (wlo (bs.drop (i+1)):Int))/\wr.cell? ⟨b,(i+1)*2+1,none⟩=some (.int .i64 (whi h (bs.drop (i+1)))):=⟨zc hu (jk (i+1) zl hin1).1,zc hu (jk (i+1) zl hin1).2⟩
   obtain⟨z0,hz0⟩:∃u,us[i*2]?=some u:=⟨_,Array.getElem?_eq_getElem (by omega)⟩
   obtain⟨z1,hz1⟩:∃u,us[i*2+1]?=some u:=⟨_,Array.getElem?_eq_getElem (by omega)⟩
   have y2:wr.cell? ⟨b,i*2,none⟩=some z0:=zc hu hz0;have cf:∀o,wr.frozen? ⟨b,o,none⟩=false:=fun o=>zf hu;have hw1:=ztj (zsm HB.out i) (by rw[List.length_drop,HN.out];omega) HH.out;have hw2:=ztj (zsm HB.out (i+1)) (by rw[List.length_drop,HN.out];omega) HH.out;obtain⟨w5,mF,dH,lL⟩:=setU (o:=i*2) (.int .i64 (wlo (bs.drop i):Int)) hu;have mM:w5.drew.heap[b]?=some (.cells (us.setIfInBounds (i*2) (.int .i64 (wlo (bs.drop i):Int))) 89 (0,0)):=lL;obtain⟨w6,jV,hc6,ou⟩:=setU (o:=i*2+1) (.int .i64 (whi h (bs.drop i))) mM;have dn:=zh ((HC.out.trans dH.drew).trans hc6.drew);have yo:=zh (show zKa w6.drew b h bs i from⟨_,ou,by simpa using iw,fun j h1 h2=>by
    by_cases e:j=i
    ·subst e;refine⟨?_,?_⟩
     ·rw[Array.getElem?_setIfInBounds_ne (by omega),Array.getElem?_setIfInBounds_self_of_lt (by omega)]
     ·rw[Array.getElem?_setIfInBounds_self_of_lt (by rw[Array.size_setIfInBounds];omega)]
    ·rw[Array.getElem?_setIfInBounds_ne (by omega),Array.getElem?_setIfInBounds_ne (by omega),Array.getElem?_setIfInBounds_ne (by omega),Array.getElem?_setIfInBounds_ne (by omega)];exact jk j (by omega) h2⟩)
   have hwi1:IntKind.i64.wrap ((i:Int)-1)=(i:Int)-1:=IntWalk.i64_in _ (by omega);have hl0:=zvJ hin;have hl1:=zvK (h:=h) hin;have hwl:IntKind.i64.wrap ((wlo (bs.drop (i+1)):Int)+(bs[i].1:Int))=(wlo (bs.drop i):Int):=by rw[hl0];exact IntWalk.i64_in _ (by omega)
   have hwm1:IntKind.i64.wrap ((bs[i].2:Int)*(h:Int))=(bs[i].2:Int)*(h:Int):=IntWalk.i64_in _ (by omega);have hwh:IntKind.i64.wrap (whi h (bs.drop (i+1))+(bs[i].2:Int)*(h:Int))=whi h (bs.drop i):=by rw[hl1];exact IntWalk.i64_in _ (by omega)
   have y3:w5.drew.cell? ⟨b,i*2+1,none⟩=some z1:=zc mM (by rw[Array.getElem?_setIfInBounds_ne (by omega)];exact hz1);have y4:w5.drew.cell? ⟨b,(i+1)*2+1,none⟩=some (.int .i64 (whi h (bs.drop (i+1)))):=zc mM (by rw[Array.getElem?_setIfInBounds_ne (by omega)];exact(jk (i+1) zl hin1).2);have cf5:∀o,w5.drew.frozen? ⟨b,o,none⟩=false:=fun o=>zf mM;have x5:w5.drew.cell? ⟨(a.add (i*2)).block,(a.add (i*2)).off+1,none⟩=some (.int .i64 (bs[i].2:Int)):=zkM x1 (dH.block _ (World.block_lt_of_cell? wr _ x1) (by rw[zkE];have:=dE.out;have has:a.block<w.heap.size:=has;omega));have HL0:=zh hl0;have lu:=zh hl1;have hwi:IntKind.i64.wrap ((i:Int)+1)=(i:Int)+1:=IntWalk.i64_in _ (by omega);have hp0:(0:Int)<=(i:Int)+1:=by omega
   have hp1:(i:Int)+1<(n:Int)+1:=by omega
   have hp2:(i:Int)<(n:Int)+1:=by omega
   have hp3:(i:Int)<(n:Int):=by omega
   have HU:=zh hu;have HUS:=zh iw;have HUU:=zh jk;generalize bs[i].1=lo,bs[i].2=hi,wlo (bs.drop (i+1))=L1,whi h (bs.drop (i+1))=L2,wlo (bs.drop i)=M1,whi h (bs.drop i)=M2 at *
   clear hu iw jk hl0 hl1 hw1 hw2 mM HB HH;go_upto_region 5 with fail
   go_region
   go_upto_region 6 with fail
   go_region
   clear mF jV;go_wp2_with fail
   go_roundw
   case rel=>exact⟨i,by omega,rfl,dn,yo⟩
   case measure=>simp[intOf]
  ·obtain rfl:k=0:=by omega
   have hlt1:¬ (0:Int)<=((0:Nat):Int)-1:=by omega
   go_wp2_with fail;go_ret;obtain⟨us,hu,iw,jk⟩:=za.out;refine⟨b,rfl,by rw[dE.out];exact zl,fun j hj=>⟨zc hu (jk j (Nat.zero_le _) hj).1,zc hu (jk j (Nat.zero_le _) hj).2⟩,HB0.out.trans (HC.out.below HB0.out.size fun q e=>by have e:q=b:=e;have:=dE.out;omega)⟩
structure BX where
 v:Int
 l:Int
 i:Int
def okI(x:Int):Bool:=decide (0<=x/\x<=1000)
def BX.ok(b:BX):Bool:=okI b.v&&okI b.l&&okI b.i
def len1(b:BX)(v:VD):Bn:=if v.k=3 then(0,b.l.toNat)else((fixE v).toNat,(fixE v).toNat)
def lenE(vs:List VD)(b:BX):List Bn:=vs.map (len1 b)++[(0,b.i.toNat)]
def znO(bs:List Bn):List Value:=bs.flatMap fun b=>[.int .i64 (b.1:Int),.int .i64 (b.2:Int)]
theorem zqz:∀(bs:List Bn) (i:Nat) (h:i<bs.length),(znO bs)[i*2]?=some (.int .i64 (bs[i].1:Int))/\(znO bs)[i*2+1]?=some (.int .i64 (bs[i].2:Int))
 | b::bs,0,_=>by simp[znO]
 | b::bs,i+1,h=>by
  have:=zqz bs i (by simpa using h);unfold znO at this ⊢;rw[List.flatMap_cons,show(i+1)*2=i*2+2 by omega,show i*2+2+1=i*2+1+2 by omega];simpa using this
theorem RowB.of_own{W:World}{n0 n c:Nat}{A:Option Addr}{bs:List Bn}(h:W.ownsRow n0 89 2 (.slice A n c) n (znO bs))(hn:bs.length=n):RowB W (fun q=>n0<=q) A bs:=fun i hi=>by
 rcases h.2 with⟨e1,e2⟩|⟨g,cap,cur,e,hb,hg,-⟩
 ·omega
 ·injection e with e1 e2 e3;subst e1;obtain⟨h0,h1⟩:=zqz bs i hi;refine⟨_,rfl,hb,?_,?_⟩
  ·rw[Addr.add_lit,Nat.zero_add,World.ownsRow.cellAt h (i*2) (by omega)];exact h0
  ·rw[Addr.add_lit,Nat.zero_add,World.ownsRow.cellAt h (i*2+1) (by omega)];exact h1
theorem bB1(x y:Int)(w:World):(Instr.buildSlice 83 1 #[(0,.agg #[.int .i64 x,.int .i64 y])]).run prog w=.ok (.slice (some ⟨w.heap.size,0,none⟩) 1 1) (w.alloc (.cells #[.int .i64 x,.int .i64 y] 89)):=by kernel_rfl
theorem zlK{ops:Array Oper}{rest:List Oper}{o:Oper}{a:Act}{W:World}{Q:Exit->Act->World->Prop}(hgd:o.guard=none)(s x:Operand)
  (ho:o.op=.call { callee:=.builtin .append,args := #[s,x],argTypes := #[83,83] })(base:Nat)(v:Value)(n:Nat)(xs:List Value)(hs:a.eval s=v)(hrow:W.ownsRow base 89 2 v n xs)
  (b:Nat)(y0 y1:Int)(hx:a.eval x=.slice (some ⟨b,0,none⟩) 1 1)(hc:W.heap[b]?=some (.cells #[.int .i64 y0,.int .i64 y1] 89 (0,0)))(hl:n+1<=1000000)(hb:base<=W.heap.size)
  (h:∀v' w',w'.ownsRow base 89 2 v' (n+1) (xs++[.int .i64 y0,.int .i64 y1])->W.grownBy w' v.ownBlock->wpList prog ops Q rest (a.put o.dst v') w') :
  wpList prog ops Q (o::rest) a W:=by
 obtain⟨i,hi,hz0,hz1,hz2⟩:=info_parts zu1;refine wpList_append_own_at (P:=prog) _ hgd s x 83 ho base 89 i _ 2 16 underlying83 hi hz0 hz1 hz2 rfl (by decide) v n xs hs hrow ⟨b,0,none⟩ 1 1 [.int .i64 y0,.int .i64 y1] hx (by simp) (fun j u hj=>?_) (fun u hu=>?_) (by unfold maxLen;omega) (by omega) hb (fun v' w' h1 h2 _ _=>h v' w' h1 h2)
 ·rw[Addr.add_lit,Nat.zero_add];exact zc hc (by simpa using hj)
 ·simp only[List.mem_cons,List.not_mem_nil,or_false]at hu;rcases hu with rfl|rfl<;>rfl
theorem zof{W0 W1 wr:World}{j c9:Nat}{A9:Option Addr}{y0 y1:Nat}{bs:List Bn}(hy:bs[j]?=some (y0,y1))(h1:Below W1.heap.size W1 wr)(h0:Below W0.heap.size W0 wr)(hn:W0.heap.size<=W1.heap.size)
  (ho:wr.ownsRow W1.heap.size 89 2 (.slice A9 j c9) j (znO (bs.take j)))(v':Value)(w':World)
  (h:w'.ownsRow W1.heap.size 89 2 v' (j+1) (znO (bs.take j)++[.int .i64 (y0:Int),.int .i64 (y1:Int)]))(hg:(wr.alloc (.cells #[.int .i64 (y0:Int),.int .i64 (y1:Int)] 89)).grownBy w' (Value.slice A9 j c9).ownBlock) :
  ∃A' c',v'=.slice A' (j+1) c'/\Hid (Below W0.heap.size W0 w')/\Hid (Below W1.heap.size W1 w')/\Hid (w'.ownsRow W1.heap.size 89 2 (.slice A' (j+1) c') (j+1) (znO (bs.take (j+1)))):=by
 obtain⟨A',c',rfl,-⟩:=zkg h;have hlt:=ho.lt;refine⟨A',c',rfl,zh ?_,zh ?_,zh ?_⟩
 ·have h2:=zkb h0 (.cells #[.int .i64 (y0:Int),.int .i64 (y1:Int)] 89);exact h2.trans ((Chg.row hg).below h2.size fun q e=>by have:=(hlt q e).1;omega)
 ·have h2:=zkb h1 (.cells #[.int .i64 (y0:Int),.int .i64 (y1:Int)] 89);exact h2.trans ((Chg.row hg).below h2.size fun q e=>(hlt q e).1)
 ·have e:znO (bs.take (j+1))=znO (bs.take j)++[.int .i64 (y0:Int),.int .i64 (y1:Int)]:=by
   rw[List.take_add_one,hy];simp[znO]
  rw[e];exact h
def LenP(vs:List VD)(b:BX)(w:World)(e:Ending)(w':World):Prop:=Below w.heap.size w w'/\(((b.ok&&svB vs)=false/\e=.returned (.tuple #[.slice none 0 0,.bool false]))\/((b.ok&&svB vs)=true/\∃A c,e=.returned (.tuple #[.slice A (vs.length+1) c,.bool true])/\RowB w' (fun q=>w.heap.size<=q) A (lenE vs b)))
theorem zoi(vs:List VD)(b:BX)(A:Option Addr)(c:Nat)(w:World)(hrow:RowV w Any A vs)(hl:vs.length<=LV):Calls prog 38 #[.slice A vs.length c,.agg #[.int .i64 b.v,.int .i64 b.l,.int .i64 b.i]] w (LenP vs b w):=by
 obtain⟨bv,bl,bi⟩:=b;simp only;have hb1:=zkb (zs w) (.cells #[.int .i64 bv,.int .i64 bl,.int .i64 bi] 23);have hk1:=heap_alloc_new w (.cells #[.int .i64 bv,.int .i64 bl,.int .i64 bi] 23);have ae:=zh hrow;have HSN:=zh (fun w' (hb:Below w.heap.size w w')=>zxj vs A c w' (hrow.later hb) hl);clear hrow hl;go_enter func38,ntmps38;go_upto_region 1 with fail;obtain⟨w1,hw1⟩:=zX (w.alloc (.cells #[.int .i64 bv,.int .i64 bl,.int .i64 bi] 23));rw[hw1]at hb1 hk1 ⊢;obtain⟨x0,x1,x2⟩:=zlG hk1;have HB1:=zh hb1;have aD:=zh hk1;clear hw1 hb1 hk1;go_wp2_with fail
 go_loopw [20] (fun i wr=>∃j:Nat,j<=3/\i=.int .i64 j/\wr=w1/\Hid (∀k,k<j->okI ([bv,bl,bi].getD k 0)=true)) (fun i _=>3-(intOf i).toNat)
 case atStart=>exact⟨0,by omega,rfl,rfl,zh fun k hk=>by omega⟩
 case round =>
  obtain⟨j,hj,rfl,rfl,fB⟩:=hrel;by_cases hlt:j<3
  ·have key:∃x,x=[bv,bl,bi].getD j 0:=⟨_,rfl⟩
   obtain⟨x,hx⟩:=key;have hj1:(j:Int)<3:=by omega
   have hj0:(0:Int)<=(j:Int):=by omega
   obtain⟨x,hx⟩:=zX ([bv,bl,bi].getD j 0);have hix:(Instr.index 116 (.agg #[.int .i64 bv,.int .i64 bl,.int .i64 bi]) (.int .i64 (j:Int))).run prog wr=.ok (.int .i64 x) wr:=by
    rw[<-hx];rcases j with _|_|_|j
    ·kernel_rfl
    ·kernel_rfl
    ·kernel_rfl
    ·omega
   have HX:=zh hx;clear hx;have hno:okI x=false->(BX.ok ⟨bv,bl,bi⟩&&svB vs)=false:=fun h=>by
    rw[<-HX.out]at h;unfold BX.ok;rcases j with _|_|_|j
    ·have h:okI bv=false:=h;simp[h]
    ·have h:okI bl=false:=h;simp[h]
    ·have h:okI bi=false:=h;simp[h]
    ·omega
   have bW:=zh hno;clear hno;by_cases h1:x<0
   ·have HF:=zh (bW.out (decide_eq_false (by omega)));go_wp2_with fail;go_ret2;exact⟨HB1.out,.inl ⟨HF.out,rfl⟩⟩
   ·by_cases h2:1000<x
    ·have HF:=zh (bW.out (decide_eq_false (by omega)));go_wp2_with fail;go_ret2;exact⟨HB1.out,.inl ⟨HF.out,rfl⟩⟩
    ·have HT:=zh (show okI x=true from decide_eq_true (by omega));go_wp2_with fail
     go_roundw
     case rel=>exact⟨j+1,by omega,by go_num,trivial,zh fun k hk=>by
      by_cases e:k=j
      ·subst e;rw[HX.out];exact HT.out
      ·exact fB.out k (by omega)⟩
     case measure=>simp[intOf];omega
  ·obtain rfl:j=3:=by omega
   have vK:=zh (show BX.ok ⟨bv,bl,bi⟩=true by
    have h0:okI bv=true:=fB.out 0 (by omega);have h1:okI bl=true:=fB.out 1 (by omega);have h2:okI bi=true:=fB.out 2 (by omega);simp[BX.ok,h0,h1,h2])
   clear fB;go_wp2_with fail;refine(HSN.out _ HB1.out).mono ?_;rintro e w2 ⟨hb2,v,er,rfl,hs0,hs1⟩;have HB2:=zh (zka HB1.out hb2);have aQ:=zh (zkc aD.out hb2);obtain⟨sv,hsv⟩:=zX (svB vs);have nE:=zh hsv;rw[hsv]at hs0 hs1;clear hsv hb2
   cases sv
   ·obtain⟨rfl,rfl⟩:=hs0 rfl;have HF:=zh (show(BX.ok ⟨bv,bl,bi⟩&&svB vs)=false by rw[nE.out];simp);clear hs0 hs1 x0 x1 x2;go_wp2_with fail;go_ret2;exact⟨zkb HB2.out _,.inl ⟨HF.out,rfl⟩⟩
   ·obtain⟨rfl,hos⟩:=hs1 rfl;have HT:=zh (show(BX.ok ⟨bv,bl,bi⟩&&svB vs)=true by rw[nE.out,vK.out];rfl);have hsv2:=hos.svR (zSLim vs nE.out);obtain⟨A2,c2,B2,d2,D2,e2,rfl,hr2,-⟩:=hsv2;clear hs0 hs1 x0 x1 x2;obtain⟨nv,kK⟩:=zX (vs.length);have hzn:(zS vs).cells.length=nv:=by rw[<-kK];simp[zS]
    have oV:=nE.out;simp only[svB,Bool.and_eq_true,decide_eq_true_eq,List.all_eq_true]at oV;have HS3:=zh oV;have hn32:nv<=32:=by rw[<-kK];exact oV.1
    rw[hzn]at hos ⊢;have ja:=zh kK;have hb3:=zkb HB2.out (.cells #[.slice A2 nv c2,.slice B2 (zS vs).tin.length d2,.slice D2 (zS vs).tout.length e2] 44);obtain⟨w3,hw3⟩:=zX (w2.alloc (.cells #[.slice A2 nv c2,.slice B2 (zS vs).tin.length d2,.slice D2 (zS vs).tout.length e2] 44));have tH:Below w2.heap.size w2 w3:=by rw[<-hw3];exact zkb zr _
    have hk3:=heap_alloc_new w2 (.cells #[.slice A2 nv c2,.slice B2 (zS vs).tin.length d2,.slice D2 (zS vs).tout.length e2] 44);rw[hw3]at hb3 hk3;have x3:w3.cell? ⟨w2.heap.size,0,none⟩=some (.slice A2 nv c2):=zc hk3 rfl;have HB3:=zh hb3;have HR3:=zh ((hr2.keep (S':=Any) (fun _ _ _=>trivial) fun _ _ _=>rfl).later tH);have fH:=zh (zkc aQ.out tH);clear hb3 tH hk3 hr2 hos kK oV hzn HSN;rw[ja.out];go_wp2_with fail;clear hw3 x3
    go_loopw [40,10] (fun i lv wr=>∃j:Nat,j<=nv/\i=.int .i64 j/\∃A9 c9,lv=.slice A9 j c9/\Hid (Below w.heap.size w wr)/\Hid (Below w3.heap.size w3 wr)/\Hid (wr.ownsRow w3.heap.size 89 2 (.slice A9 j c9) j (znO ((lenE vs ⟨bv,bl,bi⟩).take j)))) (fun i _ _=>nv-(intOf i).toNat)
    case atStart=>exact⟨0,Nat.zero_le _,rfl,none,0,rfl,HB3,zh zr,zh ⟨rfl,.inl ⟨rfl,rfl⟩⟩⟩
    case round =>
     obtain⟨j,hj,rfl,A9,c9,rfl,af,lG,wG⟩:=hrel;have hkb:=zkc fH.out lG.out;obtain⟨x0,x1,x2⟩:=zlG hkb;by_cases hlt:j<nv
     ·have hj1:(j:Int)<(nv:Int):=by omega
      have hj0:(0:Int)<=(j:Int):=by omega
      obtain⟨a,v,rfl,-,Hv,⟨p0,p1,p2⟩,hf⟩:=(ae.out.later af.out).nd (show j<vs.length by rw[ja.out];exact hlt);obtain⟨a2,q,A3,c3,rfl,Hq,hcq,-,-⟩:=(HR3.out.later lG.out).nd (i:=j) (by simp[zS];rw[ja.out];exact hlt);have hle:(lenE vs ⟨bv,bl,bi⟩)[j]?=some (len1 ⟨bv,bl,bi⟩ v):=by
       have h9:j<vs.length:=by rw[ja.out];exact hlt
       simp only[lenE];rw[List.getElem?_append_left (by simpa using h9),List.getElem?_map,List.getElem?_eq_getElem h9,Hv.out];rfl
      have lJ:q.length=(fixE v).toNat:=by rw[<-Hq.out,<-Hv.out];simp[zS]
      have HQL:=zh lJ;have oK:=zh hle;have dB:w.heap.size<=w3.heap.size:=HB3.out.size;have hl4:j+1<=1000000:=by omega
      have hwi:IntKind.i64.wrap ((j:Int)+1)=(j:Int)+1:=IntWalk.i64_in _ (by omega);obtain⟨s9,k9,n9⟩:=v;simp only at p0 p1 p2;clear lJ hle hf;by_cases h3:k9=3
      ·obtain⟨L,rfl⟩:∃L:Nat,bl=(L:Int):=⟨bl.toNat,by
        have:=vK.out;simp only[BX.ok,okI,Bool.and_eq_true,decide_eq_true_eq]at this;omega⟩
       have hrow:=zkJ wG.out (zkb (zs wr) (.cells #[.int .i64 0,.int .i64 (L:Int)] 89));have hk4:=heap_alloc_new wr (.cells #[.int .i64 0,.int .i64 (L:Int)] 89);have HX:=zh (zof (y0:=0) (y1:=L) (by rw[oK.out];simp[len1,h3]) lG.out af.out dB wG.out);have hbb:=bB1 0 (L:Int) wr;have hs4:w3.heap.size<=(wr.alloc (.cells #[.int .i64 0,.int .i64 (L:Int)] 89)).heap.size:=by have:=lG.out.size;simp;omega
       subst h3;go_wp2_with (at_builtin;refine zlK rfl (.tmp 51) (.tmp 55) rfl w3.heap.size (.slice A9 j c9) j _ rfl hrow wr.heap.size _ _ rfl hk4 hl4 hs4 ?_;intro v' w' ho hg;obtain⟨A',c',rfl,aO,fM,iK⟩:=HX.out _ _ ho hg;clear ho hg)
       go_roundw
       case rel=>exact⟨j+1,by omega,by go_num,A',c',rfl,aO,fM,iK⟩
       case measure=>simp[intOf];omega
      ·have e3:(k9==3)=false:=by simpa using h3
       obtain⟨L,hL⟩:∃L:Nat,(fixE ⟨s9,k9,n9⟩).toNat=L:=⟨_,rfl⟩
       have Bf:=HQL.out;rw[hL]at Bf;rw[Bf]at hcq;have hrow:=zkJ wG.out (zkb (zs wr) (.cells #[.int .i64 (L:Int),.int .i64 (L:Int)] 89));have hk4:=heap_alloc_new wr (.cells #[.int .i64 (L:Int),.int .i64 (L:Int)] 89);have HX:=zh (zof (y0:=L) (y1:=L) (by rw[oK.out];simp[len1,h3,hL]) lG.out af.out dB wG.out);have hbb:=bB1 (L:Int) (L:Int) wr;have hs4:w3.heap.size<=(wr.alloc (.cells #[.int .i64 (L:Int),.int .i64 (L:Int)] 89)).heap.size:=by have:=lG.out.size;simp;omega
       clear hL Bf h3;go_wp2_with (at_builtin;refine zlK rfl (.tmp 57) (.tmp 63) rfl w3.heap.size (.slice A9 j c9) j _ rfl hrow wr.heap.size _ _ rfl hk4 hl4 hs4 ?_;intro v' w' ho hg;obtain⟨A',c',rfl,aO,fM,iK⟩:=HX.out _ _ ho hg;clear ho hg)
       go_roundw
       case rel=>exact⟨j+1,by omega,by go_num,A',c',rfl,aO,fM,iK⟩
       case measure=>simp[intOf];omega
     ·obtain rfl:j=nv:=by omega
      have hj1:¬ (j:Int)<(j:Int):=by omega
      obtain⟨L,rfl⟩:∃L:Nat,bi=(L:Int):=⟨bi.toNat,by
       have:=vK.out;simp only[BX.ok,okI,Bool.and_eq_true,decide_eq_true_eq]at this;omega⟩
      have hrow:=zkJ wG.out (zkb (zs wr) (.cells #[.int .i64 0,.int .i64 (L:Int)] 89));have hk4:=heap_alloc_new wr (.cells #[.int .i64 0,.int .i64 (L:Int)] 89);have HX:=zh (zof (y0:=0) (y1:=L) (by simp only[lenE];rw[List.getElem?_append_right (by simp[ja.out])];simp[ja.out]) lG.out af.out (show w.heap.size<=w3.heap.size from HB3.out.size) wG.out);have hbb:=bB1 0 (L:Int) wr;have hl4:j+1<=1000000:=by omega
      have hs4:w3.heap.size<=(wr.alloc (.cells #[.int .i64 0,.int .i64 (L:Int)] 89)).heap.size:=by have:=lG.out.size;simp;omega
      go_wp2_with (at_builtin;refine zlK rfl (.tmp 66) (.tmp 70) rfl w3.heap.size (.slice A9 j c9) j _ rfl hrow wr.heap.size _ _ rfl hk4 hl4 hs4 ?_;intro v' w' ho hg;obtain⟨A',c',rfl,aO,fM,iK⟩:=HX.out _ _ ho hg;clear ho hg)
      go_ret2;refine⟨aO.out,.inr ⟨HT.out,A',c',by rw[ja.out];rfl,?_⟩⟩;have hlen:(lenE vs ⟨bv,bl,(L:Int)⟩).length=j+1:=by simp[lenE,ja.out]
      have h5:=iK.out;rw[List.take_of_length_le (by rw[hlen];exact zl)]at h5;exact(RowB.of_own h5 hlen).keep (fun q h _=>Nat.le_trans HB3.out.size h) fun _ _ _=>rfl
def cntR(vs:List VD)(b:BX):Int×Int:=if (b.ok&&svB vs)=true then(if maxC<cntE (2*b.v+1) (lenE vs b)then(0,5)else(cntE (2*b.v+1) (lenE vs b),0))else(0,1)
theorem zm5{vs:List VD}{b:BX}(h:(b.ok&&svB vs)=true):(lenE vs b).length=vs.length+1/\vs.length<=32/\(∀q∈lenE vs b,q.1<=q.2/\q.1<=1000/\q.2<=1000)/\0<=b.v/\b.v<=1000:=by
 simp only[BX.ok,okI,svB,Bool.and_eq_true,decide_eq_true_eq,List.all_eq_true]at h;obtain⟨⟨⟨h1,h2⟩,h3⟩,h4,h5⟩:=h;refine⟨by simp[lenE],h4,fun q hq=>?_,h1.1,h1.2⟩;rcases List.mem_append.1 hq with hq|hq
 ·obtain⟨v,hv,rfl⟩:=List.mem_map.1 hq;have:=zqV (h5 v hv);unfold len1
  split
  ·exact⟨Nat.zero_le _,by omega,by omega⟩
  ·exact⟨zl,by omega,by omega⟩
 ·obtain rfl:=List.mem_singleton.1 hq;exact⟨Nat.zero_le _,by omega,by omega⟩
theorem zvA(vs:List VD)(b:BX)(A:Option Addr)(c:Nat)(w:World)(hrow:RowV w Any A vs)(hl:vs.length<=LV):Calls prog 37 #[.slice A vs.length c,.agg #[.int .i64 b.v,.int .i64 b.l,.int .i64 b.i]] w (NumE (cntR vs b) w):=by
 obtain⟨bv,bl,bi⟩:=b;simp only;have hb1:=zkb (zs w) (.cells #[.int .i64 bv,.int .i64 bl,.int .i64 bi] 23);have hk1:=heap_alloc_new w (.cells #[.int .i64 bv,.int .i64 bl,.int .i64 bi] 23);have yh:=zh (fun w' (hb:Below w.heap.size w w')=>zoi vs ⟨bv,bl,bi⟩ A c w' (hrow.later hb) hl);clear hrow hl;go_enter func37,ntmps37;go_upto_region 1 with fail;obtain⟨w1,hw1⟩:=zX (w.alloc (.cells #[.int .i64 bv,.int .i64 bl,.int .i64 bi] 23));rw[hw1]at hb1 hk1 ⊢;obtain⟨x0,x1,x2⟩:=zlG hk1;have HB1:=zh hb1;have aD:=zh hk1;clear hw1 hb1 hk1;go_wp2_with fail;refine(yh.out _ HB1.out).mono ?_;rintro e w2 ⟨hb2,⟨hok,rfl⟩|⟨hok,A2,c2,rfl,hrb⟩⟩
 ·have HF:=zh (show cntR vs ⟨bv,bl,bi⟩=(0,1) by unfold cntR;rw[hok];rfl);have HB2:=zh (zka HB1.out hb2);clear hok x0 x1 x2 hb2;go_wp2_with fail;go_ret2;rw[HF.out];exact⟨rfl,HB2.out⟩
 ·obtain⟨l1,l2,l3,l4,l5⟩:=zm5 hok;simp only at l4 l5;have hR:cntR vs ⟨bv,bl,bi⟩=if maxC<cntE (2*bv+1) (lenE vs ⟨bv,bl,bi⟩)then(0,5)else(cntE (2*bv+1) (lenE vs ⟨bv,bl,bi⟩),0):=by unfold cntR;rw[hok];rfl
  obtain⟨bs,hbs⟩:=zX (lenE vs ⟨bv,bl,bi⟩);rw[hbs]at l1 l3 hrb hR;rw[<-l1];obtain⟨n,hn⟩:=zX (bs.length);rw[hn]at l1 ⊢;obtain⟨h,rfl⟩:∃h:Nat,bv=(h:Int):=⟨bv.toNat,by omega⟩
  have HR:=zh hR;have dJ:=zh hrb;have yl:=zh l3;have HN:=zh hn;have HB2:=zh (zka HB1.out hb2);have HKB2:=zh (zkc aD.out hb2);have hn33:n<=33:=by omega
  have hh:h<=1000:=by omega
  have oQ:IntKind.i64.wrap (2*(h:Int))=2*(h:Int):=IntWalk.i64_in _ (by omega);have hwp:IntKind.i64.wrap (2*(h:Int)+1)=2*(h:Int)+1:=IntWalk.i64_in _ (by omega);clear hR hrb hbs hn l1 l2 l3 l4 l5 hok x0 x1 x2 hb2 yh;go_wp2_with fail
  go_loopw [21,8] (fun i s wr=>∃j:Nat,j<=n/\i=.int .i64 j/\s=.int .i64 (cntE (2*(h:Int)+1) (bs.take j))/\Hid (Below w2.heap.size w2 wr)) (fun i _ _=>n-(intOf i).toNat)
  case atStart=>exact⟨0,Nat.zero_le _,rfl,rfl,zh zr⟩
  case round =>
   obtain⟨j,hj,rfl,rfl,af⟩:=hrel;obtain⟨x0,x1,x2⟩:=zlG (zkc HKB2.out af.out);have rW:=zuQ (v:=2*h+1) (by omega) (by unfold maxC;omega) (bs.take j) 1 1 (fun q hq=>(yl.out q (List.mem_of_mem_take hq)).1) ⟨fun _=>Int.le_refl _,by decide,by decide⟩ (by decide);have hS:bs.foldl (fun s b=>prdE s (lcE b (2*(h:Int)+1))) 1=cntE (2*(h:Int)+1) bs:=rfl;obtain⟨S,hSS⟩:=zX (cntE (2*(h:Int)+1) (bs.take j));have hs1:1<=S/\S<=maxC+1:=by
    rw[<-hSS];exact⟨rW.2,rW.1.top⟩
   rw[hSS];clear rW hS;by_cases hlt:j<n
   ·have hj1:(j:Int)<(n:Int):=by omega
    have hj0:(0:Int)<=(j:Int):=by omega
    have hlb:j<bs.length:=by rw[HN.out];exact hlt
    obtain⟨a,rfl,-,p0,p1⟩:=(dJ.out.later af.out) j hlb;obtain⟨q1,q2,q3⟩:=yl.out bs[j] (List.getElem_mem hlb);have hstep:cntE (2*(h:Int)+1) (bs.take (j+1))=prdE S (lcE bs[j] (2*(h:Int)+1)):=by
     rw[List.take_succ_eq_append_getElem hlb,<-hSS];unfold cntE;rw[List.foldl_append];rfl
    have hlc:=zub (v:=2*h+1) (by omega) (by unfold maxC;omega) q1;have jc:=zh (fun w'=>zpH bs[j] (2*h+1) w' (by omega) (by omega) (by omega));obtain⟨⟨lo,hi⟩,hq⟩:=zX (bs[j]);rw[hq]at p0 p1 hstep hlc jc;simp only at p0 p1 jc;have HST:=zh hstep;obtain⟨M,hM⟩:=zX (lcE (lo,hi) (2*(h:Int)+1));have hcast:(((2*h+1:Nat):Int))=2*(h:Int)+1:=by omega
    rw[hcast,hM]at jc hlc;rw[hM]at HST;have cz:=zh (fun w'=>zoc S M w' ⟨by omega,hs1.2⟩ ⟨hlc.2,hlc.1.top⟩);have hb4:=zkb (zs wr) (.cells #[.int .i64 (lo:Int),.int .i64 (hi:Int)] 89);have hk4:=heap_alloc_new wr (.cells #[.int .i64 (lo:Int),.int .i64 (hi:Int)] 89);obtain⟨w4,hw4⟩:=zX (wr.alloc (.cells #[.int .i64 (lo:Int),.int .i64 (hi:Int)] 89));rw[hw4]at hb4 hk4;have ax:=zh (zka af.out hb4);have y0:=zb hb4 x0;have z0:w4.cell? ⟨wr.heap.size,0,none⟩=some (.int .i64 (lo:Int)):=zc hk4 rfl;have z1:w4.cell? ⟨wr.heap.size,1,none⟩=some (.int .i64 (hi:Int)):=zc hk4 rfl;clear hstep hlc hM hq q1 q2 q3 hcast x0 x1 x2 hb4 hk4;go_wp2_with fail;refine(jc.out _).mono ?_;rintro e w5 ⟨rfl,hb5⟩;have aO:=zh (zka ax.out hb5);clear hb5 y0 z0 z1 hw4;go_wp2_with fail;refine(cz.out _).mono ?_;rintro e w6 ⟨rfl,rfl⟩;go_wp2_with fail
    go_roundw
    case rel=>exact⟨j+1,by omega,by go_num,by rw[HST.out],aO⟩
    case measure=>simp[intOf];omega
   ·obtain rfl:j=n:=by omega
    have hj1:¬ (j:Int)<(j:Int):=by omega
    have hfin:cntE (2*(h:Int)+1) bs=S:=by rw[<-hSS,List.take_of_length_le (by rw[HN.out];exact zl)]
    have hR:=HR.out;rw[hfin]at hR;by_cases hbig:(1099511627776:Int)<S
    ·have HF:=zh (hR.trans (if_pos (show maxC<S from hbig)));clear hR hfin hSS;go_wp2_with fail;go_ret2;exact⟨by rw[HF.out];rfl,zka HB2.out af.out⟩
    ·have HF:=zh (hR.trans (if_neg (show ¬ maxC<S from hbig)));clear hR hfin hSS;go_wp2_with fail;go_ret2;exact⟨by rw[HF.out];rfl,zka HB2.out af.out⟩
end
end Go.Proofs.YthjinpodhacleaaGreat
