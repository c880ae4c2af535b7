/-
  Texts of the proof, put together without their remarks: Ip, Ir, Ie, Is, Ic, Iu, Iw, Ix, Iy, Il, Iv, Id, It.
-/
import Derived.Test.YtghbhbdnkjjnnaaGreatG4
import Derived.Recover
set_option linter.unusedSimpArgs false
set_option linter.unusedVariables false
set_option maxHeartbeats 8000000
set_option maxRecDepth 100000
namespace Go.Proofs.YtghbhbdnkjjnnaaGreat
section
open Go Go.RowKit
structure RS where
 S:ST
 n:Nat
 ent:List Nat
inductive Out where
 | gas
 | err (e:Int)
 | ok (r:RS)
def Out.bind:Out->(RS->Out)->Out
 | .ok r,f=>f r
 | .err e,_=>.err e
 | .gas,_=>.gas
def zkD(F:Int)(r:RS):Out:=if F<=r.n then .err 18 else .ok { r with n:=r.n+1 }
def zkl(r:RS)(R:Int×ST):Out:=if R.1≠0 then .err R.1 else .ok { r with S:=R.2 }
def valO(t:T)(r:RS)(f:Int->RS->Out):Out:=if (zlA r.S.look t).2≠0 then .err (zlA r.S.look t).2 else f (zlA r.S.look t).1 r
def zld(F:Int)(t:T)(r:RS)(f:Bool->RS->Out):Out:=(zkD F r).bind fun r=>valO t r fun x r=>f (decide (x≠0)) r
def zkw(F:Int)(t:T)(b:Bool)(r:RS):Out:=zld F t r fun b' r=>if b'=b then .ok r else .err 15
def zla(f:T->RS->Out):List T->RS->Out
 | [],r=>.ok r
 | t::ts,r=>(f t r).bind (zla f ts)
def blkL(back:Bool)(b:T):List T:=if back=true then b.ks.reverse else b.ks
def zmf(F:Int)(f:T->RS->Out)(entry test:T)(l1 l2:List T):Nat->RS->Out
 | 0,_=>.gas
 | m+1,r=>(zla f l1 r).bind fun r=>zld F test r fun b r=>if b=true then .ok r else(zla f l2 r).bind fun r=>(zkw F entry false r).bind (zmf F f entry test l1 l2 m)
def prcI:List PR->ByteArray->Option Nat
 | [],_=>none
 | q::qs,s=>if (q.s.toList==s.toList)=true then some 0 else(prcI qs s).map (· + 1)
def kid(t:T)(i:Nat):T:=t.ks.getD i nil0
def fstT(back:Bool)(t:T):T:=if back=true then kid t (t.ks.length-1)else kid t 0
def lstT(back:Bool)(t:T):T:=if back=true then kid t 0 else kid t (t.ks.length-1)
def zkA(prs:List PR)(F:Int):Nat->Bool->T->RS->Out
 | 0,_,_,_=>.gas
 | g+1,back,t,r =>
  if t.k=52 then
   zld F (fstT back t) r fun yes r=>(zla (zkA prs F g back) (blkL back (if yes=true then kid t 1 else kid t 2)) r).bind (zkw F (lstT back t) yes)
  else if t.k=53 then
   (zkw F (fstT back t) true r).bind (zmf F (zkA prs F g back) (fstT back t) (lstT back t) (blkL back (kid t 1)) (blkL back (kid t 2)) g)
  else if t.k=54 then
   (zkD F r).bind fun r=>valO (fstT back t) r fun x r=>(zkl r (zl1 r.S ⟨t.s,1,0⟩ x)).bind fun r=>(zla (zkA prs F g back) (blkL back (kid t 1)) r).bind fun r =>
    (zkD F r).bind fun r=>valO (lstT back t) r fun x r=>zkl r (zk8 r.S t.s x)
  else if t.k=55 then
   (zkD F r).bind fun r=>(zkl r (zl1 r.S ⟨t.s,3,0⟩ 0)).bind fun r=>(zla (zkA prs F g back) (blkL back (kid t 0)) r).bind fun r =>
    (zkD F r).bind fun r=>zkl r (zk8 r.S t.s 0)
  else if t.k=50\/t.k=51 then
   match prcI prs t.s with
   | none=>.err 0
   | some i=>(zkD F r).bind fun r=>(zkl r (zl4 r.S (prs.getD i ⟨⟨#[]⟩,[],nil0⟩).ps (t.ks.map (·.s)))).bind fun r =>
     (zla (zkA prs F g (back != decide (t.k=51))) (blkL (back != decide (t.k=51)) (prs.getD i ⟨⟨#[]⟩,[],nil0⟩).b) { r with ent:=r.ent.set i (r.ent.getD i 0+1) }).bind fun r =>
      (zkD F r).bind fun r=>zkl r (zmd r.S)
  else(zkD F r).bind fun r=>zkl r (if back=true then zoo r.S t else doE r.S t)
def runO(prs:List PR)(F:Int)(g:Nat)(back:Bool)(b:T)(r:RS):Out:=zla (zkA prs F g back) (blkL back b) r
def Good(n:Nat)(o:Out):Prop:=o ≠ .gas/\∀r,o=.ok r->n<=r.n
theorem Good.err(n:Nat)(e:Int):Good n (.err e):=⟨by simp,by simp⟩
theorem Good.ok{n:Nat}{r:RS}(h:n<=r.n):Good n (.ok r):=⟨by simp,fun r' e=>by injection e with e;subst e;exact h⟩
theorem Good.mono{m n:Nat}{o:Out}(h:Good n o)(hm:m<=n):Good m o:=⟨h.1,fun r e=>Nat.le_trans hm (h.2 r e)⟩
theorem Good.bind{m n:Nat}{o:Out}{f:RS->Out}(h:Good n o)(wK:m<=n)(hf:∀r,n<=r.n->o=.ok r->Good m (f r)):Good m (o.bind f):=by
 cases o with
 | gas=>exact absurd rfl h.1
 | err e=>exact Good.err _ _
 | ok r=>exact hf r (h.2 r rfl) rfl
theorem zlp{F:Int}{r r':RS}(h:zkD F r=.ok r'):r'={ r with n:=r.n+1 }/\(r.n:Int)<F:=by
 unfold zkD at h
 split at h
 ·cases h
 ·injection h with h;exact⟨h.symm,by omega⟩
theorem zks(F:Int)(r:RS):Good (r.n+1) (zkD F r):=by
 unfold zkD
 split
 ·exact Good.err _ _
 ·exact Good.ok zl
theorem zkB(r:RS)(R:Int×ST):Good r.n (zkl r R):=by
 unfold zkl
 split
 ·exact Good.err _ _
 ·exact Good.ok zl
theorem znR{m:Nat}{t:T}{r:RS}{f:Int->RS->Out}(hf:∀x,Good m (f x r)):Good m (valO t r f):=by
 unfold valO
 split
 ·exact Good.err _ _
 ·exact hf _
theorem zmO{m:Nat}{F:Int}{t:T}{r:RS}{f:Bool->RS->Out}(hm:m<=r.n+1)(hf:∀b,(r.n:Int)<F->Good m (f b { r with n:=r.n+1 })):Good m (zld F t r f):=by
 unfold zld;refine(zks F r).bind hm fun r' _ e=>?_;obtain⟨rfl,h⟩:=zlp e;exact znR fun x=>hf _ h
theorem zk9(F:Int)(t:T)(b:Bool)(r:RS):Good (r.n+1) (zkw F t b r):=by
 unfold zkw;refine zmO zl fun b' _=>?_
 split
 ·exact Good.ok zl
 ·exact Good.err _ _
theorem znn{F:Int}{t:T}{b:Bool}{r r':RS}(h:zkw F t b r=.ok r'):r'={ r with n:=r.n+1 }/\(r.n:Int)<F:=by
 unfold zkw zld at h
 cases hs:zkD F r with
 | gas=>rw[hs]at h;cases h
 | err e=>rw[hs]at h;cases h
 | ok r1 =>
  rw[hs]at h;obtain⟨rfl,hl⟩:=zlp hs;simp only[Out.bind,valO]at h
  split at h
  ·cases h
  ·split at h
   ·injection h with h;exact⟨h.symm,hl⟩
   ·cases h
theorem zlH{f:T->RS->Out}:∀(l:List T) (r:RS),(∀t∈l,∀r',r.n<=r'.n->Good r'.n (f t r'))->Good r.n (zla f l r)
 | [],r,_=>Good.ok zl
 | t::ts,r,h=>by
  rw[zla];refine(h t (List.mem_cons_self ..) r zl).bind zl fun r1 h1 _=>?_;exact(zlH ts r1 fun u hu r' hr'=>h u (List.mem_cons_of_mem _ hu) r' (Nat.le_trans h1 hr')).mono h1
theorem zoI{F:Int}{f:T->RS->Out}{entry test:T}{l1 l2:List T}:∀(m:Nat) (r:RS),F.toNat-r.n<m->(∀t∈l1,∀r',r.n<=r'.n->Good r'.n (f t r'))->(∀t∈l2,∀r',r.n<=r'.n->Good r'.n (f t r'))->Good r.n (zmf F f entry test l1 l2 m r)
 | 0,_,h,_,_=>by omega
 | m+1,r,h,h1,h2=>by
  rw[zmf];refine(zlH l1 r h1).bind zl fun r1 hr1 _=>?_;refine zmO (by omega) fun b hF=>?_
  split
  ·exact Good.ok (by simp only;omega)
  ·refine(zlH l2 { r1 with n:=r1.n+1 } fun t ht r' hr'=>h2 t ht r' (by simp only at hr';omega)).bind (by simp only;omega) fun r2 hr2 _=>?_;refine(zk9 F entry false r2).bind (by simp only at hr2;omega) fun r3 hr3 e=>?_;obtain⟨rfl,hF2⟩:=znn e;refine(zoI m _ ?_ (fun t ht r' hr'=>h1 t ht r' ?_) (fun t ht r' hr'=>h2 t ht r' ?_)).mono ?_
   all_goals (simp only at *;omega)
theorem zl7:∀ {ts:List T} {u:T},u∈ts->size u<=zkW ts
 | t::ts,u,h=>by
  rw[zkW];rcases List.mem_cons.1 h with rfl|h
  ·omega
  ·have:=zl7 h;omega
theorem zu3{t:T}{i:Nat}(h:i<t.ks.length):size (kid t i)<size t:=by
 obtain⟨k,n,s,ks⟩:=t;have h':i<ks.length:=h;have:kid (.nd k n s ks) i=ks[i]:=by simp[kid,h']
 rw[this,size];have:=zl7 (List.getElem_mem h');omega
theorem zpi{t u:T}(h:u∈t.ks):size u<size t:=by
 obtain⟨k,n,s,ks⟩:=t;rw[size];have:=zl7 (ts:=ks) h;omega
theorem zlF{back:Bool}{b u:T}(h:u∈blkL back b):u∈b.ks:=by
 unfold blkL at h
 split at h
 ·simpa using h
 ·exact h
theorem zta(t:T)(i:Nat):∀u∈(kid t i).ks,size u+1<size t:=by
 intro u hu;by_cases h:i<t.ks.length
 ·have:=zu3 h;have:=zpi hu;omega
 ·have:kid t i=nil0:=by
   unfold kid;rw[List.getD_eq_getElem?_getD,List.getElem?_eq_none (by omega)];rfl
  rw[this]at hu;simp[nil0]at hu
theorem zl3{prs:List PR}{F:Int}{M:Nat}(hM:∀q∈prs,size q.b<=M)(hM1:1<=M):∀(g:Nat) (back:Bool) (t:T) (r:RS),(F.toNat-r.n)*M+size t<=g->Good r.n (zkA prs F g back t r)
 | 0,_,t,r,h=>by
  have:0<size t:=by obtain⟨k,n,s,ks⟩:=t;rw[size];omega
  omega
 | g+1,back,t,r,h=>by
  have hmul:∀a b:Nat,a<=b->a*M<=b*M:=fun a b h=>Nat.mul_le_mul_right _ h;have hone:F.toNat-r.n<=(F.toNat-r.n)*M:=Nat.le_mul_of_pos_right _ hM1;have hb:∀(back:Bool) i r1,r.n<=r1.n->Good r1.n (zla (zkA prs F g back) (blkL back (kid t i)) r1):=fun back i r1 h1 =>
   zlH _ _ fun u hu r2 h2=>zl3 hM hM1 g back u r2 (by
    have:=zta t i u (zlF hu);have:=hmul (F.toNat-r2.n) (F.toNat-r.n) (by omega);omega)
  rw[zkA]
  split
  ·refine zmO (by omega) fun yes hF=>?_;have:Good (r.n+1) (zla (zkA prs F g back) (blkL back (if yes=true then kid t 1 else kid t 2)) { r with n:=r.n+1 }):=by
    split
    ·exact hb back 1 _ (by simp only;omega)
    ·exact hb back 2 _ (by simp only;omega)
   exact this.bind (by omega) fun r1 h1 _=>(zk9 _ _ _ _).mono (by omega)
  ·split
   ·refine(zk9 _ _ _ _).bind (by omega) fun r1 h1 e=>?_;obtain⟨rfl,hF⟩:=znn e;have hs:0<size t:=by obtain⟨k,n,s,ks⟩:=t;rw[size];omega
    refine(zoI g _ (by simp only;omega) (fun u hu r' hr'=>?_) (fun u hu r' hr'=>?_)).mono (by simp only;omega)
    ·have:=zta t 1 u (zlF hu);have:=hmul (F.toNat-r'.n) (F.toNat-r.n) (by simp only at hr';omega);exact zl3 hM hM1 g back u r' (by omega)
    ·have:=zta t 2 u (zlF hu);have:=hmul (F.toNat-r'.n) (F.toNat-r.n) (by simp only at hr';omega);exact zl3 hM hM1 g back u r' (by omega)
   ·split
    ·refine(zks F r).bind (by omega) fun r1 h1 _=>znR fun x=>?_;refine(zkB r1 _).bind (by omega) fun r2 h2 _=>?_;refine(hb back 1 r2 (by omega)).bind (by omega) fun r3 h3 _=>?_;refine(zks F r3).bind (by omega) fun r4 h4 _=>znR fun x=>?_;exact(zkB r4 _).mono (by omega)
    ·split
     ·refine(zks F r).bind (by omega) fun r1 h1 _=>?_;refine(zkB r1 _).bind (by omega) fun r2 h2 _=>?_;refine(hb back 0 r2 (by omega)).bind (by omega) fun r3 h3 _=>?_;refine(zks F r3).bind (by omega) fun r4 h4 _=>?_;exact(zkB r4 _).mono (by omega)
     ·split
      ·split
       ·exact Good.err _ _
       ·rename_i i hi;refine(zks F r).bind (by omega) fun r1 h1 e1=>?_;obtain⟨rfl,hF⟩:=zlp e1;refine(zkB _ _).bind (by simp only;omega) fun r2 h2 _=>?_;have hbody:Good r2.n (zla (zkA prs F g (back != decide (t.k=51))) (blkL (back != decide (t.k=51)) (prs.getD i ⟨⟨#[]⟩,[],nil0⟩).b) { r2 with ent:=r2.ent.set i (r2.ent.getD i 0+1) }):=by
         refine zlH _ _ fun u hu r3 h3=>zl3 hM hM1 g _ u r3 ?_;have hu':=zlF hu;by_cases hi:i<prs.length
         ·have hq:prs.getD i ⟨⟨#[]⟩,[],nil0⟩=prs[i]:=by simp[hi]
          rw[hq]at hu';have hl:=zpi hu';have hMq:=hM _ (List.getElem_mem hi);have hsub:F.toNat-r3.n+1<=F.toNat-r.n:=by simp only at h2 h3;omega
          have:=hmul _ _ hsub;rw[Nat.add_mul,Nat.one_mul]at this;omega
         ·have hq:prs.getD i ⟨⟨#[]⟩,[],nil0⟩=⟨⟨#[]⟩,[],nil0⟩:=by
           rw[List.getD_eq_getElem?_getD,List.getElem?_eq_none (by omega)];rfl
          rw[hq]at hu';simp[nil0]at hu'
        refine hbody.bind (by simp only at h2;omega) fun r3 h3 _=>?_;refine(zks F r3).bind (by simp only at h2;omega) fun r4 h4 _=>?_;exact(zkB r4 _).mono (by simp only at h2;omega)
      ·refine(zks F r).bind (by omega) fun r1 h1 _=>?_;exact(zkB r1 _).mono (by omega)
abbrev zlv(x:Int):Ending:=.panicked [{ v:=.iface 207 (.agg #[.int .i64 x]),recovered:=false }]
theorem zpE(x:Int)(hx:x≠0)(w:World):Calls Tryz.prog 183 #[.int .i64 x] w fun e w'=>e=zlv x/\w'=w:=by
 have e1:(x==0)=false:=by simpa using hx
 have hb:∀w,(Instr.build 207 #[(0,.int .i64 x)]).run Tryz.prog w=.ok (.agg #[.int .i64 x]) w:=fun w=>by kernel_rfl
 go_enter Tryz.func183,Tryz.ntmps183;go_wp2_with fail;exact⟨rfl,rfl,rfl⟩
theorem zn0{W W':World}{base:Nat}{E:TypeId}{size:Nat}{v:Value}{n:Nat}{xs:List Value}(h:W.ownsRow base E size v n xs)(hk:∀b,v.ownBlock=some b->W'.heap[b]?=W.heap[b]?):W'.ownsRow base E size v n xs:=by
 obtain⟨e1,h2⟩:=h;refine⟨e1,?_⟩;rcases h2 with h2|⟨g,cap,cur,rfl,hb,hg,rest⟩
 ·exact .inl h2
 ·exact .inr ⟨g,cap,cur,rfl,hb,(hk g rfl).trans hg,rest⟩
structure RC where
 w:World
 n0:Nat
 sb:Nat
 rb:Nat
 p:PG
 A1:Option Addr
 c1:Nat
 A2:Option Addr
 c2:Nat
 A3:Option Addr
 c3:Nat
 F:Int
 ev:Value
 kb:Nat->Prop
structure RC.Ok(C:RC):Prop where
 pg:PgR C.w Any C.p C.A1 C.c1 C.A2 C.c2 C.A3 C.c3
 F:I64 C.F
 F6:C.F<=1000000
 rb:C.n0<=C.rb/\¬ C.kb C.rb
 ev:C.ev.ownBlock≠some C.rb/\∀b,C.ev.ownBlock=some b->¬ C.kb b
 ps:∀q∈C.p.prs,q.ps.length<=1000
def RC.cells(C:RC)(n:Nat):Array Value := #[.slice C.A1 C.p.vs.length C.c1,.slice C.A2 C.p.prs.length C.c2,.int .u8 C.p.m.k,.int .i64 C.p.m.n,.string C.p.m.s,.slice C.A3 C.p.m.ks.length C.c3,.pointer (some ⟨C.sb,0,none⟩),.int .i64 n,.int .i64 C.F,C.ev]
def FB(j:Nat)(S:ST):Prop:=S.base.vs.length<=1000+j/\∀f∈S.calls,f.vs.length<=1000+j
structure RI(C:RC)(W:World)(r:RS):Prop where
 ks:KS C.w C.n0 C.sb (fun b=>C.kb b\/b=C.rb\/C.ev.ownBlock=some b) W r.S
 box:W.heap[C.rb]?=some (.cells (C.cells r.n) 180 (0,0))
 ent:W.ownsRow C.n0 3 1 C.ev r.ent.length (zkh (r.ent.map Int.ofNat))
 el:r.ent.length=C.p.prs.length
 en:∀c∈r.ent,c<=r.n
 n:(r.n:Int)<=1000000
 fb:FB r.n r.S
section
variable {C:RC} {W W' W'':World} {r r':RS}
theorem RI.below(h:RI C W r):Below C.w.heap.size C.w W:=h.ks.bl
theorem RI.later(h:RI C W r)(hb:Below W.heap.size W W'):RI C W' r:=⟨h.ks.later hb,zka h.box hb,zkH h.ent hb,h.el,h.en,h.n,h.fb⟩
def RunP(C:RC)(W:World)(o:Out)(e:Ending)(W':World):Prop :=
 Kpt C.n0 C.kb W W'/\Below C.w.heap.size C.w W'/\match o with
 | .gas=>True
 | .err x=>e=zlv x
 | .ok r=>(∃u,e=.returned u)/\RI C W' r
theorem RI.cells(h:RI C W r):W.cell? ⟨C.rb,6,none⟩=some (.pointer (some ⟨C.sb,0,none⟩))/\W.cell? ⟨C.rb,7,none⟩=some (.int .i64 r.n)/\W.cell? ⟨C.rb,8,none⟩=some (.int .i64 C.F)/\W.cell? ⟨C.rb,9,none⟩=some C.ev/\∀o,W.frozen? ⟨C.rb,o,none⟩=false :=
 ⟨zc h.box rfl,zc h.box rfl,zc h.box rfl,zc h.box rfl,fun _=>zf h.box⟩
theorem FB.mono{j k:Nat}{S:ST}(h:FB j S)(hk:j<=k):FB k S:=⟨by have:=h.1;omega,fun f hf=>by have:=h.2 f hf;omega⟩
theorem Kpt.chg{n0:Nat}{kb Cc:Nat->Prop}(h:Chg Cc W W')(hC:∀b,Cc b->n0<=b/\¬ kb b):Kpt n0 kb W W' :=
 ⟨h.size,fun b hb hk=>h.block b hb fun hc=>by rcases hk with hk|hk;have:=(hC b hc).1;omega;exact(hC b hc).2 hk⟩
theorem RI.tick(hC:C.Ok)(h:RI C W r)(hF:(r.n:Int)<C.F):RI C (W.setCell ⟨C.rb,7,none⟩ (.int .i64 ((r.n:Int)+1))) { r with n:=r.n+1 }/\Kpt C.n0 C.kb W (W.setCell ⟨C.rb,7,none⟩ (.int .i64 ((r.n:Int)+1))):=by
 have hch:Chg (fun b=>b=C.rb) W (W.setCell ⟨C.rb,7,none⟩ (.int .i64 ((r.n:Int)+1))):=(Chg.refl (fun b=>b=C.rb) W).setCell (p:=⟨C.rb,7,none⟩) (.inl rfl) _;have hn:=h.ks.hn;refine⟨⟨h.ks.chg hch fun b _ e=>⟨by have:=hC.rb.1;omega,.inr (.inr (.inl e))⟩,?_,zn0 h.ent fun b hb=>?_,h.el,fun c hc=>by have:=h.en c hc;simp only;omega,by have:=hC.F6;simp only;omega,h.fb.mono (Nat.le_succ _)⟩,Kpt.chg hch fun b e=>⟨by have:=hC.rb.1;omega,by rw[e];exact hC.rb.2⟩⟩
 ·have:=heap_setCell_same W C.rb 7 _ _ (.int .i64 ((r.n:Int)+1)) h.box;rw[this];simp[RC.cells]
 ·have hne:b≠C.rb:=fun e=>hC.ev.1 (by rw[hb,e]);have hlt:=(h.ent.lt b hb).2;exact hch.block b hlt hne
end
theorem zlS{C:RC}(hC:C.Ok){W:World}{r:RS}(h:RI C W r):Calls Tryz.prog 167 #[.pointer (some ⟨C.rb,0,none⟩)] W (RunP C W (zkD C.F r)):=by
 obtain⟨-,y7,y8,-,yf⟩:=h.cells;have kU:=h.n;obtain⟨rb,hrb⟩:=zX (C.rb);obtain⟨F,hF⟩:=zX (C.F);obtain⟨n,hn⟩:=zX (r.n);have HS:=zh (show(fun w':World=>zv w' rb 7 (.int .i64 n)/\zv w' rb 8 (.int .i64 F)) W.drew from⟨by rw[<-hrb,<-hn];exact y7,by rw[<-hrb,<-hF];exact y8⟩);have hd:Below W.heap.size W W.drew:=zr.drew;have HK:=zh (show Kpt C.n0 C.kb W W.drew/\Below C.w.heap.size C.w W.drew from⟨Kpt.of_below hd,zkb h.below hd⟩);have HT:=zh (fun hlt=>RI.tick hC h hlt);have dQ:=zh h.below;have yf':∀o,W.drew.frozen? ⟨rb,o,none⟩=false:=by rw[<-hrb];exact yf
 rw[hrb]at HT;rw[hn]at HT kU;rw[hF]at HT;by_cases hlt:F<=(n:Int)
 ·have HO:=zh (show zkD C.F r=.err 18 by unfold zkD;rw[if_pos (by rw[hF,hn];exact hlt)]);rw[hrb];clear h y7 y8 yf hrb hF hn HT;go_enter Tryz.func167,Tryz.ntmps167;go_upto_region 0 with fail
  go_region_held3 (fun w':World=>zv w' rb 7 (.int .i64 n)/\zv w' rb 8 (.int .i64 F))
   (with_reducible exact HS.out)
   (first|fail)
  go_wp2_with fail;refine(zpE 18 (by decide) _).mono ?_;rintro e w1 ⟨rfl,rfl⟩;refine⟨rfl,?_⟩;rw[HO.out];exact⟨HK.out.1,HK.out.2,rfl⟩
 ·have hw1:IntKind.i64.wrap ((n:Int)+1)=(n:Int)+1:=IntWalk.i64_in _ (by omega);have HO:=zh (show zkD C.F r=.ok { r with n:=n+1 } by unfold zkD;rw[if_neg (by rw[hF,hn];exact hlt),hn]);have HT2:=zh (HT.out (by omega));rw[hrb];have hlt':¬ F<=(n:Int):=hlt;clear h y7 y8 yf hrb hF hn HT;go_enter Tryz.func167,Tryz.ntmps167;go_upto_region 0 with fail
  go_region_held3 (fun w':World=>zv w' rb 7 (.int .i64 n)/\zv w' rb 8 (.int .i64 F))
   (with_reducible exact HS.out)
   (first|fail)
  obtain⟨z7,z8⟩:=HS.out;go_wp2_with fail;go_end0;rw[HO.out];have hd2:∀W:World,Below W.heap.size W W.drew:=fun W=>zr.drew;exact⟨HT2.out.2.trans (Kpt.of_below (hd2 _)),(HT2.out.1.later (hd2 _)).below,⟨_,rfl⟩,HT2.out.1.later (hd2 _)⟩
theorem zk3(p:Addr)(x:Int)(w:World):Calls Tryz.prog 168 #[.pointer (some p),.int .i64 x] w fun e w'=>w'=w/\((x=0/\∃u,e=.returned u)\/(x≠0/\e=zlv x)):=by
 by_cases hx:x=0
 ·subst hx;go_enter Tryz.func168,Tryz.ntmps168;go_wp2_with fail;go_end0;exact⟨rfl,.inl ⟨trivial,_,rfl⟩⟩
 ·have e1:(x != 0)=true:=by simpa using hx
  go_enter Tryz.func168,Tryz.ntmps168;go_wp2_with fail;refine(zpE x hx _).mono ?_;rintro e w1 ⟨rfl,rfl⟩;exact⟨rfl,rfl,.inr ⟨hx,rfl⟩⟩
theorem zve:IsFn Tryz.prog 30 Tryz.f30:=⟨Tryz.func30,by kernel_rfl,by kernel_rfl⟩
theorem zvz(w:World)(n0 sb:Nat)(kb:Nat->Prop)(S:ST)(hw:S.WF):zqS 30 Tryz.f30 (.pointer (some ⟨sb,0,none⟩)) (fun W=>KS w n0 sb kb W S) S.look where
 isFn:=zve
 later:=fun _ _ h hb=>h.later hb
 fits:=(zsY 0 ⟨0,0,undef,undef,undef,undef,undef,fun _=>undef,fun _=>undef,fun _=>0,fun _=>undef⟩ S hw).fits
 call:=fun s W h=>by
  refine(h.cell s).mono ?_;rintro e W' ⟨v,l,b,rfl,hlk,hl0,ho,hf,hb⟩;refine⟨hb,?_⟩
  cases b
  ·obtain rfl:=hl0 rfl;obtain⟨A,c,rfl,-⟩:=zkf ho;exact .inl ⟨by simpa using hlk,A,c,rfl⟩
  ·obtain⟨A,c,rfl,-,hr⟩:=zuH ho hf;exact .inr ⟨l,A,c,by simpa using hlk,rfl,hr⟩
theorem zvT{f:FuncId}{fn:Func}{rv:Value}{Rd:World->Prop}{look:ByteArray->Option (List Int)}(hL:zqS f fn rv Rd look)(t:T)(v:Value)(w:World)(hv:NV w Any t v)(hR:Rd w) :
  Calls Tryz.prog 192 #[v,.func (.func f) #[rv] #[]] w fun e w'=>e=.returned (.tuple #[.bool (decide ((zlA look t).1≠0)),.int .i64 (zlA look t).2])/\Below w.heap.size w w':=by
 have HV:=zh hv;obtain⟨A,c,rfl,-⟩:=hv.open_;have kL:=zh (fun w' (hb:Below w.heap.size w w')=>znO hL t _ w' (hv.later hb) (hL.later _ _ hR hb));obtain⟨⟨x,y⟩,hx⟩:=zX (zlA look t);rw[hx]at kL ⊢;dsimp only[NumE]at kL ⊢;clear hv hR hx;go_enter Tryz.func192,Tryz.ntmps192;have hb0:=zkc (zs w) (.cells #[.int .u8 t.k,.int .i64 t.n,.string t.s,.slice A t.ks.length c] 24);have HB0:=zh hb0;obtain⟨x0,x1,x2,x3⟩:=box4 (heap_alloc_new w (.cells #[.int .u8 t.k,.int .i64 t.n,.string t.s,.slice A t.ks.length c] 24));clear hb0;go_wp2_with fail;refine(kL.out _ HB0.out).mono ?_;rintro e w1 ⟨rfl,aa⟩;have HB1:=zh (zkb HB0.out aa);clear aa x0 x1 x2 x3;by_cases h0:x=0
 ·subst h0;go_wp2_with fail;go_ret2;exact⟨by simp,HB1.out⟩
 ·have e1:(x != 0)=true:=by simpa using h0
  go_wp2_with fail;go_ret2;exact⟨by simp[h0],HB1.out⟩
def RC.plus(C:RC)(lo hi:Nat):RC:={ C with kb:=fun b=>C.kb b\/(lo<=b/\b<hi) }
section
variable {C:RC} {W W' W'':World} {r r':RS} {lo hi:Nat}
theorem RI.rlt(h:RI C W r):C.rb<W.heap.size:=zki h.box
theorem RI.plus(hC:C.Ok)(h:RI C W r)(hb:Below W.heap.size W W'):(C.plus W.heap.size W'.heap.size).Ok/\RI (C.plus W.heap.size W'.heap.size) W' r:=by
 have h1:=h.rlt;refine⟨⟨hC.pg,hC.F,hC.F6,⟨hC.rb.1,fun hk=>?_⟩,⟨hC.ev.1,fun b hb' hk=>?_⟩,hC.ps⟩,⟨h.ks.also hb fun b hk=>?_,zka h.box hb,zkH h.ent hb,h.el,h.en,h.n,h.fb⟩⟩
 ·rcases hk with hk|hk
  ·exact hC.rb.2 hk
  ·have:W.heap.size<=C.rb:=hk.1;omega
 ·rcases hk with hk|hk
  ·exact hC.ev.2 b hb' hk
  ·have:=(h.ent.lt b hb').2;have:=hk.1;omega
 ·rcases hk with(hk|hk)|hk|hk
  ·exact .inl (.inl hk)
  ·exact .inr hk
  ·exact .inl (.inr (.inl hk))
  ·exact .inl (.inr (.inr hk))
theorem RI.less(h:RI (C.plus lo hi) W r):RI C W r :=
 ⟨h.ks.less fun b hk=>hk.elim (fun hk=>.inl (.inl hk)) .inr,h.box,h.ent,h.el,h.en,h.n,h.fb⟩
theorem Kpt.less(h:Kpt C.n0 (C.plus lo hi).kb W W'):Kpt C.n0 C.kb W W':=⟨h.size,fun b hb hk=>h.kept b hb (hk.imp id .inl)⟩
theorem Kpt.plus{b o:Nat}{u:Value}(h:Kpt C.n0 (C.plus lo hi).kb W W')(hb:lo<=b/\b<hi)(hc:W.cell? ⟨b,o,none⟩=some u):W'.cell? ⟨b,o,none⟩=some u:=h.cell (.inr (.inr hb)) hc
end
def zyU(C:RC)(W:World)(t:T)(r:RS)(e:Ending)(W':World):Prop :=
 Kpt C.n0 C.kb W W'/\Below C.w.heap.size C.w W'/\((∃x,e=zlv x/\∀f,zld C.F t r f=.err x)\/∃b r',e=.returned (.bool b)/\RI C W' r'/\∀f,zld C.F t r f=f b r')
theorem zn8{C:RC}(hC:C.Ok){W:World}{r:RS}(h:RI C W r)(t:T)(v:Value)(hv:NV C.w Any t v):Calls Tryz.prog 180 #[.pointer (some ⟨C.rb,0,none⟩),v] W (zyU C W t r):=by
 have HV:=zh hv;obtain⟨A,c,rfl,-⟩:=hv.open_;have wL:∀(fn:Fn) (first cap:Array Value) (w:World),(Instr.makeFunc fn first cap).run Tryz.prog w=.ok (.func fn first cap) w:=fun _ _ _ _=>rfl;have hb0:=zkc (zs W) (.cells #[.int .u8 t.k,.int .i64 t.n,.string t.s,.slice A t.ks.length c] 24);obtain⟨bV,h1⟩:=h.plus hC hb0;have hz1:(W.alloc (.cells #[.int .u8 t.k,.int .i64 t.n,.string t.s,.slice A t.ks.length c] 24)).heap.size=W.heap.size+1:=by simp
 have hbx:=box4 (heap_alloc_new W (.cells #[.int .u8 t.k,.int .i64 t.n,.string t.s,.slice A t.ks.length c] 24));have aN:=zh (Kpt.of_below (n0:=C.n0) (kb:=C.kb) hb0);obtain⟨W1,hW1⟩:=zX (W.alloc (.cells #[.int .u8 t.k,.int .i64 t.n,.string t.s,.slice A t.ks.length c] 24));rw[hW1]at bV h1 hz1 hbx aN;have mU:=zh bV;have H1:=zh h1;have HST:=zh (zlS bV h1);obtain⟨hi,hhi⟩:=zX (W1.heap.size);rw[hhi]at mU H1 HST hz1;have aO:=zh hbx;have HZ1:=zh (show W.heap.size<hi by omega);clear hv bV h1 hbx hb0 h hhi hz1;go_enter Tryz.func180,Tryz.ntmps180;go_wp2_with fail;refine HST.out.mono ?_;rintro e w1 ⟨hk1,hbl1,ho1⟩;have aB:=zh (aN.out.trans (Kpt.less (C:=C) hk1));have HB1:=zh hbl1
 cases hs:zkD C.F r with
 | gas=>exact absurd hs (zks _ _).1
 | err x =>
  rw[show zkD (C.plus W.heap.size hi).F r=zkD C.F r from rfl,hs]at ho1;subst ho1;exact⟨rfl,aB.out,HB1.out,.inl ⟨x,rfl,fun f=>by unfold zld;rw[hs];rfl⟩⟩
 | ok r1 =>
  rw[show zkD (C.plus W.heap.size hi).F r=zkD C.F r from rfl,hs]at ho1;obtain⟨⟨u,rfl⟩,hr1⟩:=ho1;have x0:=Kpt.plus (C:=C) hk1 (b:=W.heap.size) ⟨zl,HZ1.out⟩ aO.out.1;have x1:=Kpt.plus (C:=C) hk1 (b:=W.heap.size) ⟨zl,HZ1.out⟩ aO.out.2.1;have x2:=Kpt.plus (C:=C) hk1 (b:=W.heap.size) ⟨zl,HZ1.out⟩ aO.out.2.2.1;have x3:=Kpt.plus (C:=C) hk1 (b:=W.heap.size) ⟨zl,HZ1.out⟩ aO.out.2.2.2;have HS:=zh hs;have HR1:=zh hr1.less;obtain⟨y6,-⟩:=hr1.cells;have y6':w1.cell? ⟨C.rb,6,none⟩=some (.pointer (some ⟨C.sb,0,none⟩)):=y6;have rO:=zh (fun w' (hb:Below w1.heap.size w1 w')=>zvT (zvz C.w C.n0 C.sb _ r1.S HR1.out.ks.wf) t _ w' (HV.out.later (zkb HR1.out.below hb)) (HR1.out.ks.later hb));obtain⟨⟨x,y⟩,hx⟩:=zX (zlA r1.S.look t);rw[hx]at rO;dsimp only at rO;obtain⟨bb,hbb⟩:=zX (decide (x≠0));rw[hbb]at rO;have iD:=zh hx;have HBBB:=zh hbb;clear hbb hk1 hbl1 hs hr1 y6 hx HST aO
  have au:=zh (show ∀w',Below w1.heap.size w1 w'->(fun w':World=>zv w' W.heap.size 0 (.int .u8 t.k)/\zv w' W.heap.size 1 (.int .i64 t.n)/\zv w' W.heap.size 2 (.string t.s)/\zv w' W.heap.size 3 (.slice A t.ks.length c)/\zv w' C.rb 6 (.pointer (some ⟨C.sb,0,none⟩))) w' from fun w' hb=>⟨zb hb x0,zb hb x1,zb hb x2,zb hb x3,zb hb y6'⟩);have gM:=zh (au.out _ zr.drew);clear x0 x1 x2 x3 y6';go_upto_region 2 with fail
  go_region_held3 (fun w':World=>zv w' W.heap.size 0 (.int .u8 t.k)/\zv w' W.heap.size 1 (.int .i64 t.n)/\zv w' W.heap.size 2 (.string t.s)/\zv w' W.heap.size 3 (.slice A t.ks.length c)/\zv w' C.rb 6 (.pointer (some ⟨C.sb,0,none⟩)))
   (first|with_reducible exact dh.out|with_reducible exact gM.out)
   (first
    | (go_at_call 192;refine(rO.out _ zr.drew).mono ?_;rintro e y1 ⟨rfl,dU⟩;have b1:=zkb (zs w1).drew dU;have dh:=zh (au.out _ b1))
    | fail)
  have HB2:=zh b1;clear b1 dU dh;go_wp2_with fail;refine(zk3 _ y _).mono ?_;rintro e w3 ⟨rfl,hcs⟩;rcases hcs with⟨rfl,u2,rfl⟩|⟨hy,rfl⟩
  ·go_wp2_with fail;go_ret;refine⟨aB.out.trans (Kpt.of_below HB2.out),zkb HB1.out HB2.out,.inr ⟨bb,r1,rfl,HR1.out.later HB2.out,fun f=>?_⟩⟩;unfold zld;rw[HS.out];simp only[Out.bind,valO,iD.out];simp[<-HBBB.out]
  ·refine⟨rfl,aB.out.trans (Kpt.of_below HB2.out),zkb HB1.out HB2.out,.inl ⟨y,rfl,fun f=>?_⟩⟩;unfold zld;rw[HS.out];simp only[Out.bind,valO,iD.out];rw[if_pos hy]
theorem znd(x:Int):I64 (wrap64 x):=by
 unfold wrap64 I64
 constructor<;>omega
theorem zrb(b:Bool):I64 (numI b):=by
 cases b
 ·exact⟨by decide,by decide⟩
 ·exact⟨by decide,by decide⟩
theorem zero_I64:I64 0:=⟨by decide,by decide⟩
theorem zq2{x y:Int}(h:I64 x):I64 (x.tmod y):=by
 obtain⟨h1,h2⟩:=h;rcases Int.le_total 0 x with h0|h0
 ·have a1:=Int.tmod_nonneg y h0;have a2:(x.tmod y).natAbs<=x.natAbs:=by rw[Int.natAbs_tmod];exact Nat.mod_le _ _
  exact⟨by omega,by omega⟩
 ·have a1:=Int.tmod_nonneg y (show 0 <= -x by omega);rw[Int.neg_tmod]at a1;have a2:(x.tmod y).natAbs<=x.natAbs:=by rw[Int.natAbs_tmod];exact Nat.mod_le _ _
  exact⟨by omega,by omega⟩
theorem zvt{k x y:Int}(hx:I64 x):I64 (divE k x y).1:=by
 unfold divE
 repeat' split
 all_goals first|exact zero_I64|exact znd _|exact zq2 hx
theorem zwC(k x:Int):I64 (unE k x).1:=by
 unfold unE
 split
 ·exact znd _
 ·exact zrb _
theorem zwT{c:Prop}[Decidable c]{a b:Int×Int}(ha:I64 a.1)(hb:I64 b.1):I64 (if c then a else b).1:=by
 split
 ·exact ha
 ·exact hb
theorem zxq{k x y:Int}(hx:I64 x):I64 (apE k x y).1:=by
 unfold apE
 repeat' apply zwT
 all_goals first|exact znd _|exact zvt hx|exact zq2 hx|exact zsh _|exact zrb _|exact zero_I64
theorem zu9{l:List Int}(h:∀x∈l,I64 x)(i:Nat):I64 (l.getD i 0):=by
 rw[List.getD_eq_getElem?_getD];rcases hx:l[i]? with _|x
 ·exact zero_I64
 ·exact h x (List.mem_of_getElem? hx)
theorem zxb{look:ByteArray->Option (List Int)}(hl:∀s l,look s=some l->l.length<=100000/\∀x∈l,I64 x){k n:Int}{s:ByteArray}{rs:List (Int×Int)}(hn:I64 n)(h0:I64 (rs.getD 0 (0,0)).1):I64 (evK look k n s rs).1:=by
 unfold evK
 split
 ·exact hn
 ·split
  ·unfold varE
   split
   ·exact zero_I64
   ·rename_i l hlk;obtain⟨h1,h2⟩:=hl s l hlk
    repeat' split
    all_goals first|exact zu9 h2 _|exact zero_I64|exact⟨by simp only;omega,by simp only;omega⟩
  ·repeat' split
   all_goals first|exact zwC _ _|exact zxq h0|exact zero_I64
theorem ztr{look:ByteArray->Option (List Int)}(hl:∀s l,look s=some l->l.length<=100000/\∀x∈l,I64 x){w:World}:∀(m:Nat) (t:T) (v:Value),size t<=m->NV w Any t v->I64 (evE look t).1
 | 0,t,_,h,_=>by obtain⟨k,n,s,ks⟩:=t;rw[size]at h;omega
 | m+1,.nd k n s ks,v,h,hv=>by
  obtain⟨A,c,-,hf,-,-,hrow⟩:=hv.open_;rw[evE];refine zxb hl hf.2.1 ?_;rw[zpr,List.getD_eq_getElem?_getD,List.getElem?_map];rcases hk:ks[0]? with _|u
  ·exact zero_I64
  ·obtain⟨h1,h2⟩:=List.getElem?_eq_some_iff.1 hk;obtain⟨a,u0,u1,u2,u3,-,-,-,hn⟩:=hrow 0 h1;have hs:=zl7 (List.getElem_mem h1);rw[size]at h;have:=ztr hl m ks[0] _ (by omega) hn;rw[h2]at this;exact this
theorem zuZ{S:ST}(h:S.WF):∀s l,S.look s=some l->l.length<=100000/\∀x∈l,I64 x:=fun s l hl=>by
 obtain⟨i,id,h1,h2,rfl⟩:=ST.look_num hl;obtain⟨kd,hc⟩:=h.cur;have:=h.cells id (hc.num id (List.mem_of_getElem? h2));exact⟨by omega,this.2⟩
theorem zrq{S:ST}(h:S.WF){w:World}{t:T}{v:Value}(hv:NV w Any t v):I64 (zlA S.look t).1:=by
 unfold zlA
 split
 ·exact ztr (zuZ h) _ _ _ zl hv
 ·exact zero_I64
def ValP(C:RC)(W:World)(t:T)(r:RS)(e:Ending)(W':World):Prop :=
 Below W.heap.size W W'/\((∃x,e=zlv x/\∀f,valO t r f=.err x)\/∃x,e=.returned (.int .i64 x)/\I64 x/\∀f,valO t r f=f x r)
theorem zpH{C:RC}{W:World}{r:RS}(h:RI C W r)(t:T)(v:Value)(hv:NV C.w Any t v):Calls Tryz.prog 182 #[.pointer (some ⟨C.rb,0,none⟩),v] W (ValP C W t r):=by
 have HV:=zh hv;obtain⟨A,c,rfl,-⟩:=hv.open_;have wL:∀(fn:Fn) (first cap:Array Value) (w:World),(Instr.makeFunc fn first cap).run Tryz.prog w=.ok (.func fn first cap) w:=fun _ _ _ _=>rfl;have hb0:=zkc (zs W) (.cells #[.int .u8 t.k,.int .i64 t.n,.string t.s,.slice A t.ks.length c] 24);have hbx:=box4 (heap_alloc_new W (.cells #[.int .u8 t.k,.int .i64 t.n,.string t.s,.slice A t.ks.length c] 24));obtain⟨y6,-⟩:=(h.later hb0).cells;have HR:=zh (h.later hb0);have HB0:=zh hb0;obtain⟨w1,hW1⟩:=zX (W.alloc (.cells #[.int .u8 t.k,.int .i64 t.n,.string t.s,.slice A t.ks.length c] 24));rw[hW1]at hbx HR HB0 y6;obtain⟨x0,x1,x2,x3⟩:=hbx;have rO:=zh (fun w' (hb:Below w1.heap.size w1 w')=>znO (zvz C.w C.n0 C.sb _ r.S HR.out.ks.wf) t _ w' (HV.out.later (zkb HR.out.below hb)) (HR.out.ks.later hb));obtain⟨⟨x,y⟩,hx⟩:=zX (zlA r.S.look t);rw[hx]at rO;have iD:=zh hx
 have au:=zh (show ∀w',Below w1.heap.size w1 w'->(fun w':World=>zv w' W.heap.size 0 (.int .u8 t.k)/\zv w' W.heap.size 1 (.int .i64 t.n)/\zv w' W.heap.size 2 (.string t.s)/\zv w' W.heap.size 3 (.slice A t.ks.length c)/\zv w' C.rb 6 (.pointer (some ⟨C.sb,0,none⟩))) w' from fun w' hb=>⟨zb hb x0,zb hb x1,zb hb x2,zb hb x3,zb hb y6⟩);have gM:=zh (au.out _ zr.drew);clear hv hb0 hx x0 x1 x2 x3 y6 h;go_enter Tryz.func182,Tryz.ntmps182;go_upto_region 1 with fail;clear hW1
 go_region_held3 (fun w':World=>zv w' W.heap.size 0 (.int .u8 t.k)/\zv w' W.heap.size 1 (.int .i64 t.n)/\zv w' W.heap.size 2 (.string t.s)/\zv w' W.heap.size 3 (.slice A t.ks.length c)/\zv w' C.rb 6 (.pointer (some ⟨C.sb,0,none⟩)))
  (first|with_reducible exact dh.out|with_reducible exact gM.out)
  (first
   | (go_at_call 29;refine(rO.out _ zr.drew).mono ?_;rintro e y1 ⟨rfl,dU⟩;have b1:=zkb (zs w1).drew dU;have dh:=zh (au.out _ b1))
   | fail)
 have HB2:=zh (zkb HB0.out b1);clear b1 dU dh;go_wp2_with fail;refine(zk3 _ y _).mono ?_;rintro e w3 ⟨rfl,hcs⟩;rcases hcs with⟨rfl,u2,rfl⟩|⟨hy,rfl⟩
 ·go_wp2_with fail;go_ret;refine⟨HB2.out,.inr ⟨x,rfl,?_,fun f=>?_⟩⟩
  ·have:=zrq HR.out.ks.wf HV.out;rw[iD.out]at this;exact this
  ·unfold valO;rw[iD.out];simp
 ·refine⟨rfl,HB2.out,.inl ⟨y,rfl,fun f=>?_⟩⟩;unfold valO;rw[iD.out,if_pos hy]
theorem zmF{C:RC}(hC:C.Ok){W:World}{r:RS}(h:RI C W r)(t:T)(v:Value)(hv:NV C.w Any t v)(b:Bool):Calls Tryz.prog 181 #[.pointer (some ⟨C.rb,0,none⟩),v,.bool b] W (RunP C W (zkw C.F t b r)):=by
 have HV:=zh hv;obtain⟨A,c,rfl,-⟩:=hv.open_;have hb0:=zkc (zs W) (.cells #[.int .u8 t.k,.int .i64 t.n,.string t.s,.slice A t.ks.length c] 24);obtain⟨x0,x1,x2,x3⟩:=box4 (heap_alloc_new W (.cells #[.int .u8 t.k,.int .i64 t.n,.string t.s,.slice A t.ks.length c] 24));have aN:=zh (Kpt.of_below (n0:=C.n0) (kb:=C.kb) hb0);have iI:=zh (zn8 hC (h.later hb0) t _ hv);clear hv hb0 h;go_enter Tryz.func181,Tryz.ntmps181;go_wp2_with fail;refine iI.out.mono ?_;rintro e w1 ⟨hk1,hb1,ho⟩;have aB:=zh (aN.out.trans hk1);have HB1:=zh hb1;clear hk1 hb1 iI x0 x1 x2 x3 aN;rcases ho with⟨x,rfl,hx⟩|⟨b1,r1,rfl,hr1,hx⟩
 ·refine⟨rfl,aB.out,HB1.out,?_⟩;rw[show zkw C.F t b r=.err x from hx _]
 ·have HX:=zh (show zkw C.F t b r=if b1=b then .ok r1 else .err 15 from hx _);have HR:=zh hr1;clear hr1 hx;by_cases hbb:b1=b
  ·subst hbb;have dV:=zh (show zkw C.F t b1 r=.ok r1 by rw[HX.out,if_pos rfl]);clear HX;go_wp2_with fail;go_end0;refine⟨aB.out,HB1.out,?_⟩;rw[dV.out];exact⟨⟨_,rfl⟩,HR.out⟩
  ·have e1:(b1 != b)=true:=by simpa using hbb
   have e2:(b1==b)=false:=by simpa using hbb
   go_wp2_with fail;refine(zpE 15 (by decide) _).mono ?_;rintro e w2 ⟨rfl,rfl⟩;refine⟨rfl,aB.out,HB1.out,?_⟩;rw[HX.out,if_neg hbb]
section
variable {P:Program} {ops:Array Oper} {Q:Exit->Act->World->Prop} {md:Region.Mode} {S1 S2:World->Prop} {k:Nat}
theorem zut{i j:Nat}{o o':Oper}{fuel:Nat}{listed:Array Bool}{a:Act}{w:World}(hr:Region.ready md ops listed=[i,j])(ho:ops[i]?=some o)(ho':ops[j]?=some o')
  (h:∀K':Act->World->Prop,Shut (∀a w,S1 w/\S2 w->wpG P md ops Q S1 S2 k fuel (listed.setIfInBounds i true) a w->K' a w)->if Region.wanted o (yielded ops a.tmps)=true then Oper.wp P o a w K' Q else K' (a.put o.dst undef) w)
  (h':∀K':Act->World->Prop,Shut (∀a w,S1 w/\S2 w->wpG P md ops Q S1 S2 k fuel (listed.setIfInBounds j true) a w->K' a w)->if Region.wanted o' (yielded ops a.tmps)=true then Oper.wp P o' a w K' Q else K' (a.put o'.dst undef) w) :
  wpG P md ops Q S1 S2 k (fuel+1) listed a w:=by
 refine⟨(fun h0=>by rw[hr]at h0;cases h0),fun x hx=>?_⟩;rw[hr]at hx;simp only[List.mem_cons,List.not_mem_nil,or_false]at hx;rcases hx with rfl|rfl
 ·exact wpOp_step ho fun K' hK=>h K' fun a w hS hW=>hK a w ⟨⟨hS.1,fun _=>hS.2⟩,hW⟩
 ·exact wpOp_step ho' fun K' hK=>h' K' fun a w hS hW=>hK a w ⟨⟨hS.1,fun _=>hS.2⟩,hW⟩
end
theorem set4{W:World}{b:Nat}{x0 x1 x2 x3 u0 u1 u2 u3:Value}{E:TypeId}(h:W.heap[b]?=some (.cells #[x0,x1,x2,x3] E (0,0))) :
  ((((W.setCell ⟨b,0,none⟩ u0).setCell ⟨b,1,none⟩ u1).setCell ⟨b,2,none⟩ u2).setCell ⟨b,3,none⟩ u3).heap[b]?=some (.cells #[u0,u1,u2,u3] E (0,0)) /\
   Chg (fun q=>q=b) W ((((W.setCell ⟨b,0,none⟩ u0).setCell ⟨b,1,none⟩ u1).setCell ⟨b,2,none⟩ u2).setCell ⟨b,3,none⟩ u3):=by
 refine⟨?_,((((Chg.refl (fun q=>q=b) W).setCell (p:=⟨b,0,none⟩) (.inl rfl) _).setCell (p:=⟨b,1,none⟩) (.inl rfl) _).setCell (p:=⟨b,2,none⟩) (.inl rfl) _).setCell (p:=⟨b,3,none⟩) (.inl rfl) _⟩;rw[heap_setCell_same _ b 3 _ _ u3 (heap_setCell_same _ b 2 _ _ u2 (heap_setCell_same _ b 1 _ _ u1 (heap_setCell_same W b 0 _ _ u0 h)))];simp
theorem zpt(t:T)(v:Value)(back:Bool)(w0 w:World)(hB0:Below w0.heap.size w0 w)(hv:NV w0 Any t v)(hk:0<t.ks.length):Calls Tryz.prog 179 #[v,.bool back] w fun e W'=>∃v1 v2,e=.returned (.tuple #[v1,v2])/\NV w0 Any (fstT back t) v1/\NV w0 Any (lstT back t) v2/\Below w.heap.size w W':=by
 have HV:=zh hv;obtain⟨A,c,rfl,hf,hlk,hlc,hrow⟩:=hv.open_;obtain⟨m,hm⟩:∃m,t.ks.length=m+1:=⟨t.ks.length-1,by omega⟩
 obtain⟨a,a0,a1,a2,a3,rfl,-,ha,hna⟩:=hrow 0 (by omega);obtain⟨a',b0,b1,b2,b3,e',-,hb,hnb⟩:=hrow m (by omega);injection e' with e';subst e';obtain⟨t6,xS⟩:=zX (t.ks[0]'(by omega));obtain⟨t7,xR⟩:=zX (t.ks[m]'(by omega));rw[xS]at hna;rw[xR]at hnb;have fH:=zh hna;have yP:=zh hnb;have yI:=zh (show kid t 0=t6 by simp[kid,show 0<t.ks.length by omega,xS]);have yH:=zh (show kid t (t.ks.length-1)=t7 by simp[kid,hm,show m<t.ks.length by omega,xR]);obtain⟨A6,c6,e6,-⟩:=hna.open_;obtain⟨A7,c7,e7,-⟩:=hnb.open_;simp only[nv,Value.agg.injEq,Array.mk.injEq,List.cons.injEq,and_true]at e6 e7;obtain⟨rfl,rfl,rfl,rfl⟩:=e6;obtain⟨rfl,rfl,rfl,rfl⟩:=e7;clear hna hnb xS xR;obtain⟨ha0,ha1,ha2,uO⟩:=ha;obtain⟨hb0,hb1,hb2,hb3⟩:=hb;simp only[Nat.zero_mul,Addr.add_zero']at ha0 ha1 ha2 uO
 replace ha0:=zb hB0 ha0
 replace ha1:=zb hB0 ha1
 replace ha2:=zb hB0 ha2
 replace uO:=zb hB0 uO
 replace hb0:=zb hB0 hb0
 replace hb1:=zb hB0 hb1
 replace hb2:=zb hB0 hb2
 replace hb3:=zb hB0 hb3
 clear hB0;have uB:IntKind.i64.wrap (m:Int)=(m:Int):=IntWalk.i64_in _ (by unfold LK at hlk;omega);have hm0:(0:Int)<=(m:Int):=by omega
 have hm1:(m:Int)<((m:Int)+1):=by omega
 have hbl:Below w.heap.size w (((w.alloc (.cells #[.int .u8 t.k,.int .i64 t.n,.string t.s,.slice (some a) (m+1) c] 24)).alloc (.cells #[.int .u8 0,.int .i64 0,.string ⟨#[]⟩,.slice none 0 0] 24)).alloc (.cells #[.int .u8 0,.int .i64 0,.string ⟨#[]⟩,.slice none 0 0] 24)):=zkc (zkc (zkc zr _) _) _;have hk0:=zke (zke (heap_alloc_new w (.cells #[.int .u8 t.k,.int .i64 t.n,.string t.s,.slice (some a) (m+1) c] 24)) (.cells #[.int .u8 0,.int .i64 0,.string ⟨#[]⟩,.slice none 0 0] 24)) (.cells #[.int .u8 0,.int .i64 0,.string ⟨#[]⟩,.slice none 0 0] 24);have hk4:=zke (heap_alloc_new (w.alloc (.cells #[.int .u8 t.k,.int .i64 t.n,.string t.s,.slice (some a) (m+1) c] 24)) (.cells #[.int .u8 0,.int .i64 0,.string ⟨#[]⟩,.slice none 0 0] 24)) (.cells #[.int .u8 0,.int .i64 0,.string ⟨#[]⟩,.slice none 0 0] 24)
 have hk5:=heap_alloc_new ((w.alloc (.cells #[.int .u8 t.k,.int .i64 t.n,.string t.s,.slice (some a) (m+1) c] 24)).alloc (.cells #[.int .u8 0,.int .i64 0,.string ⟨#[]⟩,.slice none 0 0] 24)) (.cells #[.int .u8 0,.int .i64 0,.string ⟨#[]⟩,.slice none 0 0] 24);simp only[World.size_alloc]at hk4 hk5;go_enter Tryz.func179,Tryz.ntmps179;go_upto_region 1 with fail;obtain⟨w1,hw1⟩:=zX (((w.alloc (.cells #[.int .u8 t.k,.int .i64 t.n,.string t.s,.slice (some a) (m+1) c] 24)).alloc (.cells #[.int .u8 0,.int .i64 0,.string ⟨#[]⟩,.slice none 0 0] 24)).alloc (.cells #[.int .u8 0,.int .i64 0,.string ⟨#[]⟩,.slice none 0 0] 24));rw[hw1]at hbl hk0 hk4 hk5 ⊢
 have hSS:zW (fun w':World=>zv w' w.heap.size 3 (.slice (some a) (m+1) c)/\(w'.cell? a=some (.int .u8 t6.k)/\zv w' a.block (a.off+1) (.int .i64 t6.n)/\zv w' a.block (a.off+2) (.string t6.s)/\zv w' a.block (a.off+3) (.slice A6 t6.ks.length c6))/\(w'.cell? (a.add (m*4))=some (.int .u8 t7.k)/\zv w' ((a.add (m*4)).block) ((a.add (m*4)).off+1) (.int .i64 t7.n)/\zv w' ((a.add (m*4)).block) ((a.add (m*4)).off+2) (.string t7.s)/\zv w' ((a.add (m*4)).block) ((a.add (m*4)).off+3) (.slice A7 t7.ks.length c7))) zU w1.drew:=⟨⟨zc hk0 rfl,⟨zb hbl.drew ha0,zb hbl.drew ha1,zb hbl.drew ha2,zb hbl.drew uO⟩,⟨zb hbl.drew hb0,zb hbl.drew hb1,zb hbl.drew hb2,zb hbl.drew hb3⟩⟩,trivial⟩
 have dW:=zh (show w1.heap[w.heap.size+1]?=some (.cells #[.int .u8 0,.int .i64 0,.string ⟨#[]⟩,.slice none 0 0] 24 (0,0))from hk4);have dM:=zh (show w1.heap[w.heap.size+1+1]?=some (.cells #[.int .u8 0,.int .i64 0,.string ⟨#[]⟩,.slice none 0 0] 24 (0,0))from hk5);have af:=zh hbl;clear hw1 hbl hk0 hk4 hk5 ha0 ha1 ha2 uO hb0 hb1 hb2 hb3 hrow HV;refine wp_region_noPanic ?_;refine zG hSS 15 ?_;refine zT 0 hSS ?_;refine zT 1 hSS ?_;refine zT 2 hSS ?_;refine zT 3 hSS ?_;refine zT 4 hSS ?_;refine zT 5 hSS ?_;refine zT 6 hSS ?_;refine zT 7 hSS ?_;refine zT 8 hSS ?_;refine zT 9 hSS ?_;refine zT 10 hSS ?_;refine zT 11 hSS ?_
 have rQ:=zh (show ∀w',Below w1.heap.size w1 w'->(fun w':World=>zv w' w.heap.size 3 (.slice (some a) (m+1) c)/\(w'.cell? a=some (.int .u8 t6.k)/\zv w' a.block (a.off+1) (.int .i64 t6.n)/\zv w' a.block (a.off+2) (.string t6.s)/\zv w' a.block (a.off+3) (.slice A6 t6.ks.length c6))/\(w'.cell? (a.add (m*4))=some (.int .u8 t7.k)/\zv w' ((a.add (m*4)).block) ((a.add (m*4)).off+1) (.int .i64 t7.n)/\zv w' ((a.add (m*4)).block) ((a.add (m*4)).off+2) (.string t7.s)/\zv w' ((a.add (m*4)).block) ((a.add (m*4)).off+3) (.slice A7 t7.ks.length c7))) w' from fun w' hb=>by
  obtain⟨⟨q0,⟨q1,q2,q3,q4⟩,q5,q6,q7,q8⟩,-⟩:=hSS;exact⟨zb hb q0,⟨zb hb q1,zb hb q2,zb hb q3,zb hb q4⟩,zb hb q5,zb hb q6,zb hb q7,zb hb q8⟩)
 clear hSS;refine zut (i:=12) (j:=13) (by kernel_rfl) rfl rfl (fun K hK=>?_) (fun K hK=>?_);(try simp only[zA,zB,zC]);go_simp;have hb2:=zkc (zs w1) (.cells #[.int .u8 0,.int .i64 0,.string ⟨#[]⟩,.slice none 0 0] 24);refine hK.out _ _ ⟨rQ.out _ hb2.drew,trivial⟩ ?_;clear hK K;(try simp only[zQ]);refine zo 13 fun K hK=>?_;(try simp only[zA,zB,zC]);go_simp;have hb3:Below w1.heap.size w1 ((w1.alloc (.cells #[.int .u8 0,.int .i64 0,.string ⟨#[]⟩,.slice none 0 0] 24)).alloc (.cells #[.int .u8 0,.int .i64 0,.string ⟨#[]⟩,.slice none 0 0] 24)):=zkc hb2 (.cells #[.int .u8 0,.int .i64 0,.string ⟨#[]⟩,.slice none 0 0] 24);have eU:=zke (heap_alloc_new w1 (.cells #[.int .u8 0,.int .i64 0,.string ⟨#[]⟩,.slice none 0 0] 24)) (.cells #[.int .u8 0,.int .i64 0,.string ⟨#[]⟩,.slice none 0 0] 24)
 have kT:=heap_alloc_new (w1.alloc (.cells #[.int .u8 0,.int .i64 0,.string ⟨#[]⟩,.slice none 0 0] 24)) (.cells #[.int .u8 0,.int .i64 0,.string ⟨#[]⟩,.slice none 0 0] 24);rw[World.size_alloc]at kT;refine hK.out _ _ ⟨rQ.out _ hb3.drew,trivial⟩ ?_;clear hK K;(try simp only[zQ]);obtain⟨w3,hw3⟩:=zX ((w1.alloc (.cells #[.int .u8 0,.int .i64 0,.string ⟨#[]⟩,.slice none 0 0] 24)).alloc (.cells #[.int .u8 0,.int .i64 0,.string ⟨#[]⟩,.slice none 0 0] 24));rw[hw3]at hb3 eU kT ⊢;clear hw3 hb2;generalize GE7:w1.heap.size+1=b7 at kT ⊢;generalize GE6:w1.heap.size=b6 at eU ⊢;rotate_left 1;(try simp only[zA,zB,zC]);go_simp;have hb2:=zkc (zs w1) (.cells #[.int .u8 0,.int .i64 0,.string ⟨#[]⟩,.slice none 0 0] 24);refine hK.out _ _ ⟨rQ.out _ hb2.drew,trivial⟩ ?_;clear hK K;(try simp only[zQ]);refine zo 12 fun K hK=>?_;(try simp only[zA,zB,zC]);go_simp
 have hb3:Below w1.heap.size w1 ((w1.alloc (.cells #[.int .u8 0,.int .i64 0,.string ⟨#[]⟩,.slice none 0 0] 24)).alloc (.cells #[.int .u8 0,.int .i64 0,.string ⟨#[]⟩,.slice none 0 0] 24)):=zkc hb2 (.cells #[.int .u8 0,.int .i64 0,.string ⟨#[]⟩,.slice none 0 0] 24);have kT:=zke (heap_alloc_new w1 (.cells #[.int .u8 0,.int .i64 0,.string ⟨#[]⟩,.slice none 0 0] 24)) (.cells #[.int .u8 0,.int .i64 0,.string ⟨#[]⟩,.slice none 0 0] 24);have eU:=heap_alloc_new (w1.alloc (.cells #[.int .u8 0,.int .i64 0,.string ⟨#[]⟩,.slice none 0 0] 24)) (.cells #[.int .u8 0,.int .i64 0,.string ⟨#[]⟩,.slice none 0 0] 24);rw[World.size_alloc]at eU;refine hK.out _ _ ⟨rQ.out _ hb3.drew,trivial⟩ ?_;clear hK K;(try simp only[zQ]);obtain⟨w3,hw3⟩:=zX ((w1.alloc (.cells #[.int .u8 0,.int .i64 0,.string ⟨#[]⟩,.slice none 0 0] 24)).alloc (.cells #[.int .u8 0,.int .i64 0,.string ⟨#[]⟩,.slice none 0 0] 24))
 rw[hw3]at hb3 kT eU ⊢;clear hw3 hb2;generalize GE7:w1.heap.size+1=b6 at eU ⊢;generalize GE6:w1.heap.size=b7 at kT ⊢
 all_goals
  have gE:w1.heap.size<=b6/\w1.heap.size<=b7/\b6≠b7:=by omega
  obtain⟨g6,g7,gN⟩:=gE;clear GE6 GE7;have HB3:=zh hb3;have c0:w3.cell? ⟨b6,0,none⟩=some (.int .u8 0):=zc eU rfl;have c1:w3.cell? ⟨b6,1,none⟩=some (.int .i64 0):=zc eU rfl;have c2:w3.cell? ⟨b6,2,none⟩=some (.string ⟨#[]⟩):=zc eU rfl;have c3:w3.cell? ⟨b6,3,none⟩=some (.slice none 0 0):=zc eU rfl;have cf:∀o,w3.frozen? ⟨b6,o,none⟩=false:=fun _=>zf eU;refine zo 14 fun K hK=>?_;(try simp only[zA,zB,zC]);go_simp;obtain⟨hh,hch⟩:=set4 (u0:=(.int .u8 t6.k)) (u1:=(.int .i64 t6.n)) (u2:=(.string t6.s)) (u3:=(.slice A6 t6.ks.length c6)) eU;obtain⟨w4,hwn⟩:=zX ((((w3.setCell ⟨b6,0,none⟩ (.int .u8 t6.k)).setCell ⟨b6,1,none⟩ (.int .i64 t6.n)).setCell ⟨b6,2,none⟩ (.string t6.s)).setCell ⟨b6,3,none⟩ (.slice A6 t6.ks.length c6));rw[hwn]at hh hch ⊢;have hb4:Below w1.heap.size w1 w4:=HB3.out.trans (hch.below HB3.out.size fun b e=>by omega);refine hK.out _ _ ⟨rQ.out _ hb4.drew,trivial⟩ ?_
  clear hK K c0 c1 c2 c3 cf hwn;(try simp only[zQ]);have av:=zh hb4;have iX:=hch.keep kT (by omega);have c0:w4.cell? ⟨b7,0,none⟩=some (.int .u8 0):=zc iX rfl;have c1:w4.cell? ⟨b7,1,none⟩=some (.int .i64 0):=zc iX rfl;have c2:w4.cell? ⟨b7,2,none⟩=some (.string ⟨#[]⟩):=zc iX rfl;have c3:w4.cell? ⟨b7,3,none⟩=some (.slice none 0 0):=zc iX rfl;have cf:∀o,w4.frozen? ⟨b7,o,none⟩=false:=fun _=>zf iX;refine zp 15 fun K hK=>?_;(try simp only[zA,zB,zC]);go_simp;obtain⟨tJ,aY⟩:=set4 (u0:=(.int .u8 t7.k)) (u1:=(.int .i64 t7.n)) (u2:=(.string t7.s)) (u3:=(.slice A7 t7.ks.length c7)) iX;obtain⟨w5,hwn⟩:=zX ((((w4.setCell ⟨b7,0,none⟩ (.int .u8 t7.k)).setCell ⟨b7,1,none⟩ (.int .i64 t7.n)).setCell ⟨b7,2,none⟩ (.string t7.s)).setCell ⟨b7,3,none⟩ (.slice A7 t7.ks.length c7));rw[hwn]at tJ aY ⊢;have hb5:Below w1.heap.size w1 w5:=av.out.trans (aY.below av.out.size fun b e=>by omega)
  refine hK.out _ _ (rQ.out _ hb5.drew) ?_;clear hK K c0 c1 c2 c3 cf hwn;(try simp only[zQ]);have qf:=zh (aY.keep hh (by omega));have y9:=zh tJ;have ay:=zh (show Below w1.heap.size w1 w5 from hb5);clear hb3 eU kT iX hh tJ hch aY hb4 hb5 av HB3 rQ;refine zd ?_;refine NoPanic.normal ?_;have ky:=zh (zka dW.out ay.out);have iM:=zh (zka dM.out ay.out);obtain⟨P,Q,X,Y,AX,AY,CX,CY,hE⟩:∃P Q X Y AX AY CX CY,cond back (P=b7/\Q=b6/\X=t7/\Y=t6/\AX=A7/\AY=A6/\CX=c7/\CY=c6) (P=b6/\Q=b7/\X=t6/\Y=t7/\AX=A6/\AY=A7/\CX=c6/\CY=c7):=by cases back<;>exact⟨_,_,_,_,_,_,_,_,rfl,rfl,rfl,rfl,rfl,rfl,rfl,rfl⟩
  cases back
  obtain⟨rfl,rfl,rfl,rfl,rfl,rfl,rfl,rfl⟩:=hE;have HX:=qf;have HY:=y9;have NX:=fH;have NY:=yP;have EX:=yI;have EY:=yH;go_upto_region 4 with fail;rotate_left 1;obtain⟨rfl,rfl,rfl,rfl,rfl,rfl,rfl,rfl⟩:=hE;have HX:=y9;have HY:=qf;have NX:=yP;have NY:=fH;have EX:=yH;have EY:=yI;go_upto_region 3 with fail
  all_goals
   clear qf y9 fH yP yI yH;have hS5:(fun w':World=>(zN4 w' P (.int .u8 X.k) (.int .i64 X.n) (.string X.s) (.slice AX X.ks.length CX))/\zN4 w' Q (.int .u8 Y.k) (.int .i64 Y.n) (.string Y.s) (.slice AY Y.ks.length CY)) w5.drew:=⟨⟨zc HX.out rfl,zc HX.out rfl,zc HX.out rfl,zc HX.out rfl⟩,⟨zc HY.out rfl,zc HY.out rfl,zc HY.out rfl,zc HY.out rfl⟩⟩
   refine wp_region_noPanic ?_;refine zkm (fun w':World=>(zN4 w' P (.int .u8 X.k) (.int .i64 X.n) (.string X.s) (.slice AX X.ks.length CX))/\zN4 w' Q (.int .u8 Y.k) (.int .i64 Y.n) (.string Y.s) (.slice AY Y.ks.length CY)) zU 3 (by kernel_rfl) ?_;refine zkt (i:=0) (v:=?_) rfl (by kernel_rfl) (by kernel_rfl) (by kernel_rfl) (by decide) (fun _ _ _ h=>h) (Or.inl ⟨by rfl,?_⟩) ⟨hS5,trivial⟩ ?_;rotate_left 1
   ·(intro w hSw;(try dsimp only at hSw);(try simp only[zA,zC]);go_simp;(try with_reducible rfl))
   (try simp only[zQ]);refine zkt (i:=1) (v:=?_) rfl (by kernel_rfl) (by kernel_rfl) (by kernel_rfl) (by decide) (fun _ _ _ h=>h) (Or.inl ⟨by rfl,?_⟩) ⟨hS5,trivial⟩ ?_;rotate_left 1
   ·(intro w hSw;(try dsimp only at hSw);(try simp only[zA,zB,zC]);go_simp;(try with_reducible rfl))
   (try simp only[zQ]);have hsz:w.heap.size+1+1<w1.heap.size:=(Array.getElem?_eq_some_iff.mp dM.out).1;have dI:=zh (af.out.trans (ay.out.mono (by omega)));have HC:=zh (show ∀W':World,W'.heap[P]?=w5.heap[P]?->W'.heap[Q]?=w5.heap[Q]?->(fun w':World=>(zN4 w' P (.int .u8 X.k) (.int .i64 X.n) (.string X.s) (.slice AX X.ks.length CX)/\zN4 w' Q (.int .u8 Y.k) (.int .i64 Y.n) (.string Y.s) (.slice AY Y.ks.length CY))) W'.drew from fun W' h6 h7=>⟨⟨zc (h6.trans HX.out) rfl,zc (h6.trans HX.out) rfl,zc (h6.trans HX.out) rfl,zc (h6.trans HX.out) rfl⟩,⟨zc (h7.trans HY.out) rfl,zc (h7.trans HY.out) rfl,zc (h7.trans HY.out) rfl,zc (h7.trans HY.out) rfl⟩⟩);have HZQ:=zh ky.out;have kv:=ky.out;have HZ5K:=iM.out;have c0:w5.cell? ⟨(w.heap.size+1),0,none⟩=some (.int .u8 0):=zc kv rfl;have c1:w5.cell? ⟨(w.heap.size+1),1,none⟩=some (.int .i64 0):=zc kv rfl
   have c2:w5.cell? ⟨(w.heap.size+1),2,none⟩=some (.string ⟨#[]⟩):=zc kv rfl;have c3:w5.cell? ⟨(w.heap.size+1),3,none⟩=some (.slice none 0 0):=zc kv rfl;have cf:∀o,w5.frozen? ⟨(w.heap.size+1),o,none⟩=false:=fun _=>zf kv;refine zo 2 fun K hK=>?_;(try simp only[zA,zB,zC]);go_simp;obtain⟨hh,hch⟩:=set4 (u0:=(.int .u8 X.k)) (u1:=(.int .i64 X.n)) (u2:=(.string X.s)) (u3:=(.slice AX X.ks.length CX)) kv;obtain⟨w6,hwn⟩:=zX ((((w5.setCell ⟨(w.heap.size+1),0,none⟩ (.int .u8 X.k)).setCell ⟨(w.heap.size+1),1,none⟩ (.int .i64 X.n)).setCell ⟨(w.heap.size+1),2,none⟩ (.string X.s)).setCell ⟨(w.heap.size+1),3,none⟩ (.slice AX X.ks.length CX));rw[hwn]at hh hch ⊢;clear c0 c1 c2 c3 cf hwn;have HBW6:=zh (dI.out.trans (hch.below dI.out.size fun b e=>by omega));have k6:=hch.block (P) (Array.getElem?_eq_some_iff.mp HX.out).1 (by omega)
   have k7:=hch.block (Q) (Array.getElem?_eq_some_iff.mp HY.out).1 (by omega);have ku:=hch.keep HZ5K (by omega);refine hK.out _ _ ⟨HC.out _ k6 k7,trivial⟩ ?_;have HF4:=zh hh;have K6:=zh k6;have K7:=zh k7;have bP:=zh hch;clear hK K k6 k7 hh hch;(try simp only[zQ]);have c0:w6.cell? ⟨(w.heap.size+1+1),0,none⟩=some (.int .u8 0):=zc ku rfl;have c1:w6.cell? ⟨(w.heap.size+1+1),1,none⟩=some (.int .i64 0):=zc ku rfl;have c2:w6.cell? ⟨(w.heap.size+1+1),2,none⟩=some (.string ⟨#[]⟩):=zc ku rfl;have c3:w6.cell? ⟨(w.heap.size+1+1),3,none⟩=some (.slice none 0 0):=zc ku rfl;have cf:∀o,w6.frozen? ⟨(w.heap.size+1+1),o,none⟩=false:=fun _=>zf ku;refine zp 3 fun K hK=>?_;(try simp only[zA,zB,zC]);go_simp;obtain⟨hh,hch⟩:=set4 (u0:=(.int .u8 Y.k)) (u1:=(.int .i64 Y.n)) (u2:=(.string Y.s)) (u3:=(.slice AY Y.ks.length CY)) ku
   obtain⟨w7,hwn⟩:=zX ((((w6.setCell ⟨(w.heap.size+1+1),0,none⟩ (.int .u8 Y.k)).setCell ⟨(w.heap.size+1+1),1,none⟩ (.int .i64 Y.n)).setCell ⟨(w.heap.size+1+1),2,none⟩ (.string Y.s)).setCell ⟨(w.heap.size+1+1),3,none⟩ (.slice AY Y.ks.length CY));rw[hwn]at hh hch ⊢;clear c0 c1 c2 c3 cf hwn;have HBW7:=zh (HBW6.out.trans (hch.below HBW6.out.size fun b e=>by omega));have k6:=hch.block (P) (by have:=(Array.getElem?_eq_some_iff.mp HX.out).1;have:=bP.out.size;omega) (by omega);have k7:=hch.block (Q) (by have:=(Array.getElem?_eq_some_iff.mp HY.out).1;have:=bP.out.size;omega) (by omega);have HF4':=zh (hch.keep HF4.out (by omega));refine hK.out _ _ (HC.out _ (k6.trans K6.out) (k7.trans K7.out)) ?_;have HF5:=zh hh;clear hK K k6 k7 hh hch;(try simp only[zQ]);refine zd ?_;refine NoPanic.normal ?_;have d4:=HF4'.out;have d5:=HF5.out
   have g0:w7.drew.cell? ⟨w.heap.size+1,0,none⟩=some (.int .u8 X.k):=zc d4 rfl;have g1:w7.drew.cell? ⟨w.heap.size+1,1,none⟩=some (.int .i64 X.n):=zc d4 rfl;have g2:w7.drew.cell? ⟨w.heap.size+1,2,none⟩=some (.string X.s):=zc d4 rfl;have g3:w7.drew.cell? ⟨w.heap.size+1,3,none⟩=some (.slice AX X.ks.length CX):=zc d4 rfl;have g4:w7.drew.cell? ⟨w.heap.size+1+1,0,none⟩=some (.int .u8 Y.k):=zc d5 rfl;have g5:w7.drew.cell? ⟨w.heap.size+1+1,1,none⟩=some (.int .i64 Y.n):=zc d5 rfl;have g6:w7.drew.cell? ⟨w.heap.size+1+1,2,none⟩=some (.string Y.s):=zc d5 rfl;have g7:w7.drew.cell? ⟨w.heap.size+1+1,3,none⟩=some (.slice AY Y.ks.length CY):=zc d5 rfl;go_wp2_with fail
   refine bodyPost_ret (v:=.tuple #[.agg #[.int .u8 X.k,.int .i64 X.n,.string X.s,.slice AX X.ks.length CX],.agg #[.int .u8 Y.k,.int .i64 Y.n,.string Y.s,.slice AY Y.ks.length CY]]) (by simp[results,Tryz.results179,go_sem,g0,g1,g2,g3,g4,g5,g6,g7]) rfl ⟨_,_,rfl,?_,?_,HBW7.out.drew.drew⟩
   ·simp only[fstT,lstT,if_true,if_false,Bool.false_eq_true,EX.out,EY.out];exact NX.out
   ·simp only[fstT,lstT,if_true,if_false,Bool.false_eq_true,EX.out,EY.out];exact NY.out
def IStC(G:List PR->T->Prop)(g:Nat):Prop:=∀C:RC,C.Ok->∀(W:World) (r:RS),RI C W r->∀(t:T) (v:Value) (back:Bool),NV C.w Any t v->G C.p.prs t->zkA C.p.prs C.F g back t r ≠ .gas ->
 Calls Tryz.prog 139 #[.pointer (some ⟨C.rb,0,none⟩),v,.bool back] W (RunP C W (zkA C.p.prs C.F g back t r))
theorem zk7{G:List PR->T->Prop}{g:Nat}(hS:IStC G g){C:RC}(hC:C.Ok){W:World}{r:RS}(h:RI C W r)(t:T)(v:Value)(back:Bool)(hv:NV C.w Any t v)(hG:∀u∈t.ks,G C.p.prs u)(aF:runO C.p.prs C.F g back t r ≠ .gas) :
  Calls Tryz.prog 118 #[.pointer (some ⟨C.rb,0,none⟩),v,.bool back] W (RunP C W (runO C.p.prs C.F g back t r)):=by
 obtain⟨A,c,rfl,-,hlk,hlc,hrow⟩:=hv.open_;have ae:=zh hrow;have HS:=zh hS;have HG:=zh hG;have hb0:=zkc (zs W) (.cells #[.int .u8 t.k,.int .i64 t.n,.string t.s,.slice A t.ks.length c] 24);obtain⟨bV,h1⟩:=h.plus hC hb0;have hz1:(W.alloc (.cells #[.int .u8 t.k,.int .i64 t.n,.string t.s,.slice A t.ks.length c] 24)).heap.size=W.heap.size+1:=by simp
 have hbx:=box4 (heap_alloc_new W (.cells #[.int .u8 t.k,.int .i64 t.n,.string t.s,.slice A t.ks.length c] 24));have aN:=zh (Kpt.of_below (n0:=C.n0) (kb:=C.kb) hb0);obtain⟨W1,hW1⟩:=zX (W.alloc (.cells #[.int .u8 t.k,.int .i64 t.n,.string t.s,.slice A t.ks.length c] 24));rw[hW1]at bV h1 hz1 hbx aN;obtain⟨hi,hhi⟩:=zX (W1.heap.size);rw[hhi]at bV h1 hz1;have mU:=zh bV;have H1:=zh h1;have aO:=zh hbx;have hz2:W.heap.size<hi:=by omega
 have hwn:IntKind.i64.wrap ((t.ks.length:Int)-1)=(t.ks.length:Int)-1:=IntWalk.i64_in _ (by unfold LK at hlk;omega);have hwq:∀j:Nat,j<t.ks.length->IntKind.i64.wrap ((t.ks.length:Int)-1-(j:Int))=((t.ks.length-1-j:Nat):Int):=fun j hj=>by rw[IntWalk.i64_in _ (by unfold LK at hlk;omega)];omega
 obtain⟨o,ho⟩:=zX (runO C.p.prs C.F g back t r);have HO:=zh (show zla (zkA C.p.prs C.F g back) ((blkL back t).drop 0) r=o by rw[List.drop_zero];exact ho);have o8:=zh (show o ≠ .gas from ho▸aF);have tV:(blkL back t).length=t.ks.length:=by unfold blkL;split<;>simp
 rw[ho];have gD:=zh tV;have hlk2:t.ks.length<=17592186044416:=by unfold LK at hlk;omega
 clear tV hlk;clear hv bV h1 hbx hb0 h hz1 hS hG hrow ho aF;obtain⟨x0,x1,x2,x3⟩:=aO.out;go_enter Tryz.func118,Tryz.ntmps118;go_wp2_with fail;clear x0 x1 x2 x3 hW1
 go_loopw [15] (fun i wr=>∃(j:Nat) (r1:RS),j<=t.ks.length/\i=.int .i64 j/\Hid (RI (C.plus W.heap.size hi) wr r1)/\Hid (Kpt C.n0 (C.plus W.heap.size hi).kb W1 wr)/\Hid (zla (zkA C.p.prs C.F g back) ((blkL back t).drop j) r1=o)) (fun i _=>t.ks.length-(intOf i).toNat)
 case atStart=>exact⟨0,r,Nat.zero_le _,rfl,H1,zh (Kpt.refl _ _ _),HO⟩
 case round =>
  obtain⟨j,r1,hj,rfl,HR,HK,HB⟩:=hrel;by_cases hlt:j<t.ks.length
  ·cases back
   ·skip
    have hj1:(j:Int)<(t.ks.length:Int):=by omega
    have hj0:(0:Int)<=(j:Int):=by omega
    have pJ:j<t.ks.length:=by omega
    have hqs1:(j:Int)<(t.ks.length:Int):=by omega
    have hqs0:(0:Int)<=(j:Int):=by omega
    have ek:=HR.out.below;obtain⟨a,u,A1,c1,rfl,-,hu,⟨p0,p1,p2,p3⟩,hnu⟩:=ae.out.nd pJ;have hgu:=HG.out u (by rw[<-hu.out];exact List.getElem_mem _);have hbs:zla (zkA C.p.prs C.F g false) ((blkL false t).drop j) r1=(zkA C.p.prs C.F g false u r1).bind (zla (zkA C.p.prs C.F g false) ((blkL false t).drop (j+1))):=by
     rw[show(blkL false t).drop j=u::(blkL false t).drop (j+1) by rw[List.drop_eq_getElem_cons (by rw[gD.out];exact hlt),<-hu.out];congr 1;all_goals simp[blkL,hlt]];rfl
    rw[HB.out]at hbs;have jE:=zh hbs;have vD:=zh (HS.out (C.plus W.heap.size hi) mU.out wr r1 HR.out u _ false hnu hgu (fun e=>o8.out (by rw[hbs,show zkA C.p.prs C.F g false u r1=.gas from e];rfl)));have q0:=zb ek p0;have q1:=zb ek p1;have q2:=zb ek p2;have q3:=zb ek p3;have x3:wr.cell? ⟨W.heap.size,3,none⟩=some (.slice (some a) t.ks.length c):=HK.out.cell (.inr (.inr ⟨zl,hz2⟩)) aO.out.2.2.2;clear hbs ek hnu hgu p0 p1 p2 p3 hu;go_wp2_with fail;refine vD.out.mono ?_;rintro e w2 ⟨hk2,hb2,ho2⟩;have fQ:match zkA C.p.prs C.F g false u r1 with
     | .gas=>True
     | .err x=>e=zlv x
     | .ok r=>(∃u,e=.returned u)/\RI (C.plus W.heap.size hi) w2 r:=ho2
    have aI:=zh (HK.out.trans hk2);clear ho2 hk2 vD q0 q1 q2 q3 x3
    cases hx:zkA C.p.prs C.F g false u r1 with
    | gas=>exact absurd (by rw[jE.out,hx];rfl) o8.out
    | err x =>
     rw[hx]at fQ;subst fQ;have ho3:o=.err x:=by rw[jE.out,hx];rfl
     dsimp only;refine⟨rfl,aN.out.trans (Kpt.less aI.out),hb2,?_⟩;rw[ho3]
    | ok r2 =>
     rw[hx]at fQ;obtain⟨⟨u2,rfl⟩,hr2⟩:=fQ;have HR2:=zh hr2;have HB2:=zh (show zla (zkA C.p.prs C.F g false) ((blkL false t).drop (j+1)) r2=o by rw[jE.out,hx];rfl);clear hr2 hx;go_wp2_with fail
     go_roundw
     case rel=>exact⟨j+1,r2,by omega,by go_num,HR2,aI,HB2⟩
     case measure=>simp[intOf];omega
   ·skip
    have hwq1:=hwq j hlt;obtain⟨q,hq⟩:=zX (t.ks.length-1-j);rw[hq]at hwq1;have hj1:(j:Int)<(t.ks.length:Int):=by omega
    have hj0:(0:Int)<=(j:Int):=by omega
    have pJ:q<t.ks.length:=by omega
    have hqs1:(q:Int)<(t.ks.length:Int):=by omega
    have hqs0:(0:Int)<=(q:Int):=by omega
    have ek:=HR.out.below;obtain⟨a,u,A1,c1,rfl,-,hu,⟨p0,p1,p2,p3⟩,hnu⟩:=ae.out.nd pJ;have hgu:=HG.out u (by rw[<-hu.out];exact List.getElem_mem _);have hbs:zla (zkA C.p.prs C.F g true) ((blkL true t).drop j) r1=(zkA C.p.prs C.F g true u r1).bind (zla (zkA C.p.prs C.F g true) ((blkL true t).drop (j+1))):=by
     rw[show(blkL true t).drop j=u::(blkL true t).drop (j+1) by rw[List.drop_eq_getElem_cons (by rw[gD.out];exact hlt),<-hu.out];congr 1;all_goals simp[blkL,hq]];rfl
    rw[HB.out]at hbs;have jE:=zh hbs;have vD:=zh (HS.out (C.plus W.heap.size hi) mU.out wr r1 HR.out u _ true hnu hgu (fun e=>o8.out (by rw[hbs,show zkA C.p.prs C.F g true u r1=.gas from e];rfl)));have q0:=zb ek p0;have q1:=zb ek p1;have q2:=zb ek p2;have q3:=zb ek p3;have x3:wr.cell? ⟨W.heap.size,3,none⟩=some (.slice (some a) t.ks.length c):=HK.out.cell (.inr (.inr ⟨zl,hz2⟩)) aO.out.2.2.2;clear hbs ek hnu hgu p0 p1 p2 p3 hu;go_wp2_with fail;refine vD.out.mono ?_;rintro e w2 ⟨hk2,hb2,ho2⟩;have fQ:match zkA C.p.prs C.F g true u r1 with
     | .gas=>True
     | .err x=>e=zlv x
     | .ok r=>(∃u,e=.returned u)/\RI (C.plus W.heap.size hi) w2 r:=ho2
    have aI:=zh (HK.out.trans hk2);clear ho2 hk2 vD q0 q1 q2 q3 x3
    cases hx:zkA C.p.prs C.F g true u r1 with
    | gas=>exact absurd (by rw[jE.out,hx];rfl) o8.out
    | err x =>
     rw[hx]at fQ;subst fQ;have ho3:o=.err x:=by rw[jE.out,hx];rfl
     dsimp only;refine⟨rfl,aN.out.trans (Kpt.less aI.out),hb2,?_⟩;rw[ho3]
    | ok r2 =>
     rw[hx]at fQ;obtain⟨⟨u2,rfl⟩,hr2⟩:=fQ;have HR2:=zh hr2;have HB2:=zh (show zla (zkA C.p.prs C.F g true) ((blkL true t).drop (j+1)) r2=o by rw[jE.out,hx];rfl);clear hr2 hx;go_wp2_with fail
     go_roundw
     case rel=>exact⟨j+1,r2,by omega,by go_num,HR2,aI,HB2⟩
     case measure=>simp[intOf];omega
  ·have ho3:o=.ok r1:=by
    rw[<-HB.out,show(blkL back t).drop j=[] by rw[List.drop_eq_nil_iff,gD.out];omega];rfl
   have hbr:=HR.out.below;have hj1:¬ (j:Int)<(t.ks.length:Int):=by omega
   go_wp2_with fail;go_end0;refine⟨aN.out.trans (Kpt.less HK.out),hbr,?_⟩
   try rw[ho3]
   exact⟨⟨_,rfl⟩,HR.out.less⟩
def brO(prs:List PR)(F:Int)(g:Nat)(back:Bool)(t:T)(r:RS):Out :=
 zld F (fstT back t) r fun yes r=>(zla (zkA prs F g back) (blkL back (if yes=true then kid t 1 else kid t 2)) r).bind (zkw F (lstT back t) yes)
theorem zr2{G:List PR->T->Prop}{g:Nat}(hS:IStC G g){C:RC}(hC:C.Ok){W:World}{r:RS}(h:RI C W r)(t:T)(v:Value)(back:Bool)(hv:NV C.w Any t v)(hk:t.ks.length=4)(hG1:∀u∈(kid t 1).ks,G C.p.prs u)(hG2:∀u∈(kid t 2).ks,G C.p.prs u)
  (aF:brO C.p.prs C.F g back t r ≠ .gas) :
  Calls Tryz.prog 164 #[.pointer (some ⟨C.rb,0,none⟩),v,.bool back] W (RunP C W (brO C.p.prs C.F g back t r)):=by
 obtain⟨A,c,rfl,-,hlk,hlc,hrow⟩:=hv.open_;have ae:=zh hrow;have HS:=zh hS;have HV:=zh hv;have hb0:=zkc (zs W) (.cells #[.int .u8 t.k,.int .i64 t.n,.string t.s,.slice A t.ks.length c] 24);obtain⟨x0,x1,x2,x3⟩:=box4 (heap_alloc_new W (.cells #[.int .u8 t.k,.int .i64 t.n,.string t.s,.slice A t.ks.length c] 24));have HB0:=zh hb0;have H:=zh h;have HC:=zh hC;have HX:=zh (heap_alloc_new W (.cells #[.int .u8 t.k,.int .i64 t.n,.string t.s,.slice A t.ks.length c] 24));have mP:=zh (fun w' (hb:Below W.heap.size W w')=>zpt t _ back C.w w' (zkb h.below hb) hv (by omega));have oV:=zh hk;clear hrow hS hb0 h hv hk hC hlk;go_enter Tryz.func164,Tryz.ntmps164;go_wp2_with fail;refine(mP.out _ HB0.out).mono ?_;rintro e w2 ⟨v1,v2,rfl,n1,n2,b2⟩;obtain⟨t1,ht1⟩:=zX (fstT back t);obtain⟨t2,ht2⟩:=zX (lstT back t);have HT1:=zh ht1;have HT2:=zh ht2;rw[ht1]at n1;rw[ht2]at n2;obtain⟨A1,c1,rfl,-⟩:=n1.open_
 obtain⟨A2,c2,rfl,-⟩:=n2.open_;have mH:=zh n1;have aJ:=zh n2;have b3:=zkc (zkc (zkb HB0.out b2) (.cells #[.int .u8 t1.k,.int .i64 t1.n,.string t1.s,.slice A1 t1.ks.length c1] 24)) (.cells #[.int .u8 t2.k,.int .i64 t2.n,.string t2.s,.slice A2 t2.ks.length c2] 24);have k0:=zke (zke (zka HX.out b2) (.cells #[.int .u8 t1.k,.int .i64 t1.n,.string t1.s,.slice A1 t1.ks.length c1] 24)) (.cells #[.int .u8 t2.k,.int .i64 t2.n,.string t2.s,.slice A2 t2.ks.length c2] 24);have k1:=zke (heap_alloc_new w2 (.cells #[.int .u8 t1.k,.int .i64 t1.n,.string t1.s,.slice A1 t1.ks.length c1] 24)) (.cells #[.int .u8 t2.k,.int .i64 t2.n,.string t2.s,.slice A2 t2.ks.length c2] 24);have k2:=heap_alloc_new (w2.alloc (.cells #[.int .u8 t1.k,.int .i64 t1.n,.string t1.s,.slice A1 t1.ks.length c1] 24)) (.cells #[.int .u8 t2.k,.int .i64 t2.n,.string t2.s,.slice A2 t2.ks.length c2] 24)
 simp only[World.size_alloc]at k2;obtain⟨w3,hw3⟩:=zX ((w2.alloc (.cells #[.int .u8 t1.k,.int .i64 t1.n,.string t1.s,.slice A1 t1.ks.length c1] 24)).alloc (.cells #[.int .u8 t2.k,.int .i64 t2.n,.string t2.s,.slice A2 t2.ks.length c2] 24));rw[hw3]at b3 k0 k1 k2;have hz2:=zkb HB0.out b2;have hzz:=hz2.size;obtain⟨df,h3⟩:=H.out.plus HC.out b3;have bU:=zh (Kpt.of_below (n0:=C.n0) (kb:=C.kb) b3);have l0:=zki k0;have l1:=zki k1;have l2:=zki k2;obtain⟨hi,hhi⟩:=zX (w3.heap.size);rw[hhi]at df h3 l0 l1 l2;have lD:=zh df;have H3:=zh h3;have K0:=zh k0;have K1:=zh k1;have K2:=zh k2;have iI:=zh (zn8 df h3 t1 _ n1)
 obtain⟨p1,⟨y0,y1,y2,y3⟩⟩:True/\(w3.cell? ⟨w2.heap.size,0,none⟩=some (.int .u8 t1.k)/\w3.cell? ⟨w2.heap.size,1,none⟩=some (.int .i64 t1.n)/\w3.cell? ⟨w2.heap.size,2,none⟩=some (.string t1.s)/\w3.cell? ⟨w2.heap.size,3,none⟩=some (.slice A1 t1.ks.length c1)):=⟨trivial,zc k1 rfl,zc k1 rfl,zc k1 rfl,zc k1 rfl⟩
 clear n1 n2 b2 b3 k0 k1 k2 hz2 df h3 x0 x1 x2 x3 HX HB0 mP p1 ht1 ht2;go_upto_region 2 with fail;clear hw3;go_wp2_with fail;refine iI.out.mono ?_;rintro e w4 ⟨hk4,hb4,cB⟩;have dW:=zh (bU.out.trans (Kpt.less (C:=C) hk4));have av:=zh (show Below C.w.heap.size C.w w4 from hb4);clear y0 y1 y2 y3 iI;rcases cB with⟨x,rfl,hx⟩|⟨b,r1,rfl,hr1,hx⟩
 ·refine⟨rfl,dW.out,av.out,?_⟩;rw[show brO C.p.prs C.F g back t r=.err x by unfold brO;rw[HT1.out];exact hx _]
 ·have k0:=hk4.blk (.inr (.inr ⟨by omega,l0⟩)) K0.out;have k2:=hk4.blk (.inr (.inr ⟨by omega,l2⟩)) K2.out;have HR4:=zh hr1;have fB:=zh (show brO C.p.prs C.F g back t r=(runO C.p.prs C.F g back (if b=true then kid t 1 else kid t 2) r1).bind (zkw C.F t2 b) by unfold brO;rw[HT1.out,HT2.out];exact hx _);have K4:=zh k0;have K5:=zh k2;have z3:w4.cell? ⟨W.heap.size,3,none⟩=some (.slice A t.ks.length c):=zc k0 rfl;have di:=zh aF;clear hk4 hb4 hr1 hx k0 k2 aF
  cases b
  ·skip
   have hI:2<t.ks.length:=by have:=oV.out;omega
   have hI1:(2:Int)<(t.ks.length:Int):=by omega
   obtain⟨a,u,Au,cu,rfl,-,hu,⟨p0,p1,p2,p3⟩,hnu⟩:=ae.out.nd hI;have fT:kid t 2=u:=by unfold kid;rw[List.getD_eq_getElem?_getD,List.getElem?_eq_getElem hI];exact hu.out
   have sM:=zh (show ∀x∈u.ks,G C.p.prs x by rw[<-fT];exact hG2);have gH:=zh (show brO C.p.prs C.F g back t r=(runO C.p.prs C.F g back u r1).bind (zkw C.F t2 false) by rw[fB.out];simp only[Bool.false_eq_true,if_false,if_true,fT]);have hgu:runO C.p.prs C.F g back u r1 ≠ .gas:=fun e=>di.out (by rw[gH.out,e];rfl);have aA:=zh (zk7 HS.out lD.out HR4.out u _ back hnu sM.out hgu);have ha:a.add (2*4)=⟨a.block,a.off+8,none⟩:=by unfold Addr.add;split<;>simp_all
   rw[ha]at p0 p1 p2 p3;have q0:w4.cell? ⟨a.block,a.off+8,none⟩=some (.int .u8 u.k):=zb av.out p0;have q1:w4.cell? ⟨a.block,a.off+8+1,none⟩=some (.int .i64 u.n):=zb av.out p1;have q2:w4.cell? ⟨a.block,a.off+8+2,none⟩=some (.string u.s):=zb av.out p2;have q3:w4.cell? ⟨a.block,a.off+8+3,none⟩=some (.slice Au u.ks.length cu):=zb av.out p3;clear fT hnu hu p0 p1 p2 p3 hgu;go_wp2_with fail;refine aA.out.mono ?_;rintro e w5 ⟨hk5,hb5,eF⟩;have dM:=zh (dW.out.trans (Kpt.less (C:=C) hk5));have ay:=zh (show Below C.w.heap.size C.w w5 from hb5);have cz:match runO C.p.prs C.F g back u r1 with
    | .gas=>True
    | .err x=>e=zlv x
    | .ok r=>(∃u,e=.returned u)/\RI (C.plus W.heap.size hi) w5 r:=eF
   have k5:=hk5.blk (.inr (.inr ⟨by omega,l2⟩)) K5.out;have K6:=zh k5;clear q0 q1 q2 q3 z3 hk5 hb5 eF k5
   cases hx:runO C.p.prs C.F g back u r1 with
   | gas=>exact absurd (by rw[gH.out,hx];rfl) di.out
   | err x =>
    rw[hx]at cz;subst cz;refine⟨rfl,dM.out,ay.out,?_⟩;rw[gH.out,hx];rfl
   | ok r2 =>
    rw[hx]at cz;obtain⟨⟨u2,rfl⟩,hr2⟩:=cz;have HAS:=zh (zmF lD.out hr2 t2 _ aJ.out false);have jF:=zh (show brO C.p.prs C.F g back t r=zkw C.F t2 false r2 by rw[gH.out,hx];rfl);have q0:w5.cell? ⟨w2.heap.size+1,0,none⟩=some (.int .u8 t2.k):=zc K6.out rfl;have q1:w5.cell? ⟨w2.heap.size+1,1,none⟩=some (.int .i64 t2.n):=zc K6.out rfl;have q2:w5.cell? ⟨w2.heap.size+1,2,none⟩=some (.string t2.s):=zc K6.out rfl;have q3:w5.cell? ⟨w2.heap.size+1,3,none⟩=some (.slice A2 t2.ks.length c2):=zc K6.out rfl;clear hx hr2;go_wp2_with fail;refine HAS.out.mono ?_;rintro e w6 ⟨bE,hb6,gL⟩;have eT:=zh (dM.out.trans (Kpt.less (C:=C) bE));have aR:=zh (show Below C.w.heap.size C.w w6 from hb6);have bZ:match zkw C.F t2 false r2 with
     | .gas=>True
     | .err x=>e=zlv x
     | .ok r=>(∃u,e=.returned u)/\RI (C.plus W.heap.size hi) w6 r:=gL
    clear q0 q1 q2 q3 bE hb6 gL
    cases hy:zkw C.F t2 false r2 with
    | gas=>exact absurd (by rw[jF.out,hy]) di.out
    | err x =>
     rw[hy]at bZ;subst bZ;refine⟨rfl,eT.out,aR.out,?_⟩;rw[jF.out,hy]
    | ok r3 =>
     rw[hy]at bZ;obtain⟨⟨u3,rfl⟩,hr3⟩:=bZ;have gy:=zh hr3.less;have sV:=zh (show brO C.p.prs C.F g back t r=.ok r3 by rw[jF.out,hy]);clear hr3 hy;go_wp2_with fail;go_end0;refine⟨eT.out,aR.out,?_⟩;rw[sV.out];exact⟨⟨_,rfl⟩,gy.out⟩
  ·skip
   have hI:1<t.ks.length:=by have:=oV.out;omega
   have hI1:(1:Int)<(t.ks.length:Int):=by omega
   obtain⟨a,u,Au,cu,rfl,-,hu,⟨p0,p1,p2,p3⟩,hnu⟩:=ae.out.nd hI;have fT:kid t 1=u:=by unfold kid;rw[List.getD_eq_getElem?_getD,List.getElem?_eq_getElem hI];exact hu.out
   have sM:=zh (show ∀x∈u.ks,G C.p.prs x by rw[<-fT];exact hG1);have gH:=zh (show brO C.p.prs C.F g back t r=(runO C.p.prs C.F g back u r1).bind (zkw C.F t2 true) by rw[fB.out];simp only[Bool.false_eq_true,if_false,if_true,fT]);have hgu:runO C.p.prs C.F g back u r1 ≠ .gas:=fun e=>di.out (by rw[gH.out,e];rfl);have aA:=zh (zk7 HS.out lD.out HR4.out u _ back hnu sM.out hgu);have ha:a.add (1*4)=⟨a.block,a.off+4,none⟩:=by unfold Addr.add;split<;>simp_all
   rw[ha]at p0 p1 p2 p3;have q0:w4.cell? ⟨a.block,a.off+4,none⟩=some (.int .u8 u.k):=zb av.out p0;have q1:w4.cell? ⟨a.block,a.off+4+1,none⟩=some (.int .i64 u.n):=zb av.out p1;have q2:w4.cell? ⟨a.block,a.off+4+2,none⟩=some (.string u.s):=zb av.out p2;have q3:w4.cell? ⟨a.block,a.off+4+3,none⟩=some (.slice Au u.ks.length cu):=zb av.out p3;clear fT hnu hu p0 p1 p2 p3 hgu;go_wp2_with fail;refine aA.out.mono ?_;rintro e w5 ⟨hk5,hb5,eF⟩;have dM:=zh (dW.out.trans (Kpt.less (C:=C) hk5));have ay:=zh (show Below C.w.heap.size C.w w5 from hb5);have cz:match runO C.p.prs C.F g back u r1 with
    | .gas=>True
    | .err x=>e=zlv x
    | .ok r=>(∃u,e=.returned u)/\RI (C.plus W.heap.size hi) w5 r:=eF
   have k5:=hk5.blk (.inr (.inr ⟨by omega,l2⟩)) K5.out;have K6:=zh k5;clear q0 q1 q2 q3 z3 hk5 hb5 eF k5
   cases hx:runO C.p.prs C.F g back u r1 with
   | gas=>exact absurd (by rw[gH.out,hx];rfl) di.out
   | err x =>
    rw[hx]at cz;subst cz;refine⟨rfl,dM.out,ay.out,?_⟩;rw[gH.out,hx];rfl
   | ok r2 =>
    rw[hx]at cz;obtain⟨⟨u2,rfl⟩,hr2⟩:=cz;have HAS:=zh (zmF lD.out hr2 t2 _ aJ.out true);have jF:=zh (show brO C.p.prs C.F g back t r=zkw C.F t2 true r2 by rw[gH.out,hx];rfl);have q0:w5.cell? ⟨w2.heap.size+1,0,none⟩=some (.int .u8 t2.k):=zc K6.out rfl;have q1:w5.cell? ⟨w2.heap.size+1,1,none⟩=some (.int .i64 t2.n):=zc K6.out rfl;have q2:w5.cell? ⟨w2.heap.size+1,2,none⟩=some (.string t2.s):=zc K6.out rfl;have q3:w5.cell? ⟨w2.heap.size+1,3,none⟩=some (.slice A2 t2.ks.length c2):=zc K6.out rfl;clear hx hr2;go_wp2_with fail;refine HAS.out.mono ?_;rintro e w6 ⟨bE,hb6,gL⟩;have eT:=zh (dM.out.trans (Kpt.less (C:=C) bE));have aR:=zh (show Below C.w.heap.size C.w w6 from hb6);have bZ:match zkw C.F t2 true r2 with
     | .gas=>True
     | .err x=>e=zlv x
     | .ok r=>(∃u,e=.returned u)/\RI (C.plus W.heap.size hi) w6 r:=gL
    clear q0 q1 q2 q3 bE hb6 gL
    cases hy:zkw C.F t2 true r2 with
    | gas=>exact absurd (by rw[jF.out,hy]) di.out
    | err x =>
     rw[hy]at bZ;subst bZ;refine⟨rfl,eT.out,aR.out,?_⟩;rw[jF.out,hy]
    | ok r3 =>
     rw[hy]at bZ;obtain⟨⟨u3,rfl⟩,hr3⟩:=bZ;have gy:=zh hr3.less;have sV:=zh (show brO C.p.prs C.F g back t r=.ok r3 by rw[jF.out,hy]);clear hr3 hy;go_wp2_with fail;go_end0;refine⟨eT.out,aR.out,?_⟩;rw[sV.out];exact⟨⟨_,rfl⟩,gy.out⟩
def Up(n:Nat)(o:Out):Prop:=∀r,o=.ok r->n<=r.n
section
variable {m n:Nat} {o:Out} {F:Int} {t:T} {r:RS}
theorem Up.of(h:Good n o):Up n o:=h.2
theorem Up.mono(h:Up n o)(hm:m<=n):Up m o:=fun r e=>Nat.le_trans hm (h r e)
theorem Up.bind{f:RS->Out}(h:Up n o)(hf:∀r,n<=r.n->Up m (f r)):Up m (o.bind f):=by
 cases o with
 | gas=>intro r e;cases e
 | err x=>intro r e;cases e
 | ok r=>exact hf r (h r rfl)
theorem zqm{f:Int->RS->Out}(hf:∀x,Up m (f x r)):Up m (valO t r f):=by
 unfold valO
 split
 ·intro r e;cases e
 ·exact hf _
theorem zn9{f:Bool->RS->Out}(hf:∀b r',r.n+1<=r'.n->Up m (f b r')):Up m (zld F t r f):=by
 unfold zld;exact(Up.of (zks F r)).bind fun r' h=>zqm fun x=>hf _ _ h
theorem zmE{f:T->RS->Out}(hf:∀t r,Up r.n (f t r)):∀(l:List T) (r:RS),Up r.n (zla f l r)
 | [],r=>fun r' e=>by injection e with e;subst e;exact zl
 | t::ts,r=>by
  rw[zla];exact(hf t r).bind fun r1 h1=>(zmE hf ts r1).mono h1
theorem zrh{f:T->RS->Out}(hf:∀t r,Up r.n (f t r)){entry test:T}{l1 l2:List T}:∀(m:Nat) (r:RS),Up r.n (zmf F f entry test l1 l2 m r)
 | 0,_=>fun r' e=>by cases e
 | m+1,r=>by
  rw[zmf];refine(zmE hf l1 r).bind fun r1 h1=>zn9 fun b r2 h2=>?_
  split
  ·intro r' e;injection e with e;subst e;omega
  ·refine(zmE hf l2 r2).bind fun r3 h3=>(Up.of (zk9 F entry false r3)).bind fun r4 h4=>?_;exact(zrh hf m r4).mono (by omega)
end
theorem znJ{prs:List PR}{F:Int}:∀(g:Nat) (back:Bool) (t:T) (r:RS),Up r.n (zkA prs F g back t r)
 | 0,_,_,_=>fun r' e=>by cases e
 | g+1,back,t,r=>by
  have hb:∀(back:Bool) l r1,Up r1.n (zla (zkA prs F g back) l r1):=fun back l r1=>zmE (fun u r2=>znJ g back u r2) l r1;rw[zkA]
  split
  ·exact zn9 fun b r1 h1=>(hb _ _ r1).bind fun r2 h2=>(Up.of (zk9 _ _ _ _)).mono (by omega)
  ·split
   ·refine(Up.of (zk9 _ _ _ _)).bind fun r1 h1=>?_;exact(zrh (fun u r2=>znJ g back u r2) g r1).mono (by omega)
   ·split
    ·refine(Up.of (zks F r)).bind fun r1 h1=>zqm fun x=>?_;refine(Up.of (zkB r1 _)).bind fun r2 h2=>(hb _ _ r2).bind fun r3 h3=>(Up.of (zks F r3)).bind fun r4 h4=>zqm fun x=>?_;exact(Up.of (zkB r4 _)).mono (by omega)
    ·split
     ·refine(Up.of (zks F r)).bind fun r1 h1=>?_;refine(Up.of (zkB r1 _)).bind fun r2 h2=>(hb _ _ r2).bind fun r3 h3=>(Up.of (zks F r3)).bind fun r4 h4=>?_;exact(Up.of (zkB r4 _)).mono (by omega)
     ·split
      ·split
       ·intro r' e;cases e
       ·refine(Up.of (zks F r)).bind fun r1 h1=>?_;refine(Up.of (zkB r1 _)).bind fun r2 h2=>(hb _ _ _).bind fun r3 h3=>(Up.of (zks F r3)).bind fun r4 h4=>?_;exact(Up.of (zkB r4 _)).mono (by simp only at h3;omega)
      ·refine(Up.of (zks F r)).bind fun r1 h1=>?_;exact(Up.of (zkB r1 _)).mono (by omega)
def lpO(prs:List PR)(F:Int)(g:Nat)(back:Bool)(t:T)(r:RS):Out :=
 (zkw F (fstT back t) true r).bind (zmf F (zkA prs F g back) (fstT back t) (lstT back t) (blkL back (kid t 1)) (blkL back (kid t 2)) g)
def stp(rb:Nat)(W:World):Nat:=match W.cell? ⟨rb,7,none⟩with
 | some (.int _ n)=>n.toNat
 | _=>0
theorem zwe{C:RC}{W:World}{r:RS}(h:RI C W r):stp C.rb W=r.n:=by
 unfold stp;rw[h.cells.2.1];simp
theorem zuY{G:List PR->T->Prop}{g:Nat}(hS:IStC G g){C:RC}(hC:C.Ok){W:World}{r:RS}(h:RI C W r)(t:T)(v:Value)(back:Bool)(hv:NV C.w Any t v)(hk:t.ks.length=4)(hG1:∀u∈(kid t 1).ks,G C.p.prs u)(hG2:∀u∈(kid t 2).ks,G C.p.prs u)
  (aF:lpO C.p.prs C.F g back t r ≠ .gas) :
  Calls Tryz.prog 165 #[.pointer (some ⟨C.rb,0,none⟩),v,.bool back] W (RunP C W (lpO C.p.prs C.F g back t r)):=by
 obtain⟨A,c,rfl,-,hlk,hlc,hrow⟩:=hv.open_;have ae:=zh hrow;have HS:=zh hS;have HV:=zh hv;have hb0:=zkc (zs W) (.cells #[.int .u8 t.k,.int .i64 t.n,.string t.s,.slice A t.ks.length c] 24);obtain⟨x0,x1,x2,x3⟩:=box4 (heap_alloc_new W (.cells #[.int .u8 t.k,.int .i64 t.n,.string t.s,.slice A t.ks.length c] 24));have HB0:=zh hb0;have H:=zh h;have HC:=zh hC;have HX:=zh (heap_alloc_new W (.cells #[.int .u8 t.k,.int .i64 t.n,.string t.s,.slice A t.ks.length c] 24));have mP:=zh (fun w' (hb:Below W.heap.size W w')=>zpt t _ back C.w w' (zkb h.below hb) hv (by omega));have oV:=zh hk;clear hrow hS hb0 h hv hk hC hlk;go_enter Tryz.func165,Tryz.ntmps165;go_wp2_with fail;refine(mP.out _ HB0.out).mono ?_;rintro e w2 ⟨v1,v2,rfl,n1,n2,b2⟩;obtain⟨t1,ht1⟩:=zX (fstT back t);obtain⟨t2,ht2⟩:=zX (lstT back t);have HT1:=zh ht1;have HT2:=zh ht2;rw[ht1]at n1;rw[ht2]at n2;obtain⟨A1,c1,rfl,-⟩:=n1.open_
 obtain⟨A2,c2,rfl,-⟩:=n2.open_;have mH:=zh n1;have aJ:=zh n2;have b3:=zkc (zkc (zkb HB0.out b2) (.cells #[.int .u8 t1.k,.int .i64 t1.n,.string t1.s,.slice A1 t1.ks.length c1] 24)) (.cells #[.int .u8 t2.k,.int .i64 t2.n,.string t2.s,.slice A2 t2.ks.length c2] 24);have k0:=zke (zke (zka HX.out b2) (.cells #[.int .u8 t1.k,.int .i64 t1.n,.string t1.s,.slice A1 t1.ks.length c1] 24)) (.cells #[.int .u8 t2.k,.int .i64 t2.n,.string t2.s,.slice A2 t2.ks.length c2] 24);have k1:=zke (heap_alloc_new w2 (.cells #[.int .u8 t1.k,.int .i64 t1.n,.string t1.s,.slice A1 t1.ks.length c1] 24)) (.cells #[.int .u8 t2.k,.int .i64 t2.n,.string t2.s,.slice A2 t2.ks.length c2] 24);have k2:=heap_alloc_new (w2.alloc (.cells #[.int .u8 t1.k,.int .i64 t1.n,.string t1.s,.slice A1 t1.ks.length c1] 24)) (.cells #[.int .u8 t2.k,.int .i64 t2.n,.string t2.s,.slice A2 t2.ks.length c2] 24)
 simp only[World.size_alloc]at k2;obtain⟨w3,hw3⟩:=zX ((w2.alloc (.cells #[.int .u8 t1.k,.int .i64 t1.n,.string t1.s,.slice A1 t1.ks.length c1] 24)).alloc (.cells #[.int .u8 t2.k,.int .i64 t2.n,.string t2.s,.slice A2 t2.ks.length c2] 24));rw[hw3]at b3 k0 k1 k2;have hz2:=zkb HB0.out b2;have hzz:=hz2.size;obtain⟨df,h3⟩:=H.out.plus HC.out b3;have bU:=zh (Kpt.of_below (n0:=C.n0) (kb:=C.kb) b3);have l0:=zki k0;have l1:=zki k1;have l2:=zki k2;obtain⟨hi,hhi⟩:=zX (w3.heap.size);rw[hhi]at df h3 l0 l1 l2;have lD:=zh df;have H3:=zh h3;have K0:=zh k0;have K1:=zh k1;have K2:=zh k2;have iI:=zh (zmF df h3 t1 _ n1 true)
 obtain⟨p1,⟨y0,y1,y2,y3⟩⟩:True/\(w3.cell? ⟨w2.heap.size,0,none⟩=some (.int .u8 t1.k)/\w3.cell? ⟨w2.heap.size,1,none⟩=some (.int .i64 t1.n)/\w3.cell? ⟨w2.heap.size,2,none⟩=some (.string t1.s)/\w3.cell? ⟨w2.heap.size,3,none⟩=some (.slice A1 t1.ks.length c1)):=⟨trivial,zc k1 rfl,zc k1 rfl,zc k1 rfl,zc k1 rfl⟩
 clear n1 n2 b2 b3 k0 k1 k2 hz2 df h3 x0 x1 x2 x3 HX HB0 mP p1 ht1 ht2;go_upto_region 2 with fail;clear hw3;obtain⟨o,ho⟩:=zX (lpO C.p.prs C.F g back t r);have HO:=zh (show(zkw C.F t1 true r).bind (zmf C.F (zkA C.p.prs C.F g back) t1 t2 (blkL back (kid t 1)) (blkL back (kid t 2)) g)=o by rw[<-ho];unfold lpO;rw[HT1.out,HT2.out]);rw[ho]at aF ⊢;have di:=zh aF;have bN:=zh ho;clear aF ho;go_wp2_with fail;refine iI.out.mono ?_;rintro e w4 ⟨hk4,hb4,cB⟩;have dW:=zh (bU.out.trans (Kpt.less (C:=C) hk4));have av:=zh (show Below C.w.heap.size C.w w4 from hb4);have bu:match zkw C.F t1 true r with
  | .gas=>True
  | .err x=>e=zlv x
  | .ok r=>(∃u,e=.returned u)/\RI (C.plus W.heap.size hi) w4 r:=cB
 have dN:=zh hk4;clear y0 y1 y2 y3 iI hk4 hb4 cB
 cases hy:zkw C.F t1 true r with
 | gas=>exact absurd (by rw[<-HO.out,hy];rfl) di.out
 | err x =>
  rw[hy]at bu;subst bu;refine⟨rfl,dW.out,av.out,?_⟩;rw[<-HO.out,hy];rfl
 | ok r1 =>
  rw[hy]at bu;obtain⟨⟨u3,rfl⟩,hr1⟩:=bu;have HR4:=zh hr1;have iP:=zh (show zmf C.F (zkA C.p.prs C.F g back) t1 t2 (blkL back (kid t 1)) (blkL back (kid t 2)) g r1=o by rw[<-HO.out,hy];rfl);clear hr1 hy;have hI1:(1:Int)<(t.ks.length:Int):=by have:=oV.out;omega
  have hI2:(2:Int)<(t.ks.length:Int):=by have:=oV.out;omega
  have hi1:1<t.ks.length:=by omega
  have hi2:2<t.ks.length:=by omega
  obtain⟨a,u,Au,cu,rfl,-,hu,⟨p0,p1,p2,p3⟩,hnu⟩:=ae.out.nd hi1;obtain⟨a',u',Au',cu',e',-,hu',⟨p4,p5,p6,p7⟩,hnu'⟩:=ae.out.nd hi2;injection e' with e';subst e';have fT:kid t 1=u:=by unfold kid;rw[List.getD_eq_getElem?_getD,List.getElem?_eq_getElem hi1];exact hu.out
  have qM:kid t 2=u':=by unfold kid;rw[List.getD_eq_getElem?_getD,List.getElem?_eq_getElem hi2];exact hu'.out
  rw[fT]at hG1;rw[qM]at hG2;rw[fT,qM]at iP;have xw:=zh hG1;have HG2:=zh hG2;have vL:=zh hnu;have HNU':=zh hnu';have ha:a.add (1*4)=⟨a.block,a.off+4,none⟩:=by unfold Addr.add;split<;>simp_all
  have ha':a.add (2*4)=⟨a.block,a.off+8,none⟩:=by unfold Addr.add;split<;>simp_all
  rw[ha]at p0 p1 p2 p3;rw[ha']at p4 p5 p6 p7;have HPP:=zh (show ∀w',Below C.w.heap.size C.w w'->(w'.cell? ⟨a.block,a.off+4,none⟩=some (.int .u8 u.k)/\w'.cell? ⟨a.block,a.off+4+1,none⟩=some (.int .i64 u.n)/\w'.cell? ⟨a.block,a.off+4+2,none⟩=some (.string u.s)/\w'.cell? ⟨a.block,a.off+4+3,none⟩=some (.slice Au u.ks.length cu))/\(w'.cell? ⟨a.block,a.off+8,none⟩=some (.int .u8 u'.k)/\w'.cell? ⟨a.block,a.off+8+1,none⟩=some (.int .i64 u'.n)/\w'.cell? ⟨a.block,a.off+8+2,none⟩=some (.string u'.s)/\w'.cell? ⟨a.block,a.off+8+3,none⟩=some (.slice Au' u'.ks.length cu'))from fun w' hb=>⟨⟨zb hb p0,zb hb p1,zb hb p2,zb hb p3⟩,⟨zb hb p4,zb hb p5,zb hb p6,zb hb p7⟩⟩);clear fT qM hnu hnu' hu hu' p0 p1 p2 p3 p4 p5 p6 p7 ha ha' hG1 hG2;have hz0:W.heap.size<hi:=l0;go_wp2_with fail
  go_loopw [] (fun wr=>∃(m:Nat) (r1:RS),Hid (RI (C.plus W.heap.size hi) wr r1)/\Hid (Kpt C.n0 (C.plus W.heap.size hi).kb w3 wr)/\Hid (zmf C.F (zkA C.p.prs C.F g back) t1 t2 (blkL back u) (blkL back u') m r1=o)) (fun wr=>C.F.toNat-stp C.rb wr)
  case atStart=>exact⟨g,r1,HR4,dN,iP⟩
  case round =>
   obtain⟨m,r3,HR,HK,HL⟩:=hrel;have j0:=HK.out.blk (.inr (.inr ⟨by omega,l0⟩)) K0.out;have j1:=HK.out.blk (.inr (.inr ⟨by omega,l1⟩)) K1.out;have j2:=HK.out.blk (.inr (.inr ⟨by omega,l2⟩)) K2.out;have z3:wr.cell? ⟨W.heap.size,3,none⟩=some (.slice (some a) t.ks.length c):=zc j0 rfl
   cases m with
   | zero=>exact absurd HL.out.symm di.out
   | succ m =>
    have HL2:=zh (show(runO C.p.prs C.F g back u r3).bind (fun r=>zld C.F t2 r fun b r=>if b=true then .ok r else(runO C.p.prs C.F g back u' r).bind fun r=>(zkw C.F t1 false r).bind (zmf C.F (zkA C.p.prs C.F g back) t1 t2 (blkL back u) (blkL back u') m))=o from HL.out);have hgu:runO C.p.prs C.F g back u r3 ≠ .gas:=fun e=>di.out (by rw[<-HL2.out,e];rfl);have aA:=zh (zk7 HS.out lD.out HR.out u _ back vL.out xw.out hgu);obtain⟨⟨q0,q1,q2,q3⟩,-⟩:=HPP.out wr HR.out.below;clear hgu j0 j1 j2;go_wp2_with fail;refine aA.out.mono ?_;rintro e w5 ⟨hk5,hb5,eF⟩;have dM:=zh (HK.out.trans hk5);have ay:=zh (show Below C.w.heap.size C.w w5 from hb5);have cz:match runO C.p.prs C.F g back u r3 with
     | .gas=>True
     | .err x=>e=zlv x
     | .ok r=>(∃u,e=.returned u)/\RI (C.plus W.heap.size hi) w5 r:=eF
    clear q0 q1 q2 q3 z3 hk5 hb5 eF aA
    cases hx:runO C.p.prs C.F g back u r3 with
    | gas=>exact absurd (by rw[<-HL2.out,hx];rfl) di.out
    | err x =>
     rw[hx]at cz;subst cz;refine⟨rfl,bU.out.trans (Kpt.less (C:=C) dM.out),ay.out,?_⟩
     try rw[bN.out]
     rw[<-HL2.out,hx];rfl
    | ok r4 =>
     rw[hx]at cz;obtain⟨⟨u2,rfl⟩,hr4⟩:=cz;have yF:=zh (zmE (fun t r=>znJ g back t r) (blkL back u) r3 r4 hx);have qd:=zh (show(zld C.F t2 r4 fun b r=>if b=true then .ok r else(runO C.p.prs C.F g back u' r).bind fun r=>(zkw C.F t1 false r).bind (zmf C.F (zkA C.p.prs C.F g back) t1 t2 (blkL back u) (blkL back u') m))=o by rw[<-HL2.out,hx];rfl);have HHO2:=zh (zn8 lD.out hr4 t2 _ aJ.out);have j2:=dM.out.blk (.inr (.inr ⟨by omega,l2⟩)) K2.out;have q0:w5.cell? ⟨w2.heap.size+1,0,none⟩=some (.int .u8 t2.k):=zc j2 rfl;have q1:w5.cell? ⟨w2.heap.size+1,1,none⟩=some (.int .i64 t2.n):=zc j2 rfl;have q2:w5.cell? ⟨w2.heap.size+1,2,none⟩=some (.string t2.s):=zc j2 rfl;have q3:w5.cell? ⟨w2.heap.size+1,3,none⟩=some (.slice A2 t2.ks.length c2):=zc j2 rfl;clear hx hr4 j2;go_wp2_with fail;refine HHO2.out.mono ?_;rintro e w6 ⟨bE,hb6,gL⟩;have eT:=zh (dM.out.trans bE)
     have aR:=zh (show Below C.w.heap.size C.w w6 from hb6);clear q0 q1 q2 q3 bE hb6 HHO2;rcases gL with⟨x,rfl,hx⟩|⟨b,r5,rfl,jX,hx⟩
     ·refine⟨rfl,bU.out.trans (Kpt.less (C:=C) eT.out),aR.out,?_⟩
      try rw[bN.out]
      rw[<-qd.out,show ∀f,zld C.F t2 r4 f=.err x from hx]
     ·have gy:=zh jX;have HL4:=zh (show(if b=true then .ok r5 else(runO C.p.prs C.F g back u' r5).bind fun r=>(zkw C.F t1 false r).bind (zmf C.F (zkA C.p.prs C.F g back) t1 t2 (blkL back u) (blkL back u') m))=o by rw[<-qd.out,show ∀f,zld C.F t2 r4 f=f b r5 from hx]);have HUP2:=zh (zn9 (t:=t2) (F:=C.F) (r:=r4) (m:=r4.n+1) (f:=fun _ r=>.ok r) (fun b r' h r'' e=>by injection e with e;subst e;exact h) r5 (hx _));clear hx jX
      cases b
      ·have ui:=zh (show(runO C.p.prs C.F g back u' r5).bind (fun r=>(zkw C.F t1 false r).bind (zmf C.F (zkA C.p.prs C.F g back) t1 t2 (blkL back u) (blkL back u') m))=o from HL4.out);have hgu:runO C.p.prs C.F g back u' r5 ≠ .gas:=fun e=>di.out (by rw[<-ui.out,e];rfl);have aA:=zh (zk7 HS.out lD.out gy.out u' _ back HNU'.out HG2.out hgu);have j0:=eT.out.blk (.inr (.inr ⟨by omega,l0⟩)) K0.out;have z3:w6.cell? ⟨W.heap.size,3,none⟩=some (.slice (some a) t.ks.length c):=zc j0 rfl;obtain⟨-,q0,q1,q2,q3⟩:=HPP.out w6 aR.out;clear hgu j0;go_wp2_with fail;refine aA.out.mono ?_;rintro e w7 ⟨jK,dz,gK⟩;have sF:=zh (eT.out.trans jK);have sW:=zh (show Below C.w.heap.size C.w w7 from dz);have nT:match runO C.p.prs C.F g back u' r5 with
        | .gas=>True
        | .err x=>e=zlv x
        | .ok r=>(∃u,e=.returned u)/\RI (C.plus W.heap.size hi) w7 r:=gK
       clear q0 q1 q2 q3 z3 jK dz gK aA
       cases hx:runO C.p.prs C.F g back u' r5 with
       | gas=>exact absurd (by rw[<-ui.out,hx];rfl) di.out
       | err x =>
        rw[hx]at nT;subst nT;refine⟨rfl,bU.out.trans (Kpt.less (C:=C) sF.out),sW.out,?_⟩
        try rw[bN.out]
        rw[<-ui.out,hx];rfl
       | ok r6 =>
        rw[hx]at nT;obtain⟨⟨u2,rfl⟩,dJ⟩:=nT;have HUP3:=zh (zmE (fun t r=>znJ g back t r) (blkL back u') r5 r6 hx);have yS:=zh (show(zkw C.F t1 false r6).bind (zmf C.F (zkA C.p.prs C.F g back) t1 t2 (blkL back u) (blkL back u') m)=o by rw[<-ui.out,hx];rfl);have HAS:=zh (zmF lD.out dJ t1 _ mH.out false);have j1:=sF.out.blk (.inr (.inr ⟨by omega,l1⟩)) K1.out;have q0:w7.cell? ⟨w2.heap.size,0,none⟩=some (.int .u8 t1.k):=zc j1 rfl;have q1:w7.cell? ⟨w2.heap.size,1,none⟩=some (.int .i64 t1.n):=zc j1 rfl;have q2:w7.cell? ⟨w2.heap.size,2,none⟩=some (.string t1.s):=zc j1 rfl;have q3:w7.cell? ⟨w2.heap.size,3,none⟩=some (.slice A1 t1.ks.length c1):=zc j1 rfl;clear hx dJ j1;go_wp2_with fail;refine HAS.out.mono ?_;rintro e w8 ⟨ig,bJ,pK⟩;have oW:=zh (sF.out.trans ig);have bD:=zh (show Below C.w.heap.size C.w w8 from bJ)
        have bY:match zkw C.F t1 false r6 with
         | .gas=>True
         | .err x=>e=zlv x
         | .ok r=>(∃u,e=.returned u)/\RI (C.plus W.heap.size hi) w8 r:=pK
        clear q0 q1 q2 q3 ig bJ pK HAS
        cases hy:zkw C.F t1 false r6 with
        | gas=>exact absurd (by rw[<-yS.out,hy];rfl) di.out
        | err x =>
         rw[hy]at bY;subst bY;refine⟨rfl,bU.out.trans (Kpt.less (C:=C) oW.out),bD.out,?_⟩
         try rw[bN.out]
         rw[<-yS.out,hy];rfl
        | ok r7 =>
         rw[hy]at bY;obtain⟨⟨u3,rfl⟩,qH⟩:=bY;have pX:=zh qH;have HL7:=zh (show zmf C.F (zkA C.p.prs C.F g back) t1 t2 (blkL back u) (blkL back u') m r7=o by rw[<-yS.out,hy];rfl);have hmm:C.F.toNat-stp C.rb w8<C.F.toNat-stp C.rb wr:=by
          have e1:stp C.rb w8=r7.n:=zwe (C:=C.plus W.heap.size hi) pX.out;have e2:stp C.rb wr=r3.n:=zwe (C:=C.plus W.heap.size hi) HR.out;obtain⟨e3,e4⟩:=znn hy;have e5:=yF.out;have e6:=HUP2.out;have e7:=HUP3.out;have e8:r7.n=r6.n+1:=by rw[e3]
          omega
         have uh:=zh hmm;clear qH hy hmm;go_wp2_with fail
         go_roundw
         case rel=>exact⟨m,r7,pX,oW,HL7⟩
         case measure=>exact uh.out
      ·have ui:=zh (show o=.ok r5 from HL4.out.symm);have nI:=zh gy.out.less;go_wp2_with fail;go_end0;refine⟨bU.out.trans (Kpt.less (C:=C) eT.out),aR.out,?_⟩
       try rw[bN.out]
       rw[ui.out];exact⟨⟨_,rfl⟩,nI.out⟩
section
variable {C:RC} {W W':World} {r:RS} {S':ST}
theorem RI.store(h:RI C W r)(hk:KS C.w C.n0 C.sb (fun b=>C.kb b\/b=C.rb\/C.ev.ownBlock=some b) W' S')(hp:Kpt C.n0 (fun b=>C.kb b\/b=C.rb\/C.ev.ownBlock=some b) W W')(hf:FB r.n S') :
  RI C W' { r with S:=S' }/\Kpt C.n0 C.kb W W' :=
 ⟨⟨hk,hp.blk (.inr (.inr (.inl rfl))) h.box,zn0 h.ent fun b hb=>hp.kept b (h.ent.lt b hb).2 (.inr (.inr (.inr hb))),h.el,h.en,h.n,hf⟩,⟨hp.size,fun b hb hk=>hp.kept b hb (hk.imp id .inl)⟩⟩
end
theorem FB.fr{j:Nat}{S S':ST}(h:FB j S)(hf:FrK S S'):FB (j+1) S':=by
 obtain⟨h1,h2,_⟩:=hf;unfold FB;rw[h1,h2];exact h.mono (Nat.le_succ _)
theorem FB.cur{j:Nat}{S:ST}(h:FB j S):S.cur.vs.length<=1000+j:=by
 rcases Nat.eq_zero_or_pos S.calls.length with h0|h0
 ·rw[zm7 h0];have:=h.1;omega
 ·rw[zm6 h0];exact h.2 _ (List.getElem_mem _)
theorem FB.setCur{j:Nat}{S:ST}(h:FB j S)(f:FR)(hf:f.vs.length<=S.cur.vs.length+1):FB (j+1) (S.setCur f):=by
 unfold ST.setCur;by_cases h0:S.calls.length=0
 ·rw[if_pos h0];rw[zm7 h0]at hf;exact⟨by have:=h.1;show f.vs.length<=_;omega,(h.mono (Nat.le_succ _)).2⟩
 ·rw[if_neg h0];refine⟨(h.mono (Nat.le_succ _)).1,fun g hg=>?_⟩;rw[zm6 (by omega)]at hf;rcases List.mem_or_eq_of_mem_set hg with hg|rfl
  ·exact(h.mono (Nat.le_succ _)).2 g hg
  ·have:=h.2 _ (List.getElem_mem (l:=S.calls) (n:=S.calls.length-1) (by omega));omega
theorem FB.open_{j:Nat}{S:ST}(h:FB j S)(v:VD)(x:Int):FB (j+1) (zl1 S v x).2:=by
 unfold zl1
 repeat' split
 all_goals first|exact h.mono (Nat.le_succ _)|exact FB.setCur (S:=S.newCell _) h _ (by rw[zmL];simp[FR.push])
theorem FB.close_{j:Nat}{S:ST}(h:FB j S)(s:ByteArray)(x:Int):FB (j+1) (zk8 S s x).2:=by
 unfold zk8
 repeat' split
 all_goals first|exact h.mono (Nat.le_succ _)|skip
 all_goals exact h.setCur _ (by simp[FR.pop];omega)
theorem FB.enter{j:Nat}{S:ST}(h:FB j S)(ps:List VD)(ss:List ByteArray)(hp:ps.length<=1000):FB (j+1) (zl4 S ps ss).2:=by
 unfold zl4
 split
 ·exact h.mono (Nat.le_succ _)
 ·rcases he:entL S.cur ⟨[],[],0⟩ (ps.zip ss)with e|f
  ·exact h.mono (Nat.le_succ _)
  ·unfold entR;dsimp only
   split
   ·exact h.mono (Nat.le_succ _)
   ·refine⟨(h.mono (Nat.le_succ _)).1,fun g hg=>?_⟩;rcases List.mem_append.1 hg with hg|hg
    ·exact(h.mono (Nat.le_succ _)).2 g hg
    ·simp at hg;subst hg;have:=zrr _ _ _ he;simp at this;omega
theorem FB.leave{j:Nat}{S:ST}(h:FB j S):FB (j+1) (zmd S).2:=by
 unfold zmd
 split
 ·exact h.mono (Nat.le_succ _)
 ·exact⟨(h.mono (Nat.le_succ _)).1,fun g hg=>(h.mono (Nat.le_succ _)).2 g (List.mem_of_mem_take hg)⟩
theorem FB.do_{j:Nat}{S:ST}(h:FB j S)(t:T):FB (j+1) (doE S t).2:=h.fr (zwq _ _)
theorem FB.undo{j:Nat}{S:ST}(h:FB j S)(t:T):FB (j+1) (zoo S t).2:=h.fr (zuy _ _)
theorem zk1{P:Program}{ops:Array Oper}{o:Oper}{a:Act}{w:World}{K:Act->World->Prop}{Q:Exit->Act->World->Prop}{F:Prop}(hw:Region.wanted o (yielded ops a.tmps)=true)(x:Operand)(xs:List Operand)(ats:Array TypeId)
  (ho:o.op=.call { callee:=.value x,args:=xs.toArray,argTypes:=ats })(f:FuncId)(fn:Func)(hf:IsFn P f fn)(hv:a.eval x=.func (.func f) #[] #[])(l:List Value)(hargs:xs.map a.eval=l)(R:Value->World->Prop)
  (hc:Calls P f l.toArray w fun e w'=>(∃v,e=.returned v/\R v w')\/∃ch,e=.panicked ch/\Q (.panic ch) a w')(h:∀v w',R v w'->K (a.put o.dst v) w') :
  if Region.wanted o (yielded ops a.tmps)=true then Oper.wp P o a w K Q else F:=by
 rw[if_pos hw];subst hargs;have e:(execOp a.eval o).run P w=.ok (.enter f (xs.map a.eval).toArray) w:=by
  unfold execOp;simp only[ho,resolve,hv,Deferred.ofValue,Sem.run_bind,Sem.run_pure,Result.andThen_ok,invoke,zkC hf,Array.empty_append,List.map_toArray,Array.append_empty]
 unfold Oper.wp;rw[e,Oper.upon_enter];refine hc.mono ?_;rintro e w' (⟨v,rfl,hR⟩|⟨ch,rfl,hq⟩)
 ·exact h v w' hR
 ·exact hq
theorem zte:IsFn Tryz.prog 182 Tryz.f182:=⟨Tryz.func182,by kernel_rfl,by kernel_rfl⟩
theorem zl9:IsFn Tryz.prog 168 Tryz.f168:=⟨Tryz.func168,by kernel_rfl,by kernel_rfl⟩
theorem ztj:IsFn Tryz.prog 169 Tryz.f169:=⟨Tryz.func169,by kernel_rfl,by kernel_rfl⟩
theorem zrm:IsFn Tryz.prog 170 Tryz.f170:=⟨Tryz.func170,by kernel_rfl,by kernel_rfl⟩
def loR(prs:List PR)(F:Int)(g:Nat)(back:Bool)(t t2:T)(r:RS):Out :=
 (zla (zkA prs F g back) (blkL back (kid t 1)) r).bind fun r=>(zkD F r).bind fun r=>valO t2 r fun x r=>zkl r (zk8 r.S t.s x)
def loO(prs:List PR)(F:Int)(g:Nat)(back:Bool)(t:T)(r:RS):Out :=
 (zkD F r).bind fun r=>valO (fstT back t) r fun x r=>(zkl r (zl1 r.S ⟨t.s,1,0⟩ x)).bind (loR prs F g back t (lstT back t))
theorem zsZ{G:List PR->T->Prop}{g:Nat}(hS:IStC G g){C:RC}(hC:C.Ok){W:World}{r:RS}(h:RI C W r)(t:T)(v:Value)(back:Bool)(hv:NV C.w Any t v)(hk:t.ks.length=3)(hG1:∀u∈(kid t 1).ks,G C.p.prs u)
  (aF:loO C.p.prs C.F g back t r ≠ .gas) :
  Calls Tryz.prog 166 #[.pointer (some ⟨C.rb,0,none⟩),v,.bool back] W (RunP C W (loO C.p.prs C.F g back t r)):=by
 obtain⟨A,c,rfl,-,hlk,hlc,hrow⟩:=hv.open_;have ae:=zh hrow;have HS:=zh hS;have HV:=zh hv;have hb0:=zkc (zs W) (.cells #[.int .u8 t.k,.int .i64 t.n,.string t.s,.slice A t.ks.length c] 24);obtain⟨x0,x1,x2,x3⟩:=box4 (heap_alloc_new W (.cells #[.int .u8 t.k,.int .i64 t.n,.string t.s,.slice A t.ks.length c] 24));have HB0:=zh hb0;have H:=zh h;have HC:=zh hC;have HX:=zh (heap_alloc_new W (.cells #[.int .u8 t.k,.int .i64 t.n,.string t.s,.slice A t.ks.length c] 24));have mP:=zh (fun w' (hb:Below W.heap.size W w')=>zpt t _ back C.w w' (zkb h.below hb) hv (by omega));have oV:=zh hk;clear hrow hS hb0 h hv hk hC hlk;go_enter Tryz.func166,Tryz.ntmps166;go_wp2_with fail;refine(mP.out _ HB0.out).mono ?_;rintro e w2 ⟨v1,v2,rfl,n1,n2,b2⟩;obtain⟨t1,ht1⟩:=zX (fstT back t);obtain⟨t2,ht2⟩:=zX (lstT back t);have HT1:=zh ht1;have HT2:=zh ht2;rw[ht1]at n1;rw[ht2]at n2;obtain⟨A1,c1,rfl,-⟩:=n1.open_
 obtain⟨A2,c2,rfl,-⟩:=n2.open_;have mH:=zh n1;have aJ:=zh n2;have b3:=zkc (zkc (zkb HB0.out b2) (.cells #[.int .u8 t1.k,.int .i64 t1.n,.string t1.s,.slice A1 t1.ks.length c1] 24)) (.cells #[.int .u8 t2.k,.int .i64 t2.n,.string t2.s,.slice A2 t2.ks.length c2] 24);have k0:=zke (zke (zka HX.out b2) (.cells #[.int .u8 t1.k,.int .i64 t1.n,.string t1.s,.slice A1 t1.ks.length c1] 24)) (.cells #[.int .u8 t2.k,.int .i64 t2.n,.string t2.s,.slice A2 t2.ks.length c2] 24);have k1:=zke (heap_alloc_new w2 (.cells #[.int .u8 t1.k,.int .i64 t1.n,.string t1.s,.slice A1 t1.ks.length c1] 24)) (.cells #[.int .u8 t2.k,.int .i64 t2.n,.string t2.s,.slice A2 t2.ks.length c2] 24);have k2:=heap_alloc_new (w2.alloc (.cells #[.int .u8 t1.k,.int .i64 t1.n,.string t1.s,.slice A1 t1.ks.length c1] 24)) (.cells #[.int .u8 t2.k,.int .i64 t2.n,.string t2.s,.slice A2 t2.ks.length c2] 24)
 simp only[World.size_alloc]at k2;obtain⟨w3,hw3⟩:=zX ((w2.alloc (.cells #[.int .u8 t1.k,.int .i64 t1.n,.string t1.s,.slice A1 t1.ks.length c1] 24)).alloc (.cells #[.int .u8 t2.k,.int .i64 t2.n,.string t2.s,.slice A2 t2.ks.length c2] 24));rw[hw3]at b3 k0 k1 k2;have hz2:=zkb HB0.out b2;have hzz:=hz2.size;obtain⟨df,h3⟩:=H.out.plus HC.out b3;have bU:=zh (Kpt.of_below (n0:=C.n0) (kb:=C.kb) b3);have l0:=zki k0;have l1:=zki k1;have l2:=zki k2;obtain⟨hi,hhi⟩:=zX (w3.heap.size);rw[hhi]at df h3 l0 l1 l2;have lD:=zh df;have H3:=zh h3;have K0:=zh k0;have K1:=zh k1;have K2:=zh k2;have iI:=zh (zlS df h3)
 obtain⟨p1,⟨y0,y1,y2,y3⟩⟩:True/\(w3.cell? ⟨w2.heap.size,0,none⟩=some (.int .u8 t1.k)/\w3.cell? ⟨w2.heap.size,1,none⟩=some (.int .i64 t1.n)/\w3.cell? ⟨w2.heap.size,2,none⟩=some (.string t1.s)/\w3.cell? ⟨w2.heap.size,3,none⟩=some (.slice A1 t1.ks.length c1)):=⟨trivial,zc k1 rfl,zc k1 rfl,zc k1 rfl,zc k1 rfl⟩
 clear n1 n2 b2 b3 k0 k1 k2 hz2 df h3 x0 x1 x2 x3 HX HB0 mP p1 ht1 ht2;go_upto_region 2 with fail;clear hw3;obtain⟨o,ho⟩:=zX (loO C.p.prs C.F g back t r);have HO:=zh (show(zkD C.F r).bind (fun r=>valO t1 r fun x r=>(zkl r (zl1 r.S ⟨t.s,1,0⟩ x)).bind (loR C.p.prs C.F g back t t2))=o by rw[<-ho];unfold loO loR;rw[HT1.out,HT2.out]);rw[ho]at aF ⊢;have di:=zh aF;have bN:=zh ho;clear aF ho;go_wp2_with fail;refine iI.out.mono ?_;rintro e w4 ⟨hk4,hb4,cB⟩;have dW:=zh (bU.out.trans (Kpt.less (C:=C) hk4));have av:=zh (show Below C.w.heap.size C.w w4 from hb4);have bu:match zkD C.F r with
  | .gas=>True
  | .err x=>e=zlv x
  | .ok r=>(∃u,e=.returned u)/\RI (C.plus W.heap.size hi) w4 r:=cB
 have dN:=zh hk4;clear y0 y1 y2 y3 iI hk4 hb4 cB
 cases hy:zkD C.F r with
 | gas=>exact absurd (by rw[<-HO.out,hy];rfl) di.out
 | err x =>
  rw[hy]at bu;subst bu;refine⟨rfl,dW.out,av.out,?_⟩;rw[<-HO.out,hy];rfl
 | ok r1 =>
  rw[hy]at bu;obtain⟨⟨u3,rfl⟩,hr1⟩:=bu;have HR4:=zh hr1;have iP:=zh (show(valO t1 r1 fun x r=>(zkl r (zl1 r.S ⟨t.s,1,0⟩ x)).bind (loR C.p.prs C.F g back t t2))=o by rw[<-HO.out,hy];rfl);have dH:=zh (show FB r.n r1.S/\r1.n=r.n+1 by obtain⟨rfl,-⟩:=zlp hy;exact⟨H.out.fb,rfl⟩);have j0:=dN.out.blk (.inr (.inr ⟨by omega,l0⟩)) K0.out;have j1:=dN.out.blk (.inr (.inr ⟨by omega,l1⟩)) K1.out;have nH:=zh (fun w' (hb:Below w4.heap.size w4 w')=>zpH (hr1.later hb) t1 _ mH.out);have au:=zh (show ∀w',Below w4.heap.size w4 w'->(fun w':World=>zv w' C.rb 6 (.pointer (some ⟨C.sb,0,none⟩))/\zv w' W.heap.size 2 (.string t.s)/\zN4 w' w2.heap.size (.int .u8 t1.k) (.int .i64 t1.n) (.string t1.s) (.slice A1 t1.ks.length c1)) w' from fun w' hb=>⟨zb hb hr1.cells.1,zb hb (zc j0 rfl),zb hb (zc j1 rfl),zb hb (zc j1 rfl),zb hb (zc j1 rfl),zb hb (zc j1 rfl)⟩);have gM:=zh (au.out _ zr.drew)
  clear hr1 hy j0 j1;go_upto_region 3 with fail;have hSS:zW (fun w':World=>zv w' C.rb 6 (.pointer (some ⟨C.sb,0,none⟩))/\zv w' W.heap.size 2 (.string t.s)/\zN4 w' w2.heap.size (.int .u8 t1.k) (.int .i64 t1.n) (.string t1.s) (.slice A1 t1.ks.length c1)) zU w4.drew:=⟨gM.out,trivial⟩
  refine zG hSS 12 ?_;refine zT 0 hSS ?_;refine zT 1 hSS ?_;refine zT 2 hSS ?_;refine zT 3 hSS ?_;refine zT 4 hSS ?_;refine zT 5 hSS ?_;refine zT 6 hSS ?_;refine zT 7 hSS ?_;refine zT 8 hSS ?_;refine zT 9 hSS ?_;have had:Calls Tryz.prog 182 [.pointer (some ⟨C.rb,0,none⟩),nv t1.k t1.n t1.s A1 t1.ks.length c1].toArray w4.drew (ValP (C.plus W.heap.size hi) w4.drew t1 r1):=nH.out _ zr.drew;refine zo 10 fun K hK=>?_;refine zk1 (by rfl) (.func 182) [.tmp 24,.tmp 25] _ (by rfl) 182 _ zte (by rfl) _ (by rfl) (fun v w'=>Below w4.heap.size w4 w'/\∃x,v=.int .i64 x/\I64 x/\∀f,valO t1 r1 f=f x r1) (had.mono ?_) ?_
  ·rintro e y1 ⟨dU,hv1⟩;have b1:=zkb (zs w4).drew dU;rcases hv1 with⟨x,rfl,hx⟩|⟨x,rfl,nN,hx⟩
   ·refine .inr ⟨_,rfl,?_⟩;refine⟨rfl,dW.out.trans (Kpt.of_below b1),zkb av.out b1,?_⟩
    try rw[bN.out]
    rw[<-iP.out,hx]
   ·exact .inl ⟨_,rfl,b1,x,rfl,nN,hx⟩
  rintro v5 w5 ⟨b5,x,rfl,hx,uE⟩;have ay:=zh b5;have rM:=zh hx;have gz:=zh (show(zkl r1 (zl1 r1.S ⟨t.s,1,0⟩ x)).bind (loR C.p.prs C.F g back t t2)=o by rw[<-iP.out,uE]);refine hK.out _ _ ⟨au.out _ b5,trivial⟩ ?_;clear hK K had b5 hx uE hSS nH;(try simp only[zQ]);obtain⟨R,hR⟩:=zX (zl1 r1.S ⟨t.s,1,0⟩ x);have HRR:=zh hR;have jZ:=dH.out.1.cur;have kU:=H.out.n;have had:Calls Tryz.prog 169 [.pointer (some ⟨C.sb,0,none⟩),.agg #[.string t.s,.int .u8 1,.int .i64 0],.int .i64 x].toArray w5 fun e w'=>∃v,e=.returned v/\(v=.int .i64 R.1/\RI (C.plus W.heap.size hi) w' { r1 with S:=R.2 }/\Kpt C.n0 (C.plus W.heap.size hi).kb w5 w') :=
   ((HR4.out.later ay.out).ks.open_ ⟨t.s,1,0⟩ (by obtain⟨_,_,_,hf,-⟩:=HV.out.open_;exact⟨hf.2.2,⟨by simp only;omega,by simp only;omega⟩,⟨by simp only;omega,by simp only;omega⟩⟩) x rM.out (by omega)).mono fun e w' ⟨h1,h2,h3⟩=>⟨_,h1,by rw[hR],(RI.store (C:=C.plus W.heap.size hi) (HR4.out.later ay.out) (hR▸h2) h3 (by rw[dH.out.2,<-hR];exact dH.out.1.open_ _ _))⟩
  refine zo 11 fun K hK=>?_;refine zli (by rfl) (.func 169) [.tmp 20,.tmp 23,.tmp 26] _ (by rfl) 169 _ ztj (by rfl) _ (by rfl) _ had ?_;rintro v6 w6 ⟨rfl,dJ,bE⟩;have fw:=zh (dN.out.trans ((Kpt.of_below ay.out).trans bE));have j0:=fw.out.blk (.inr (.inr ⟨by omega,l0⟩)) K0.out;have j1:=fw.out.blk (.inr (.inr ⟨by omega,l1⟩)) K1.out;have gy:=zh dJ;have ax:(fun w':World=>zv w' C.rb 6 (.pointer (some ⟨C.sb,0,none⟩))/\zv w' W.heap.size 2 (.string t.s)/\zN4 w' w2.heap.size (.int .u8 t1.k) (.int .i64 t1.n) (.string t1.s) (.slice A1 t1.ks.length c1)) w6:=⟨dJ.cells.1,zc j0 rfl,zc j1 rfl,zc j1 rfl,zc j1 rfl,zc j1 rfl⟩
  refine hK.out _ _ ⟨ax,trivial⟩ ?_;have jN:=zh ax;have aR:=zh dJ.below;clear hK K had dJ bE j0 j1 ax gM au;(try simp only[zQ]);have eT:=zh (bU.out.trans (Kpt.less (C:=C) fw.out));rw[hR]at gz;have had:=zk3 ⟨C.rb,0,none⟩ R.1 w6;refine zp 12 fun K hK=>?_;refine zk1 (by rfl) (.func 168) [.tmp 16,.tmp 27] _ (by rfl) 168 _ zl9 (by rfl) _ (by rfl) (fun v w'=>w'=w6/\R.1=0) (had.mono ?_) ?_
  ·rintro e y1 ⟨rfl,hv1⟩;rcases hv1 with⟨h0,u0,rfl⟩|⟨h0,rfl⟩
   ·exact .inl ⟨_,rfl,rfl,h0⟩
   ·refine .inr ⟨_,rfl,?_⟩;refine⟨rfl,eT.out,aR.out,?_⟩
    try rw[bN.out]
    rw[<-gz.out,show zkl r1 R=.err R.1 by unfold zkl;rw[if_pos h0]];rfl
  rintro v7 w7 ⟨rfl,h0⟩;have lu:=zh (show loR C.p.prs C.F g back t t2 { r1 with S:=R.2 }=o by rw[<-gz.out,show zkl r1 R=.ok { r1 with S:=R.2 } by unfold zkl;rw[if_neg (by simpa using h0)]];rfl);refine hK.out _ _ jN.out ?_;clear hK K had h0;(try simp only[zQ]);refine zd ?_;obtain⟨r2,hr2⟩:=zX (({ r1 with S:=R.2 }:RS));rw[hr2]at gy lu;have hI:1<t.ks.length:=by have:=oV.out;omega
  have hI1:(1:Int)<(t.ks.length:Int):=by omega
  obtain⟨a,u,Au,cu,rfl,-,hu,⟨p0,p1,p2,p3⟩,hnu⟩:=ae.out.nd hI;have fT:kid t 1=u:=by unfold kid;rw[List.getD_eq_getElem?_getD,List.getElem?_eq_getElem hI];exact hu.out
  have sM:=zh (show ∀x∈u.ks,G C.p.prs x by rw[<-fT];exact hG1);have kF:=zh (show(runO C.p.prs C.F g back u r2).bind (fun r=>(zkD C.F r).bind fun r=>valO t2 r fun x r=>zkl r (zk8 r.S t.s x))=o by rw[<-lu.out,<-fT];rfl);have hgu:runO C.p.prs C.F g back u r2 ≠ .gas:=fun e=>di.out (by rw[<-kF.out,e];rfl);have aA:=zh (zk7 HS.out lD.out gy.out u _ back hnu sM.out hgu);have ha:a.add (1*4)=⟨a.block,a.off+4,none⟩:=by unfold Addr.add;split<;>simp_all
  rw[ha]at p0 p1 p2 p3;have q0:=zb aR.out p0;have q1:=zb aR.out p1;have q2:=zb aR.out p2;have q3:=zb aR.out p3;have j0:=fw.out.blk (.inr (.inr ⟨by omega,l0⟩)) K0.out;have q4:=zc (i:=3) j0 rfl;clear fT hnu hu p0 p1 p2 p3 hgu ha j0 jZ kU;go_wp2_with fail;refine aA.out.mono ?_;rintro e w8 ⟨ig,bJ,pK⟩;have mK:=zh (fw.out.trans ig);have oW:=zh (bU.out.trans (Kpt.less (C:=C) mK.out));have bD:=zh (show Below C.w.heap.size C.w w8 from bJ);have bY:match runO C.p.prs C.F g back u r2 with
   | .gas=>True
   | .err x=>e=zlv x
   | .ok r=>(∃u,e=.returned u)/\RI (C.plus W.heap.size hi) w8 r:=pK
  clear q0 q1 q2 q3 q4 ig bJ pK aA
  cases hx:runO C.p.prs C.F g back u r2 with
  | gas=>exact absurd (by rw[<-kF.out,hx];rfl) di.out
  | err x =>
   rw[hx]at bY;subst bY;refine⟨rfl,oW.out,bD.out,?_⟩
   try rw[bN.out]
   rw[<-kF.out,hx];rfl
  | ok r3 =>
   rw[hx]at bY;obtain⟨⟨u9,rfl⟩,hr3⟩:=bY;have HST:=zh (zlS lD.out hr3);have gP:=zh (show((zkD C.F r3).bind fun r=>valO t2 r fun x r=>zkl r (zk8 r.S t.s x))=o by rw[<-kF.out,hx];rfl);have nI:=zh hr3;clear hx hr3;go_wp2_with fail;refine HST.out.mono ?_;rintro e w9 ⟨aH,aD,dK⟩;have iH:=zh (mK.out.trans aH);have iG:=zh (bU.out.trans (Kpt.less (C:=C) iH.out));have aU:=zh (show Below C.w.heap.size C.w w9 from aD);have fP:match zkD C.F r3 with
    | .gas=>True
    | .err x=>e=zlv x
    | .ok r=>(∃u,e=.returned u)/\RI (C.plus W.heap.size hi) w9 r:=dK
   clear aH aD dK HST
   cases hy:zkD C.F r3 with
   | gas=>exact absurd (by rw[<-gP.out,hy];rfl) di.out
   | err x =>
    rw[hy]at fP;subst fP;refine⟨rfl,iG.out,aU.out,?_⟩
    try rw[bN.out]
    rw[<-gP.out,hy];rfl
   | ok r4 =>
    rw[hy]at fP;obtain⟨⟨u9,rfl⟩,hr4⟩:=fP;have kC:=zh hr4;have eQ:=zh (show(valO t2 r4 fun x r=>zkl r (zk8 r.S t.s x))=o by rw[<-gP.out,hy];rfl);have iJ:=zh (show FB r3.n r4.S/\r4.n=r3.n+1 by obtain⟨rfl,-⟩:=zlp hy;exact⟨nI.out.fb,rfl⟩);have j0:=iH.out.blk (.inr (.inr ⟨by omega,l0⟩)) K0.out;have j2:=iH.out.blk (.inr (.inr ⟨by omega,l2⟩)) K2.out;have nH:=zh (fun w' (hb:Below w9.heap.size w9 w')=>zpH (hr4.later hb) t2 _ aJ.out);have au:=zh (show ∀w',Below w9.heap.size w9 w'->(fun w':World=>zv w' C.rb 6 (.pointer (some ⟨C.sb,0,none⟩))/\zv w' W.heap.size 2 (.string t.s)/\zN4 w' (w2.heap.size+1) (.int .u8 t2.k) (.int .i64 t2.n) (.string t2.s) (.slice A2 t2.ks.length c2)) w' from fun w' hb=>⟨zb hb hr4.cells.1,zb hb (zc j0 rfl),zb hb (zc j2 rfl),zb hb (zc j2 rfl),zb hb (zc j2 rfl),zb hb (zc j2 rfl)⟩);clear hr4 hy j0 j2;go_upto_region 6 with fail
    have hSS:zW (fun w':World=>zv w' C.rb 6 (.pointer (some ⟨C.sb,0,none⟩))/\zv w' W.heap.size 2 (.string t.s)/\zN4 w' (w2.heap.size+1) (.int .u8 t2.k) (.int .i64 t2.n) (.string t2.s) (.slice A2 t2.ks.length c2)) zU w9.drew:=⟨au.out _ zr.drew,trivial⟩
    refine zG hSS 11 ?_;refine zT 0 hSS ?_;refine zT 1 hSS ?_;refine zT 2 hSS ?_;refine zT 3 hSS ?_;refine zT 4 hSS ?_;refine zT 5 hSS ?_;refine zT 6 hSS ?_;refine zT 7 hSS ?_;refine zT 8 hSS ?_;have had:Calls Tryz.prog 182 [.pointer (some ⟨C.rb,0,none⟩),nv t2.k t2.n t2.s A2 t2.ks.length c2].toArray w9.drew (ValP (C.plus W.heap.size hi) w9.drew t2 r4):=nH.out _ zr.drew;refine zo 9 fun K hK=>?_;refine zk1 (by rfl) (.func 182) [.tmp 45,.tmp 46] _ (by rfl) 182 _ zte (by rfl) _ (by rfl) (fun v w'=>Below w9.heap.size w9 w'/\∃x,v=.int .i64 x/\I64 x/\∀f,valO t2 r4 f=f x r4) (had.mono ?_) ?_
    ·rintro e y1 ⟨dU,hv1⟩;have b1:=zkb (zs w9).drew dU;rcases hv1 with⟨x,rfl,hx⟩|⟨x,rfl,nN,hx⟩
     ·refine .inr ⟨_,rfl,?_⟩;refine⟨rfl,iG.out.trans (Kpt.of_below b1),zkb aU.out b1,?_⟩
      try rw[bN.out]
      rw[<-eQ.out,hx]
     ·exact .inl ⟨_,rfl,b1,x,rfl,nN,hx⟩
    rintro v10 bB ⟨b10,z,rfl,hx,uE⟩;have mY:=zh b10;obtain⟨Rc,kX⟩:=zX (zk8 r4.S t.s z);have iF:=zh (show zkl r4 Rc=o by rw[<-eQ.out,uE,kX]);refine hK.out _ _ ⟨au.out _ b10,trivial⟩ ?_;clear hK K had b10 hx uE hSS nH;(try simp only[zQ]);have had:Calls Tryz.prog 170 [.pointer (some ⟨C.sb,0,none⟩),.string t.s,.int .i64 z].toArray bB fun e w'=>∃v,e=.returned v/\(v=.int .i64 Rc.1/\RI (C.plus W.heap.size hi) w' { r4 with S:=Rc.2 }/\Kpt C.n0 (C.plus W.heap.size hi).kb bB w') :=
     ((kC.out.later mY.out).ks.close t.s z).mono fun e w' ⟨h1,h2,h3⟩=>⟨_,h1,by rw[kX],(RI.store (C:=C.plus W.heap.size hi) (kC.out.later mY.out) (kX▸h2) h3 (by rw[iJ.out.2,<-kX];exact iJ.out.1.close_ _ _))⟩
    refine zo 10 fun K hK=>?_;refine zli (by rfl) (.func 170) [.tmp 42,.tmp 44,.tmp 47] _ (by rfl) 170 _ zrm (by rfl) _ (by rfl) _ had ?_;rintro v11 aX ⟨rfl,fO,ik⟩;have fI:=zh (iH.out.trans ((Kpt.of_below mY.out).trans ik));have j0:=fI.out.blk (.inr (.inr ⟨by omega,l0⟩)) K0.out;have j2:=fI.out.blk (.inr (.inr ⟨by omega,l2⟩)) K2.out;have kD:=zh fO;have ax:(fun w':World=>zv w' C.rb 6 (.pointer (some ⟨C.sb,0,none⟩))/\zv w' W.heap.size 2 (.string t.s)/\zN4 w' (w2.heap.size+1) (.int .u8 t2.k) (.int .i64 t2.n) (.string t2.s) (.slice A2 t2.ks.length c2)) aX:=⟨fO.cells.1,zc j0 rfl,zc j2 rfl,zc j2 rfl,zc j2 rfl,zc j2 rfl⟩
    refine hK.out _ _ ⟨ax,trivial⟩ ?_;have jN:=zh ax;have jG:=zh fO.below;clear hK K had fO ik j0 j2 ax au;(try simp only[zQ]);have jB:=zh (bU.out.trans (Kpt.less (C:=C) fI.out));have had:=zk3 ⟨C.rb,0,none⟩ Rc.1 aX;refine zp 11 fun K hK=>?_;refine zk1 (by rfl) (.func 168) [.tmp 38,.tmp 48] _ (by rfl) 168 _ zl9 (by rfl) _ (by rfl) (fun v w'=>w'=aX/\Rc.1=0) (had.mono ?_) ?_
    ·rintro e y1 ⟨rfl,hv1⟩;rcases hv1 with⟨h0,u0,rfl⟩|⟨h0,rfl⟩
     ·exact .inl ⟨_,rfl,rfl,h0⟩
     ·refine .inr ⟨_,rfl,?_⟩;refine⟨rfl,jB.out,jG.out,?_⟩
      try rw[bN.out]
      rw[<-iF.out,show zkl r4 Rc=.err Rc.1 by unfold zkl;rw[if_pos h0]]
    rintro v12 jS ⟨rfl,h0⟩;have gB:=zh (show o=.ok { r4 with S:=Rc.2 } by rw[<-iF.out];unfold zkl;rw[if_neg (by simpa using h0)]);refine hK.out _ _ jN.out ?_;clear hK K had h0;(try simp only[zQ]);refine zd ?_;have mE:=zh kD.out.less;go_wp2_with fail;go_end0;refine⟨jB.out,jG.out,?_⟩
    try rw[bN.out]
    rw[gB.out];exact⟨⟨_,rfl⟩,mE.out⟩
theorem zwE{G:List PR->T->Prop}{g:Nat}(hS:IStC G g){C:RC}(hC:C.Ok){W:World}{r:RS}(h:RI C W r)(t:T)(v:Value)(back:Bool)(hv:NV C.w Any t v)(hk0:t.k=52)(hk:t.ks.length=4)(hG1:∀u∈(kid t 1).ks,G C.p.prs u)(hG2:∀u∈(kid t 2).ks,G C.p.prs u)
  (o:Out)(ho:brO C.p.prs C.F g back t r=o)(hog:o ≠ .gas) :
  Calls Tryz.prog 139 #[.pointer (some ⟨C.rb,0,none⟩),v,.bool back] W (RunP C W o):=by
 have aF:=hog;obtain⟨k,n,s,ks⟩:=t;obtain rfl:k=52:=hk0;obtain⟨A,c,rfl,-,hlk,hlc,-⟩:=hv.open_;have hb0:=zkc (zs W) (.cells #[.int .u8 52,.int .i64 n,.string s,.slice A ks.length c] 24);obtain⟨x0,x1,x2,x3⟩:=box4 (heap_alloc_new W (.cells #[.int .u8 52,.int .i64 n,.string s,.slice A ks.length c] 24));have aN:=zh (Kpt.of_below (n0:=C.n0) (kb:=C.kb) hb0);have aW:=zh (show Calls Tryz.prog 164 #[.pointer (some ⟨C.rb,0,none⟩),.agg #[.int .u8 52,.int .i64 n,.string s,.slice A ks.length c],.bool back] (W.alloc (.cells #[.int .u8 52,.int .i64 n,.string s,.slice A ks.length c] 24)) (RunP C _ o)from(ho▸(zr2 hS hC (h.later hb0) _ _ back hv hk hG1 hG2 (ho▸hog))));clear hv hb0 h aF hG1 ho hk;go_enter Tryz.func139,Tryz.ntmps139;go_wp2_with fail;refine aW.out.mono ?_;rintro e w1 ⟨hk1,hb1,ho1⟩
 cases o with
 | gas=>exact absurd rfl hog
 | err x =>
  subst ho1;exact⟨rfl,aN.out.trans hk1,hb1,rfl⟩
 | ok r1 =>
  obtain⟨⟨u,rfl⟩,hr1⟩:=ho1;have HR:=zh hr1;have aB:=zh (aN.out.trans hk1);have HB1:=zh hb1;clear x0 x1 x2 x3 hr1 hk1 hb1;go_wp2_with fail;go_end0;exact⟨aB.out,HB1.out,⟨_,rfl⟩,HR.out⟩
theorem zsv{G:List PR->T->Prop}{g:Nat}(hS:IStC G g){C:RC}(hC:C.Ok){W:World}{r:RS}(h:RI C W r)(t:T)(v:Value)(back:Bool)(hv:NV C.w Any t v)(hk0:t.k=53)(hk:t.ks.length=4)(hG1:∀u∈(kid t 1).ks,G C.p.prs u)(hG2:∀u∈(kid t 2).ks,G C.p.prs u)
  (o:Out)(ho:lpO C.p.prs C.F g back t r=o)(hog:o ≠ .gas) :
  Calls Tryz.prog 139 #[.pointer (some ⟨C.rb,0,none⟩),v,.bool back] W (RunP C W o):=by
 have aF:=hog;obtain⟨k,n,s,ks⟩:=t;obtain rfl:k=53:=hk0;obtain⟨A,c,rfl,-,hlk,hlc,-⟩:=hv.open_;have hb0:=zkc (zs W) (.cells #[.int .u8 53,.int .i64 n,.string s,.slice A ks.length c] 24);obtain⟨x0,x1,x2,x3⟩:=box4 (heap_alloc_new W (.cells #[.int .u8 53,.int .i64 n,.string s,.slice A ks.length c] 24));have aN:=zh (Kpt.of_below (n0:=C.n0) (kb:=C.kb) hb0);have aW:=zh (show Calls Tryz.prog 165 #[.pointer (some ⟨C.rb,0,none⟩),.agg #[.int .u8 53,.int .i64 n,.string s,.slice A ks.length c],.bool back] (W.alloc (.cells #[.int .u8 53,.int .i64 n,.string s,.slice A ks.length c] 24)) (RunP C _ o)from(ho▸(zuY hS hC (h.later hb0) _ _ back hv hk hG1 hG2 (ho▸hog))));clear hv hb0 h aF hG1 ho hk;go_enter Tryz.func139,Tryz.ntmps139;go_wp2_with fail;refine aW.out.mono ?_;rintro e w1 ⟨hk1,hb1,ho1⟩
 cases o with
 | gas=>exact absurd rfl hog
 | err x =>
  subst ho1;exact⟨rfl,aN.out.trans hk1,hb1,rfl⟩
 | ok r1 =>
  obtain⟨⟨u,rfl⟩,hr1⟩:=ho1;have HR:=zh hr1;have aB:=zh (aN.out.trans hk1);have HB1:=zh hb1;clear x0 x1 x2 x3 hr1 hk1 hb1;go_wp2_with fail;go_end0;exact⟨aB.out,HB1.out,⟨_,rfl⟩,HR.out⟩
theorem zrH{G:List PR->T->Prop}{g:Nat}(hS:IStC G g){C:RC}(hC:C.Ok){W:World}{r:RS}(h:RI C W r)(t:T)(v:Value)(back:Bool)(hv:NV C.w Any t v)(hk0:t.k=54)(hk:t.ks.length=3)(hG1:∀u∈(kid t 1).ks,G C.p.prs u)
  (o:Out)(ho:loO C.p.prs C.F g back t r=o)(hog:o ≠ .gas) :
  Calls Tryz.prog 139 #[.pointer (some ⟨C.rb,0,none⟩),v,.bool back] W (RunP C W o):=by
 have aF:=hog;obtain⟨k,n,s,ks⟩:=t;obtain rfl:k=54:=hk0;obtain⟨A,c,rfl,-,hlk,hlc,-⟩:=hv.open_;have hb0:=zkc (zs W) (.cells #[.int .u8 54,.int .i64 n,.string s,.slice A ks.length c] 24);obtain⟨x0,x1,x2,x3⟩:=box4 (heap_alloc_new W (.cells #[.int .u8 54,.int .i64 n,.string s,.slice A ks.length c] 24));have aN:=zh (Kpt.of_below (n0:=C.n0) (kb:=C.kb) hb0);have aW:=zh (show Calls Tryz.prog 166 #[.pointer (some ⟨C.rb,0,none⟩),.agg #[.int .u8 54,.int .i64 n,.string s,.slice A ks.length c],.bool back] (W.alloc (.cells #[.int .u8 54,.int .i64 n,.string s,.slice A ks.length c] 24)) (RunP C _ o)from(ho▸(zsZ hS hC (h.later hb0) _ _ back hv hk hG1 (ho▸hog))));clear hv hb0 h aF hG1 ho hk;go_enter Tryz.func139,Tryz.ntmps139;go_wp2_with fail;refine aW.out.mono ?_;rintro e w1 ⟨hk1,hb1,ho1⟩
 cases o with
 | gas=>exact absurd rfl hog
 | err x =>
  subst ho1;exact⟨rfl,aN.out.trans hk1,hb1,rfl⟩
 | ok r1 =>
  obtain⟨⟨u,rfl⟩,hr1⟩:=ho1;have HR:=zh hr1;have aB:=zh (aN.out.trans hk1);have HB1:=zh hb1;clear x0 x1 x2 x3 hr1 hk1 hb1;go_wp2_with fail;go_end0;exact⟨aB.out,HB1.out,⟨_,rfl⟩,HR.out⟩
theorem zyJ:IsFn Tryz.prog 27 Tryz.f27:=⟨Tryz.func27,by kernel_rfl,by kernel_rfl⟩
theorem zw0:IsFn Tryz.prog 172 Tryz.f172:=⟨Tryz.func172,by kernel_rfl,by kernel_rfl⟩
def basO(F:Int)(back:Bool)(t:T)(r:RS):Out:=(zkD F r).bind fun r=>zkl r (if back=true then zoo r.S t else doE r.S t)
theorem zuB{C:RC}(hC:C.Ok){W:World}{r:RS}(h:RI C W r)(t:T)(v:Value)(back:Bool)(hv:NV C.w Any t v)(hk:t.k≠52/\t.k≠53/\t.k≠54/\t.k≠55/\t.k≠50/\t.k≠51) :
  Calls Tryz.prog 139 #[.pointer (some ⟨C.rb,0,none⟩),v,.bool back] W (RunP C W (basO C.F back t r)):=by
 have HV:=zh hv;have H:=zh h;obtain⟨A,c,rfl,-,hlk,hlc,-⟩:=hv.open_;have e0:(t.k==52)=false:=by simpa using hk.1
 have e1:(t.k==53)=false:=by simpa using hk.2.1
 have e2:(t.k==54)=false:=by simpa using hk.2.2.1
 have e3:(t.k==55)=false:=by simpa using hk.2.2.2.1
 have e4:(t.k==50)=false:=by simpa using hk.2.2.2.2.1
 have e5:(t.k==51)=false:=by simpa using hk.2.2.2.2.2
 have hb0:=zkc (zs W) (.cells #[.int .u8 t.k,.int .i64 t.n,.string t.s,.slice A t.ks.length c] 24);obtain⟨bV,h1⟩:=h.plus hC hb0;have k0:=heap_alloc_new W (.cells #[.int .u8 t.k,.int .i64 t.n,.string t.s,.slice A t.ks.length c] 24);obtain⟨x0,x1,x2,x3⟩:=box4 k0;have bU:=zh (Kpt.of_below (n0:=C.n0) (kb:=C.kb) hb0);obtain⟨w3,hw3⟩:=zX (W.alloc (.cells #[.int .u8 t.k,.int .i64 t.n,.string t.s,.slice A t.ks.length c] 24));rw[hw3]at bV h1 k0 x0 x1 x2 x3 bU;have l0:=zki k0;have K0:=zh k0;obtain⟨hi,hhi⟩:=zX (w3.heap.size);rw[hhi]at bV h1 l0;have iI:=zh (zlS bV h1);obtain⟨o,ho⟩:=zX (basO C.F back t r);have bN:=zh ho;have HO:=zh (show(zkD C.F r).bind (fun r=>zkl r (if back=true then zoo r.S t else doE r.S t))=o from ho);rw[ho];clear hv hb0 bV h1 k0 h hk ho;go_enter Tryz.func139,Tryz.ntmps139;go_wp2_with fail;refine iI.out.mono ?_;rintro e w4 ⟨hk4,hb4,cB⟩
 have dW:=zh (bU.out.trans (Kpt.less (C:=C) hk4));have av:=zh (show Below C.w.heap.size C.w w4 from hb4);have bu:match zkD C.F r with
  | .gas=>True
  | .err x=>e=zlv x
  | .ok r=>(∃u,e=.returned u)/\RI (C.plus W.heap.size hi) w4 r:=cB
 have dN:=zh hk4;clear x0 x1 x2 x3 iI hk4 hb4 cB hw3
 cases hy:zkD C.F r with
 | gas=>exact absurd hy (zks _ _).1
 | err x =>
  rw[hy]at bu;subst bu;refine⟨rfl,dW.out,av.out,?_⟩
  try rw[bN.out]
  rw[<-HO.out,hy];rfl
 | ok r1 =>
  rw[hy]at bu;obtain⟨⟨u3,rfl⟩,hr1⟩:=bu;have HR4:=zh hr1;have iP:=zh (show zkl r1 (if back=true then zoo r1.S t else doE r1.S t)=o by rw[<-HO.out,hy];rfl);have dH:=zh (show FB r.n r1.S/\r1.n=r.n+1 by obtain⟨rfl,-⟩:=zlp hy;exact⟨H.out.fb,rfl⟩);have j0:=dN.out.blk (.inr (.inr ⟨zl,l0⟩)) K0.out;have hSS:zW (fun w':World=>zv w' C.rb 6 (.pointer (some ⟨C.sb,0,none⟩))/\zN4 w' W.heap.size (.int .u8 t.k) (.int .i64 t.n) (.string t.s) (.slice A t.ks.length c)) zU w4.drew:=⟨⟨hr1.cells.1,zc j0 rfl,zc j0 rfl,zc j0 rfl,zc j0 rfl⟩,trivial⟩
  clear hr1 hy j0
  cases back
  ·skip
   go_upto_region 5 with fail;refine zG hSS 7 ?_;refine zT 0 hSS ?_;refine zT 1 hSS ?_;refine zT 2 hSS ?_;refine zT 3 hSS ?_;refine zT 4 hSS ?_;refine zT 5 hSS ?_;obtain⟨R,hR⟩:=zX (doE r1.S t);have gz:=zh (show zkl r1 R=o by rw[<-hR];exact iP.out);have hbd:Below w4.heap.size w4 w4.drew:=zr.drew;have had:Calls Tryz.prog 27 [.pointer (some ⟨C.sb,0,none⟩),.agg #[.int .u8 t.k,.int .i64 t.n,.string t.s,.slice A t.ks.length c]].toArray w4.drew fun e w'=>∃v,e=.returned v/\(v=.int .i64 R.1/\RI (C.plus W.heap.size hi) w' { r1 with S:=R.2 }/\Kpt C.n0 (C.plus W.heap.size hi).kb w4 w') :=
    ((HR4.out.later hbd).ks.do_ t _ (HV.out.later (zkb av.out hbd))).mono fun e w' ⟨h1,h2,h3⟩=>by
     have hs:=RI.store (C:=C.plus W.heap.size hi) (HR4.out.later hbd) h2 h3 (by rw[dH.out.2];exact dH.out.1.do_ _);rw[hR]at h1 hs;exact⟨_,h1,rfl,hs.1,(Kpt.of_below hbd).trans hs.2⟩
   refine zo 6 fun K hK=>?_;refine zli (by rfl) (.func 27) [.tmp 23,.tmp 24] _ (by rfl) 27 _ zyJ (by rfl) _ (by rfl) _ had ?_;rintro v6 w6 ⟨rfl,dJ,bE⟩;have eT:=zh (dW.out.trans (Kpt.less (C:=C) bE));have j0:=(dN.out.trans bE).blk (.inr (.inr ⟨zl,l0⟩)) K0.out;have ax:(fun w':World=>zv w' C.rb 6 (.pointer (some ⟨C.sb,0,none⟩))/\zN4 w' W.heap.size (.int .u8 t.k) (.int .i64 t.n) (.string t.s) (.slice A t.ks.length c)) w6:=⟨dJ.cells.1,zc j0 rfl,zc j0 rfl,zc j0 rfl,zc j0 rfl⟩
   have gy:=zh dJ.less;have aR:=zh dJ.below;refine hK.out _ _ ⟨ax,trivial⟩ ?_;have jN:=zh ax;clear hK K had dJ bE j0 ax hSS;(try simp only[zQ]);have had:=zk3 ⟨C.rb,0,none⟩ R.1 w6;refine zp 7 fun K hK=>?_;refine zk1 (by rfl) (.func 168) [.tmp 19,.tmp 25] _ (by rfl) 168 _ zl9 (by rfl) _ (by rfl) (fun v w'=>w'=w6/\R.1=0) (had.mono ?_) ?_
   ·rintro e y1 ⟨rfl,hv1⟩;rcases hv1 with⟨h0,u0,rfl⟩|⟨h0,rfl⟩
    ·exact .inl ⟨_,rfl,rfl,h0⟩
    ·refine .inr ⟨_,rfl,?_⟩;refine⟨rfl,eT.out,aR.out,?_⟩
     try rw[bN.out]
     rw[<-gz.out,show zkl r1 R=.err R.1 by unfold zkl;rw[if_pos h0]]
   rintro v12 jS ⟨rfl,h0⟩;have gB:=zh (show o=.ok { r1 with S:=R.2 } by rw[<-gz.out];unfold zkl;rw[if_neg (by simpa using h0)]);refine hK.out _ _ jN.out ?_;clear hK K had h0;(try simp only[zQ]);refine zd ?_;go_wp2_with fail;go_end0;refine⟨eT.out,aR.out,?_⟩
   try rw[bN.out]
   rw[gB.out];exact⟨⟨_,rfl⟩,gy.out⟩
  ·skip
   go_upto_region 4 with fail;refine zkm (fun w':World=>zv w' C.rb 6 (.pointer (some ⟨C.sb,0,none⟩))/\zN4 w' W.heap.size (.int .u8 t.k) (.int .i64 t.n) (.string t.s) (.slice A t.ks.length c)) zU 7 (by kernel_rfl) ?_;refine zT 0 hSS ?_;refine zT 1 hSS ?_;refine zT 2 hSS ?_;refine zT 3 hSS ?_;refine zT 4 hSS ?_;refine zT 5 hSS ?_;obtain⟨R,hR⟩:=zX (zoo r1.S t);have gz:=zh (show zkl r1 R=o by rw[<-hR];exact iP.out);have hbd:Below w4.heap.size w4 w4.drew:=zr.drew;have had:Calls Tryz.prog 172 [.pointer (some ⟨C.sb,0,none⟩),.agg #[.int .u8 t.k,.int .i64 t.n,.string t.s,.slice A t.ks.length c]].toArray w4.drew fun e w'=>∃v,e=.returned v/\(v=.int .i64 R.1/\RI (C.plus W.heap.size hi) w' { r1 with S:=R.2 }/\Kpt C.n0 (C.plus W.heap.size hi).kb w4 w') :=
    ((HR4.out.later hbd).ks.undo t _ (HV.out.later (zkb av.out hbd))).mono fun e w' ⟨h1,h2,h3⟩=>by
     have hs:=RI.store (C:=C.plus W.heap.size hi) (HR4.out.later hbd) h2 h3 (by rw[dH.out.2];exact dH.out.1.undo _);rw[hR]at h1 hs;exact⟨_,h1,rfl,hs.1,(Kpt.of_below hbd).trans hs.2⟩
   refine zo 6 fun K hK=>?_;refine zli (by rfl) (.func 172) [.tmp 15,.tmp 16] _ (by rfl) 172 _ zw0 (by rfl) _ (by rfl) _ had ?_;rintro v6 w6 ⟨rfl,dJ,bE⟩;have eT:=zh (dW.out.trans (Kpt.less (C:=C) bE));have j0:=(dN.out.trans bE).blk (.inr (.inr ⟨zl,l0⟩)) K0.out;have ax:(fun w':World=>zv w' C.rb 6 (.pointer (some ⟨C.sb,0,none⟩))/\zN4 w' W.heap.size (.int .u8 t.k) (.int .i64 t.n) (.string t.s) (.slice A t.ks.length c)) w6:=⟨dJ.cells.1,zc j0 rfl,zc j0 rfl,zc j0 rfl,zc j0 rfl⟩
   have gy:=zh dJ.less;have aR:=zh dJ.below;refine hK.out _ _ ⟨ax,trivial⟩ ?_;have jN:=zh ax;clear hK K had dJ bE j0 ax hSS;(try simp only[zQ]);have had:=zk3 ⟨C.rb,0,none⟩ R.1 w6;refine zp 7 fun K hK=>?_;refine zk1 (by rfl) (.func 168) [.tmp 11,.tmp 17] _ (by rfl) 168 _ zl9 (by rfl) _ (by rfl) (fun v w'=>w'=w6/\R.1=0) (had.mono ?_) ?_
   ·rintro e y1 ⟨rfl,hv1⟩;rcases hv1 with⟨h0,u0,rfl⟩|⟨h0,rfl⟩
    ·exact .inl ⟨_,rfl,rfl,h0⟩
    ·refine .inr ⟨_,rfl,?_⟩;refine⟨rfl,eT.out,aR.out,?_⟩
     try rw[bN.out]
     rw[<-gz.out,show zkl r1 R=.err R.1 by unfold zkl;rw[if_pos h0]]
   rintro v12 jS ⟨rfl,h0⟩;have gB:=zh (show o=.ok { r1 with S:=R.2 } by rw[<-gz.out];unfold zkl;rw[if_neg (by simpa using h0)]);refine hK.out _ _ jN.out ?_;clear hK K had h0;(try simp only[zQ]);refine zd ?_;go_wp2_with fail;go_end0;refine⟨eT.out,aR.out,?_⟩
   try rw[bN.out]
   rw[gB.out];exact⟨⟨_,rfl⟩,gy.out⟩
def lsR(prs:List PR)(F:Int)(g:Nat)(back:Bool)(t:T)(r:RS):Out :=
 (zla (zkA prs F g back) (blkL back (kid t 0)) r).bind fun r=>(zkD F r).bind fun r=>zkl r (zk8 r.S t.s 0)
def lsO(prs:List PR)(F:Int)(g:Nat)(back:Bool)(t:T)(r:RS):Out :=
 (zkD F r).bind fun r=>(zkl r (zl1 r.S ⟨t.s,3,0⟩ 0)).bind (lsR prs F g back t)
theorem zwD{G:List PR->T->Prop}{g:Nat}(hS:IStC G g){C:RC}(hC:C.Ok){W:World}{r:RS}(h:RI C W r)(t:T)(v:Value)(back:Bool)(hv:NV C.w Any t v)(hk0:t.k=55)(hk:t.ks.length=1)(hG1:∀u∈(kid t 0).ks,G C.p.prs u)
  (aF:lsO C.p.prs C.F g back t r ≠ .gas) :
  Calls Tryz.prog 139 #[.pointer (some ⟨C.rb,0,none⟩),v,.bool back] W (RunP C W (lsO C.p.prs C.F g back t r)):=by
 have HV:=zh hv;have H:=zh h;have HS:=zh hS;have oV:=zh hk;obtain⟨A,c,rfl,-,hlk,hlc,hrow⟩:=hv.open_;have ae:=zh hrow;have hb0:=zkc (zs W) (.cells #[.int .u8 t.k,.int .i64 t.n,.string t.s,.slice A t.ks.length c] 24);obtain⟨bV,h1⟩:=h.plus hC hb0;have k0:=heap_alloc_new W (.cells #[.int .u8 t.k,.int .i64 t.n,.string t.s,.slice A t.ks.length c] 24);obtain⟨x0,x1,x2,x3⟩:=box4 k0;have bU:=zh (Kpt.of_below (n0:=C.n0) (kb:=C.kb) hb0);obtain⟨w3,hw3⟩:=zX (W.alloc (.cells #[.int .u8 t.k,.int .i64 t.n,.string t.s,.slice A t.ks.length c] 24));rw[hw3]at bV h1 k0 x0 x1 x2 x3 bU;have l0:=zki k0;have K0:=zh k0;obtain⟨hi,hhi⟩:=zX (w3.heap.size);rw[hhi]at bV h1 l0;have mU:=zh bV;have iI:=zh (zlS bV h1);obtain⟨o,ho⟩:=zX (lsO C.p.prs C.F g back t r);have bN:=zh ho;have HO:=zh (show(zkD C.F r).bind (fun r=>(zkl r (zl1 r.S ⟨t.s,3,0⟩ 0)).bind (lsR C.p.prs C.F g back t))=o from ho)
 rw[ho]at aF ⊢;have di:=zh aF;rw[hk0]at hw3;have hw3':=hw3;clear hv hb0 bV h1 k0 h hk ho aF hrow hS hlk;have HKK:=zh hk0;rw[hk0]at x0;rw[hk0];clear hk0;go_enter Tryz.func139,Tryz.ntmps139;go_wp2_with fail;refine iI.out.mono ?_;rintro e w4 ⟨hk4,hb4,cB⟩;have dW:=zh (bU.out.trans (Kpt.less (C:=C) hk4));have av:=zh (show Below C.w.heap.size C.w w4 from hb4);have bu:match zkD C.F r with
  | .gas=>True
  | .err x=>e=zlv x
  | .ok r=>(∃u,e=.returned u)/\RI (C.plus W.heap.size hi) w4 r:=cB
 have dN:=zh hk4;clear x0 x1 x2 x3 iI hk4 hb4 cB hw3 hw3'
 cases hy:zkD C.F r with
 | gas=>exact absurd hy (zks _ _).1
 | err x =>
  rw[hy]at bu;subst bu;refine⟨rfl,dW.out,av.out,?_⟩
  try rw[bN.out]
  rw[<-HO.out,hy];rfl
 | ok r1 =>
  rw[hy]at bu;obtain⟨⟨u3,rfl⟩,hr1⟩:=bu;have HR4:=zh hr1;have iP:=zh (show(zkl r1 (zl1 r1.S ⟨t.s,3,0⟩ 0)).bind (lsR C.p.prs C.F g back t)=o by rw[<-HO.out,hy];rfl);have dH:=zh (show FB r.n r1.S/\r1.n=r.n+1 by obtain⟨rfl,-⟩:=zlp hy;exact⟨H.out.fb,rfl⟩);have j0:=dN.out.blk (.inr (.inr ⟨zl,l0⟩)) K0.out;have hSS:zW (fun w':World=>zv w' C.rb 6 (.pointer (some ⟨C.sb,0,none⟩))/\zv w' W.heap.size 2 (.string t.s)) zU w4.drew:=⟨⟨hr1.cells.1,zc j0 rfl⟩,trivial⟩
  clear hr1 hy j0;go_upto_region 14 with fail;refine zG hSS 9 ?_;refine zT 0 hSS ?_;refine zT 1 hSS ?_;refine zT 2 hSS ?_;refine zT 3 hSS ?_;refine zT 4 hSS ?_;refine zT 5 hSS ?_;refine zT 6 hSS ?_;refine zT 7 hSS ?_;obtain⟨R,hR⟩:=zX (zl1 r1.S ⟨t.s,3,0⟩ 0);have HRR:=zh hR;have jZ:=dH.out.1.cur;have kU:=H.out.n;have hbd:Below w4.heap.size w4 w4.drew:=zr.drew;have had:Calls Tryz.prog 169 [.pointer (some ⟨C.sb,0,none⟩),.agg #[.string t.s,.int .u8 3,.int .i64 0],.int .i64 0].toArray w4.drew fun e w'=>∃v,e=.returned v/\(v=.int .i64 R.1/\RI (C.plus W.heap.size hi) w' { r1 with S:=R.2 }/\Kpt C.n0 (C.plus W.heap.size hi).kb w4 w') :=
   ((HR4.out.later hbd).ks.open_ ⟨t.s,3,0⟩ (by obtain⟨_,_,_,hf,-⟩:=HV.out.open_;exact⟨hf.2.2,⟨by simp only;omega,by simp only;omega⟩,⟨by simp only;omega,by simp only;omega⟩⟩) 0 zero_I64 (by omega)).mono fun e w' ⟨h1,h2,h3⟩=>by
    have hs:=RI.store (C:=C.plus W.heap.size hi) (HR4.out.later hbd) (hR▸h2) h3 (by rw[dH.out.2,<-hR];exact dH.out.1.open_ _ _);exact⟨_,h1,by rw[hR],hs.1,(Kpt.of_below hbd).trans hs.2⟩
  refine zo 8 fun K hK=>?_;refine zli (by rfl) (.func 169) [.tmp 53,.tmp 56,.const (.int .i64 0)] _ (by rfl) 169 _ ztj (by rfl) _ (by rfl) _ had ?_;rintro v6 w6 ⟨rfl,dJ,bE⟩;have fw:=zh (dN.out.trans bE);have j0:=fw.out.blk (.inr (.inr ⟨zl,l0⟩)) K0.out;have gy:=zh dJ;have ax:(fun w':World=>zv w' C.rb 6 (.pointer (some ⟨C.sb,0,none⟩))/\zv w' W.heap.size 2 (.string t.s)) w6:=⟨dJ.cells.1,zc j0 rfl⟩
  refine hK.out _ _ ⟨ax,trivial⟩ ?_;have jN:=zh ax;have aR:=zh dJ.below;clear hK K had dJ bE j0 ax hSS;(try simp only[zQ]);have eT:=zh (bU.out.trans (Kpt.less (C:=C) fw.out));rw[hR]at iP;have had:=zk3 ⟨C.rb,0,none⟩ R.1 w6;refine zp 9 fun K hK=>?_;refine zk1 (by rfl) (.func 168) [.tmp 49,.tmp 57] _ (by rfl) 168 _ zl9 (by rfl) _ (by rfl) (fun v w'=>w'=w6/\R.1=0) (had.mono ?_) ?_
  ·rintro e y1 ⟨rfl,hv1⟩;rcases hv1 with⟨h0,u0,rfl⟩|⟨h0,rfl⟩
   ·exact .inl ⟨_,rfl,rfl,h0⟩
   ·refine .inr ⟨_,rfl,?_⟩;refine⟨rfl,eT.out,aR.out,?_⟩
    try rw[bN.out]
    rw[<-iP.out,show zkl r1 R=.err R.1 by unfold zkl;rw[if_pos h0]];rfl
  rintro v7 w7 ⟨rfl,h0⟩;have lu:=zh (show lsR C.p.prs C.F g back t { r1 with S:=R.2 }=o by rw[<-iP.out,show zkl r1 R=.ok { r1 with S:=R.2 } by unfold zkl;rw[if_neg (by simpa using h0)]];rfl);refine hK.out _ _ jN.out ?_;clear hK K had h0;(try simp only[zQ]);refine zd ?_;obtain⟨r2,hr2⟩:=zX (({ r1 with S:=R.2 }:RS));rw[hr2]at gy lu;have hI:0<t.ks.length:=by have:=oV.out;omega
  have hI1:(0:Int)<(t.ks.length:Int):=by omega
  obtain⟨a,u,Au,cu,rfl,-,hu,⟨p0,p1,p2,p3⟩,hnu⟩:=ae.out.nd hI;have fT:kid t 0=u:=by unfold kid;rw[List.getD_eq_getElem?_getD,List.getElem?_eq_getElem hI];exact hu.out
  have sM:=zh (show ∀x∈u.ks,G C.p.prs x by rw[<-fT];exact hG1);have kF:=zh (show(runO C.p.prs C.F g back u r2).bind (fun r=>(zkD C.F r).bind fun r=>zkl r (zk8 r.S t.s 0))=o by rw[<-lu.out,<-fT];rfl);have hgu:runO C.p.prs C.F g back u r2 ≠ .gas:=fun e=>di.out (by rw[<-kF.out,e];rfl);have aA:=zh (zk7 HS.out mU.out gy.out u _ back hnu sM.out hgu);have ha:a.add (0*4)=a:=by unfold Addr.add;simp
  rw[ha]at p0 p1 p2 p3;have q0:=zb aR.out p0;have q1:=zb aR.out p1;have q2:=zb aR.out p2;have q3:=zb aR.out p3;have j0:=fw.out.blk (.inr (.inr ⟨zl,l0⟩)) K0.out;have q4:=zc (i:=3) j0 rfl;clear fT hnu hu p0 p1 p2 p3 hgu ha j0 jZ kU hG1;go_wp2_with fail;refine aA.out.mono ?_;rintro e w8 ⟨ig,bJ,pK⟩;have mK:=zh (fw.out.trans ig);have oW:=zh (bU.out.trans (Kpt.less (C:=C) mK.out));have bD:=zh (show Below C.w.heap.size C.w w8 from bJ);have bY:match runO C.p.prs C.F g back u r2 with
   | .gas=>True
   | .err x=>e=zlv x
   | .ok r=>(∃u,e=.returned u)/\RI (C.plus W.heap.size hi) w8 r:=pK
  clear q0 q1 q2 q3 q4 ig bJ pK aA
  cases hx:runO C.p.prs C.F g back u r2 with
  | gas=>exact absurd (by rw[<-kF.out,hx];rfl) di.out
  | err x =>
   rw[hx]at bY;subst bY;refine⟨rfl,oW.out,bD.out,?_⟩
   try rw[bN.out]
   rw[<-kF.out,hx];rfl
  | ok r3 =>
   rw[hx]at bY;obtain⟨⟨u9,rfl⟩,hr3⟩:=bY;have HST:=zh (zlS mU.out hr3);have gP:=zh (show((zkD C.F r3).bind fun r=>zkl r (zk8 r.S t.s 0))=o by rw[<-kF.out,hx];rfl);have nI:=zh hr3;clear hx hr3;go_wp2_with fail;refine HST.out.mono ?_;rintro e w9 ⟨aH,aD,dK⟩;have iH:=zh (mK.out.trans aH);have iG:=zh (bU.out.trans (Kpt.less (C:=C) iH.out));have aU:=zh (show Below C.w.heap.size C.w w9 from aD);have fP:match zkD C.F r3 with
    | .gas=>True
    | .err x=>e=zlv x
    | .ok r=>(∃u,e=.returned u)/\RI (C.plus W.heap.size hi) w9 r:=dK
   clear aH aD dK HST
   cases hy:zkD C.F r3 with
   | gas=>exact absurd (by rw[<-gP.out,hy];rfl) di.out
   | err x =>
    rw[hy]at fP;subst fP;refine⟨rfl,iG.out,aU.out,?_⟩
    try rw[bN.out]
    rw[<-gP.out,hy];rfl
   | ok r4 =>
    rw[hy]at fP;obtain⟨⟨u9,rfl⟩,hr4⟩:=fP;have kC:=zh hr4;have iJ:=zh (show FB r3.n r4.S/\r4.n=r3.n+1 by obtain⟨rfl,-⟩:=zlp hy;exact⟨nI.out.fb,rfl⟩);obtain⟨Rc,kX⟩:=zX (zk8 r4.S t.s 0);have iF:=zh (show zkl r4 Rc=o by rw[<-gP.out,hy,<-kX];rfl);have j0:=iH.out.blk (.inr (.inr ⟨zl,l0⟩)) K0.out;have hSS:zW (fun w':World=>zv w' C.rb 6 (.pointer (some ⟨C.sb,0,none⟩))/\zv w' W.heap.size 2 (.string t.s)) zU w9.drew:=⟨⟨hr4.cells.1,zc j0 rfl⟩,trivial⟩
    clear hr4 hy j0;go_upto_region 17 with fail;refine zG hSS 8 ?_;refine zT 0 hSS ?_;refine zT 1 hSS ?_;refine zT 2 hSS ?_;refine zT 3 hSS ?_;refine zT 4 hSS ?_;refine zT 5 hSS ?_;refine zT 6 hSS ?_;have qX:Below w9.heap.size w9 w9.drew:=zr.drew;have had:Calls Tryz.prog 170 [.pointer (some ⟨C.sb,0,none⟩),.string t.s,.int .i64 0].toArray w9.drew fun e w'=>∃v,e=.returned v/\(v=.int .i64 Rc.1/\RI (C.plus W.heap.size hi) w' { r4 with S:=Rc.2 }/\Kpt C.n0 (C.plus W.heap.size hi).kb w9 w') :=
     ((kC.out.later qX).ks.close t.s 0).mono fun e w' ⟨h1,h2,h3⟩=>by
      have hs:=RI.store (C:=C.plus W.heap.size hi) (kC.out.later qX) (kX▸h2) h3 (by rw[iJ.out.2,<-kX];exact iJ.out.1.close_ _ _);exact⟨_,h1,by rw[kX],hs.1,(Kpt.of_below qX).trans hs.2⟩
    refine zo 7 fun K hK=>?_;refine zli (by rfl) (.func 170) [.tmp 72,.tmp 74,.const (.int .i64 0)] _ (by rfl) 170 _ zrm (by rfl) _ (by rfl) _ had ?_;rintro v11 aX ⟨rfl,fO,ik⟩;have fI:=zh (iH.out.trans ik);have j0:=fI.out.blk (.inr (.inr ⟨zl,l0⟩)) K0.out;have kD:=zh fO;have ax:(fun w':World=>zv w' C.rb 6 (.pointer (some ⟨C.sb,0,none⟩))/\zv w' W.heap.size 2 (.string t.s)) aX:=⟨fO.cells.1,zc j0 rfl⟩
    refine hK.out _ _ ⟨ax,trivial⟩ ?_;have jN:=zh ax;have jG:=zh fO.below;clear hK K had fO ik j0 ax hSS;(try simp only[zQ]);have jB:=zh (bU.out.trans (Kpt.less (C:=C) fI.out));have had:=zk3 ⟨C.rb,0,none⟩ Rc.1 aX;refine zp 8 fun K hK=>?_;refine zk1 (by rfl) (.func 168) [.tmp 68,.tmp 75] _ (by rfl) 168 _ zl9 (by rfl) _ (by rfl) (fun v w'=>w'=aX/\Rc.1=0) (had.mono ?_) ?_
    ·rintro e y1 ⟨rfl,hv1⟩;rcases hv1 with⟨h0,u0,rfl⟩|⟨h0,rfl⟩
     ·exact .inl ⟨_,rfl,rfl,h0⟩
     ·refine .inr ⟨_,rfl,?_⟩;refine⟨rfl,jB.out,jG.out,?_⟩
      try rw[bN.out]
      rw[<-iF.out,show zkl r4 Rc=.err Rc.1 by unfold zkl;rw[if_pos h0]]
    rintro v12 jS ⟨rfl,h0⟩;have gB:=zh (show o=.ok { r4 with S:=Rc.2 } by rw[<-iF.out];unfold zkl;rw[if_neg (by simpa using h0)]);refine hK.out _ _ jN.out ?_;clear hK K had h0;(try simp only[zQ]);refine zd ?_;have mE:=zh kD.out.less;go_wp2_with fail;go_end0;refine⟨jB.out,jG.out,?_⟩
    try rw[bN.out]
    rw[gB.out];exact⟨⟨_,rfl⟩,mE.out⟩
end
end Go.Proofs.YtghbhbdnkjjnnaaGreat
