/-
  Texts of the proof, put together without their remarks: Ip, Ir, Ie, Is, Ic, Iu, Iw, Ix, Iy, Il, Iv, Id, It.
-/
import Derived.Test.YtghbhbdnkjjnnaaGreatA4
import Derived.Recover
set_option linter.unusedSimpArgs false
set_option linter.unusedVariables false
set_option maxHeartbeats 8000000
set_option maxRecDepth 100000
namespace Go.Proofs.YtghbhbdnkjjnnaaGreat
section
open Go Go.RowKit
structure RS where
 S:ST
 n:Nat
 ent:List Nat
inductive Out where
 | gas
 | err (e:Int)
 | ok (r:RS)
def Out.bind:Out->(RS->Out)->Out
 | .ok r,f=>f r
 | .err e,_=>.err e
 | .gas,_=>.gas
def zkF(F:Int)(r:RS):Out:=if F<=r.n then .err 18 else .ok { r with n:=r.n+1 }
def zkl(r:RS)(R:Int×ST):Out:=if R.1≠0 then .err R.1 else .ok { r with S:=R.2 }
def valO(t:T)(r:RS)(f:Int->RS->Out):Out:=if (zk7 r.S.look t).2≠0 then .err (zk7 r.S.look t).2 else f (zk7 r.S.look t).1 r
def zlh(F:Int)(t:T)(r:RS)(f:Bool->RS->Out):Out:=(zkF F r).bind fun r=>valO t r fun x r=>f (decide (x≠0)) r
def zkx(F:Int)(t:T)(b:Bool)(r:RS):Out:=zlh F t r fun b' r=>if b'=b then .ok r else .err 15
def zld(f:T->RS->Out):List T->RS->Out
 | [],r=>.ok r
 | t::ts,r=>(f t r).bind (zld f ts)
def blkL(back:Bool)(b:T):List T:=if back=true then b.ks.reverse else b.ks
def zmf(F:Int)(f:T->RS->Out)(entry test:T)(l1 l2:List T):Nat->RS->Out
 | 0,_=>.gas
 | m+1,r=>(zld f l1 r).bind fun r=>zlh F test r fun b r=>if b=true then .ok r else(zld f l2 r).bind fun r=>(zkx F entry false r).bind (zmf F f entry test l1 l2 m)
def prcI:List PR->ByteArray->Option Nat
 | [],_=>none
 | q::qs,s=>if (q.s.toList==s.toList)=true then some 0 else(prcI qs s).map (· + 1)
def kid(t:T)(i:Nat):T:=t.ks.getD i nil0
def fstT(back:Bool)(t:T):T:=if back=true then kid t (t.ks.length-1)else kid t 0
def lstT(back:Bool)(t:T):T:=if back=true then kid t 0 else kid t (t.ks.length-1)
def zkB(prs:List PR)(F:Int):Nat->Bool->T->RS->Out
 | 0,_,_,_=>.gas
 | g+1,back,t,r =>
  if t.k=52 then
   zlh F (fstT back t) r fun yes r=>(zld (zkB prs F g back) (blkL back (if yes=true then kid t 1 else kid t 2)) r).bind (zkx F (lstT back t) yes)
  else if t.k=53 then
   (zkx F (fstT back t) true r).bind (zmf F (zkB prs F g back) (fstT back t) (lstT back t) (blkL back (kid t 1)) (blkL back (kid t 2)) g)
  else if t.k=54 then
   (zkF F r).bind fun r=>valO (fstT back t) r fun x r=>(zkl r (zl0 r.S ⟨t.s,1,0⟩ x)).bind fun r=>(zld (zkB prs F g back) (blkL back (kid t 1)) r).bind fun r =>
    (zkF F r).bind fun r=>valO (lstT back t) r fun x r=>zkl r (zlb r.S t.s x)
  else if t.k=55 then
   (zkF F r).bind fun r=>(zkl r (zl0 r.S ⟨t.s,3,0⟩ 0)).bind fun r=>(zld (zkB prs F g back) (blkL back (kid t 0)) r).bind fun r =>
    (zkF F r).bind fun r=>zkl r (zlb r.S t.s 0)
  else if t.k=50\/t.k=51 then
   match prcI prs t.s with
   | none=>.err 0
   | some i=>(zkF F r).bind fun r=>(zkl r (zl3 r.S (prs.getD i ⟨⟨#[]⟩,[],nil0⟩).ps (t.ks.map (·.s)))).bind fun r =>
     (zld (zkB prs F g (back != decide (t.k=51))) (blkL (back != decide (t.k=51)) (prs.getD i ⟨⟨#[]⟩,[],nil0⟩).b) { r with ent:=r.ent.set i (r.ent.getD i 0+1) }).bind fun r =>
      (zkF F r).bind fun r=>zkl r (zmd r.S)
  else(zkF F r).bind fun r=>zkl r (if back=true then zoh r.S t else doE r.S t)
def runO(prs:List PR)(F:Int)(g:Nat)(back:Bool)(b:T)(r:RS):Out:=zld (zkB prs F g back) (blkL back b) r
def Good(n:Nat)(o:Out):Prop:=o ≠ .gas/\∀r,o=.ok r->n<=r.n
theorem Good.err(n:Nat)(e:Int):Good n (.err e):=⟨by simp,by simp⟩
theorem Good.ok{n:Nat}{r:RS}(h:n<=r.n):Good n (.ok r):=⟨by simp,fun r' e=>by injection e with e;subst e;exact h⟩
theorem Good.mono{m n:Nat}{o:Out}(h:Good n o)(hm:m<=n):Good m o:=⟨h.1,fun r e=>Nat.le_trans hm (h.2 r e)⟩
theorem Good.bind{m n:Nat}{o:Out}{f:RS->Out}(h:Good n o)(xD:m<=n)(hf:∀r,n<=r.n->o=.ok r->Good m (f r)):Good m (o.bind f):=by
 cases o with
 | gas=>exact absurd rfl h.1
 | err e=>exact Good.err _ _
 | ok r=>exact hf r (h.2 r rfl) rfl
theorem zls{F:Int}{r r':RS}(h:zkF F r=.ok r'):r'={ r with n:=r.n+1 }/\(r.n:Int)<F:=by
 unfold zkF at h
 split at h
 ·cases h
 ·injection h with h;exact⟨h.symm,by omega⟩
theorem zkt(F:Int)(r:RS):Good (r.n+1) (zkF F r):=by
 unfold zkF
 split
 ·exact Good.err _ _
 ·exact Good.ok zl
theorem zkC(r:RS)(R:Int×ST):Good r.n (zkl r R):=by
 unfold zkl
 split
 ·exact Good.err _ _
 ·exact Good.ok zl
theorem znN{m:Nat}{t:T}{r:RS}{f:Int->RS->Out}(hf:∀x,Good m (f x r)):Good m (valO t r f):=by
 unfold valO
 split
 ·exact Good.err _ _
 ·exact hf _
theorem zmN{m:Nat}{F:Int}{t:T}{r:RS}{f:Bool->RS->Out}(hm:m<=r.n+1)(hf:∀b,(r.n:Int)<F->Good m (f b { r with n:=r.n+1 })):Good m (zlh F t r f):=by
 unfold zlh;refine(zkt F r).bind hm fun r' _ e=>?_;obtain⟨rfl,h⟩:=zls e;exact znN fun x=>hf _ h
theorem zlc(F:Int)(t:T)(b:Bool)(r:RS):Good (r.n+1) (zkx F t b r):=by
 unfold zkx;refine zmN zl fun b' _=>?_
 split
 ·exact Good.ok zl
 ·exact Good.err _ _
theorem znp{F:Int}{t:T}{b:Bool}{r r':RS}(h:zkx F t b r=.ok r'):r'={ r with n:=r.n+1 }/\(r.n:Int)<F:=by
 unfold zkx zlh at h
 cases hs:zkF F r with
 | gas=>rw[hs]at h;cases h
 | err e=>rw[hs]at h;cases h
 | ok r1 =>
  rw[hs]at h;obtain⟨rfl,hl⟩:=zls hs;simp only[Out.bind,valO]at h
  split at h
  ·cases h
  ·split at h
   ·injection h with h;exact⟨h.symm,hl⟩
   ·cases h
theorem zlH{f:T->RS->Out}:∀(l:List T) (r:RS),(∀t∈l,∀r',r.n<=r'.n->Good r'.n (f t r'))->Good r.n (zld f l r)
 | [],r,_=>Good.ok zl
 | t::ts,r,h=>by
  rw[zld];refine(h t (List.mem_cons_self ..) r zl).bind zl fun r1 h1 _=>?_;exact(zlH ts r1 fun u hu r' hr'=>h u (List.mem_cons_of_mem _ hu) r' (Nat.le_trans h1 hr')).mono h1
theorem zoF{F:Int}{f:T->RS->Out}{entry test:T}{l1 l2:List T}:∀(m:Nat) (r:RS),F.toNat-r.n<m->(∀t∈l1,∀r',r.n<=r'.n->Good r'.n (f t r'))->(∀t∈l2,∀r',r.n<=r'.n->Good r'.n (f t r'))->Good r.n (zmf F f entry test l1 l2 m r)
 | 0,_,h,_,_=>by omega
 | m+1,r,h,h1,h2=>by
  rw[zmf];refine(zlH l1 r h1).bind zl fun r1 hr1 _=>?_;refine zmN (by omega) fun b hF=>?_
  split
  ·exact Good.ok (by simp only;omega)
  ·refine(zlH l2 { r1 with n:=r1.n+1 } fun t ht r' hr'=>h2 t ht r' (by simp only at hr';omega)).bind (by simp only;omega) fun r2 hr2 _=>?_;refine(zlc F entry false r2).bind (by simp only at hr2;omega) fun r3 hr3 e=>?_;obtain⟨rfl,hF2⟩:=znp e;refine(zoF m _ ?_ (fun t ht r' hr'=>h1 t ht r' ?_) (fun t ht r' hr'=>h2 t ht r' ?_)).mono ?_
   all_goals (simp only at *;omega)
theorem zl7:∀ {ts:List T} {u:T},u∈ts->size u<=zkX ts
 | t::ts,u,h=>by
  rw[zkX];rcases List.mem_cons.1 h with rfl|h
  ·omega
  ·have:=zl7 h;omega
theorem zuX{t:T}{i:Nat}(h:i<t.ks.length):size (kid t i)<size t:=by
 obtain⟨k,n,s,ks⟩:=t;have h':i<ks.length:=h;have:kid (.nd k n s ks) i=ks[i]:=by simp[kid,h']
 rw[this,size];have:=zl7 (List.getElem_mem h');omega
theorem zo9{t u:T}(h:u∈t.ks):size u<size t:=by
 obtain⟨k,n,s,ks⟩:=t;rw[size];have:=zl7 (ts:=ks) h;omega
theorem zlG{back:Bool}{b u:T}(h:u∈blkL back b):u∈b.ks:=by
 unfold blkL at h
 split at h
 ·simpa using h
 ·exact h
theorem zs4(t:T)(i:Nat):∀u∈(kid t i).ks,size u+1<size t:=by
 intro u hu;by_cases h:i<t.ks.length
 ·have:=zuX h;have:=zo9 hu;omega
 ·have:kid t i=nil0:=by
   unfold kid;rw[List.getD_eq_getElem?_getD,List.getElem?_eq_none (by omega)];rfl
  rw[this]at hu;simp[nil0]at hu
theorem zl2{prs:List PR}{F:Int}{M:Nat}(hM:∀q∈prs,size q.b<=M)(hM1:1<=M):∀(g:Nat) (back:Bool) (t:T) (r:RS),(F.toNat-r.n)*M+size t<=g->Good r.n (zkB prs F g back t r)
 | 0,_,t,r,h=>by
  have:0<size t:=by obtain⟨k,n,s,ks⟩:=t;rw[size];omega
  omega
 | g+1,back,t,r,h=>by
  have hmul:∀a b:Nat,a<=b->a*M<=b*M:=fun a b h=>Nat.mul_le_mul_right _ h;have hone:F.toNat-r.n<=(F.toNat-r.n)*M:=Nat.le_mul_of_pos_right _ hM1;have hb:∀(back:Bool) i r1,r.n<=r1.n->Good r1.n (zld (zkB prs F g back) (blkL back (kid t i)) r1):=fun back i r1 h1 =>
   zlH _ _ fun u hu r2 h2=>zl2 hM hM1 g back u r2 (by
    have:=zs4 t i u (zlG hu);have:=hmul (F.toNat-r2.n) (F.toNat-r.n) (by omega);omega)
  rw[zkB]
  split
  ·refine zmN (by omega) fun yes hF=>?_;have:Good (r.n+1) (zld (zkB prs F g back) (blkL back (if yes=true then kid t 1 else kid t 2)) { r with n:=r.n+1 }):=by
    split
    ·exact hb back 1 _ (by simp only;omega)
    ·exact hb back 2 _ (by simp only;omega)
   exact this.bind (by omega) fun r1 h1 _=>(zlc _ _ _ _).mono (by omega)
  ·split
   ·refine(zlc _ _ _ _).bind (by omega) fun r1 h1 e=>?_;obtain⟨rfl,hF⟩:=znp e;have hs:0<size t:=by obtain⟨k,n,s,ks⟩:=t;rw[size];omega
    refine(zoF g _ (by simp only;omega) (fun u hu r' hr'=>?_) (fun u hu r' hr'=>?_)).mono (by simp only;omega)
    ·have:=zs4 t 1 u (zlG hu);have:=hmul (F.toNat-r'.n) (F.toNat-r.n) (by simp only at hr';omega);exact zl2 hM hM1 g back u r' (by omega)
    ·have:=zs4 t 2 u (zlG hu);have:=hmul (F.toNat-r'.n) (F.toNat-r.n) (by simp only at hr';omega);exact zl2 hM hM1 g back u r' (by omega)
   ·split
    ·refine(zkt F r).bind (by omega) fun r1 h1 _=>znN fun x=>?_;refine(zkC r1 _).bind (by omega) fun r2 h2 _=>?_;refine(hb back 1 r2 (by omega)).bind (by omega) fun r3 h3 _=>?_;refine(zkt F r3).bind (by omega) fun r4 h4 _=>znN fun x=>?_;exact(zkC r4 _).mono (by omega)
    ·split
     ·refine(zkt F r).bind (by omega) fun r1 h1 _=>?_;refine(zkC r1 _).bind (by omega) fun r2 h2 _=>?_;refine(hb back 0 r2 (by omega)).bind (by omega) fun r3 h3 _=>?_;refine(zkt F r3).bind (by omega) fun r4 h4 _=>?_;exact(zkC r4 _).mono (by omega)
     ·split
      ·split
       ·exact Good.err _ _
       ·rename_i i hi;refine(zkt F r).bind (by omega) fun r1 h1 e1=>?_;obtain⟨rfl,hF⟩:=zls e1;refine(zkC _ _).bind (by simp only;omega) fun r2 h2 _=>?_;have hbody:Good r2.n (zld (zkB prs F g (back != decide (t.k=51))) (blkL (back != decide (t.k=51)) (prs.getD i ⟨⟨#[]⟩,[],nil0⟩).b) { r2 with ent:=r2.ent.set i (r2.ent.getD i 0+1) }):=by
         refine zlH _ _ fun u hu r3 h3=>zl2 hM hM1 g _ u r3 ?_;have hu':=zlG hu;by_cases hi:i<prs.length
         ·have hq:prs.getD i ⟨⟨#[]⟩,[],nil0⟩=prs[i]:=by simp[hi]
          rw[hq]at hu';have hl:=zo9 hu';have hMq:=hM _ (List.getElem_mem hi);have hsub:F.toNat-r3.n+1<=F.toNat-r.n:=by simp only at h2 h3;omega
          have:=hmul _ _ hsub;rw[Nat.add_mul,Nat.one_mul]at this;omega
         ·have hq:prs.getD i ⟨⟨#[]⟩,[],nil0⟩=⟨⟨#[]⟩,[],nil0⟩:=by
           rw[List.getD_eq_getElem?_getD,List.getElem?_eq_none (by omega)];rfl
          rw[hq]at hu';simp[nil0]at hu'
        refine hbody.bind (by simp only at h2;omega) fun r3 h3 _=>?_;refine(zkt F r3).bind (by simp only at h2;omega) fun r4 h4 _=>?_;exact(zkC r4 _).mono (by simp only at h2;omega)
      ·refine(zkt F r).bind (by omega) fun r1 h1 _=>?_;exact(zkC r1 _).mono (by omega)
abbrev zlx(x:Int):Ending:=.panicked [{ v:=.iface 207 (.agg #[.int .i64 x]),recovered:=false }]
theorem zpw(x:Int)(hx:x≠0)(w:World):Calls Tryz.prog 183 #[.int .i64 x] w fun e w'=>e=zlx x/\w'=w:=by
 have e1:(x==0)=false:=by simpa using hx
 have hb:∀w,(Instr.build 207 #[(0,.int .i64 x)]).run Tryz.prog w=.ok (.agg #[.int .i64 x]) w:=fun w=>by kernel_rfl
 go_enter Tryz.func183,Tryz.ntmps183;go_wp2_with fail;exact⟨rfl,rfl,rfl⟩
theorem znW{W W':World}{base:Nat}{E:TypeId}{size:Nat}{v:Value}{n:Nat}{xs:List Value}(h:W.ownsRow base E size v n xs)(hk:∀b,v.ownBlock=some b->W'.heap[b]?=W.heap[b]?):W'.ownsRow base E size v n xs:=by
 obtain⟨e1,h2⟩:=h;refine⟨e1,?_⟩;rcases h2 with h2|⟨g,cap,cur,rfl,hb,hg,rest⟩
 ·exact .inl h2
 ·exact .inr ⟨g,cap,cur,rfl,hb,(hk g rfl).trans hg,rest⟩
structure RC where
 w:World
 n0:Nat
 sb:Nat
 rb:Nat
 p:PG
 A1:Option Addr
 c1:Nat
 A2:Option Addr
 c2:Nat
 A3:Option Addr
 c3:Nat
 F:Int
 ev:Value
 kb:Nat->Prop
structure RC.Ok(C:RC):Prop where
 pg:PgR C.w Any C.p C.A1 C.c1 C.A2 C.c2 C.A3 C.c3
 F:I64 C.F
 F6:C.F<=1000000
 rb:C.n0<=C.rb/\¬ C.kb C.rb
 ev:C.ev.ownBlock≠some C.rb/\∀b,C.ev.ownBlock=some b->¬ C.kb b
 ps:∀q∈C.p.prs,q.ps.length<=1000
def RC.cells(C:RC)(n:Nat):Array Value := #[.slice C.A1 C.p.vs.length C.c1,.slice C.A2 C.p.prs.length C.c2,.int .u8 C.p.m.k,.int .i64 C.p.m.n,.string C.p.m.s,.slice C.A3 C.p.m.ks.length C.c3,.pointer (some ⟨C.sb,0,none⟩),.int .i64 n,.int .i64 C.F,C.ev]
def FB(j:Nat)(S:ST):Prop:=S.base.vs.length<=1000+j/\∀f∈S.calls,f.vs.length<=1000+j
structure RI(C:RC)(W:World)(r:RS):Prop where
 ks:KS C.w C.n0 C.sb (fun b=>C.kb b\/b=C.rb\/C.ev.ownBlock=some b) W r.S
 box:W.heap[C.rb]?=some (.cells (C.cells r.n) 180 (0,0))
 ent:W.ownsRow C.n0 3 1 C.ev r.ent.length (zkf (r.ent.map Int.ofNat))
 el:r.ent.length=C.p.prs.length
 en:∀c∈r.ent,c<=r.n
 n:(r.n:Int)<=1000000
 fb:FB r.n r.S
section
variable {C:RC} {W W' W'':World} {r r':RS}
theorem RI.below(h:RI C W r):Below C.w.heap.size C.w W:=h.ks.bl
theorem RI.later(h:RI C W r)(hb:Below W.heap.size W W'):RI C W' r:=⟨h.ks.later hb,zka h.box hb,zky h.ent hb,h.el,h.en,h.n,h.fb⟩
def RunP(C:RC)(W:World)(o:Out)(e:Ending)(W':World):Prop :=
 Kpt C.n0 C.kb W W'/\Below C.w.heap.size C.w W'/\match o with
 | .gas=>True
 | .err x=>e=zlx x
 | .ok r=>(∃u,e=.returned u)/\RI C W' r
theorem RI.cells(h:RI C W r):W.cell? ⟨C.rb,6,none⟩=some (.pointer (some ⟨C.sb,0,none⟩))/\W.cell? ⟨C.rb,7,none⟩=some (.int .i64 r.n)/\W.cell? ⟨C.rb,8,none⟩=some (.int .i64 C.F)/\W.cell? ⟨C.rb,9,none⟩=some C.ev/\∀o,W.frozen? ⟨C.rb,o,none⟩=false :=
 ⟨zc h.box rfl,zc h.box rfl,zc h.box rfl,zc h.box rfl,fun _=>zf h.box⟩
theorem FB.mono{j k:Nat}{S:ST}(h:FB j S)(hk:j<=k):FB k S:=⟨by have:=h.1;omega,fun f hf=>by have:=h.2 f hf;omega⟩
theorem Kpt.chg{n0:Nat}{kb Cc:Nat->Prop}(h:Chg Cc W W')(hC:∀b,Cc b->n0<=b/\¬ kb b):Kpt n0 kb W W' :=
 ⟨h.size,fun b hb hk=>h.block b hb fun hc=>by rcases hk with hk|hk;have:=(hC b hc).1;omega;exact(hC b hc).2 hk⟩
theorem RI.tick(hC:C.Ok)(h:RI C W r)(hF:(r.n:Int)<C.F):RI C (W.setCell ⟨C.rb,7,none⟩ (.int .i64 ((r.n:Int)+1))) { r with n:=r.n+1 }/\Kpt C.n0 C.kb W (W.setCell ⟨C.rb,7,none⟩ (.int .i64 ((r.n:Int)+1))):=by
 have hch:Chg (fun b=>b=C.rb) W (W.setCell ⟨C.rb,7,none⟩ (.int .i64 ((r.n:Int)+1))):=(Chg.refl (fun b=>b=C.rb) W).setCell (p:=⟨C.rb,7,none⟩) (.inl rfl) _;have hn:=h.ks.hn;refine⟨⟨h.ks.chg hch fun b _ e=>⟨by have:=hC.rb.1;omega,.inr (.inr (.inl e))⟩,?_,znW h.ent fun b hb=>?_,h.el,fun c hc=>by have:=h.en c hc;simp only;omega,by have:=hC.F6;simp only;omega,h.fb.mono (Nat.le_succ _)⟩,Kpt.chg hch fun b e=>⟨by have:=hC.rb.1;omega,by rw[e];exact hC.rb.2⟩⟩
 ·have:=heap_setCell_same W C.rb 7 _ _ (.int .i64 ((r.n:Int)+1)) h.box;rw[this];simp[RC.cells]
 ·have hne:b≠C.rb:=fun e=>hC.ev.1 (by rw[hb,e]);have hlt:=(h.ent.lt b hb).2;exact hch.block b hlt hne
end
theorem zlR{C:RC}(hC:C.Ok){W:World}{r:RS}(h:RI C W r):Calls Tryz.prog 167 #[.pointer (some ⟨C.rb,0,none⟩)] W (RunP C W (zkF C.F r)):=by
 obtain⟨-,y7,y8,-,yf⟩:=h.cells;have mq:=h.n;obtain⟨rb,hrb⟩:=zX (C.rb);obtain⟨F,hF⟩:=zX (C.F);obtain⟨n,hn⟩:=zX (r.n);have HS:=zh (show(fun w':World=>zv w' rb 7 (.int .i64 n)/\zv w' rb 8 (.int .i64 F)) W.drew from⟨by rw[<-hrb,<-hn];exact y7,by rw[<-hrb,<-hF];exact y8⟩);have hd:Below W.heap.size W W.drew:=zr.drew;have HK:=zh (show Kpt C.n0 C.kb W W.drew/\Below C.w.heap.size C.w W.drew from⟨Kpt.of_below hd,zkb h.below hd⟩);have HT:=zh (fun hlt=>RI.tick hC h hlt);have dA:=zh h.below;have yf':∀o,W.drew.frozen? ⟨rb,o,none⟩=false:=by rw[<-hrb];exact yf
 rw[hrb]at HT;rw[hn]at HT mq;rw[hF]at HT;by_cases hlt:F<=(n:Int)
 ·have HO:=zh (show zkF C.F r=.err 18 by unfold zkF;rw[if_pos (by rw[hF,hn];exact hlt)]);rw[hrb];clear h y7 y8 yf hrb hF hn HT;go_enter Tryz.func167,Tryz.ntmps167;go_upto_region 0 with fail
  go_region_held3 (fun w':World=>zv w' rb 7 (.int .i64 n)/\zv w' rb 8 (.int .i64 F))
   (with_reducible exact HS.out)
   (first|fail)
  go_wp2_with fail;refine(zpw 18 (by decide) _).mono ?_;rintro e w1 ⟨rfl,rfl⟩;refine⟨rfl,?_⟩;rw[HO.out];exact⟨HK.out.1,HK.out.2,rfl⟩
 ·have hw1:IntKind.i64.wrap ((n:Int)+1)=(n:Int)+1:=IntWalk.i64_in _ (by omega);have HO:=zh (show zkF C.F r=.ok { r with n:=n+1 } by unfold zkF;rw[if_neg (by rw[hF,hn];exact hlt),hn]);have HT2:=zh (HT.out (by omega));rw[hrb];have hlt':¬ F<=(n:Int):=hlt;clear h y7 y8 yf hrb hF hn HT;go_enter Tryz.func167,Tryz.ntmps167;go_upto_region 0 with fail
  go_region_held3 (fun w':World=>zv w' rb 7 (.int .i64 n)/\zv w' rb 8 (.int .i64 F))
   (with_reducible exact HS.out)
   (first|fail)
  obtain⟨z7,z8⟩:=HS.out;go_wp2_with fail;go_end0;rw[HO.out];have hd2:∀W:World,Below W.heap.size W W.drew:=fun W=>zr.drew;exact⟨HT2.out.2.trans (Kpt.of_below (hd2 _)),(HT2.out.1.later (hd2 _)).below,⟨_,rfl⟩,HT2.out.1.later (hd2 _)⟩
theorem zk5(p:Addr)(x:Int)(w:World):Calls Tryz.prog 168 #[.pointer (some p),.int .i64 x] w fun e w'=>w'=w/\((x=0/\∃u,e=.returned u)\/(x≠0/\e=zlx x)):=by
 by_cases hx:x=0
 ·subst hx;go_enter Tryz.func168,Tryz.ntmps168;go_wp2_with fail;go_end0;exact⟨rfl,.inl ⟨trivial,_,rfl⟩⟩
 ·have e1:(x != 0)=true:=by simpa using hx
  go_enter Tryz.func168,Tryz.ntmps168;go_wp2_with fail;refine(zpw x hx _).mono ?_;rintro e w1 ⟨rfl,rfl⟩;exact⟨rfl,rfl,.inr ⟨hx,rfl⟩⟩
theorem zu6:IsFn Tryz.prog 30 Tryz.f30:=⟨Tryz.func30,by kernel_rfl,by kernel_rfl⟩
theorem zrV(w:World)(n0 sb:Nat)(kb:Nat->Prop)(S:ST)(hw:S.WF):zqJ 30 Tryz.f30 (.pointer (some ⟨sb,0,none⟩)) (fun W=>KS w n0 sb kb W S) S.look where
 isFn:=zu6
 later:=fun _ _ h hb=>h.later hb
 fits:=(zsS 0 ⟨0,0,undef,undef,undef,undef,undef,fun _=>undef,fun _=>undef,fun _=>0,fun _=>undef⟩ S hw).fits
 call:=fun s W h=>by
  refine(h.cell s).mono ?_;rintro e W' ⟨v,l,b,rfl,hlk,hl0,ho,hf,hb⟩;refine⟨hb,?_⟩
  cases b
  ·obtain rfl:=hl0 rfl;obtain⟨A,c,rfl,-⟩:=zkd ho;exact .inl ⟨by simpa using hlk,A,c,rfl⟩
  ·obtain⟨A,c,rfl,-,hr⟩:=zo3 ho hf;exact .inr ⟨l,A,c,by simpa using hlk,rfl,hr⟩
theorem zvN{f:FuncId}{fn:Func}{rv:Value}{Rd:World->Prop}{look:ByteArray->Option (List Int)}(hL:zqJ f fn rv Rd look)(t:T)(v:Value)(w:World)(hv:NV w Any t v)(hR:Rd w) :
  Calls Tryz.prog 192 #[v,.func (.func f) #[rv] #[]] w fun e w'=>e=.returned (.tuple #[.bool (decide ((zk7 look t).1≠0)),.int .i64 (zk7 look t).2])/\Below w.heap.size w w':=by
 have HV:=zh hv;obtain⟨A,c,rfl,-⟩:=hv.open_;have iD:=zh (fun w' (hb:Below w.heap.size w w')=>zne hL t _ w' (hv.later hb) (hL.later _ _ hR hb));obtain⟨⟨x,y⟩,hx⟩:=zX (zk7 look t);rw[hx]at iD ⊢;dsimp only[NumE]at iD ⊢;clear hv hR hx;go_enter Tryz.func192,Tryz.ntmps192;have hb0:=zkc (zs w) (.cells #[.int .u8 t.k,.int .i64 t.n,.string t.s,.slice A t.ks.length c] 24);have HB0:=zh hb0;obtain⟨x0,x1,x2,x3⟩:=box4 (heap_alloc_new w (.cells #[.int .u8 t.k,.int .i64 t.n,.string t.s,.slice A t.ks.length c] 24));clear hb0;go_wp2_with fail;refine(iD.out _ HB0.out).mono ?_;rintro e w1 ⟨rfl,ae⟩;have HB1:=zh (zkb HB0.out ae);clear ae x0 x1 x2 x3;by_cases h0:x=0
 ·subst h0;go_wp2_with fail;go_ret2;exact⟨by simp,HB1.out⟩
 ·have e1:(x != 0)=true:=by simpa using h0
  go_wp2_with fail;go_ret2;exact⟨by simp[h0],HB1.out⟩
def RC.plus(C:RC)(lo hi:Nat):RC:={ C with kb:=fun b=>C.kb b\/(lo<=b/\b<hi) }
section
variable {C:RC} {W W' W'':World} {r r':RS} {lo hi:Nat}
theorem RI.rlt(h:RI C W r):C.rb<W.heap.size:=zki h.box
theorem RI.plus(hC:C.Ok)(h:RI C W r)(hb:Below W.heap.size W W'):(C.plus W.heap.size W'.heap.size).Ok/\RI (C.plus W.heap.size W'.heap.size) W' r:=by
 have h1:=h.rlt;refine⟨⟨hC.pg,hC.F,hC.F6,⟨hC.rb.1,fun hk=>?_⟩,⟨hC.ev.1,fun b hb' hk=>?_⟩,hC.ps⟩,⟨h.ks.also hb fun b hk=>?_,zka h.box hb,zky h.ent hb,h.el,h.en,h.n,h.fb⟩⟩
 ·rcases hk with hk|hk
  ·exact hC.rb.2 hk
  ·have:W.heap.size<=C.rb:=hk.1;omega
 ·rcases hk with hk|hk
  ·exact hC.ev.2 b hb' hk
  ·have:=(h.ent.lt b hb').2;have:=hk.1;omega
 ·rcases hk with(hk|hk)|hk|hk
  ·exact .inl (.inl hk)
  ·exact .inr hk
  ·exact .inl (.inr (.inl hk))
  ·exact .inl (.inr (.inr hk))
theorem RI.less(h:RI (C.plus lo hi) W r):RI C W r :=
 ⟨h.ks.less fun b hk=>hk.elim (fun hk=>.inl (.inl hk)) .inr,h.box,h.ent,h.el,h.en,h.n,h.fb⟩
theorem Kpt.less(h:Kpt C.n0 (C.plus lo hi).kb W W'):Kpt C.n0 C.kb W W':=⟨h.size,fun b hb hk=>h.kept b hb (hk.imp id .inl)⟩
theorem Kpt.plus{b o:Nat}{u:Value}(h:Kpt C.n0 (C.plus lo hi).kb W W')(hb:lo<=b/\b<hi)(hc:W.cell? ⟨b,o,none⟩=some u):W'.cell? ⟨b,o,none⟩=some u:=h.cell (.inr (.inr hb)) hc
end
def zyR(C:RC)(W:World)(t:T)(r:RS)(e:Ending)(W':World):Prop :=
 Kpt C.n0 C.kb W W'/\Below C.w.heap.size C.w W'/\((∃x,e=zlx x/\∀f,zlh C.F t r f=.err x)\/∃b r',e=.returned (.bool b)/\RI C W' r'/\∀f,zlh C.F t r f=f b r')
theorem zn1{C:RC}(hC:C.Ok){W:World}{r:RS}(h:RI C W r)(t:T)(v:Value)(hv:NV C.w Any t v):Calls Tryz.prog 180 #[.pointer (some ⟨C.rb,0,none⟩),v] W (zyR C W t r):=by
 have HV:=zh hv;obtain⟨A,c,rfl,-⟩:=hv.open_;have vM:∀(fn:Fn) (first cap:Array Value) (w:World),(Instr.makeFunc fn first cap).run Tryz.prog w=.ok (.func fn first cap) w:=fun _ _ _ _=>rfl;have hb0:=zkc (zs W) (.cells #[.int .u8 t.k,.int .i64 t.n,.string t.s,.slice A t.ks.length c] 24);obtain⟨dJ,h1⟩:=h.plus hC hb0;have hz1:(W.alloc (.cells #[.int .u8 t.k,.int .i64 t.n,.string t.s,.slice A t.ks.length c] 24)).heap.size=W.heap.size+1:=by simp
 have hbx:=box4 (heap_alloc_new W (.cells #[.int .u8 t.k,.int .i64 t.n,.string t.s,.slice A t.ks.length c] 24));have aN:=zh (Kpt.of_below (n0:=C.n0) (kb:=C.kb) hb0);obtain⟨W1,hW1⟩:=zX (W.alloc (.cells #[.int .u8 t.k,.int .i64 t.n,.string t.s,.slice A t.ks.length c] 24));rw[hW1]at dJ h1 hz1 hbx aN;have qh:=zh dJ;have H1:=zh h1;have HST:=zh (zlR dJ h1);obtain⟨hi,hhi⟩:=zX (W1.heap.size);rw[hhi]at qh H1 HST hz1;have aO:=zh hbx;have HZ1:=zh (show W.heap.size<hi by omega);clear hv dJ h1 hbx hb0 h hhi hz1;go_enter Tryz.func180,Tryz.ntmps180;go_wp2_with fail;refine HST.out.mono ?_;rintro e w1 ⟨hk1,hbl1,ho1⟩;have aB:=zh (aN.out.trans (Kpt.less (C:=C) hk1));have HB1:=zh hbl1
 cases hs:zkF C.F r with
 | gas=>exact absurd hs (zkt _ _).1
 | err x =>
  rw[show zkF (C.plus W.heap.size hi).F r=zkF C.F r from rfl,hs]at ho1;subst ho1;exact⟨rfl,aB.out,HB1.out,.inl ⟨x,rfl,fun f=>by unfold zlh;rw[hs];rfl⟩⟩
 | ok r1 =>
  rw[show zkF (C.plus W.heap.size hi).F r=zkF C.F r from rfl,hs]at ho1;obtain⟨⟨u,rfl⟩,hr1⟩:=ho1;have x0:=Kpt.plus (C:=C) hk1 (b:=W.heap.size) ⟨zl,HZ1.out⟩ aO.out.1;have x1:=Kpt.plus (C:=C) hk1 (b:=W.heap.size) ⟨zl,HZ1.out⟩ aO.out.2.1;have x2:=Kpt.plus (C:=C) hk1 (b:=W.heap.size) ⟨zl,HZ1.out⟩ aO.out.2.2.1;have x3:=Kpt.plus (C:=C) hk1 (b:=W.heap.size) ⟨zl,HZ1.out⟩ aO.out.2.2.2;have HS:=zh hs;have HR1:=zh hr1.less;obtain⟨y6,-⟩:=hr1.cells;have y6':w1.cell? ⟨C.rb,6,none⟩=some (.pointer (some ⟨C.sb,0,none⟩)):=y6;have sQ:=zh (fun w' (hb:Below w1.heap.size w1 w')=>zvN (zrV C.w C.n0 C.sb _ r1.S HR1.out.ks.wf) t _ w' (HV.out.later (zkb HR1.out.below hb)) (HR1.out.ks.later hb));obtain⟨⟨x,y⟩,hx⟩:=zX (zk7 r1.S.look t);rw[hx]at sQ;dsimp only at sQ;obtain⟨bb,hbb⟩:=zX (decide (x≠0));rw[hbb]at sQ;have iW:=zh hx;have HBBB:=zh hbb;clear hbb hk1 hbl1 hs hr1 y6 hx HST aO
  have ax:=zh (show ∀w',Below w1.heap.size w1 w'->(fun w':World=>zv w' W.heap.size 0 (.int .u8 t.k)/\zv w' W.heap.size 1 (.int .i64 t.n)/\zv w' W.heap.size 2 (.string t.s)/\zv w' W.heap.size 3 (.slice A t.ks.length c)/\zv w' C.rb 6 (.pointer (some ⟨C.sb,0,none⟩))) w' from fun w' hb=>⟨zb hb x0,zb hb x1,zb hb x2,zb hb x3,zb hb y6'⟩);have iq:=zh (ax.out _ zr.drew);clear x0 x1 x2 x3 y6';go_upto_region 2 with fail
  go_region_held3 (fun w':World=>zv w' W.heap.size 0 (.int .u8 t.k)/\zv w' W.heap.size 1 (.int .i64 t.n)/\zv w' W.heap.size 2 (.string t.s)/\zv w' W.heap.size 3 (.slice A t.ks.length c)/\zv w' C.rb 6 (.pointer (some ⟨C.sb,0,none⟩)))
   (first|with_reducible exact dK.out|with_reducible exact iq.out)
   (first
    | (go_at_call 192;refine(sQ.out _ zr.drew).mono ?_;rintro e y1 ⟨rfl,dZ⟩;have b1:=zkb (zs w1).drew dZ;have dK:=zh (ax.out _ b1))
    | fail)
  have HB2:=zh b1;clear b1 dZ dK;go_wp2_with fail;refine(zk5 _ y _).mono ?_;rintro e w3 ⟨rfl,hcs⟩;rcases hcs with⟨rfl,u2,rfl⟩|⟨hy,rfl⟩
  ·go_wp2_with fail;go_ret;refine⟨aB.out.trans (Kpt.of_below HB2.out),zkb HB1.out HB2.out,.inr ⟨bb,r1,rfl,HR1.out.later HB2.out,fun f=>?_⟩⟩;unfold zlh;rw[HS.out];simp only[Out.bind,valO,iW.out];simp[<-HBBB.out]
  ·refine⟨rfl,aB.out.trans (Kpt.of_below HB2.out),zkb HB1.out HB2.out,.inl ⟨y,rfl,fun f=>?_⟩⟩;unfold zlh;rw[HS.out];simp only[Out.bind,valO,iW.out];rw[if_pos hy]
theorem zmr(x:Int):I64 (wrap64 x):=by
 unfold wrap64 I64
 constructor<;>omega
theorem zq3(b:Bool):I64 (numI b):=by
 cases b
 ·exact⟨by decide,by decide⟩
 ·exact⟨by decide,by decide⟩
theorem zero_I64:I64 0:=⟨by decide,by decide⟩
theorem zqR{x y:Int}(h:I64 x):I64 (x.tmod y):=by
 obtain⟨h1,h2⟩:=h;rcases Int.le_total 0 x with h0|h0
 ·have a1:=Int.tmod_nonneg y h0;have a2:(x.tmod y).natAbs<=x.natAbs:=by rw[Int.natAbs_tmod];exact Nat.mod_le _ _
  exact⟨by omega,by omega⟩
 ·have a1:=Int.tmod_nonneg y (show 0 <= -x by omega);rw[Int.neg_tmod]at a1;have a2:(x.tmod y).natAbs<=x.natAbs:=by rw[Int.natAbs_tmod];exact Nat.mod_le _ _
  exact⟨by omega,by omega⟩
theorem zvl{k x y:Int}(hx:I64 x):I64 (divE k x y).1:=by
 unfold divE
 repeat' split
 all_goals first|exact zero_I64|exact zmr _|exact zqR hx
theorem zwx(k x:Int):I64 (unE k x).1:=by
 unfold unE
 split
 ·exact zmr _
 ·exact zq3 _
theorem zwO{c:Prop}[Decidable c]{a b:Int×Int}(ha:I64 a.1)(hb:I64 b.1):I64 (if c then a else b).1:=by
 split
 ·exact ha
 ·exact hb
theorem zxq{k x y:Int}(hx:I64 x):I64 (apE k x y).1:=by
 unfold apE
 repeat' apply zwO
 all_goals first|exact zmr _|exact zvl hx|exact zqR hx|exact zp9 _|exact zq3 _|exact zero_I64
theorem zu2{l:List Int}(h:∀x∈l,I64 x)(i:Nat):I64 (l.getD i 0):=by
 rw[List.getD_eq_getElem?_getD];rcases hx:l[i]? with _|x
 ·exact zero_I64
 ·exact h x (List.mem_of_getElem? hx)
theorem zw5{look:ByteArray->Option (List Int)}(hl:∀s l,look s=some l->l.length<=100000/\∀x∈l,I64 x){k n:Int}{s:ByteArray}{rs:List (Int×Int)}(hn:I64 n)(h0:I64 (rs.getD 0 (0,0)).1):I64 (evK look k n s rs).1:=by
 unfold evK
 split
 ·exact hn
 ·split
  ·unfold varE
   split
   ·exact zero_I64
   ·rename_i l hlk;obtain⟨h1,h2⟩:=hl s l hlk
    repeat' split
    all_goals first|exact zu2 h2 _|exact zero_I64|exact⟨by simp only;omega,by simp only;omega⟩
  ·repeat' split
   all_goals first|exact zwx _ _|exact zxq h0|exact zero_I64
theorem ztn{look:ByteArray->Option (List Int)}(hl:∀s l,look s=some l->l.length<=100000/\∀x∈l,I64 x){w:World}:∀(m:Nat) (t:T) (v:Value),size t<=m->NV w Any t v->I64 (evE look t).1
 | 0,t,_,h,_=>by obtain⟨k,n,s,ks⟩:=t;rw[size]at h;omega
 | m+1,.nd k n s ks,v,h,hv=>by
  obtain⟨A,c,-,hf,-,-,hrow⟩:=hv.open_;rw[evE];refine zw5 hl hf.2.1 ?_;rw[zpk,List.getD_eq_getElem?_getD,List.getElem?_map];rcases hk:ks[0]? with _|u
  ·exact zero_I64
  ·obtain⟨h1,h2⟩:=List.getElem?_eq_some_iff.1 hk;obtain⟨a,u0,u1,u2,u3,-,-,-,hn⟩:=hrow 0 h1;have hs:=zl7 (List.getElem_mem h1);rw[size]at h;have:=ztn hl m ks[0] _ (by omega) hn;rw[h2]at this;exact this
theorem zuT{S:ST}(h:S.WF):∀s l,S.look s=some l->l.length<=100000/\∀x∈l,I64 x:=fun s l hl=>by
 obtain⟨i,id,h1,h2,rfl⟩:=ST.look_num hl;obtain⟨kd,hc⟩:=h.cur;have:=h.cells id (hc.num id (List.mem_of_getElem? h2));exact⟨by omega,this.2⟩
theorem zrh{S:ST}(h:S.WF){w:World}{t:T}{v:Value}(hv:NV w Any t v):I64 (zk7 S.look t).1:=by
 unfold zk7
 split
 ·exact ztn (zuT h) _ _ _ zl hv
 ·exact zero_I64
def ValP(C:RC)(W:World)(t:T)(r:RS)(e:Ending)(W':World):Prop :=
 Below W.heap.size W W'/\((∃x,e=zlx x/\∀f,valO t r f=.err x)\/∃x,e=.returned (.int .i64 x)/\I64 x/\∀f,valO t r f=f x r)
theorem zpz{C:RC}{W:World}{r:RS}(h:RI C W r)(t:T)(v:Value)(hv:NV C.w Any t v):Calls Tryz.prog 182 #[.pointer (some ⟨C.rb,0,none⟩),v] W (ValP C W t r):=by
 have HV:=zh hv;obtain⟨A,c,rfl,-⟩:=hv.open_;have vM:∀(fn:Fn) (first cap:Array Value) (w:World),(Instr.makeFunc fn first cap).run Tryz.prog w=.ok (.func fn first cap) w:=fun _ _ _ _=>rfl;have hb0:=zkc (zs W) (.cells #[.int .u8 t.k,.int .i64 t.n,.string t.s,.slice A t.ks.length c] 24);have hbx:=box4 (heap_alloc_new W (.cells #[.int .u8 t.k,.int .i64 t.n,.string t.s,.slice A t.ks.length c] 24));obtain⟨y6,-⟩:=(h.later hb0).cells;have HR:=zh (h.later hb0);have HB0:=zh hb0;obtain⟨w1,hW1⟩:=zX (W.alloc (.cells #[.int .u8 t.k,.int .i64 t.n,.string t.s,.slice A t.ks.length c] 24));rw[hW1]at hbx HR HB0 y6;obtain⟨x0,x1,x2,x3⟩:=hbx;have sQ:=zh (fun w' (hb:Below w1.heap.size w1 w')=>zne (zrV C.w C.n0 C.sb _ r.S HR.out.ks.wf) t _ w' (HV.out.later (zkb HR.out.below hb)) (HR.out.ks.later hb));obtain⟨⟨x,y⟩,hx⟩:=zX (zk7 r.S.look t);rw[hx]at sQ;have iW:=zh hx
 have ax:=zh (show ∀w',Below w1.heap.size w1 w'->(fun w':World=>zv w' W.heap.size 0 (.int .u8 t.k)/\zv w' W.heap.size 1 (.int .i64 t.n)/\zv w' W.heap.size 2 (.string t.s)/\zv w' W.heap.size 3 (.slice A t.ks.length c)/\zv w' C.rb 6 (.pointer (some ⟨C.sb,0,none⟩))) w' from fun w' hb=>⟨zb hb x0,zb hb x1,zb hb x2,zb hb x3,zb hb y6⟩);have iq:=zh (ax.out _ zr.drew);clear hv hb0 hx x0 x1 x2 x3 y6 h;go_enter Tryz.func182,Tryz.ntmps182;go_upto_region 1 with fail;clear hW1
 go_region_held3 (fun w':World=>zv w' W.heap.size 0 (.int .u8 t.k)/\zv w' W.heap.size 1 (.int .i64 t.n)/\zv w' W.heap.size 2 (.string t.s)/\zv w' W.heap.size 3 (.slice A t.ks.length c)/\zv w' C.rb 6 (.pointer (some ⟨C.sb,0,none⟩)))
  (first|with_reducible exact dK.out|with_reducible exact iq.out)
  (first
   | (go_at_call 29;refine(sQ.out _ zr.drew).mono ?_;rintro e y1 ⟨rfl,dZ⟩;have b1:=zkb (zs w1).drew dZ;have dK:=zh (ax.out _ b1))
   | fail)
 have HB2:=zh (zkb HB0.out b1);clear b1 dZ dK;go_wp2_with fail;refine(zk5 _ y _).mono ?_;rintro e w3 ⟨rfl,hcs⟩;rcases hcs with⟨rfl,u2,rfl⟩|⟨hy,rfl⟩
 ·go_wp2_with fail;go_ret;refine⟨HB2.out,.inr ⟨x,rfl,?_,fun f=>?_⟩⟩
  ·have:=zrh HR.out.ks.wf HV.out;rw[iW.out]at this;exact this
  ·unfold valO;rw[iW.out];simp
 ·refine⟨rfl,HB2.out,.inl ⟨y,rfl,fun f=>?_⟩⟩;unfold valO;rw[iW.out,if_pos hy]
theorem zmE{C:RC}(hC:C.Ok){W:World}{r:RS}(h:RI C W r)(t:T)(v:Value)(hv:NV C.w Any t v)(b:Bool):Calls Tryz.prog 181 #[.pointer (some ⟨C.rb,0,none⟩),v,.bool b] W (RunP C W (zkx C.F t b r)):=by
 have HV:=zh hv;obtain⟨A,c,rfl,-⟩:=hv.open_;have hb0:=zkc (zs W) (.cells #[.int .u8 t.k,.int .i64 t.n,.string t.s,.slice A t.ks.length c] 24);obtain⟨x0,x1,x2,x3⟩:=box4 (heap_alloc_new W (.cells #[.int .u8 t.k,.int .i64 t.n,.string t.s,.slice A t.ks.length c] 24));have aN:=zh (Kpt.of_below (n0:=C.n0) (kb:=C.kb) hb0);have jf:=zh (zn1 hC (h.later hb0) t _ hv);clear hv hb0 h;go_enter Tryz.func181,Tryz.ntmps181;go_wp2_with fail;refine jf.out.mono ?_;rintro e w1 ⟨hk1,hb1,ho⟩;have aB:=zh (aN.out.trans hk1);have HB1:=zh hb1;clear hk1 hb1 jf x0 x1 x2 x3 aN;rcases ho with⟨x,rfl,hx⟩|⟨b1,r1,rfl,hr1,hx⟩
 ·refine⟨rfl,aB.out,HB1.out,?_⟩;rw[show zkx C.F t b r=.err x from hx _]
 ·have HX:=zh (show zkx C.F t b r=if b1=b then .ok r1 else .err 15 from hx _);have HR:=zh hr1;clear hr1 hx;by_cases hbb:b1=b
  ·subst hbb;have eu:=zh (show zkx C.F t b1 r=.ok r1 by rw[HX.out,if_pos rfl]);clear HX;go_wp2_with fail;go_end0;refine⟨aB.out,HB1.out,?_⟩;rw[eu.out];exact⟨⟨_,rfl⟩,HR.out⟩
  ·have e1:(b1 != b)=true:=by simpa using hbb
   have e2:(b1==b)=false:=by simpa using hbb
   go_wp2_with fail;refine(zpw 15 (by decide) _).mono ?_;rintro e w2 ⟨rfl,rfl⟩;refine⟨rfl,aB.out,HB1.out,?_⟩;rw[HX.out,if_neg hbb]
section
variable {P:Program} {ops:Array Oper} {Q:Exit->Act->World->Prop} {md:Region.Mode} {S1 S2:World->Prop} {k:Nat}
theorem zun{i j:Nat}{o o':Oper}{fuel:Nat}{listed:Array Bool}{a:Act}{w:World}(hr:Region.ready md ops listed=[i,j])(ho:ops[i]?=some o)(ho':ops[j]?=some o')
  (h:∀K':Act->World->Prop,Shut (∀a w,S1 w/\S2 w->wpG P md ops Q S1 S2 k fuel (listed.setIfInBounds i true) a w->K' a w)->if Region.wanted o (yielded ops a.tmps)=true then Oper.wp P o a w K' Q else K' (a.put o.dst undef) w)
  (h':∀K':Act->World->Prop,Shut (∀a w,S1 w/\S2 w->wpG P md ops Q S1 S2 k fuel (listed.setIfInBounds j true) a w->K' a w)->if Region.wanted o' (yielded ops a.tmps)=true then Oper.wp P o' a w K' Q else K' (a.put o'.dst undef) w) :
  wpG P md ops Q S1 S2 k (fuel+1) listed a w:=by
 refine⟨(fun h0=>by rw[hr]at h0;cases h0),fun x hx=>?_⟩;rw[hr]at hx;simp only[List.mem_cons,List.not_mem_nil,or_false]at hx;rcases hx with rfl|rfl
 ·exact wpOp_step ho fun K' hK=>h K' fun a w hS hW=>hK a w ⟨⟨hS.1,fun _=>hS.2⟩,hW⟩
 ·exact wpOp_step ho' fun K' hK=>h' K' fun a w hS hW=>hK a w ⟨⟨hS.1,fun _=>hS.2⟩,hW⟩
end
theorem set4{W:World}{b:Nat}{x0 x1 x2 x3 u0 u1 u2 u3:Value}{E:TypeId}(h:W.heap[b]?=some (.cells #[x0,x1,x2,x3] E (0,0))) :
  ((((W.setCell ⟨b,0,none⟩ u0).setCell ⟨b,1,none⟩ u1).setCell ⟨b,2,none⟩ u2).setCell ⟨b,3,none⟩ u3).heap[b]?=some (.cells #[u0,u1,u2,u3] E (0,0)) /\
   Chg (fun q=>q=b) W ((((W.setCell ⟨b,0,none⟩ u0).setCell ⟨b,1,none⟩ u1).setCell ⟨b,2,none⟩ u2).setCell ⟨b,3,none⟩ u3):=by
 refine⟨?_,((((Chg.refl (fun q=>q=b) W).setCell (p:=⟨b,0,none⟩) (.inl rfl) _).setCell (p:=⟨b,1,none⟩) (.inl rfl) _).setCell (p:=⟨b,2,none⟩) (.inl rfl) _).setCell (p:=⟨b,3,none⟩) (.inl rfl) _⟩;rw[heap_setCell_same _ b 3 _ _ u3 (heap_setCell_same _ b 2 _ _ u2 (heap_setCell_same _ b 1 _ _ u1 (heap_setCell_same W b 0 _ _ u0 h)))];simp
theorem zpm(t:T)(v:Value)(back:Bool)(w0 w:World)(hB0:Below w0.heap.size w0 w)(hv:NV w0 Any t v)(hk:0<t.ks.length):Calls Tryz.prog 179 #[v,.bool back] w fun e W'=>∃v1 v2,e=.returned (.tuple #[v1,v2])/\NV w0 Any (fstT back t) v1/\NV w0 Any (lstT back t) v2/\Below w.heap.size w W':=by
 have HV:=zh hv;obtain⟨A,c,rfl,hf,hlk,hlc,hrow⟩:=hv.open_;obtain⟨m,hm⟩:∃m,t.ks.length=m+1:=⟨t.ks.length-1,by omega⟩
 obtain⟨a,a0,a1,a2,a3,rfl,-,ha,hna⟩:=hrow 0 (by omega);obtain⟨a',b0,b1,b2,b3,e',-,hb,hnb⟩:=hrow m (by omega);injection e' with e';subst e';obtain⟨t6,yC⟩:=zX (t.ks[0]'(by omega));obtain⟨t7,yB⟩:=zX (t.ks[m]'(by omega));rw[yC]at hna;rw[yB]at hnb;have dL:=zh hna;have zO:=zh hnb;have zq:=zh (show kid t 0=t6 by simp[kid,show 0<t.ks.length by omega,yC]);have zn:=zh (show kid t (t.ks.length-1)=t7 by simp[kid,hm,show m<t.ks.length by omega,yB]);obtain⟨A6,c6,e6,-⟩:=hna.open_;obtain⟨A7,c7,e7,-⟩:=hnb.open_;simp only[nv,Value.agg.injEq,Array.mk.injEq,List.cons.injEq,and_true]at e6 e7;obtain⟨rfl,rfl,rfl,rfl⟩:=e6;obtain⟨rfl,rfl,rfl,rfl⟩:=e7;clear hna hnb yC yB;obtain⟨ha0,ha1,ha2,vS⟩:=ha;obtain⟨hb0,hb1,hb2,hb3⟩:=hb;simp only[Nat.zero_mul,Addr.add_zero']at ha0 ha1 ha2 vS
 replace ha0:=zb hB0 ha0
 replace ha1:=zb hB0 ha1
 replace ha2:=zb hB0 ha2
 replace vS:=zb hB0 vS
 replace hb0:=zb hB0 hb0
 replace hb1:=zb hB0 hb1
 replace hb2:=zb hB0 hb2
 replace hb3:=zb hB0 hb3
 clear hB0;have xy:IntKind.i64.wrap (m:Int)=(m:Int):=IntWalk.i64_in _ (by unfold LK at hlk;omega);have hm0:(0:Int)<=(m:Int):=by omega
 have hm1:(m:Int)<((m:Int)+1):=by omega
 have hbl:Below w.heap.size w (((w.alloc (.cells #[.int .u8 t.k,.int .i64 t.n,.string t.s,.slice (some a) (m+1) c] 24)).alloc (.cells #[.int .u8 0,.int .i64 0,.string ⟨#[]⟩,.slice none 0 0] 24)).alloc (.cells #[.int .u8 0,.int .i64 0,.string ⟨#[]⟩,.slice none 0 0] 24)):=zkc (zkc (zkc zr _) _) _;have hk0:=zkg (zkg (heap_alloc_new w (.cells #[.int .u8 t.k,.int .i64 t.n,.string t.s,.slice (some a) (m+1) c] 24)) (.cells #[.int .u8 0,.int .i64 0,.string ⟨#[]⟩,.slice none 0 0] 24)) (.cells #[.int .u8 0,.int .i64 0,.string ⟨#[]⟩,.slice none 0 0] 24);have hk4:=zkg (heap_alloc_new (w.alloc (.cells #[.int .u8 t.k,.int .i64 t.n,.string t.s,.slice (some a) (m+1) c] 24)) (.cells #[.int .u8 0,.int .i64 0,.string ⟨#[]⟩,.slice none 0 0] 24)) (.cells #[.int .u8 0,.int .i64 0,.string ⟨#[]⟩,.slice none 0 0] 24)
 have hk5:=heap_alloc_new ((w.alloc (.cells #[.int .u8 t.k,.int .i64 t.n,.string t.s,.slice (some a) (m+1) c] 24)).alloc (.cells #[.int .u8 0,.int .i64 0,.string ⟨#[]⟩,.slice none 0 0] 24)) (.cells #[.int .u8 0,.int .i64 0,.string ⟨#[]⟩,.slice none 0 0] 24);simp only[World.size_alloc]at hk4 hk5;go_enter Tryz.func179,Tryz.ntmps179;go_upto_region 1 with fail;obtain⟨w1,hw1⟩:=zX (((w.alloc (.cells #[.int .u8 t.k,.int .i64 t.n,.string t.s,.slice (some a) (m+1) c] 24)).alloc (.cells #[.int .u8 0,.int .i64 0,.string ⟨#[]⟩,.slice none 0 0] 24)).alloc (.cells #[.int .u8 0,.int .i64 0,.string ⟨#[]⟩,.slice none 0 0] 24));rw[hw1]at hbl hk0 hk4 hk5 ⊢
 have hSS:zW (fun w':World=>zv w' w.heap.size 3 (.slice (some a) (m+1) c)/\(w'.cell? a=some (.int .u8 t6.k)/\zv w' a.block (a.off+1) (.int .i64 t6.n)/\zv w' a.block (a.off+2) (.string t6.s)/\zv w' a.block (a.off+3) (.slice A6 t6.ks.length c6))/\(w'.cell? (a.add (m*4))=some (.int .u8 t7.k)/\zv w' ((a.add (m*4)).block) ((a.add (m*4)).off+1) (.int .i64 t7.n)/\zv w' ((a.add (m*4)).block) ((a.add (m*4)).off+2) (.string t7.s)/\zv w' ((a.add (m*4)).block) ((a.add (m*4)).off+3) (.slice A7 t7.ks.length c7))) zU w1.drew:=⟨⟨zc hk0 rfl,⟨zb hbl.drew ha0,zb hbl.drew ha1,zb hbl.drew ha2,zb hbl.drew vS⟩,⟨zb hbl.drew hb0,zb hbl.drew hb1,zb hbl.drew hb2,zb hbl.drew hb3⟩⟩,trivial⟩
 have eB:=zh (show w1.heap[w.heap.size+1]?=some (.cells #[.int .u8 0,.int .i64 0,.string ⟨#[]⟩,.slice none 0 0] 24 (0,0))from hk4);have dW:=zh (show w1.heap[w.heap.size+1+1]?=some (.cells #[.int .u8 0,.int .i64 0,.string ⟨#[]⟩,.slice none 0 0] 24 (0,0))from hk5);have af:=zh hbl;clear hw1 hbl hk0 hk4 hk5 ha0 ha1 ha2 vS hb0 hb1 hb2 hb3 hrow HV;refine wp_region_noPanic ?_;refine zG hSS 15 ?_;refine zT 0 hSS ?_;refine zT 1 hSS ?_;refine zT 2 hSS ?_;refine zT 3 hSS ?_;refine zT 4 hSS ?_;refine zT 5 hSS ?_;refine zT 6 hSS ?_;refine zT 7 hSS ?_;refine zT 8 hSS ?_;refine zT 9 hSS ?_;refine zT 10 hSS ?_;refine zT 11 hSS ?_
 have sU:=zh (show ∀w',Below w1.heap.size w1 w'->(fun w':World=>zv w' w.heap.size 3 (.slice (some a) (m+1) c)/\(w'.cell? a=some (.int .u8 t6.k)/\zv w' a.block (a.off+1) (.int .i64 t6.n)/\zv w' a.block (a.off+2) (.string t6.s)/\zv w' a.block (a.off+3) (.slice A6 t6.ks.length c6))/\(w'.cell? (a.add (m*4))=some (.int .u8 t7.k)/\zv w' ((a.add (m*4)).block) ((a.add (m*4)).off+1) (.int .i64 t7.n)/\zv w' ((a.add (m*4)).block) ((a.add (m*4)).off+2) (.string t7.s)/\zv w' ((a.add (m*4)).block) ((a.add (m*4)).off+3) (.slice A7 t7.ks.length c7))) w' from fun w' hb=>by
  obtain⟨⟨q0,⟨q1,q2,q3,q4⟩,q5,q6,q7,q8⟩,-⟩:=hSS;exact⟨zb hb q0,⟨zb hb q1,zb hb q2,zb hb q3,zb hb q4⟩,zb hb q5,zb hb q6,zb hb q7,zb hb q8⟩)
 clear hSS;refine zun (i:=12) (j:=13) (by kernel_rfl) rfl rfl (fun K hK=>?_) (fun K hK=>?_);(try simp only[zA,zB,zC]);go_simp;have hb2:=zkc (zs w1) (.cells #[.int .u8 0,.int .i64 0,.string ⟨#[]⟩,.slice none 0 0] 24);refine hK.out _ _ ⟨sU.out _ hb2.drew,trivial⟩ ?_;clear hK K;(try simp only[zQ]);refine zo 13 fun K hK=>?_;(try simp only[zA,zB,zC]);go_simp;have hb3:Below w1.heap.size w1 ((w1.alloc (.cells #[.int .u8 0,.int .i64 0,.string ⟨#[]⟩,.slice none 0 0] 24)).alloc (.cells #[.int .u8 0,.int .i64 0,.string ⟨#[]⟩,.slice none 0 0] 24)):=zkc hb2 (.cells #[.int .u8 0,.int .i64 0,.string ⟨#[]⟩,.slice none 0 0] 24);have fF:=zkg (heap_alloc_new w1 (.cells #[.int .u8 0,.int .i64 0,.string ⟨#[]⟩,.slice none 0 0] 24)) (.cells #[.int .u8 0,.int .i64 0,.string ⟨#[]⟩,.slice none 0 0] 24)
 have lM:=heap_alloc_new (w1.alloc (.cells #[.int .u8 0,.int .i64 0,.string ⟨#[]⟩,.slice none 0 0] 24)) (.cells #[.int .u8 0,.int .i64 0,.string ⟨#[]⟩,.slice none 0 0] 24);rw[World.size_alloc]at lM;refine hK.out _ _ ⟨sU.out _ hb3.drew,trivial⟩ ?_;clear hK K;(try simp only[zQ]);obtain⟨w3,hw3⟩:=zX ((w1.alloc (.cells #[.int .u8 0,.int .i64 0,.string ⟨#[]⟩,.slice none 0 0] 24)).alloc (.cells #[.int .u8 0,.int .i64 0,.string ⟨#[]⟩,.slice none 0 0] 24));rw[hw3]at hb3 fF lM ⊢;clear hw3 hb2;generalize GE7:w1.heap.size+1=b7 at lM ⊢;generalize GE6:w1.heap.size=b6 at fF ⊢;rotate_left 1;(try simp only[zA,zB,zC]);go_simp;have hb2:=zkc (zs w1) (.cells #[.int .u8 0,.int .i64 0,.string ⟨#[]⟩,.slice none 0 0] 24);refine hK.out _ _ ⟨sU.out _ hb2.drew,trivial⟩ ?_;clear hK K;(try simp only[zQ]);refine zo 12 fun K hK=>?_;(try simp only[zA,zB,zC]);go_simp
 have hb3:Below w1.heap.size w1 ((w1.alloc (.cells #[.int .u8 0,.int .i64 0,.string ⟨#[]⟩,.slice none 0 0] 24)).alloc (.cells #[.int .u8 0,.int .i64 0,.string ⟨#[]⟩,.slice none 0 0] 24)):=zkc hb2 (.cells #[.int .u8 0,.int .i64 0,.string ⟨#[]⟩,.slice none 0 0] 24);have lM:=zkg (heap_alloc_new w1 (.cells #[.int .u8 0,.int .i64 0,.string ⟨#[]⟩,.slice none 0 0] 24)) (.cells #[.int .u8 0,.int .i64 0,.string ⟨#[]⟩,.slice none 0 0] 24);have fF:=heap_alloc_new (w1.alloc (.cells #[.int .u8 0,.int .i64 0,.string ⟨#[]⟩,.slice none 0 0] 24)) (.cells #[.int .u8 0,.int .i64 0,.string ⟨#[]⟩,.slice none 0 0] 24);rw[World.size_alloc]at fF;refine hK.out _ _ ⟨sU.out _ hb3.drew,trivial⟩ ?_;clear hK K;(try simp only[zQ]);obtain⟨w3,hw3⟩:=zX ((w1.alloc (.cells #[.int .u8 0,.int .i64 0,.string ⟨#[]⟩,.slice none 0 0] 24)).alloc (.cells #[.int .u8 0,.int .i64 0,.string ⟨#[]⟩,.slice none 0 0] 24))
 rw[hw3]at hb3 lM fF ⊢;clear hw3 hb2;generalize GE7:w1.heap.size+1=b6 at fF ⊢;generalize GE6:w1.heap.size=b7 at lM ⊢
 all_goals
  have gE:w1.heap.size<=b6/\w1.heap.size<=b7/\b6≠b7:=by omega
  obtain⟨g6,g7,gN⟩:=gE;clear GE6 GE7;have HB3:=zh hb3;have c0:w3.cell? ⟨b6,0,none⟩=some (.int .u8 0):=zc fF rfl;have c1:w3.cell? ⟨b6,1,none⟩=some (.int .i64 0):=zc fF rfl;have c2:w3.cell? ⟨b6,2,none⟩=some (.string ⟨#[]⟩):=zc fF rfl;have c3:w3.cell? ⟨b6,3,none⟩=some (.slice none 0 0):=zc fF rfl;have cf:∀o,w3.frozen? ⟨b6,o,none⟩=false:=fun _=>zf fF;refine zo 14 fun K hK=>?_;(try simp only[zA,zB,zC]);go_simp;obtain⟨hh,hch⟩:=set4 (u0:=(.int .u8 t6.k)) (u1:=(.int .i64 t6.n)) (u2:=(.string t6.s)) (u3:=(.slice A6 t6.ks.length c6)) fF;obtain⟨w4,hwn⟩:=zX ((((w3.setCell ⟨b6,0,none⟩ (.int .u8 t6.k)).setCell ⟨b6,1,none⟩ (.int .i64 t6.n)).setCell ⟨b6,2,none⟩ (.string t6.s)).setCell ⟨b6,3,none⟩ (.slice A6 t6.ks.length c6));rw[hwn]at hh hch ⊢;have hb4:Below w1.heap.size w1 w4:=HB3.out.trans (hch.below HB3.out.size fun b e=>by omega);refine hK.out _ _ ⟨sU.out _ hb4.drew,trivial⟩ ?_
  clear hK K c0 c1 c2 c3 cf hwn;(try simp only[zQ]);have av:=zh hb4;have jI:=hch.keep lM (by omega);have c0:w4.cell? ⟨b7,0,none⟩=some (.int .u8 0):=zc jI rfl;have c1:w4.cell? ⟨b7,1,none⟩=some (.int .i64 0):=zc jI rfl;have c2:w4.cell? ⟨b7,2,none⟩=some (.string ⟨#[]⟩):=zc jI rfl;have c3:w4.cell? ⟨b7,3,none⟩=some (.slice none 0 0):=zc jI rfl;have cf:∀o,w4.frozen? ⟨b7,o,none⟩=false:=fun _=>zf jI;refine zp 15 fun K hK=>?_;(try simp only[zA,zB,zC]);go_simp;obtain⟨uJ,bu⟩:=set4 (u0:=(.int .u8 t7.k)) (u1:=(.int .i64 t7.n)) (u2:=(.string t7.s)) (u3:=(.slice A7 t7.ks.length c7)) jI;obtain⟨w5,hwn⟩:=zX ((((w4.setCell ⟨b7,0,none⟩ (.int .u8 t7.k)).setCell ⟨b7,1,none⟩ (.int .i64 t7.n)).setCell ⟨b7,2,none⟩ (.string t7.s)).setCell ⟨b7,3,none⟩ (.slice A7 t7.ks.length c7));rw[hwn]at uJ bu ⊢;have hb5:Below w1.heap.size w1 w5:=av.out.trans (bu.below av.out.size fun b e=>by omega)
  refine hK.out _ _ (sU.out _ hb5.drew) ?_;clear hK K c0 c1 c2 c3 cf hwn;(try simp only[zQ]);have qL:=zh (bu.keep hh (by omega));have Ar:=zh uJ;have ay:=zh (show Below w1.heap.size w1 w5 from hb5);clear hb3 fF lM jI hh uJ hch bu hb4 hb5 av HB3 sU;refine zd ?_;refine NoPanic.normal ?_;have lq:=zh (zka eB.out ay.out);have jy:=zh (zka dW.out ay.out);obtain⟨P,Q,X,Y,AX,AY,CX,CY,hE⟩:∃P Q X Y AX AY CX CY,cond back (P=b7/\Q=b6/\X=t7/\Y=t6/\AX=A7/\AY=A6/\CX=c7/\CY=c6) (P=b6/\Q=b7/\X=t6/\Y=t7/\AX=A6/\AY=A7/\CX=c6/\CY=c7):=by cases back<;>exact⟨_,_,_,_,_,_,_,_,rfl,rfl,rfl,rfl,rfl,rfl,rfl,rfl⟩
  cases back
  obtain⟨rfl,rfl,rfl,rfl,rfl,rfl,rfl,rfl⟩:=hE;have HX:=qL;have HY:=Ar;have NX:=dL;have NY:=zO;have EX:=zq;have EY:=zn;go_upto_region 4 with fail;rotate_left 1;obtain⟨rfl,rfl,rfl,rfl,rfl,rfl,rfl,rfl⟩:=hE;have HX:=Ar;have HY:=qL;have NX:=zO;have NY:=dL;have EX:=zn;have EY:=zq;go_upto_region 3 with fail
  all_goals
   clear qL Ar dL zO zq zn;have hS5:(fun w':World=>(zN4 w' P (.int .u8 X.k) (.int .i64 X.n) (.string X.s) (.slice AX X.ks.length CX))/\zN4 w' Q (.int .u8 Y.k) (.int .i64 Y.n) (.string Y.s) (.slice AY Y.ks.length CY)) w5.drew:=⟨⟨zc HX.out rfl,zc HX.out rfl,zc HX.out rfl,zc HX.out rfl⟩,⟨zc HY.out rfl,zc HY.out rfl,zc HY.out rfl,zc HY.out rfl⟩⟩
   refine wp_region_noPanic ?_;refine zkk (fun w':World=>(zN4 w' P (.int .u8 X.k) (.int .i64 X.n) (.string X.s) (.slice AX X.ks.length CX))/\zN4 w' Q (.int .u8 Y.k) (.int .i64 Y.n) (.string Y.s) (.slice AY Y.ks.length CY)) zU 3 (by kernel_rfl) ?_;refine zkp (i:=0) (v:=?_) rfl (by kernel_rfl) (by kernel_rfl) (by kernel_rfl) (by decide) (fun _ _ _ h=>h) (Or.inl ⟨by rfl,?_⟩) ⟨hS5,trivial⟩ ?_;rotate_left 1
   ·(intro w hSw;(try dsimp only at hSw);(try simp only[zA,zC]);go_simp;(try with_reducible rfl))
   (try simp only[zQ]);refine zkp (i:=1) (v:=?_) rfl (by kernel_rfl) (by kernel_rfl) (by kernel_rfl) (by decide) (fun _ _ _ h=>h) (Or.inl ⟨by rfl,?_⟩) ⟨hS5,trivial⟩ ?_;rotate_left 1
   ·(intro w hSw;(try dsimp only at hSw);(try simp only[zA,zB,zC]);go_simp;(try with_reducible rfl))
   (try simp only[zQ]);have hsz:w.heap.size+1+1<w1.heap.size:=(Array.getElem?_eq_some_iff.mp dW.out).1;have dP:=zh (af.out.trans (ay.out.mono (by omega)));have HC:=zh (show ∀W':World,W'.heap[P]?=w5.heap[P]?->W'.heap[Q]?=w5.heap[Q]?->(fun w':World=>(zN4 w' P (.int .u8 X.k) (.int .i64 X.n) (.string X.s) (.slice AX X.ks.length CX)/\zN4 w' Q (.int .u8 Y.k) (.int .i64 Y.n) (.string Y.s) (.slice AY Y.ks.length CY))) W'.drew from fun W' h6 h7=>⟨⟨zc (h6.trans HX.out) rfl,zc (h6.trans HX.out) rfl,zc (h6.trans HX.out) rfl,zc (h6.trans HX.out) rfl⟩,⟨zc (h7.trans HY.out) rfl,zc (h7.trans HY.out) rfl,zc (h7.trans HY.out) rfl,zc (h7.trans HY.out) rfl⟩⟩);have HZQ:=zh lq.out;have lh:=lq.out;have HZ5K:=jy.out;have c0:w5.cell? ⟨(w.heap.size+1),0,none⟩=some (.int .u8 0):=zc lh rfl;have c1:w5.cell? ⟨(w.heap.size+1),1,none⟩=some (.int .i64 0):=zc lh rfl
   have c2:w5.cell? ⟨(w.heap.size+1),2,none⟩=some (.string ⟨#[]⟩):=zc lh rfl;have c3:w5.cell? ⟨(w.heap.size+1),3,none⟩=some (.slice none 0 0):=zc lh rfl;have cf:∀o,w5.frozen? ⟨(w.heap.size+1),o,none⟩=false:=fun _=>zf lh;refine zo 2 fun K hK=>?_;(try simp only[zA,zB,zC]);go_simp;obtain⟨hh,hch⟩:=set4 (u0:=(.int .u8 X.k)) (u1:=(.int .i64 X.n)) (u2:=(.string X.s)) (u3:=(.slice AX X.ks.length CX)) lh;obtain⟨w6,hwn⟩:=zX ((((w5.setCell ⟨(w.heap.size+1),0,none⟩ (.int .u8 X.k)).setCell ⟨(w.heap.size+1),1,none⟩ (.int .i64 X.n)).setCell ⟨(w.heap.size+1),2,none⟩ (.string X.s)).setCell ⟨(w.heap.size+1),3,none⟩ (.slice AX X.ks.length CX));rw[hwn]at hh hch ⊢;clear c0 c1 c2 c3 cf hwn;have HBW6:=zh (dP.out.trans (hch.below dP.out.size fun b e=>by omega));have k6:=hch.block (P) (Array.getElem?_eq_some_iff.mp HX.out).1 (by omega)
   have k7:=hch.block (Q) (Array.getElem?_eq_some_iff.mp HY.out).1 (by omega);have lg:=hch.keep HZ5K (by omega);refine hK.out _ _ ⟨HC.out _ k6 k7,trivial⟩ ?_;have HF4:=zh hh;have K6:=zh k6;have K7:=zh k7;have bH:=zh hch;clear hK K k6 k7 hh hch;(try simp only[zQ]);have c0:w6.cell? ⟨(w.heap.size+1+1),0,none⟩=some (.int .u8 0):=zc lg rfl;have c1:w6.cell? ⟨(w.heap.size+1+1),1,none⟩=some (.int .i64 0):=zc lg rfl;have c2:w6.cell? ⟨(w.heap.size+1+1),2,none⟩=some (.string ⟨#[]⟩):=zc lg rfl;have c3:w6.cell? ⟨(w.heap.size+1+1),3,none⟩=some (.slice none 0 0):=zc lg rfl;have cf:∀o,w6.frozen? ⟨(w.heap.size+1+1),o,none⟩=false:=fun _=>zf lg;refine zp 3 fun K hK=>?_;(try simp only[zA,zB,zC]);go_simp;obtain⟨hh,hch⟩:=set4 (u0:=(.int .u8 Y.k)) (u1:=(.int .i64 Y.n)) (u2:=(.string Y.s)) (u3:=(.slice AY Y.ks.length CY)) lg
   obtain⟨w7,hwn⟩:=zX ((((w6.setCell ⟨(w.heap.size+1+1),0,none⟩ (.int .u8 Y.k)).setCell ⟨(w.heap.size+1+1),1,none⟩ (.int .i64 Y.n)).setCell ⟨(w.heap.size+1+1),2,none⟩ (.string Y.s)).setCell ⟨(w.heap.size+1+1),3,none⟩ (.slice AY Y.ks.length CY));rw[hwn]at hh hch ⊢;clear c0 c1 c2 c3 cf hwn;have HBW7:=zh (HBW6.out.trans (hch.below HBW6.out.size fun b e=>by omega));have k6:=hch.block (P) (by have:=(Array.getElem?_eq_some_iff.mp HX.out).1;have:=bH.out.size;omega) (by omega);have k7:=hch.block (Q) (by have:=(Array.getElem?_eq_some_iff.mp HY.out).1;have:=bH.out.size;omega) (by omega);have HF4':=zh (hch.keep HF4.out (by omega));refine hK.out _ _ (HC.out _ (k6.trans K6.out) (k7.trans K7.out)) ?_;have HF5:=zh hh;clear hK K k6 k7 hh hch;(try simp only[zQ]);refine zd ?_;refine NoPanic.normal ?_;have d4:=HF4'.out;have d5:=HF5.out
   have g0:w7.drew.cell? ⟨w.heap.size+1,0,none⟩=some (.int .u8 X.k):=zc d4 rfl;have g1:w7.drew.cell? ⟨w.heap.size+1,1,none⟩=some (.int .i64 X.n):=zc d4 rfl;have g2:w7.drew.cell? ⟨w.heap.size+1,2,none⟩=some (.string X.s):=zc d4 rfl;have g3:w7.drew.cell? ⟨w.heap.size+1,3,none⟩=some (.slice AX X.ks.length CX):=zc d4 rfl;have g4:w7.drew.cell? ⟨w.heap.size+1+1,0,none⟩=some (.int .u8 Y.k):=zc d5 rfl;have g5:w7.drew.cell? ⟨w.heap.size+1+1,1,none⟩=some (.int .i64 Y.n):=zc d5 rfl;have g6:w7.drew.cell? ⟨w.heap.size+1+1,2,none⟩=some (.string Y.s):=zc d5 rfl;have g7:w7.drew.cell? ⟨w.heap.size+1+1,3,none⟩=some (.slice AY Y.ks.length CY):=zc d5 rfl;go_wp2_with fail
   refine bodyPost_ret (v:=.tuple #[.agg #[.int .u8 X.k,.int .i64 X.n,.string X.s,.slice AX X.ks.length CX],.agg #[.int .u8 Y.k,.int .i64 Y.n,.string Y.s,.slice AY Y.ks.length CY]]) (by simp[results,Tryz.results179,go_sem,g0,g1,g2,g3,g4,g5,g6,g7]) rfl ⟨_,_,rfl,?_,?_,HBW7.out.drew.drew⟩
   ·simp only[fstT,lstT,if_true,if_false,Bool.false_eq_true,EX.out,EY.out];exact NX.out
   ·simp only[fstT,lstT,if_true,if_false,Bool.false_eq_true,EX.out,EY.out];exact NY.out
def IStC(G:List PR->T->Prop)(g:Nat):Prop:=∀C:RC,C.Ok->∀(W:World) (r:RS),RI C W r->∀(t:T) (v:Value) (back:Bool),NV C.w Any t v->G C.p.prs t->zkB C.p.prs C.F g back t r ≠ .gas ->
 Calls Tryz.prog 139 #[.pointer (some ⟨C.rb,0,none⟩),v,.bool back] W (RunP C W (zkB C.p.prs C.F g back t r))
theorem zla{G:List PR->T->Prop}{g:Nat}(hS:IStC G g){C:RC}(hC:C.Ok){W:World}{r:RS}(h:RI C W r)(t:T)(v:Value)(back:Bool)(hv:NV C.w Any t v)(hG:∀u∈t.ks,G C.p.prs u)(aD:runO C.p.prs C.F g back t r ≠ .gas) :
  Calls Tryz.prog 118 #[.pointer (some ⟨C.rb,0,none⟩),v,.bool back] W (RunP C W (runO C.p.prs C.F g back t r)):=by
 obtain⟨A,c,rfl,-,hlk,hlc,hrow⟩:=hv.open_;have aa:=zh hrow;have HS:=zh hS;have HG:=zh hG;have hb0:=zkc (zs W) (.cells #[.int .u8 t.k,.int .i64 t.n,.string t.s,.slice A t.ks.length c] 24);obtain⟨dJ,h1⟩:=h.plus hC hb0;have hz1:(W.alloc (.cells #[.int .u8 t.k,.int .i64 t.n,.string t.s,.slice A t.ks.length c] 24)).heap.size=W.heap.size+1:=by simp
 have hbx:=box4 (heap_alloc_new W (.cells #[.int .u8 t.k,.int .i64 t.n,.string t.s,.slice A t.ks.length c] 24));have aN:=zh (Kpt.of_below (n0:=C.n0) (kb:=C.kb) hb0);obtain⟨W1,hW1⟩:=zX (W.alloc (.cells #[.int .u8 t.k,.int .i64 t.n,.string t.s,.slice A t.ks.length c] 24));rw[hW1]at dJ h1 hz1 hbx aN;obtain⟨hi,hhi⟩:=zX (W1.heap.size);rw[hhi]at dJ h1 hz1;have qh:=zh dJ;have H1:=zh h1;have aO:=zh hbx;have hz2:W.heap.size<hi:=by omega
 have hwn:IntKind.i64.wrap ((t.ks.length:Int)-1)=(t.ks.length:Int)-1:=IntWalk.i64_in _ (by unfold LK at hlk;omega);have hwq:∀j:Nat,j<t.ks.length->IntKind.i64.wrap ((t.ks.length:Int)-1-(j:Int))=((t.ks.length-1-j:Nat):Int):=fun j hj=>by rw[IntWalk.i64_in _ (by unfold LK at hlk;omega)];omega
 obtain⟨o,ho⟩:=zX (runO C.p.prs C.F g back t r);have HO:=zh (show zld (zkB C.p.prs C.F g back) ((blkL back t).drop 0) r=o by rw[List.drop_zero];exact ho);have pY:=zh (show o ≠ .gas from ho▸aD);have jw:(blkL back t).length=t.ks.length:=by unfold blkL;split<;>simp
 rw[ho];have dV:=zh jw;have hlk2:t.ks.length<=17592186044416:=by unfold LK at hlk;omega
 clear jw hlk;clear hv dJ h1 hbx hb0 h hz1 hS hG hrow ho aD;obtain⟨x0,x1,x2,x3⟩:=aO.out;go_enter Tryz.func118,Tryz.ntmps118;go_wp2_with fail;clear x0 x1 x2 x3 hW1
 go_loopw [15] (fun i wr=>∃(j:Nat) (r1:RS),j<=t.ks.length/\i=.int .i64 j/\Hid (RI (C.plus W.heap.size hi) wr r1)/\Hid (Kpt C.n0 (C.plus W.heap.size hi).kb W1 wr)/\Hid (zld (zkB C.p.prs C.F g back) ((blkL back t).drop j) r1=o)) (fun i _=>t.ks.length-(intOf i).toNat)
 case atStart=>exact⟨0,r,Nat.zero_le _,rfl,H1,zh (Kpt.refl _ _ _),HO⟩
 case round =>
  obtain⟨j,r1,hj,rfl,HR,HK,HB⟩:=hrel;by_cases hlt:j<t.ks.length
  ·cases back
   ·skip
    have hj1:(j:Int)<(t.ks.length:Int):=by omega
    have hj0:(0:Int)<=(j:Int):=by omega
    have yE:j<t.ks.length:=by omega
    have hqs1:(j:Int)<(t.ks.length:Int):=by omega
    have hqs0:(0:Int)<=(j:Int):=by omega
    have eP:=HR.out.below;obtain⟨a,u,A1,c1,rfl,-,hu,⟨p0,p1,p2,p3⟩,hnu⟩:=aa.out.nd yE;have hgu:=HG.out u (by rw[<-hu.out];exact List.getElem_mem _);have hbs:zld (zkB C.p.prs C.F g false) ((blkL false t).drop j) r1=(zkB C.p.prs C.F g false u r1).bind (zld (zkB C.p.prs C.F g false) ((blkL false t).drop (j+1))):=by
     rw[show(blkL false t).drop j=u::(blkL false t).drop (j+1) by rw[List.drop_eq_getElem_cons (by rw[dV.out];exact hlt),<-hu.out];congr 1;all_goals simp[blkL,hlt]];rfl
    rw[HB.out]at hbs;have iF:=zh hbs;have wN:=zh (HS.out (C.plus W.heap.size hi) qh.out wr r1 HR.out u _ false hnu hgu (fun e=>pY.out (by rw[hbs,show zkB C.p.prs C.F g false u r1=.gas from e];rfl)));have q0:=zb eP p0;have q1:=zb eP p1;have q2:=zb eP p2;have q3:=zb eP p3;have x3:wr.cell? ⟨W.heap.size,3,none⟩=some (.slice (some a) t.ks.length c):=HK.out.cell (.inr (.inr ⟨zl,hz2⟩)) aO.out.2.2.2;clear hbs eP hnu hgu p0 p1 p2 p3 hu;go_wp2_with fail;refine wN.out.mono ?_;rintro e w2 ⟨hk2,hb2,ho2⟩;have gH:match zkB C.p.prs C.F g false u r1 with
     | .gas=>True
     | .err x=>e=zlx x
     | .ok r=>(∃u,e=.returned u)/\RI (C.plus W.heap.size hi) w2 r:=ho2
    have aL:=zh (HK.out.trans hk2);clear ho2 hk2 wN q0 q1 q2 q3 x3
    cases hx:zkB C.p.prs C.F g false u r1 with
    | gas=>exact absurd (by rw[iF.out,hx];rfl) pY.out
    | err x =>
     rw[hx]at gH;subst gH;have ho3:o=.err x:=by rw[iF.out,hx];rfl
     dsimp only;refine⟨rfl,aN.out.trans (Kpt.less aL.out),hb2,?_⟩;rw[ho3]
    | ok r2 =>
     rw[hx]at gH;obtain⟨⟨u2,rfl⟩,hr2⟩:=gH;have HR2:=zh hr2;have HB2:=zh (show zld (zkB C.p.prs C.F g false) ((blkL false t).drop (j+1)) r2=o by rw[iF.out,hx];rfl);clear hr2 hx;go_wp2_with fail
     go_roundw
     case rel=>exact⟨j+1,r2,by omega,by go_num,HR2,aL,HB2⟩
     case measure=>simp[intOf];omega
   ·skip
    have hwq1:=hwq j hlt;obtain⟨q,hq⟩:=zX (t.ks.length-1-j);rw[hq]at hwq1;have hj1:(j:Int)<(t.ks.length:Int):=by omega
    have hj0:(0:Int)<=(j:Int):=by omega
    have yE:q<t.ks.length:=by omega
    have hqs1:(q:Int)<(t.ks.length:Int):=by omega
    have hqs0:(0:Int)<=(q:Int):=by omega
    have eP:=HR.out.below;obtain⟨a,u,A1,c1,rfl,-,hu,⟨p0,p1,p2,p3⟩,hnu⟩:=aa.out.nd yE;have hgu:=HG.out u (by rw[<-hu.out];exact List.getElem_mem _);have hbs:zld (zkB C.p.prs C.F g true) ((blkL true t).drop j) r1=(zkB C.p.prs C.F g true u r1).bind (zld (zkB C.p.prs C.F g true) ((blkL true t).drop (j+1))):=by
     rw[show(blkL true t).drop j=u::(blkL true t).drop (j+1) by rw[List.drop_eq_getElem_cons (by rw[dV.out];exact hlt),<-hu.out];congr 1;all_goals simp[blkL,hq]];rfl
    rw[HB.out]at hbs;have iF:=zh hbs;have wN:=zh (HS.out (C.plus W.heap.size hi) qh.out wr r1 HR.out u _ true hnu hgu (fun e=>pY.out (by rw[hbs,show zkB C.p.prs C.F g true u r1=.gas from e];rfl)));have q0:=zb eP p0;have q1:=zb eP p1;have q2:=zb eP p2;have q3:=zb eP p3;have x3:wr.cell? ⟨W.heap.size,3,none⟩=some (.slice (some a) t.ks.length c):=HK.out.cell (.inr (.inr ⟨zl,hz2⟩)) aO.out.2.2.2;clear hbs eP hnu hgu p0 p1 p2 p3 hu;go_wp2_with fail;refine wN.out.mono ?_;rintro e w2 ⟨hk2,hb2,ho2⟩;have gH:match zkB C.p.prs C.F g true u r1 with
     | .gas=>True
     | .err x=>e=zlx x
     | .ok r=>(∃u,e=.returned u)/\RI (C.plus W.heap.size hi) w2 r:=ho2
    have aL:=zh (HK.out.trans hk2);clear ho2 hk2 wN q0 q1 q2 q3 x3
    cases hx:zkB C.p.prs C.F g true u r1 with
    | gas=>exact absurd (by rw[iF.out,hx];rfl) pY.out
    | err x =>
     rw[hx]at gH;subst gH;have ho3:o=.err x:=by rw[iF.out,hx];rfl
     dsimp only;refine⟨rfl,aN.out.trans (Kpt.less aL.out),hb2,?_⟩;rw[ho3]
    | ok r2 =>
     rw[hx]at gH;obtain⟨⟨u2,rfl⟩,hr2⟩:=gH;have HR2:=zh hr2;have HB2:=zh (show zld (zkB C.p.prs C.F g true) ((blkL true t).drop (j+1)) r2=o by rw[iF.out,hx];rfl);clear hr2 hx;go_wp2_with fail
     go_roundw
     case rel=>exact⟨j+1,r2,by omega,by go_num,HR2,aL,HB2⟩
     case measure=>simp[intOf];omega
  ·have ho3:o=.ok r1:=by
    rw[<-HB.out,show(blkL back t).drop j=[] by rw[List.drop_eq_nil_iff,dV.out];omega];rfl
   have hbr:=HR.out.below;have hj1:¬ (j:Int)<(t.ks.length:Int):=by omega
   go_wp2_with fail;go_end0;refine⟨aN.out.trans (Kpt.less HK.out),hbr,?_⟩
   try rw[ho3]
   exact⟨⟨_,rfl⟩,HR.out.less⟩
def brO(prs:List PR)(F:Int)(g:Nat)(back:Bool)(t:T)(r:RS):Out :=
 zlh F (fstT back t) r fun yes r=>(zld (zkB prs F g back) (blkL back (if yes=true then kid t 1 else kid t 2)) r).bind (zkx F (lstT back t) yes)
theorem zrW{G:List PR->T->Prop}{g:Nat}(hS:IStC G g){C:RC}(hC:C.Ok){W:World}{r:RS}(h:RI C W r)(t:T)(v:Value)(back:Bool)(hv:NV C.w Any t v)(hk:t.ks.length=4)(hG1:∀u∈(kid t 1).ks,G C.p.prs u)(hG2:∀u∈(kid t 2).ks,G C.p.prs u)
  (aD:brO C.p.prs C.F g back t r ≠ .gas) :
  Calls Tryz.prog 164 #[.pointer (some ⟨C.rb,0,none⟩),v,.bool back] W (RunP C W (brO C.p.prs C.F g back t r)):=by
 obtain⟨A,c,rfl,-,hlk,hlc,hrow⟩:=hv.open_;have aa:=zh hrow;have HS:=zh hS;have HV:=zh hv;have hb0:=zkc (zs W) (.cells #[.int .u8 t.k,.int .i64 t.n,.string t.s,.slice A t.ks.length c] 24);obtain⟨x0,x1,x2,x3⟩:=box4 (heap_alloc_new W (.cells #[.int .u8 t.k,.int .i64 t.n,.string t.s,.slice A t.ks.length c] 24));have HB0:=zh hb0;have H:=zh h;have HC:=zh hC;have HX:=zh (heap_alloc_new W (.cells #[.int .u8 t.k,.int .i64 t.n,.string t.s,.slice A t.ks.length c] 24));have nA:=zh (fun w' (hb:Below W.heap.size W w')=>zpm t _ back C.w w' (zkb h.below hb) hv (by omega));have lZ:=zh hk;clear hrow hS hb0 h hv hk hC hlk;go_enter Tryz.func164,Tryz.ntmps164;go_wp2_with fail;refine(nA.out _ HB0.out).mono ?_;rintro e w2 ⟨v1,v2,rfl,n1,n2,b2⟩;obtain⟨t1,ht1⟩:=zX (fstT back t);obtain⟨t2,ht2⟩:=zX (lstT back t);have HT1:=zh ht1;have HT2:=zh ht2;rw[ht1]at n1;rw[ht2]at n2;obtain⟨A1,c1,rfl,-⟩:=n1.open_
 obtain⟨A2,c2,rfl,-⟩:=n2.open_;have ni:=zh n1;have aI:=zh n2;have b3:=zkc (zkc (zkb HB0.out b2) (.cells #[.int .u8 t1.k,.int .i64 t1.n,.string t1.s,.slice A1 t1.ks.length c1] 24)) (.cells #[.int .u8 t2.k,.int .i64 t2.n,.string t2.s,.slice A2 t2.ks.length c2] 24);have k0:=zkg (zkg (zka HX.out b2) (.cells #[.int .u8 t1.k,.int .i64 t1.n,.string t1.s,.slice A1 t1.ks.length c1] 24)) (.cells #[.int .u8 t2.k,.int .i64 t2.n,.string t2.s,.slice A2 t2.ks.length c2] 24);have k1:=zkg (heap_alloc_new w2 (.cells #[.int .u8 t1.k,.int .i64 t1.n,.string t1.s,.slice A1 t1.ks.length c1] 24)) (.cells #[.int .u8 t2.k,.int .i64 t2.n,.string t2.s,.slice A2 t2.ks.length c2] 24);have k2:=heap_alloc_new (w2.alloc (.cells #[.int .u8 t1.k,.int .i64 t1.n,.string t1.s,.slice A1 t1.ks.length c1] 24)) (.cells #[.int .u8 t2.k,.int .i64 t2.n,.string t2.s,.slice A2 t2.ks.length c2] 24)
 simp only[World.size_alloc]at k2;obtain⟨w3,hw3⟩:=zX ((w2.alloc (.cells #[.int .u8 t1.k,.int .i64 t1.n,.string t1.s,.slice A1 t1.ks.length c1] 24)).alloc (.cells #[.int .u8 t2.k,.int .i64 t2.n,.string t2.s,.slice A2 t2.ks.length c2] 24));rw[hw3]at b3 k0 k1 k2;have hz2:=zkb HB0.out b2;have hzz:=hz2.size;obtain⟨dw,h3⟩:=H.out.plus HC.out b3;have bV:=zh (Kpt.of_below (n0:=C.n0) (kb:=C.kb) b3);have l0:=zki k0;have l1:=zki k1;have l2:=zki k2;obtain⟨hi,hhi⟩:=zX (w3.heap.size);rw[hhi]at dw h3 l0 l1 l2;have ma:=zh dw;have H3:=zh h3;have K0:=zh k0;have K1:=zh k1;have K2:=zh k2;have jf:=zh (zn1 dw h3 t1 _ n1)
 obtain⟨p1,⟨y0,y1,y2,y3⟩⟩:True/\(w3.cell? ⟨w2.heap.size,0,none⟩=some (.int .u8 t1.k)/\w3.cell? ⟨w2.heap.size,1,none⟩=some (.int .i64 t1.n)/\w3.cell? ⟨w2.heap.size,2,none⟩=some (.string t1.s)/\w3.cell? ⟨w2.heap.size,3,none⟩=some (.slice A1 t1.ks.length c1)):=⟨trivial,zc k1 rfl,zc k1 rfl,zc k1 rfl,zc k1 rfl⟩
 clear n1 n2 b2 b3 k0 k1 k2 hz2 dw h3 x0 x1 x2 x3 HX HB0 nA p1 ht1 ht2;go_upto_region 2 with fail;clear hw3;go_wp2_with fail;refine jf.out.mono ?_;rintro e w4 ⟨hk4,hb4,cB⟩;have eB:=zh (bV.out.trans (Kpt.less (C:=C) hk4));have av:=zh (show Below C.w.heap.size C.w w4 from hb4);clear y0 y1 y2 y3 jf;rcases cB with⟨x,rfl,hx⟩|⟨b,r1,rfl,hr1,hx⟩
 ·refine⟨rfl,eB.out,av.out,?_⟩;rw[show brO C.p.prs C.F g back t r=.err x by unfold brO;rw[HT1.out];exact hx _]
 ·have k0:=hk4.blk (.inr (.inr ⟨by omega,l0⟩)) K0.out;have k2:=hk4.blk (.inr (.inr ⟨by omega,l2⟩)) K2.out;have HR4:=zh hr1;have lI:=zh (show brO C.p.prs C.F g back t r=(runO C.p.prs C.F g back (if b=true then kid t 1 else kid t 2) r1).bind (zkx C.F t2 b) by unfold brO;rw[HT1.out,HT2.out];exact hx _);have K4:=zh k0;have K5:=zh k2;have z3:w4.cell? ⟨W.heap.size,3,none⟩=some (.slice A t.ks.length c):=zc k0 rfl;have dz:=zh aD;clear hk4 hb4 hr1 hx k0 k2 aD
  cases b
  ·skip
   have hI:2<t.ks.length:=by have:=lZ.out;omega
   have hI1:(2:Int)<(t.ks.length:Int):=by omega
   obtain⟨a,u,Au,cu,rfl,-,hu,⟨p0,p1,p2,p3⟩,hnu⟩:=aa.out.nd hI;have gJ:kid t 2=u:=by unfold kid;rw[List.getD_eq_getElem?_getD,List.getElem?_eq_getElem hI];exact hu.out
   have tZ:=zh (show ∀x∈u.ks,G C.p.prs x by rw[<-gJ];exact hG2);have gW:=zh (show brO C.p.prs C.F g back t r=(runO C.p.prs C.F g back u r1).bind (zkx C.F t2 false) by rw[lI.out];simp only[Bool.false_eq_true,if_false,if_true,gJ]);have hgu:runO C.p.prs C.F g back u r1 ≠ .gas:=fun e=>dz.out (by rw[gW.out,e];rfl);have aj:=zh (zla HS.out ma.out HR4.out u _ back hnu tZ.out hgu);have ha:a.add (2*4)=⟨a.block,a.off+8,none⟩:=by unfold Addr.add;split<;>simp_all
   rw[ha]at p0 p1 p2 p3;have q0:w4.cell? ⟨a.block,a.off+8,none⟩=some (.int .u8 u.k):=zb av.out p0;have q1:w4.cell? ⟨a.block,a.off+8+1,none⟩=some (.int .i64 u.n):=zb av.out p1;have q2:w4.cell? ⟨a.block,a.off+8+2,none⟩=some (.string u.s):=zb av.out p2;have q3:w4.cell? ⟨a.block,a.off+8+3,none⟩=some (.slice Au u.ks.length cu):=zb av.out p3;clear gJ hnu hu p0 p1 p2 p3 hgu;go_wp2_with fail;refine aj.out.mono ?_;rintro e w5 ⟨hk5,hb5,dC⟩;have dW:=zh (eB.out.trans (Kpt.less (C:=C) hk5));have ay:=zh (show Below C.w.heap.size C.w w5 from hb5);have cz:match runO C.p.prs C.F g back u r1 with
    | .gas=>True
    | .err x=>e=zlx x
    | .ok r=>(∃u,e=.returned u)/\RI (C.plus W.heap.size hi) w5 r:=dC
   have k5:=hk5.blk (.inr (.inr ⟨by omega,l2⟩)) K5.out;have K6:=zh k5;clear q0 q1 q2 q3 z3 hk5 hb5 dC k5
   cases hx:runO C.p.prs C.F g back u r1 with
   | gas=>exact absurd (by rw[gW.out,hx];rfl) dz.out
   | err x =>
    rw[hx]at cz;subst cz;refine⟨rfl,dW.out,ay.out,?_⟩;rw[gW.out,hx];rfl
   | ok r2 =>
    rw[hx]at cz;obtain⟨⟨u2,rfl⟩,hr2⟩:=cz;have HAS:=zh (zmE ma.out hr2 t2 _ aI.out false);have ku:=zh (show brO C.p.prs C.F g back t r=zkx C.F t2 false r2 by rw[gW.out,hx];rfl);have q0:w5.cell? ⟨w2.heap.size+1,0,none⟩=some (.int .u8 t2.k):=zc K6.out rfl;have q1:w5.cell? ⟨w2.heap.size+1,1,none⟩=some (.int .i64 t2.n):=zc K6.out rfl;have q2:w5.cell? ⟨w2.heap.size+1,2,none⟩=some (.string t2.s):=zc K6.out rfl;have q3:w5.cell? ⟨w2.heap.size+1,3,none⟩=some (.slice A2 t2.ks.length c2):=zc K6.out rfl;clear hx hr2;go_wp2_with fail;refine HAS.out.mono ?_;rintro e w6 ⟨dn,hb6,ik⟩;have fB:=zh (dW.out.trans (Kpt.less (C:=C) dn));have aT:=zh (show Below C.w.heap.size C.w w6 from hb6);have bZ:match zkx C.F t2 false r2 with
     | .gas=>True
     | .err x=>e=zlx x
     | .ok r=>(∃u,e=.returned u)/\RI (C.plus W.heap.size hi) w6 r:=ik
    clear q0 q1 q2 q3 dn hb6 ik
    cases hy:zkx C.F t2 false r2 with
    | gas=>exact absurd (by rw[ku.out,hy]) dz.out
    | err x =>
     rw[hy]at bZ;subst bZ;refine⟨rfl,fB.out,aT.out,?_⟩;rw[ku.out,hy]
    | ok r3 =>
     rw[hy]at bZ;obtain⟨⟨u3,rfl⟩,hr3⟩:=bZ;have gQ:=zh hr3.less;have uy:=zh (show brO C.p.prs C.F g back t r=.ok r3 by rw[ku.out,hy]);clear hr3 hy;go_wp2_with fail;go_end0;refine⟨fB.out,aT.out,?_⟩;rw[uy.out];exact⟨⟨_,rfl⟩,gQ.out⟩
  ·skip
   have hI:1<t.ks.length:=by have:=lZ.out;omega
   have hI1:(1:Int)<(t.ks.length:Int):=by omega
   obtain⟨a,u,Au,cu,rfl,-,hu,⟨p0,p1,p2,p3⟩,hnu⟩:=aa.out.nd hI;have gJ:kid t 1=u:=by unfold kid;rw[List.getD_eq_getElem?_getD,List.getElem?_eq_getElem hI];exact hu.out
   have tZ:=zh (show ∀x∈u.ks,G C.p.prs x by rw[<-gJ];exact hG1);have gW:=zh (show brO C.p.prs C.F g back t r=(runO C.p.prs C.F g back u r1).bind (zkx C.F t2 true) by rw[lI.out];simp only[Bool.false_eq_true,if_false,if_true,gJ]);have hgu:runO C.p.prs C.F g back u r1 ≠ .gas:=fun e=>dz.out (by rw[gW.out,e];rfl);have aj:=zh (zla HS.out ma.out HR4.out u _ back hnu tZ.out hgu);have ha:a.add (1*4)=⟨a.block,a.off+4,none⟩:=by unfold Addr.add;split<;>simp_all
   rw[ha]at p0 p1 p2 p3;have q0:w4.cell? ⟨a.block,a.off+4,none⟩=some (.int .u8 u.k):=zb av.out p0;have q1:w4.cell? ⟨a.block,a.off+4+1,none⟩=some (.int .i64 u.n):=zb av.out p1;have q2:w4.cell? ⟨a.block,a.off+4+2,none⟩=some (.string u.s):=zb av.out p2;have q3:w4.cell? ⟨a.block,a.off+4+3,none⟩=some (.slice Au u.ks.length cu):=zb av.out p3;clear gJ hnu hu p0 p1 p2 p3 hgu;go_wp2_with fail;refine aj.out.mono ?_;rintro e w5 ⟨hk5,hb5,dC⟩;have dW:=zh (eB.out.trans (Kpt.less (C:=C) hk5));have ay:=zh (show Below C.w.heap.size C.w w5 from hb5);have cz:match runO C.p.prs C.F g back u r1 with
    | .gas=>True
    | .err x=>e=zlx x
    | .ok r=>(∃u,e=.returned u)/\RI (C.plus W.heap.size hi) w5 r:=dC
   have k5:=hk5.blk (.inr (.inr ⟨by omega,l2⟩)) K5.out;have K6:=zh k5;clear q0 q1 q2 q3 z3 hk5 hb5 dC k5
   cases hx:runO C.p.prs C.F g back u r1 with
   | gas=>exact absurd (by rw[gW.out,hx];rfl) dz.out
   | err x =>
    rw[hx]at cz;subst cz;refine⟨rfl,dW.out,ay.out,?_⟩;rw[gW.out,hx];rfl
   | ok r2 =>
    rw[hx]at cz;obtain⟨⟨u2,rfl⟩,hr2⟩:=cz;have HAS:=zh (zmE ma.out hr2 t2 _ aI.out true);have ku:=zh (show brO C.p.prs C.F g back t r=zkx C.F t2 true r2 by rw[gW.out,hx];rfl);have q0:w5.cell? ⟨w2.heap.size+1,0,none⟩=some (.int .u8 t2.k):=zc K6.out rfl;have q1:w5.cell? ⟨w2.heap.size+1,1,none⟩=some (.int .i64 t2.n):=zc K6.out rfl;have q2:w5.cell? ⟨w2.heap.size+1,2,none⟩=some (.string t2.s):=zc K6.out rfl;have q3:w5.cell? ⟨w2.heap.size+1,3,none⟩=some (.slice A2 t2.ks.length c2):=zc K6.out rfl;clear hx hr2;go_wp2_with fail;refine HAS.out.mono ?_;rintro e w6 ⟨dn,hb6,ik⟩;have fB:=zh (dW.out.trans (Kpt.less (C:=C) dn));have aT:=zh (show Below C.w.heap.size C.w w6 from hb6);have bZ:match zkx C.F t2 true r2 with
     | .gas=>True
     | .err x=>e=zlx x
     | .ok r=>(∃u,e=.returned u)/\RI (C.plus W.heap.size hi) w6 r:=ik
    clear q0 q1 q2 q3 dn hb6 ik
    cases hy:zkx C.F t2 true r2 with
    | gas=>exact absurd (by rw[ku.out,hy]) dz.out
    | err x =>
     rw[hy]at bZ;subst bZ;refine⟨rfl,fB.out,aT.out,?_⟩;rw[ku.out,hy]
    | ok r3 =>
     rw[hy]at bZ;obtain⟨⟨u3,rfl⟩,hr3⟩:=bZ;have gQ:=zh hr3.less;have uy:=zh (show brO C.p.prs C.F g back t r=.ok r3 by rw[ku.out,hy]);clear hr3 hy;go_wp2_with fail;go_end0;refine⟨fB.out,aT.out,?_⟩;rw[uy.out];exact⟨⟨_,rfl⟩,gQ.out⟩
def Up(n:Nat)(o:Out):Prop:=∀r,o=.ok r->n<=r.n
section
variable {m n:Nat} {o:Out} {F:Int} {t:T} {r:RS}
theorem Up.of(h:Good n o):Up n o:=h.2
theorem Up.mono(h:Up n o)(hm:m<=n):Up m o:=fun r e=>Nat.le_trans hm (h r e)
theorem Up.bind{f:RS->Out}(h:Up n o)(hf:∀r,n<=r.n->Up m (f r)):Up m (o.bind f):=by
 cases o with
 | gas=>intro r e;cases e
 | err x=>intro r e;cases e
 | ok r=>exact hf r (h r rfl)
theorem zqc{f:Int->RS->Out}(hf:∀x,Up m (f x r)):Up m (valO t r f):=by
 unfold valO
 split
 ·intro r e;cases e
 ·exact hf _
theorem zn2{f:Bool->RS->Out}(hf:∀b r',r.n+1<=r'.n->Up m (f b r')):Up m (zlh F t r f):=by
 unfold zlh;exact(Up.of (zkt F r)).bind fun r' h=>zqc fun x=>hf _ _ h
theorem zmD{f:T->RS->Out}(hf:∀t r,Up r.n (f t r)):∀(l:List T) (r:RS),Up r.n (zld f l r)
 | [],r=>fun r' e=>by injection e with e;subst e;exact zl
 | t::ts,r=>by
  rw[zld];exact(hf t r).bind fun r1 h1=>(zmD hf ts r1).mono h1
theorem zq6{f:T->RS->Out}(hf:∀t r,Up r.n (f t r)){entry test:T}{l1 l2:List T}:∀(m:Nat) (r:RS),Up r.n (zmf F f entry test l1 l2 m r)
 | 0,_=>fun r' e=>by cases e
 | m+1,r=>by
  rw[zmf];refine(zmD hf l1 r).bind fun r1 h1=>zn2 fun b r2 h2=>?_
  split
  ·intro r' e;injection e with e;subst e;omega
  ·refine(zmD hf l2 r2).bind fun r3 h3=>(Up.of (zlc F entry false r3)).bind fun r4 h4=>?_;exact(zq6 hf m r4).mono (by omega)
end
theorem znF{prs:List PR}{F:Int}:∀(g:Nat) (back:Bool) (t:T) (r:RS),Up r.n (zkB prs F g back t r)
 | 0,_,_,_=>fun r' e=>by cases e
 | g+1,back,t,r=>by
  have hb:∀(back:Bool) l r1,Up r1.n (zld (zkB prs F g back) l r1):=fun back l r1=>zmD (fun u r2=>znF g back u r2) l r1;rw[zkB]
  split
  ·exact zn2 fun b r1 h1=>(hb _ _ r1).bind fun r2 h2=>(Up.of (zlc _ _ _ _)).mono (by omega)
  ·split
   ·refine(Up.of (zlc _ _ _ _)).bind fun r1 h1=>?_;exact(zq6 (fun u r2=>znF g back u r2) g r1).mono (by omega)
   ·split
    ·refine(Up.of (zkt F r)).bind fun r1 h1=>zqc fun x=>?_;refine(Up.of (zkC r1 _)).bind fun r2 h2=>(hb _ _ r2).bind fun r3 h3=>(Up.of (zkt F r3)).bind fun r4 h4=>zqc fun x=>?_;exact(Up.of (zkC r4 _)).mono (by omega)
    ·split
     ·refine(Up.of (zkt F r)).bind fun r1 h1=>?_;refine(Up.of (zkC r1 _)).bind fun r2 h2=>(hb _ _ r2).bind fun r3 h3=>(Up.of (zkt F r3)).bind fun r4 h4=>?_;exact(Up.of (zkC r4 _)).mono (by omega)
     ·split
      ·split
       ·intro r' e;cases e
       ·refine(Up.of (zkt F r)).bind fun r1 h1=>?_;refine(Up.of (zkC r1 _)).bind fun r2 h2=>(hb _ _ _).bind fun r3 h3=>(Up.of (zkt F r3)).bind fun r4 h4=>?_;exact(Up.of (zkC r4 _)).mono (by simp only at h3;omega)
      ·refine(Up.of (zkt F r)).bind fun r1 h1=>?_;exact(Up.of (zkC r1 _)).mono (by omega)
def lpO(prs:List PR)(F:Int)(g:Nat)(back:Bool)(t:T)(r:RS):Out :=
 (zkx F (fstT back t) true r).bind (zmf F (zkB prs F g back) (fstT back t) (lstT back t) (blkL back (kid t 1)) (blkL back (kid t 2)) g)
def stp(rb:Nat)(W:World):Nat:=match W.cell? ⟨rb,7,none⟩with
 | some (.int _ n)=>n.toNat
 | _=>0
theorem zv9{C:RC}{W:World}{r:RS}(h:RI C W r):stp C.rb W=r.n:=by
 unfold stp;rw[h.cells.2.1];simp
theorem zuS{G:List PR->T->Prop}{g:Nat}(hS:IStC G g){C:RC}(hC:C.Ok){W:World}{r:RS}(h:RI C W r)(t:T)(v:Value)(back:Bool)(hv:NV C.w Any t v)(hk:t.ks.length=4)(hG1:∀u∈(kid t 1).ks,G C.p.prs u)(hG2:∀u∈(kid t 2).ks,G C.p.prs u)
  (aD:lpO C.p.prs C.F g back t r ≠ .gas) :
  Calls Tryz.prog 165 #[.pointer (some ⟨C.rb,0,none⟩),v,.bool back] W (RunP C W (lpO C.p.prs C.F g back t r)):=by
 obtain⟨A,c,rfl,-,hlk,hlc,hrow⟩:=hv.open_;have aa:=zh hrow;have HS:=zh hS;have HV:=zh hv;have hb0:=zkc (zs W) (.cells #[.int .u8 t.k,.int .i64 t.n,.string t.s,.slice A t.ks.length c] 24);obtain⟨x0,x1,x2,x3⟩:=box4 (heap_alloc_new W (.cells #[.int .u8 t.k,.int .i64 t.n,.string t.s,.slice A t.ks.length c] 24));have HB0:=zh hb0;have H:=zh h;have HC:=zh hC;have HX:=zh (heap_alloc_new W (.cells #[.int .u8 t.k,.int .i64 t.n,.string t.s,.slice A t.ks.length c] 24));have nA:=zh (fun w' (hb:Below W.heap.size W w')=>zpm t _ back C.w w' (zkb h.below hb) hv (by omega));have lZ:=zh hk;clear hrow hS hb0 h hv hk hC hlk;go_enter Tryz.func165,Tryz.ntmps165;go_wp2_with fail;refine(nA.out _ HB0.out).mono ?_;rintro e w2 ⟨v1,v2,rfl,n1,n2,b2⟩;obtain⟨t1,ht1⟩:=zX (fstT back t);obtain⟨t2,ht2⟩:=zX (lstT back t);have HT1:=zh ht1;have HT2:=zh ht2;rw[ht1]at n1;rw[ht2]at n2;obtain⟨A1,c1,rfl,-⟩:=n1.open_
 obtain⟨A2,c2,rfl,-⟩:=n2.open_;have ni:=zh n1;have aI:=zh n2;have b3:=zkc (zkc (zkb HB0.out b2) (.cells #[.int .u8 t1.k,.int .i64 t1.n,.string t1.s,.slice A1 t1.ks.length c1] 24)) (.cells #[.int .u8 t2.k,.int .i64 t2.n,.string t2.s,.slice A2 t2.ks.length c2] 24);have k0:=zkg (zkg (zka HX.out b2) (.cells #[.int .u8 t1.k,.int .i64 t1.n,.string t1.s,.slice A1 t1.ks.length c1] 24)) (.cells #[.int .u8 t2.k,.int .i64 t2.n,.string t2.s,.slice A2 t2.ks.length c2] 24);have k1:=zkg (heap_alloc_new w2 (.cells #[.int .u8 t1.k,.int .i64 t1.n,.string t1.s,.slice A1 t1.ks.length c1] 24)) (.cells #[.int .u8 t2.k,.int .i64 t2.n,.string t2.s,.slice A2 t2.ks.length c2] 24);have k2:=heap_alloc_new (w2.alloc (.cells #[.int .u8 t1.k,.int .i64 t1.n,.string t1.s,.slice A1 t1.ks.length c1] 24)) (.cells #[.int .u8 t2.k,.int .i64 t2.n,.string t2.s,.slice A2 t2.ks.length c2] 24)
 simp only[World.size_alloc]at k2;obtain⟨w3,hw3⟩:=zX ((w2.alloc (.cells #[.int .u8 t1.k,.int .i64 t1.n,.string t1.s,.slice A1 t1.ks.length c1] 24)).alloc (.cells #[.int .u8 t2.k,.int .i64 t2.n,.string t2.s,.slice A2 t2.ks.length c2] 24));rw[hw3]at b3 k0 k1 k2;have hz2:=zkb HB0.out b2;have hzz:=hz2.size;obtain⟨dw,h3⟩:=H.out.plus HC.out b3;have bV:=zh (Kpt.of_below (n0:=C.n0) (kb:=C.kb) b3);have l0:=zki k0;have l1:=zki k1;have l2:=zki k2;obtain⟨hi,hhi⟩:=zX (w3.heap.size);rw[hhi]at dw h3 l0 l1 l2;have ma:=zh dw;have H3:=zh h3;have K0:=zh k0;have K1:=zh k1;have K2:=zh k2;have jf:=zh (zmE dw h3 t1 _ n1 true)
 obtain⟨p1,⟨y0,y1,y2,y3⟩⟩:True/\(w3.cell? ⟨w2.heap.size,0,none⟩=some (.int .u8 t1.k)/\w3.cell? ⟨w2.heap.size,1,none⟩=some (.int .i64 t1.n)/\w3.cell? ⟨w2.heap.size,2,none⟩=some (.string t1.s)/\w3.cell? ⟨w2.heap.size,3,none⟩=some (.slice A1 t1.ks.length c1)):=⟨trivial,zc k1 rfl,zc k1 rfl,zc k1 rfl,zc k1 rfl⟩
 clear n1 n2 b2 b3 k0 k1 k2 hz2 dw h3 x0 x1 x2 x3 HX HB0 nA p1 ht1 ht2;go_upto_region 2 with fail;clear hw3;obtain⟨o,ho⟩:=zX (lpO C.p.prs C.F g back t r);have HO:=zh (show(zkx C.F t1 true r).bind (zmf C.F (zkB C.p.prs C.F g back) t1 t2 (blkL back (kid t 1)) (blkL back (kid t 2)) g)=o by rw[<-ho];unfold lpO;rw[HT1.out,HT2.out]);rw[ho]at aD ⊢;have dz:=zh aD;have bO:=zh ho;clear aD ho;go_wp2_with fail;refine jf.out.mono ?_;rintro e w4 ⟨hk4,hb4,cB⟩;have eB:=zh (bV.out.trans (Kpt.less (C:=C) hk4));have av:=zh (show Below C.w.heap.size C.w w4 from hb4);have bB:match zkx C.F t1 true r with
  | .gas=>True
  | .err x=>e=zlx x
  | .ok r=>(∃u,e=.returned u)/\RI (C.plus W.heap.size hi) w4 r:=cB
 have dX:=zh hk4;clear y0 y1 y2 y3 jf hk4 hb4 cB
 cases hy:zkx C.F t1 true r with
 | gas=>exact absurd (by rw[<-HO.out,hy];rfl) dz.out
 | err x =>
  rw[hy]at bB;subst bB;refine⟨rfl,eB.out,av.out,?_⟩;rw[<-HO.out,hy];rfl
 | ok r1 =>
  rw[hy]at bB;obtain⟨⟨u3,rfl⟩,hr1⟩:=bB;have HR4:=zh hr1;have jC:=zh (show zmf C.F (zkB C.p.prs C.F g back) t1 t2 (blkL back (kid t 1)) (blkL back (kid t 2)) g r1=o by rw[<-HO.out,hy];rfl);clear hr1 hy;have hI1:(1:Int)<(t.ks.length:Int):=by have:=lZ.out;omega
  have hI2:(2:Int)<(t.ks.length:Int):=by have:=lZ.out;omega
  have hi1:1<t.ks.length:=by omega
  have hi2:2<t.ks.length:=by omega
  obtain⟨a,u,Au,cu,rfl,-,hu,⟨p0,p1,p2,p3⟩,hnu⟩:=aa.out.nd hi1;obtain⟨a',u',Au',cu',e',-,hu',⟨p4,p5,p6,p7⟩,hnu'⟩:=aa.out.nd hi2;injection e' with e';subst e';have gJ:kid t 1=u:=by unfold kid;rw[List.getD_eq_getElem?_getD,List.getElem?_eq_getElem hi1];exact hu.out
  have rE:kid t 2=u':=by unfold kid;rw[List.getD_eq_getElem?_getD,List.getElem?_eq_getElem hi2];exact hu'.out
  rw[gJ]at hG1;rw[rE]at hG2;rw[gJ,rE]at jC;have xZ:=zh hG1;have HG2:=zh hG2;have wS:=zh hnu;have HNU':=zh hnu';have ha:a.add (1*4)=⟨a.block,a.off+4,none⟩:=by unfold Addr.add;split<;>simp_all
  have ha':a.add (2*4)=⟨a.block,a.off+8,none⟩:=by unfold Addr.add;split<;>simp_all
  rw[ha]at p0 p1 p2 p3;rw[ha']at p4 p5 p6 p7;have HPP:=zh (show ∀w',Below C.w.heap.size C.w w'->(w'.cell? ⟨a.block,a.off+4,none⟩=some (.int .u8 u.k)/\w'.cell? ⟨a.block,a.off+4+1,none⟩=some (.int .i64 u.n)/\w'.cell? ⟨a.block,a.off+4+2,none⟩=some (.string u.s)/\w'.cell? ⟨a.block,a.off+4+3,none⟩=some (.slice Au u.ks.length cu))/\(w'.cell? ⟨a.block,a.off+8,none⟩=some (.int .u8 u'.k)/\w'.cell? ⟨a.block,a.off+8+1,none⟩=some (.int .i64 u'.n)/\w'.cell? ⟨a.block,a.off+8+2,none⟩=some (.string u'.s)/\w'.cell? ⟨a.block,a.off+8+3,none⟩=some (.slice Au' u'.ks.length cu'))from fun w' hb=>⟨⟨zb hb p0,zb hb p1,zb hb p2,zb hb p3⟩,⟨zb hb p4,zb hb p5,zb hb p6,zb hb p7⟩⟩);clear gJ rE hnu hnu' hu hu' p0 p1 p2 p3 p4 p5 p6 p7 ha ha' hG1 hG2;have hz0:W.heap.size<hi:=l0;go_wp2_with fail
  go_loopw [] (fun wr=>∃(m:Nat) (r1:RS),Hid (RI (C.plus W.heap.size hi) wr r1)/\Hid (Kpt C.n0 (C.plus W.heap.size hi).kb w3 wr)/\Hid (zmf C.F (zkB C.p.prs C.F g back) t1 t2 (blkL back u) (blkL back u') m r1=o)) (fun wr=>C.F.toNat-stp C.rb wr)
  case atStart=>exact⟨g,r1,HR4,dX,jC⟩
  case round =>
   obtain⟨m,r3,HR,HK,HL⟩:=hrel;have j0:=HK.out.blk (.inr (.inr ⟨by omega,l0⟩)) K0.out;have j1:=HK.out.blk (.inr (.inr ⟨by omega,l1⟩)) K1.out;have j2:=HK.out.blk (.inr (.inr ⟨by omega,l2⟩)) K2.out;have z3:wr.cell? ⟨W.heap.size,3,none⟩=some (.slice (some a) t.ks.length c):=zc j0 rfl
   cases m with
   | zero=>exact absurd HL.out.symm dz.out
   | succ m =>
    have HL2:=zh (show(runO C.p.prs C.F g back u r3).bind (fun r=>zlh C.F t2 r fun b r=>if b=true then .ok r else(runO C.p.prs C.F g back u' r).bind fun r=>(zkx C.F t1 false r).bind (zmf C.F (zkB C.p.prs C.F g back) t1 t2 (blkL back u) (blkL back u') m))=o from HL.out);have hgu:runO C.p.prs C.F g back u r3 ≠ .gas:=fun e=>dz.out (by rw[<-HL2.out,e];rfl);have aj:=zh (zla HS.out ma.out HR.out u _ back wS.out xZ.out hgu);obtain⟨⟨q0,q1,q2,q3⟩,-⟩:=HPP.out wr HR.out.below;clear hgu j0 j1 j2;go_wp2_with fail;refine aj.out.mono ?_;rintro e w5 ⟨hk5,hb5,dC⟩;have dW:=zh (HK.out.trans hk5);have ay:=zh (show Below C.w.heap.size C.w w5 from hb5);have cz:match runO C.p.prs C.F g back u r3 with
     | .gas=>True
     | .err x=>e=zlx x
     | .ok r=>(∃u,e=.returned u)/\RI (C.plus W.heap.size hi) w5 r:=dC
    clear q0 q1 q2 q3 z3 hk5 hb5 dC aj
    cases hx:runO C.p.prs C.F g back u r3 with
    | gas=>exact absurd (by rw[<-HL2.out,hx];rfl) dz.out
    | err x =>
     rw[hx]at cz;subst cz;refine⟨rfl,bV.out.trans (Kpt.less (C:=C) dW.out),ay.out,?_⟩
     try rw[bO.out]
     rw[<-HL2.out,hx];rfl
    | ok r4 =>
     rw[hx]at cz;obtain⟨⟨u2,rfl⟩,hr4⟩:=cz;have zi:=zh (zmD (fun t r=>znF g back t r) (blkL back u) r3 r4 hx);have xc:=zh (show(zlh C.F t2 r4 fun b r=>if b=true then .ok r else(runO C.p.prs C.F g back u' r).bind fun r=>(zkx C.F t1 false r).bind (zmf C.F (zkB C.p.prs C.F g back) t1 t2 (blkL back u) (blkL back u') m))=o by rw[<-HL2.out,hx];rfl);have HHO2:=zh (zn1 ma.out hr4 t2 _ aI.out);have j2:=dW.out.blk (.inr (.inr ⟨by omega,l2⟩)) K2.out;have q0:w5.cell? ⟨w2.heap.size+1,0,none⟩=some (.int .u8 t2.k):=zc j2 rfl;have q1:w5.cell? ⟨w2.heap.size+1,1,none⟩=some (.int .i64 t2.n):=zc j2 rfl;have q2:w5.cell? ⟨w2.heap.size+1,2,none⟩=some (.string t2.s):=zc j2 rfl;have q3:w5.cell? ⟨w2.heap.size+1,3,none⟩=some (.slice A2 t2.ks.length c2):=zc j2 rfl;clear hx hr4 j2;go_wp2_with fail;refine HHO2.out.mono ?_;rintro e w6 ⟨dn,hb6,ik⟩;have fB:=zh (dW.out.trans dn)
     have aT:=zh (show Below C.w.heap.size C.w w6 from hb6);clear q0 q1 q2 q3 dn hb6 HHO2;rcases ik with⟨x,rfl,hx⟩|⟨b,r5,rfl,kT,hx⟩
     ·refine⟨rfl,bV.out.trans (Kpt.less (C:=C) fB.out),aT.out,?_⟩
      try rw[bO.out]
      rw[<-xc.out,show ∀f,zlh C.F t2 r4 f=.err x from hx]
     ·have gQ:=zh kT;have HL4:=zh (show(if b=true then .ok r5 else(runO C.p.prs C.F g back u' r5).bind fun r=>(zkx C.F t1 false r).bind (zmf C.F (zkB C.p.prs C.F g back) t1 t2 (blkL back u) (blkL back u') m))=o by rw[<-xc.out,show ∀f,zlh C.F t2 r4 f=f b r5 from hx]);have HUP2:=zh (zn2 (t:=t2) (F:=C.F) (r:=r4) (m:=r4.n+1) (f:=fun _ r=>.ok r) (fun b r' h r'' e=>by injection e with e;subst e;exact h) r5 (hx _));clear hx kT
      cases b
      ·have uV:=zh (show(runO C.p.prs C.F g back u' r5).bind (fun r=>(zkx C.F t1 false r).bind (zmf C.F (zkB C.p.prs C.F g back) t1 t2 (blkL back u) (blkL back u') m))=o from HL4.out);have hgu:runO C.p.prs C.F g back u' r5 ≠ .gas:=fun e=>dz.out (by rw[<-uV.out,e];rfl);have aj:=zh (zla HS.out ma.out gQ.out u' _ back HNU'.out HG2.out hgu);have j0:=fB.out.blk (.inr (.inr ⟨by omega,l0⟩)) K0.out;have z3:w6.cell? ⟨W.heap.size,3,none⟩=some (.slice (some a) t.ks.length c):=zc j0 rfl;obtain⟨-,q0,q1,q2,q3⟩:=HPP.out w6 aT.out;clear hgu j0;go_wp2_with fail;refine aj.out.mono ?_;rintro e w7 ⟨kH,dF,ig⟩;have tN:=zh (fB.out.trans kH);have Be:=zh (show Below C.w.heap.size C.w w7 from dF);have oK:match runO C.p.prs C.F g back u' r5 with
        | .gas=>True
        | .err x=>e=zlx x
        | .ok r=>(∃u,e=.returned u)/\RI (C.plus W.heap.size hi) w7 r:=ig
       clear q0 q1 q2 q3 z3 kH dF ig aj
       cases hx:runO C.p.prs C.F g back u' r5 with
       | gas=>exact absurd (by rw[<-uV.out,hx];rfl) dz.out
       | err x =>
        rw[hx]at oK;subst oK;refine⟨rfl,bV.out.trans (Kpt.less (C:=C) tN.out),Be.out,?_⟩
        try rw[bO.out]
        rw[<-uV.out,hx];rfl
       | ok r6 =>
        rw[hx]at oK;obtain⟨⟨u2,rfl⟩,dQ⟩:=oK;have HUP3:=zh (zmD (fun t r=>znF g back t r) (blkL back u') r5 r6 hx);have zZ:=zh (show(zkx C.F t1 false r6).bind (zmf C.F (zkB C.p.prs C.F g back) t1 t2 (blkL back u) (blkL back u') m)=o by rw[<-uV.out,hx];rfl);have HAS:=zh (zmE ma.out dQ t1 _ ni.out false);have j1:=tN.out.blk (.inr (.inr ⟨by omega,l1⟩)) K1.out;have q0:w7.cell? ⟨w2.heap.size,0,none⟩=some (.int .u8 t1.k):=zc j1 rfl;have q1:w7.cell? ⟨w2.heap.size,1,none⟩=some (.int .i64 t1.n):=zc j1 rfl;have q2:w7.cell? ⟨w2.heap.size,2,none⟩=some (.string t1.s):=zc j1 rfl;have q3:w7.cell? ⟨w2.heap.size,3,none⟩=some (.slice A1 t1.ks.length c1):=zc j1 rfl;clear hx dQ j1;go_wp2_with fail;refine HAS.out.mono ?_;rintro e w8 ⟨iM,cK,mo⟩;have pV:=zh (tN.out.trans iM);have bF:=zh (show Below C.w.heap.size C.w w8 from cK)
        have bY:match zkx C.F t1 false r6 with
         | .gas=>True
         | .err x=>e=zlx x
         | .ok r=>(∃u,e=.returned u)/\RI (C.plus W.heap.size hi) w8 r:=mo
        clear q0 q1 q2 q3 iM cK mo HAS
        cases hy:zkx C.F t1 false r6 with
        | gas=>exact absurd (by rw[<-zZ.out,hy];rfl) dz.out
        | err x =>
         rw[hy]at bY;subst bY;refine⟨rfl,bV.out.trans (Kpt.less (C:=C) pV.out),bF.out,?_⟩
         try rw[bO.out]
         rw[<-zZ.out,hy];rfl
        | ok r7 =>
         rw[hy]at bY;obtain⟨⟨u3,rfl⟩,ry⟩:=bY;have qC:=zh ry;have HL7:=zh (show zmf C.F (zkB C.p.prs C.F g back) t1 t2 (blkL back u) (blkL back u') m r7=o by rw[<-zZ.out,hy];rfl);have hmm:C.F.toNat-stp C.rb w8<C.F.toNat-stp C.rb wr:=by
          have e1:stp C.rb w8=r7.n:=zv9 (C:=C.plus W.heap.size hi) qC.out;have e2:stp C.rb wr=r3.n:=zv9 (C:=C.plus W.heap.size hi) HR.out;obtain⟨e3,e4⟩:=znp hy;have e5:=zi.out;have e6:=HUP2.out;have e7:=HUP3.out;have e8:r7.n=r6.n+1:=by rw[e3]
          omega
         have ou:=zh hmm;clear ry hy hmm;go_wp2_with fail
         go_roundw
         case rel=>exact⟨m,r7,qC,pV,HL7⟩
         case measure=>exact ou.out
      ·have uV:=zh (show o=.ok r5 from HL4.out.symm);have oo:=zh gQ.out.less;go_wp2_with fail;go_end0;refine⟨bV.out.trans (Kpt.less (C:=C) fB.out),aT.out,?_⟩
       try rw[bO.out]
       rw[uV.out];exact⟨⟨_,rfl⟩,oo.out⟩
section
variable {C:RC} {W W':World} {r:RS} {S':ST}
theorem RI.store(h:RI C W r)(hk:KS C.w C.n0 C.sb (fun b=>C.kb b\/b=C.rb\/C.ev.ownBlock=some b) W' S')(hp:Kpt C.n0 (fun b=>C.kb b\/b=C.rb\/C.ev.ownBlock=some b) W W')(hf:FB r.n S') :
  RI C W' { r with S:=S' }/\Kpt C.n0 C.kb W W' :=
 ⟨⟨hk,hp.blk (.inr (.inr (.inl rfl))) h.box,znW h.ent fun b hb=>hp.kept b (h.ent.lt b hb).2 (.inr (.inr (.inr hb))),h.el,h.en,h.n,hf⟩,⟨hp.size,fun b hb hk=>hp.kept b hb (hk.imp id .inl)⟩⟩
end
theorem FB.fr{j:Nat}{S S':ST}(h:FB j S)(hf:FrK S S'):FB (j+1) S':=by
 obtain⟨h1,h2,_⟩:=hf;unfold FB;rw[h1,h2];exact h.mono (Nat.le_succ _)
theorem FB.cur{j:Nat}{S:ST}(h:FB j S):S.cur.vs.length<=1000+j:=by
 rcases Nat.eq_zero_or_pos S.calls.length with h0|h0
 ·rw[zm8 h0];have:=h.1;omega
 ·rw[zm7 h0];exact h.2 _ (List.getElem_mem _)
theorem FB.setCur{j:Nat}{S:ST}(h:FB j S)(f:FR)(hf:f.vs.length<=S.cur.vs.length+1):FB (j+1) (S.setCur f):=by
 unfold ST.setCur;by_cases h0:S.calls.length=0
 ·rw[if_pos h0];rw[zm8 h0]at hf;exact⟨by have:=h.1;show f.vs.length<=_;omega,(h.mono (Nat.le_succ _)).2⟩
 ·rw[if_neg h0];refine⟨(h.mono (Nat.le_succ _)).1,fun g hg=>?_⟩;rw[zm7 (by omega)]at hf;rcases List.mem_or_eq_of_mem_set hg with hg|rfl
  ·exact(h.mono (Nat.le_succ _)).2 g hg
  ·have:=h.2 _ (List.getElem_mem (l:=S.calls) (n:=S.calls.length-1) (by omega));omega
theorem FB.open_{j:Nat}{S:ST}(h:FB j S)(v:VD)(x:Int):FB (j+1) (zl0 S v x).2:=by
 unfold zl0
 repeat' split
 all_goals first|exact h.mono (Nat.le_succ _)|exact FB.setCur (S:=S.newCell _) h _ (by rw[zmK];simp[FR.push])
theorem FB.close_{j:Nat}{S:ST}(h:FB j S)(s:ByteArray)(x:Int):FB (j+1) (zlb S s x).2:=by
 unfold zlb
 repeat' split
 all_goals first|exact h.mono (Nat.le_succ _)|skip
 all_goals exact h.setCur _ (by simp[FR.pop];omega)
theorem FB.enter{j:Nat}{S:ST}(h:FB j S)(ps:List VD)(ss:List ByteArray)(hp:ps.length<=1000):FB (j+1) (zl3 S ps ss).2:=by
 unfold zl3
 split
 ·exact h.mono (Nat.le_succ _)
 ·rcases he:entL S.cur ⟨[],[],0⟩ (ps.zip ss)with e|f
  ·exact h.mono (Nat.le_succ _)
  ·unfold entR;dsimp only
   split
   ·exact h.mono (Nat.le_succ _)
   ·refine⟨(h.mono (Nat.le_succ _)).1,fun g hg=>?_⟩;rcases List.mem_append.1 hg with hg|hg
    ·exact(h.mono (Nat.le_succ _)).2 g hg
    ·simp at hg;subst hg;have:=zri _ _ _ he;simp at this;omega
theorem FB.leave{j:Nat}{S:ST}(h:FB j S):FB (j+1) (zmd S).2:=by
 unfold zmd
 split
 ·exact h.mono (Nat.le_succ _)
 ·exact⟨(h.mono (Nat.le_succ _)).1,fun g hg=>(h.mono (Nat.le_succ _)).2 g (List.mem_of_mem_take hg)⟩
theorem FB.do_{j:Nat}{S:ST}(h:FB j S)(t:T):FB (j+1) (doE S t).2:=h.fr (ztv _ _)
theorem FB.undo{j:Nat}{S:ST}(h:FB j S)(t:T):FB (j+1) (zoh S t).2:=h.fr (zut _ _)
theorem zk2{P:Program}{ops:Array Oper}{o:Oper}{a:Act}{w:World}{K:Act->World->Prop}{Q:Exit->Act->World->Prop}{F:Prop}(hw:Region.wanted o (yielded ops a.tmps)=true)(x:Operand)(xs:List Operand)(ats:Array TypeId)
  (ho:o.op=.call { callee:=.value x,args:=xs.toArray,argTypes:=ats })(f:FuncId)(fn:Func)(hf:IsFn P f fn)(hv:a.eval x=.func (.func f) #[] #[])(l:List Value)(hargs:xs.map a.eval=l)(R:Value->World->Prop)
  (hc:Calls P f l.toArray w fun e w'=>(∃v,e=.returned v/\R v w')\/∃ch,e=.panicked ch/\Q (.panic ch) a w')(h:∀v w',R v w'->K (a.put o.dst v) w') :
  if Region.wanted o (yielded ops a.tmps)=true then Oper.wp P o a w K Q else F:=by
 rw[if_pos hw];subst hargs;have e:(execOp a.eval o).run P w=.ok (.enter f (xs.map a.eval).toArray) w:=by
  unfold execOp;simp only[ho,resolve,hv,Deferred.ofValue,Sem.run_bind,Sem.run_pure,Result.andThen_ok,invoke,zkE hf,Array.empty_append,List.map_toArray,Array.append_empty]
 unfold Oper.wp;rw[e,Oper.upon_enter];refine hc.mono ?_;rintro e w' (⟨v,rfl,hR⟩|⟨ch,rfl,hq⟩)
 ·exact h v w' hR
 ·exact hq
theorem zs7:IsFn Tryz.prog 182 Tryz.f182:=⟨Tryz.func182,by kernel_rfl,by kernel_rfl⟩
theorem zl9:IsFn Tryz.prog 168 Tryz.f168:=⟨Tryz.func168,by kernel_rfl,by kernel_rfl⟩
theorem ztc:IsFn Tryz.prog 169 Tryz.f169:=⟨Tryz.func169,by kernel_rfl,by kernel_rfl⟩
theorem zrd:IsFn Tryz.prog 170 Tryz.f170:=⟨Tryz.func170,by kernel_rfl,by kernel_rfl⟩
def loR(prs:List PR)(F:Int)(g:Nat)(back:Bool)(t t2:T)(r:RS):Out :=
 (zld (zkB prs F g back) (blkL back (kid t 1)) r).bind fun r=>(zkF F r).bind fun r=>valO t2 r fun x r=>zkl r (zlb r.S t.s x)
def loO(prs:List PR)(F:Int)(g:Nat)(back:Bool)(t:T)(r:RS):Out :=
 (zkF F r).bind fun r=>valO (fstT back t) r fun x r=>(zkl r (zl0 r.S ⟨t.s,1,0⟩ x)).bind (loR prs F g back t (lstT back t))
theorem zsT{G:List PR->T->Prop}{g:Nat}(hS:IStC G g){C:RC}(hC:C.Ok){W:World}{r:RS}(h:RI C W r)(t:T)(v:Value)(back:Bool)(hv:NV C.w Any t v)(hk:t.ks.length=3)(hG1:∀u∈(kid t 1).ks,G C.p.prs u)
  (aD:loO C.p.prs C.F g back t r ≠ .gas) :
  Calls Tryz.prog 166 #[.pointer (some ⟨C.rb,0,none⟩),v,.bool back] W (RunP C W (loO C.p.prs C.F g back t r)):=by
 obtain⟨A,c,rfl,-,hlk,hlc,hrow⟩:=hv.open_;have aa:=zh hrow;have HS:=zh hS;have HV:=zh hv;have hb0:=zkc (zs W) (.cells #[.int .u8 t.k,.int .i64 t.n,.string t.s,.slice A t.ks.length c] 24);obtain⟨x0,x1,x2,x3⟩:=box4 (heap_alloc_new W (.cells #[.int .u8 t.k,.int .i64 t.n,.string t.s,.slice A t.ks.length c] 24));have HB0:=zh hb0;have H:=zh h;have HC:=zh hC;have HX:=zh (heap_alloc_new W (.cells #[.int .u8 t.k,.int .i64 t.n,.string t.s,.slice A t.ks.length c] 24));have nA:=zh (fun w' (hb:Below W.heap.size W w')=>zpm t _ back C.w w' (zkb h.below hb) hv (by omega));have lZ:=zh hk;clear hrow hS hb0 h hv hk hC hlk;go_enter Tryz.func166,Tryz.ntmps166;go_wp2_with fail;refine(nA.out _ HB0.out).mono ?_;rintro e w2 ⟨v1,v2,rfl,n1,n2,b2⟩;obtain⟨t1,ht1⟩:=zX (fstT back t);obtain⟨t2,ht2⟩:=zX (lstT back t);have HT1:=zh ht1;have HT2:=zh ht2;rw[ht1]at n1;rw[ht2]at n2;obtain⟨A1,c1,rfl,-⟩:=n1.open_
 obtain⟨A2,c2,rfl,-⟩:=n2.open_;have ni:=zh n1;have aI:=zh n2;have b3:=zkc (zkc (zkb HB0.out b2) (.cells #[.int .u8 t1.k,.int .i64 t1.n,.string t1.s,.slice A1 t1.ks.length c1] 24)) (.cells #[.int .u8 t2.k,.int .i64 t2.n,.string t2.s,.slice A2 t2.ks.length c2] 24);have k0:=zkg (zkg (zka HX.out b2) (.cells #[.int .u8 t1.k,.int .i64 t1.n,.string t1.s,.slice A1 t1.ks.length c1] 24)) (.cells #[.int .u8 t2.k,.int .i64 t2.n,.string t2.s,.slice A2 t2.ks.length c2] 24);have k1:=zkg (heap_alloc_new w2 (.cells #[.int .u8 t1.k,.int .i64 t1.n,.string t1.s,.slice A1 t1.ks.length c1] 24)) (.cells #[.int .u8 t2.k,.int .i64 t2.n,.string t2.s,.slice A2 t2.ks.length c2] 24);have k2:=heap_alloc_new (w2.alloc (.cells #[.int .u8 t1.k,.int .i64 t1.n,.string t1.s,.slice A1 t1.ks.length c1] 24)) (.cells #[.int .u8 t2.k,.int .i64 t2.n,.string t2.s,.slice A2 t2.ks.length c2] 24)
 simp only[World.size_alloc]at k2;obtain⟨w3,hw3⟩:=zX ((w2.alloc (.cells #[.int .u8 t1.k,.int .i64 t1.n,.string t1.s,.slice A1 t1.ks.length c1] 24)).alloc (.cells #[.int .u8 t2.k,.int .i64 t2.n,.string t2.s,.slice A2 t2.ks.length c2] 24));rw[hw3]at b3 k0 k1 k2;have hz2:=zkb HB0.out b2;have hzz:=hz2.size;obtain⟨dw,h3⟩:=H.out.plus HC.out b3;have bV:=zh (Kpt.of_below (n0:=C.n0) (kb:=C.kb) b3);have l0:=zki k0;have l1:=zki k1;have l2:=zki k2;obtain⟨hi,hhi⟩:=zX (w3.heap.size);rw[hhi]at dw h3 l0 l1 l2;have ma:=zh dw;have H3:=zh h3;have K0:=zh k0;have K1:=zh k1;have K2:=zh k2;have jf:=zh (zlR dw h3)
 obtain⟨p1,⟨y0,y1,y2,y3⟩⟩:True/\(w3.cell? ⟨w2.heap.size,0,none⟩=some (.int .u8 t1.k)/\w3.cell? ⟨w2.heap.size,1,none⟩=some (.int .i64 t1.n)/\w3.cell? ⟨w2.heap.size,2,none⟩=some (.string t1.s)/\w3.cell? ⟨w2.heap.size,3,none⟩=some (.slice A1 t1.ks.length c1)):=⟨trivial,zc k1 rfl,zc k1 rfl,zc k1 rfl,zc k1 rfl⟩
 clear n1 n2 b2 b3 k0 k1 k2 hz2 dw h3 x0 x1 x2 x3 HX HB0 nA p1 ht1 ht2;go_upto_region 2 with fail;clear hw3;obtain⟨o,ho⟩:=zX (loO C.p.prs C.F g back t r);have HO:=zh (show(zkF C.F r).bind (fun r=>valO t1 r fun x r=>(zkl r (zl0 r.S ⟨t.s,1,0⟩ x)).bind (loR C.p.prs C.F g back t t2))=o by rw[<-ho];unfold loO loR;rw[HT1.out,HT2.out]);rw[ho]at aD ⊢;have dz:=zh aD;have bO:=zh ho;clear aD ho;go_wp2_with fail;refine jf.out.mono ?_;rintro e w4 ⟨hk4,hb4,cB⟩;have eB:=zh (bV.out.trans (Kpt.less (C:=C) hk4));have av:=zh (show Below C.w.heap.size C.w w4 from hb4);have bB:match zkF C.F r with
  | .gas=>True
  | .err x=>e=zlx x
  | .ok r=>(∃u,e=.returned u)/\RI (C.plus W.heap.size hi) w4 r:=cB
 have dX:=zh hk4;clear y0 y1 y2 y3 jf hk4 hb4 cB
 cases hy:zkF C.F r with
 | gas=>exact absurd (by rw[<-HO.out,hy];rfl) dz.out
 | err x =>
  rw[hy]at bB;subst bB;refine⟨rfl,eB.out,av.out,?_⟩;rw[<-HO.out,hy];rfl
 | ok r1 =>
  rw[hy]at bB;obtain⟨⟨u3,rfl⟩,hr1⟩:=bB;have HR4:=zh hr1;have jC:=zh (show(valO t1 r1 fun x r=>(zkl r (zl0 r.S ⟨t.s,1,0⟩ x)).bind (loR C.p.prs C.F g back t t2))=o by rw[<-HO.out,hy];rfl);have dM:=zh (show FB r.n r1.S/\r1.n=r.n+1 by obtain⟨rfl,-⟩:=zls hy;exact⟨H.out.fb,rfl⟩);have j0:=dX.out.blk (.inr (.inr ⟨by omega,l0⟩)) K0.out;have j1:=dX.out.blk (.inr (.inr ⟨by omega,l1⟩)) K1.out;have nZ:=zh (fun w' (hb:Below w4.heap.size w4 w')=>zpz (hr1.later hb) t1 _ ni.out);have ax:=zh (show ∀w',Below w4.heap.size w4 w'->(fun w':World=>zv w' C.rb 6 (.pointer (some ⟨C.sb,0,none⟩))/\zv w' W.heap.size 2 (.string t.s)/\zN4 w' w2.heap.size (.int .u8 t1.k) (.int .i64 t1.n) (.string t1.s) (.slice A1 t1.ks.length c1)) w' from fun w' hb=>⟨zb hb hr1.cells.1,zb hb (zc j0 rfl),zb hb (zc j1 rfl),zb hb (zc j1 rfl),zb hb (zc j1 rfl),zb hb (zc j1 rfl)⟩);have iq:=zh (ax.out _ zr.drew)
  clear hr1 hy j0 j1;go_upto_region 3 with fail;have hSS:zW (fun w':World=>zv w' C.rb 6 (.pointer (some ⟨C.sb,0,none⟩))/\zv w' W.heap.size 2 (.string t.s)/\zN4 w' w2.heap.size (.int .u8 t1.k) (.int .i64 t1.n) (.string t1.s) (.slice A1 t1.ks.length c1)) zU w4.drew:=⟨iq.out,trivial⟩
  refine zG hSS 12 ?_;refine zT 0 hSS ?_;refine zT 1 hSS ?_;refine zT 2 hSS ?_;refine zT 3 hSS ?_;refine zT 4 hSS ?_;refine zT 5 hSS ?_;refine zT 6 hSS ?_;refine zT 7 hSS ?_;refine zT 8 hSS ?_;refine zT 9 hSS ?_;have had:Calls Tryz.prog 182 [.pointer (some ⟨C.rb,0,none⟩),nv t1.k t1.n t1.s A1 t1.ks.length c1].toArray w4.drew (ValP (C.plus W.heap.size hi) w4.drew t1 r1):=nZ.out _ zr.drew;refine zo 10 fun K hK=>?_;refine zk2 (by rfl) (.func 182) [.tmp 24,.tmp 25] _ (by rfl) 182 _ zs7 (by rfl) _ (by rfl) (fun v w'=>Below w4.heap.size w4 w'/\∃x,v=.int .i64 x/\I64 x/\∀f,valO t1 r1 f=f x r1) (had.mono ?_) ?_
  ·rintro e y1 ⟨dZ,hv1⟩;have b1:=zkb (zs w4).drew dZ;rcases hv1 with⟨x,rfl,hx⟩|⟨x,rfl,oC,hx⟩
   ·refine .inr ⟨_,rfl,?_⟩;refine⟨rfl,eB.out.trans (Kpt.of_below b1),zkb av.out b1,?_⟩
    try rw[bO.out]
    rw[<-jC.out,hx]
   ·exact .inl ⟨_,rfl,b1,x,rfl,oC,hx⟩
  rintro v5 w5 ⟨b5,x,rfl,hx,vG⟩;have ay:=zh b5;have sP:=zh hx;have fO:=zh (show(zkl r1 (zl0 r1.S ⟨t.s,1,0⟩ x)).bind (loR C.p.prs C.F g back t t2)=o by rw[<-jC.out,vG]);refine hK.out _ _ ⟨ax.out _ b5,trivial⟩ ?_;clear hK K had b5 hx vG hSS nZ;(try simp only[zQ]);obtain⟨R,hR⟩:=zX (zl0 r1.S ⟨t.s,1,0⟩ x);have HRR:=zh hR;have kV:=dM.out.1.cur;have mq:=H.out.n;have had:Calls Tryz.prog 169 [.pointer (some ⟨C.sb,0,none⟩),.agg #[.string t.s,.int .u8 1,.int .i64 0],.int .i64 x].toArray w5 fun e w'=>∃v,e=.returned v/\(v=.int .i64 R.1/\RI (C.plus W.heap.size hi) w' { r1 with S:=R.2 }/\Kpt C.n0 (C.plus W.heap.size hi).kb w5 w') :=
   ((HR4.out.later ay.out).ks.open_ ⟨t.s,1,0⟩ (by obtain⟨_,_,_,hf,-⟩:=HV.out.open_;exact⟨hf.2.2,⟨by simp only;omega,by simp only;omega⟩,⟨by simp only;omega,by simp only;omega⟩⟩) x sP.out (by omega)).mono fun e w' ⟨h1,h2,h3⟩=>⟨_,h1,by rw[hR],(RI.store (C:=C.plus W.heap.size hi) (HR4.out.later ay.out) (hR▸h2) h3 (by rw[dM.out.2,<-hR];exact dM.out.1.open_ _ _))⟩
  refine zo 11 fun K hK=>?_;refine zk3 (by rfl) (.func 169) [.tmp 20,.tmp 23,.tmp 26] _ (by rfl) 169 _ ztc (by rfl) _ (by rfl) _ had ?_;rintro v6 w6 ⟨rfl,dQ,dn⟩;have fQ:=zh (dX.out.trans ((Kpt.of_below ay.out).trans dn));have j0:=fQ.out.blk (.inr (.inr ⟨by omega,l0⟩)) K0.out;have j1:=fQ.out.blk (.inr (.inr ⟨by omega,l1⟩)) K1.out;have gQ:=zh dQ;have az:(fun w':World=>zv w' C.rb 6 (.pointer (some ⟨C.sb,0,none⟩))/\zv w' W.heap.size 2 (.string t.s)/\zN4 w' w2.heap.size (.int .u8 t1.k) (.int .i64 t1.n) (.string t1.s) (.slice A1 t1.ks.length c1)) w6:=⟨dQ.cells.1,zc j0 rfl,zc j1 rfl,zc j1 rfl,zc j1 rfl,zc j1 rfl⟩
  refine hK.out _ _ ⟨az,trivial⟩ ?_;have kK:=zh az;have aT:=zh dQ.below;clear hK K had dQ dn j0 j1 az iq ax;(try simp only[zQ]);have fB:=zh (bV.out.trans (Kpt.less (C:=C) fQ.out));rw[hR]at fO;have had:=zk5 ⟨C.rb,0,none⟩ R.1 w6;refine zp 12 fun K hK=>?_;refine zk2 (by rfl) (.func 168) [.tmp 16,.tmp 27] _ (by rfl) 168 _ zl9 (by rfl) _ (by rfl) (fun v w'=>w'=w6/\R.1=0) (had.mono ?_) ?_
  ·rintro e y1 ⟨rfl,hv1⟩;rcases hv1 with⟨h0,u0,rfl⟩|⟨h0,rfl⟩
   ·exact .inl ⟨_,rfl,rfl,h0⟩
   ·refine .inr ⟨_,rfl,?_⟩;refine⟨rfl,fB.out,aT.out,?_⟩
    try rw[bO.out]
    rw[<-fO.out,show zkl r1 R=.err R.1 by unfold zkl;rw[if_pos h0]];rfl
  rintro v7 w7 ⟨rfl,h0⟩;have lY:=zh (show loR C.p.prs C.F g back t t2 { r1 with S:=R.2 }=o by rw[<-fO.out,show zkl r1 R=.ok { r1 with S:=R.2 } by unfold zkl;rw[if_neg (by simpa using h0)]];rfl);refine hK.out _ _ kK.out ?_;clear hK K had h0;(try simp only[zQ]);refine zd ?_;obtain⟨r2,hr2⟩:=zX (({ r1 with S:=R.2 }:RS));rw[hr2]at gQ lY;have hI:1<t.ks.length:=by have:=lZ.out;omega
  have hI1:(1:Int)<(t.ks.length:Int):=by omega
  obtain⟨a,u,Au,cu,rfl,-,hu,⟨p0,p1,p2,p3⟩,hnu⟩:=aa.out.nd hI;have gJ:kid t 1=u:=by unfold kid;rw[List.getD_eq_getElem?_getD,List.getElem?_eq_getElem hI];exact hu.out
  have tZ:=zh (show ∀x∈u.ks,G C.p.prs x by rw[<-gJ];exact hG1);have lF:=zh (show(runO C.p.prs C.F g back u r2).bind (fun r=>(zkF C.F r).bind fun r=>valO t2 r fun x r=>zkl r (zlb r.S t.s x))=o by rw[<-lY.out,<-gJ];rfl);have hgu:runO C.p.prs C.F g back u r2 ≠ .gas:=fun e=>dz.out (by rw[<-lF.out,e];rfl);have aj:=zh (zla HS.out ma.out gQ.out u _ back hnu tZ.out hgu);have ha:a.add (1*4)=⟨a.block,a.off+4,none⟩:=by unfold Addr.add;split<;>simp_all
  rw[ha]at p0 p1 p2 p3;have q0:=zb aT.out p0;have q1:=zb aT.out p1;have q2:=zb aT.out p2;have q3:=zb aT.out p3;have j0:=fQ.out.blk (.inr (.inr ⟨by omega,l0⟩)) K0.out;have q4:=zc (i:=3) j0 rfl;clear gJ hnu hu p0 p1 p2 p3 hgu ha j0 kV mq;go_wp2_with fail;refine aj.out.mono ?_;rintro e w8 ⟨iM,cK,mo⟩;have ny:=zh (fQ.out.trans iM);have pV:=zh (bV.out.trans (Kpt.less (C:=C) ny.out));have bF:=zh (show Below C.w.heap.size C.w w8 from cK);have bY:match runO C.p.prs C.F g back u r2 with
   | .gas=>True
   | .err x=>e=zlx x
   | .ok r=>(∃u,e=.returned u)/\RI (C.plus W.heap.size hi) w8 r:=mo
  clear q0 q1 q2 q3 q4 iM cK mo aj
  cases hx:runO C.p.prs C.F g back u r2 with
  | gas=>exact absurd (by rw[<-lF.out,hx];rfl) dz.out
  | err x =>
   rw[hx]at bY;subst bY;refine⟨rfl,pV.out,bF.out,?_⟩
   try rw[bO.out]
   rw[<-lF.out,hx];rfl
  | ok r3 =>
   rw[hx]at bY;obtain⟨⟨u9,rfl⟩,hr3⟩:=bY;have HST:=zh (zlR ma.out hr3);have iw:=zh (show((zkF C.F r3).bind fun r=>valO t2 r fun x r=>zkl r (zlb r.S t.s x))=o by rw[<-lF.out,hx];rfl);have oo:=zh hr3;clear hx hr3;go_wp2_with fail;refine HST.out.mono ?_;rintro e w9 ⟨aH,aF,dR⟩;have ja:=zh (ny.out.trans aH);have iZ:=zh (bV.out.trans (Kpt.less (C:=C) ja.out));have aW:=zh (show Below C.w.heap.size C.w w9 from aF);have gG:match zkF C.F r3 with
    | .gas=>True
    | .err x=>e=zlx x
    | .ok r=>(∃u,e=.returned u)/\RI (C.plus W.heap.size hi) w9 r:=dR
   clear aH aF dR HST
   cases hy:zkF C.F r3 with
   | gas=>exact absurd (by rw[<-iw.out,hy];rfl) dz.out
   | err x =>
    rw[hy]at gG;subst gG;refine⟨rfl,iZ.out,aW.out,?_⟩
    try rw[bO.out]
    rw[<-iw.out,hy];rfl
   | ok r4 =>
    rw[hy]at gG;obtain⟨⟨u9,rfl⟩,hr4⟩:=gG;have lu:=zh hr4;have fw:=zh (show(valO t2 r4 fun x r=>zkl r (zlb r.S t.s x))=o by rw[<-iw.out,hy];rfl);have jh:=zh (show FB r3.n r4.S/\r4.n=r3.n+1 by obtain⟨rfl,-⟩:=zls hy;exact⟨oo.out.fb,rfl⟩);have j0:=ja.out.blk (.inr (.inr ⟨by omega,l0⟩)) K0.out;have j2:=ja.out.blk (.inr (.inr ⟨by omega,l2⟩)) K2.out;have nZ:=zh (fun w' (hb:Below w9.heap.size w9 w')=>zpz (hr4.later hb) t2 _ aI.out);have ax:=zh (show ∀w',Below w9.heap.size w9 w'->(fun w':World=>zv w' C.rb 6 (.pointer (some ⟨C.sb,0,none⟩))/\zv w' W.heap.size 2 (.string t.s)/\zN4 w' (w2.heap.size+1) (.int .u8 t2.k) (.int .i64 t2.n) (.string t2.s) (.slice A2 t2.ks.length c2)) w' from fun w' hb=>⟨zb hb hr4.cells.1,zb hb (zc j0 rfl),zb hb (zc j2 rfl),zb hb (zc j2 rfl),zb hb (zc j2 rfl),zb hb (zc j2 rfl)⟩);clear hr4 hy j0 j2;go_upto_region 6 with fail
    have hSS:zW (fun w':World=>zv w' C.rb 6 (.pointer (some ⟨C.sb,0,none⟩))/\zv w' W.heap.size 2 (.string t.s)/\zN4 w' (w2.heap.size+1) (.int .u8 t2.k) (.int .i64 t2.n) (.string t2.s) (.slice A2 t2.ks.length c2)) zU w9.drew:=⟨ax.out _ zr.drew,trivial⟩
    refine zG hSS 11 ?_;refine zT 0 hSS ?_;refine zT 1 hSS ?_;refine zT 2 hSS ?_;refine zT 3 hSS ?_;refine zT 4 hSS ?_;refine zT 5 hSS ?_;refine zT 6 hSS ?_;refine zT 7 hSS ?_;refine zT 8 hSS ?_;have had:Calls Tryz.prog 182 [.pointer (some ⟨C.rb,0,none⟩),nv t2.k t2.n t2.s A2 t2.ks.length c2].toArray w9.drew (ValP (C.plus W.heap.size hi) w9.drew t2 r4):=nZ.out _ zr.drew;refine zo 9 fun K hK=>?_;refine zk2 (by rfl) (.func 182) [.tmp 45,.tmp 46] _ (by rfl) 182 _ zs7 (by rfl) _ (by rfl) (fun v w'=>Below w9.heap.size w9 w'/\∃x,v=.int .i64 x/\I64 x/\∀f,valO t2 r4 f=f x r4) (had.mono ?_) ?_
    ·rintro e y1 ⟨dZ,hv1⟩;have b1:=zkb (zs w9).drew dZ;rcases hv1 with⟨x,rfl,hx⟩|⟨x,rfl,oC,hx⟩
     ·refine .inr ⟨_,rfl,?_⟩;refine⟨rfl,iZ.out.trans (Kpt.of_below b1),zkb aW.out b1,?_⟩
      try rw[bO.out]
      rw[<-fw.out,hx]
     ·exact .inl ⟨_,rfl,b1,x,rfl,oC,hx⟩
    rintro v10 bD ⟨b10,z,rfl,hx,vG⟩;have nL:=zh b10;obtain⟨Rc,lS⟩:=zX (zlb r4.S t.s z);have iX:=zh (show zkl r4 Rc=o by rw[<-fw.out,vG,lS]);refine hK.out _ _ ⟨ax.out _ b10,trivial⟩ ?_;clear hK K had b10 hx vG hSS nZ;(try simp only[zQ]);have had:Calls Tryz.prog 170 [.pointer (some ⟨C.sb,0,none⟩),.string t.s,.int .i64 z].toArray bD fun e w'=>∃v,e=.returned v/\(v=.int .i64 Rc.1/\RI (C.plus W.heap.size hi) w' { r4 with S:=Rc.2 }/\Kpt C.n0 (C.plus W.heap.size hi).kb bD w') :=
     ((lu.out.later nL.out).ks.close t.s z).mono fun e w' ⟨h1,h2,h3⟩=>⟨_,h1,by rw[lS],(RI.store (C:=C.plus W.heap.size hi) (lu.out.later nL.out) (lS▸h2) h3 (by rw[jh.out.2,<-lS];exact jh.out.1.close_ _ _))⟩
    refine zo 10 fun K hK=>?_;refine zk3 (by rfl) (.func 170) [.tmp 42,.tmp 44,.tmp 47] _ (by rfl) 170 _ zrd (by rfl) _ (by rfl) _ had ?_;rintro v11 aZ ⟨rfl,gD,iN⟩;have gq:=zh (ja.out.trans ((Kpt.of_below nL.out).trans iN));have j0:=gq.out.blk (.inr (.inr ⟨by omega,l0⟩)) K0.out;have j2:=gq.out.blk (.inr (.inr ⟨by omega,l2⟩)) K2.out;have lC:=zh gD;have az:(fun w':World=>zv w' C.rb 6 (.pointer (some ⟨C.sb,0,none⟩))/\zv w' W.heap.size 2 (.string t.s)/\zN4 w' (w2.heap.size+1) (.int .u8 t2.k) (.int .i64 t2.n) (.string t2.s) (.slice A2 t2.ks.length c2)) aZ:=⟨gD.cells.1,zc j0 rfl,zc j2 rfl,zc j2 rfl,zc j2 rfl,zc j2 rfl⟩
    refine hK.out _ _ ⟨az,trivial⟩ ?_;have kK:=zh az;have ky:=zh gD.below;clear hK K had gD iN j0 j2 az ax;(try simp only[zQ]);have kg:=zh (bV.out.trans (Kpt.less (C:=C) gq.out));have had:=zk5 ⟨C.rb,0,none⟩ Rc.1 aZ;refine zp 11 fun K hK=>?_;refine zk2 (by rfl) (.func 168) [.tmp 38,.tmp 48] _ (by rfl) 168 _ zl9 (by rfl) _ (by rfl) (fun v w'=>w'=aZ/\Rc.1=0) (had.mono ?_) ?_
    ·rintro e y1 ⟨rfl,hv1⟩;rcases hv1 with⟨h0,u0,rfl⟩|⟨h0,rfl⟩
     ·exact .inl ⟨_,rfl,rfl,h0⟩
     ·refine .inr ⟨_,rfl,?_⟩;refine⟨rfl,kg.out,ky.out,?_⟩
      try rw[bO.out]
      rw[<-iX.out,show zkl r4 Rc=.err Rc.1 by unfold zkl;rw[if_pos h0]]
    rintro v12 kN ⟨rfl,h0⟩;have gT:=zh (show o=.ok { r4 with S:=Rc.2 } by rw[<-iX.out];unfold zkl;rw[if_neg (by simpa using h0)]);refine hK.out _ _ kK.out ?_;clear hK K had h0;(try simp only[zQ]);refine zd ?_;have mY:=zh lC.out.less;go_wp2_with fail;go_end0;refine⟨kg.out,ky.out,?_⟩
    try rw[bO.out]
    rw[gT.out];exact⟨⟨_,rfl⟩,mY.out⟩
theorem zwz{G:List PR->T->Prop}{g:Nat}(hS:IStC G g){C:RC}(hC:C.Ok){W:World}{r:RS}(h:RI C W r)(t:T)(v:Value)(back:Bool)(hv:NV C.w Any t v)(hk0:t.k=52)(hk:t.ks.length=4)(hG1:∀u∈(kid t 1).ks,G C.p.prs u)(hG2:∀u∈(kid t 2).ks,G C.p.prs u)
  (o:Out)(ho:brO C.p.prs C.F g back t r=o)(hog:o ≠ .gas) :
  Calls Tryz.prog 139 #[.pointer (some ⟨C.rb,0,none⟩),v,.bool back] W (RunP C W o):=by
 have aD:=hog;obtain⟨k,n,s,ks⟩:=t;obtain rfl:k=52:=hk0;obtain⟨A,c,rfl,-,hlk,hlc,-⟩:=hv.open_;have hb0:=zkc (zs W) (.cells #[.int .u8 52,.int .i64 n,.string s,.slice A ks.length c] 24);obtain⟨x0,x1,x2,x3⟩:=box4 (heap_alloc_new W (.cells #[.int .u8 52,.int .i64 n,.string s,.slice A ks.length c] 24));have aN:=zh (Kpt.of_below (n0:=C.n0) (kb:=C.kb) hb0);have aV:=zh (show Calls Tryz.prog 164 #[.pointer (some ⟨C.rb,0,none⟩),.agg #[.int .u8 52,.int .i64 n,.string s,.slice A ks.length c],.bool back] (W.alloc (.cells #[.int .u8 52,.int .i64 n,.string s,.slice A ks.length c] 24)) (RunP C _ o)from(ho▸(zrW hS hC (h.later hb0) _ _ back hv hk hG1 hG2 (ho▸hog))));clear hv hb0 h aD hG1 ho hk;go_enter Tryz.func139,Tryz.ntmps139;go_wp2_with fail;refine aV.out.mono ?_;rintro e w1 ⟨hk1,hb1,ho1⟩
 cases o with
 | gas=>exact absurd rfl hog
 | err x =>
  subst ho1;exact⟨rfl,aN.out.trans hk1,hb1,rfl⟩
 | ok r1 =>
  obtain⟨⟨u,rfl⟩,hr1⟩:=ho1;have HR:=zh hr1;have aB:=zh (aN.out.trans hk1);have HB1:=zh hb1;clear x0 x1 x2 x3 hr1 hk1 hb1;go_wp2_with fail;go_end0;exact⟨aB.out,HB1.out,⟨_,rfl⟩,HR.out⟩
theorem zsr{G:List PR->T->Prop}{g:Nat}(hS:IStC G g){C:RC}(hC:C.Ok){W:World}{r:RS}(h:RI C W r)(t:T)(v:Value)(back:Bool)(hv:NV C.w Any t v)(hk0:t.k=53)(hk:t.ks.length=4)(hG1:∀u∈(kid t 1).ks,G C.p.prs u)(hG2:∀u∈(kid t 2).ks,G C.p.prs u)
  (o:Out)(ho:lpO C.p.prs C.F g back t r=o)(hog:o ≠ .gas) :
  Calls Tryz.prog 139 #[.pointer (some ⟨C.rb,0,none⟩),v,.bool back] W (RunP C W o):=by
 have aD:=hog;obtain⟨k,n,s,ks⟩:=t;obtain rfl:k=53:=hk0;obtain⟨A,c,rfl,-,hlk,hlc,-⟩:=hv.open_;have hb0:=zkc (zs W) (.cells #[.int .u8 53,.int .i64 n,.string s,.slice A ks.length c] 24);obtain⟨x0,x1,x2,x3⟩:=box4 (heap_alloc_new W (.cells #[.int .u8 53,.int .i64 n,.string s,.slice A ks.length c] 24));have aN:=zh (Kpt.of_below (n0:=C.n0) (kb:=C.kb) hb0);have aV:=zh (show Calls Tryz.prog 165 #[.pointer (some ⟨C.rb,0,none⟩),.agg #[.int .u8 53,.int .i64 n,.string s,.slice A ks.length c],.bool back] (W.alloc (.cells #[.int .u8 53,.int .i64 n,.string s,.slice A ks.length c] 24)) (RunP C _ o)from(ho▸(zuS hS hC (h.later hb0) _ _ back hv hk hG1 hG2 (ho▸hog))));clear hv hb0 h aD hG1 ho hk;go_enter Tryz.func139,Tryz.ntmps139;go_wp2_with fail;refine aV.out.mono ?_;rintro e w1 ⟨hk1,hb1,ho1⟩
 cases o with
 | gas=>exact absurd rfl hog
 | err x =>
  subst ho1;exact⟨rfl,aN.out.trans hk1,hb1,rfl⟩
 | ok r1 =>
  obtain⟨⟨u,rfl⟩,hr1⟩:=ho1;have HR:=zh hr1;have aB:=zh (aN.out.trans hk1);have HB1:=zh hb1;clear x0 x1 x2 x3 hr1 hk1 hb1;go_wp2_with fail;go_end0;exact⟨aB.out,HB1.out,⟨_,rfl⟩,HR.out⟩
theorem zry{G:List PR->T->Prop}{g:Nat}(hS:IStC G g){C:RC}(hC:C.Ok){W:World}{r:RS}(h:RI C W r)(t:T)(v:Value)(back:Bool)(hv:NV C.w Any t v)(hk0:t.k=54)(hk:t.ks.length=3)(hG1:∀u∈(kid t 1).ks,G C.p.prs u)
  (o:Out)(ho:loO C.p.prs C.F g back t r=o)(hog:o ≠ .gas) :
  Calls Tryz.prog 139 #[.pointer (some ⟨C.rb,0,none⟩),v,.bool back] W (RunP C W o):=by
 have aD:=hog;obtain⟨k,n,s,ks⟩:=t;obtain rfl:k=54:=hk0;obtain⟨A,c,rfl,-,hlk,hlc,-⟩:=hv.open_;have hb0:=zkc (zs W) (.cells #[.int .u8 54,.int .i64 n,.string s,.slice A ks.length c] 24);obtain⟨x0,x1,x2,x3⟩:=box4 (heap_alloc_new W (.cells #[.int .u8 54,.int .i64 n,.string s,.slice A ks.length c] 24));have aN:=zh (Kpt.of_below (n0:=C.n0) (kb:=C.kb) hb0);have aV:=zh (show Calls Tryz.prog 166 #[.pointer (some ⟨C.rb,0,none⟩),.agg #[.int .u8 54,.int .i64 n,.string s,.slice A ks.length c],.bool back] (W.alloc (.cells #[.int .u8 54,.int .i64 n,.string s,.slice A ks.length c] 24)) (RunP C _ o)from(ho▸(zsT hS hC (h.later hb0) _ _ back hv hk hG1 (ho▸hog))));clear hv hb0 h aD hG1 ho hk;go_enter Tryz.func139,Tryz.ntmps139;go_wp2_with fail;refine aV.out.mono ?_;rintro e w1 ⟨hk1,hb1,ho1⟩
 cases o with
 | gas=>exact absurd rfl hog
 | err x =>
  subst ho1;exact⟨rfl,aN.out.trans hk1,hb1,rfl⟩
 | ok r1 =>
  obtain⟨⟨u,rfl⟩,hr1⟩:=ho1;have HR:=zh hr1;have aB:=zh (aN.out.trans hk1);have HB1:=zh hb1;clear x0 x1 x2 x3 hr1 hk1 hb1;go_wp2_with fail;go_end0;exact⟨aB.out,HB1.out,⟨_,rfl⟩,HR.out⟩
theorem zyH:IsFn Tryz.prog 27 Tryz.f27:=⟨Tryz.func27,by kernel_rfl,by kernel_rfl⟩
theorem zwV:IsFn Tryz.prog 172 Tryz.f172:=⟨Tryz.func172,by kernel_rfl,by kernel_rfl⟩
def basO(F:Int)(back:Bool)(t:T)(r:RS):Out:=(zkF F r).bind fun r=>zkl r (if back=true then zoh r.S t else doE r.S t)
theorem zuw{C:RC}(hC:C.Ok){W:World}{r:RS}(h:RI C W r)(t:T)(v:Value)(back:Bool)(hv:NV C.w Any t v)(hk:t.k≠52/\t.k≠53/\t.k≠54/\t.k≠55/\t.k≠50/\t.k≠51) :
  Calls Tryz.prog 139 #[.pointer (some ⟨C.rb,0,none⟩),v,.bool back] W (RunP C W (basO C.F back t r)):=by
 have HV:=zh hv;have H:=zh h;obtain⟨A,c,rfl,-,hlk,hlc,-⟩:=hv.open_;have e0:(t.k==52)=false:=by simpa using hk.1
 have e1:(t.k==53)=false:=by simpa using hk.2.1
 have e2:(t.k==54)=false:=by simpa using hk.2.2.1
 have e3:(t.k==55)=false:=by simpa using hk.2.2.2.1
 have e4:(t.k==50)=false:=by simpa using hk.2.2.2.2.1
 have e5:(t.k==51)=false:=by simpa using hk.2.2.2.2.2
 have hb0:=zkc (zs W) (.cells #[.int .u8 t.k,.int .i64 t.n,.string t.s,.slice A t.ks.length c] 24);obtain⟨dJ,h1⟩:=h.plus hC hb0;have k0:=heap_alloc_new W (.cells #[.int .u8 t.k,.int .i64 t.n,.string t.s,.slice A t.ks.length c] 24);obtain⟨x0,x1,x2,x3⟩:=box4 k0;have bV:=zh (Kpt.of_below (n0:=C.n0) (kb:=C.kb) hb0);obtain⟨w3,hw3⟩:=zX (W.alloc (.cells #[.int .u8 t.k,.int .i64 t.n,.string t.s,.slice A t.ks.length c] 24));rw[hw3]at dJ h1 k0 x0 x1 x2 x3 bV;have l0:=zki k0;have K0:=zh k0;obtain⟨hi,hhi⟩:=zX (w3.heap.size);rw[hhi]at dJ h1 l0;have jf:=zh (zlR dJ h1);obtain⟨o,ho⟩:=zX (basO C.F back t r);have bO:=zh ho;have HO:=zh (show(zkF C.F r).bind (fun r=>zkl r (if back=true then zoh r.S t else doE r.S t))=o from ho);rw[ho];clear hv hb0 dJ h1 k0 h hk ho;go_enter Tryz.func139,Tryz.ntmps139;go_wp2_with fail;refine jf.out.mono ?_;rintro e w4 ⟨hk4,hb4,cB⟩
 have eB:=zh (bV.out.trans (Kpt.less (C:=C) hk4));have av:=zh (show Below C.w.heap.size C.w w4 from hb4);have bB:match zkF C.F r with
  | .gas=>True
  | .err x=>e=zlx x
  | .ok r=>(∃u,e=.returned u)/\RI (C.plus W.heap.size hi) w4 r:=cB
 have dX:=zh hk4;clear x0 x1 x2 x3 jf hk4 hb4 cB hw3
 cases hy:zkF C.F r with
 | gas=>exact absurd hy (zkt _ _).1
 | err x =>
  rw[hy]at bB;subst bB;refine⟨rfl,eB.out,av.out,?_⟩
  try rw[bO.out]
  rw[<-HO.out,hy];rfl
 | ok r1 =>
  rw[hy]at bB;obtain⟨⟨u3,rfl⟩,hr1⟩:=bB;have HR4:=zh hr1;have jC:=zh (show zkl r1 (if back=true then zoh r1.S t else doE r1.S t)=o by rw[<-HO.out,hy];rfl);have dM:=zh (show FB r.n r1.S/\r1.n=r.n+1 by obtain⟨rfl,-⟩:=zls hy;exact⟨H.out.fb,rfl⟩);have j0:=dX.out.blk (.inr (.inr ⟨zl,l0⟩)) K0.out;have hSS:zW (fun w':World=>zv w' C.rb 6 (.pointer (some ⟨C.sb,0,none⟩))/\zN4 w' W.heap.size (.int .u8 t.k) (.int .i64 t.n) (.string t.s) (.slice A t.ks.length c)) zU w4.drew:=⟨⟨hr1.cells.1,zc j0 rfl,zc j0 rfl,zc j0 rfl,zc j0 rfl⟩,trivial⟩
  clear hr1 hy j0
  cases back
  ·skip
   go_upto_region 5 with fail;refine zG hSS 7 ?_;refine zT 0 hSS ?_;refine zT 1 hSS ?_;refine zT 2 hSS ?_;refine zT 3 hSS ?_;refine zT 4 hSS ?_;refine zT 5 hSS ?_;obtain⟨R,hR⟩:=zX (doE r1.S t);have fO:=zh (show zkl r1 R=o by rw[<-hR];exact jC.out);have hbd:Below w4.heap.size w4 w4.drew:=zr.drew;have had:Calls Tryz.prog 27 [.pointer (some ⟨C.sb,0,none⟩),.agg #[.int .u8 t.k,.int .i64 t.n,.string t.s,.slice A t.ks.length c]].toArray w4.drew fun e w'=>∃v,e=.returned v/\(v=.int .i64 R.1/\RI (C.plus W.heap.size hi) w' { r1 with S:=R.2 }/\Kpt C.n0 (C.plus W.heap.size hi).kb w4 w') :=
    ((HR4.out.later hbd).ks.do_ t _ (HV.out.later (zkb av.out hbd))).mono fun e w' ⟨h1,h2,h3⟩=>by
     have hs:=RI.store (C:=C.plus W.heap.size hi) (HR4.out.later hbd) h2 h3 (by rw[dM.out.2];exact dM.out.1.do_ _);rw[hR]at h1 hs;exact⟨_,h1,rfl,hs.1,(Kpt.of_below hbd).trans hs.2⟩
   refine zo 6 fun K hK=>?_;refine zk3 (by rfl) (.func 27) [.tmp 23,.tmp 24] _ (by rfl) 27 _ zyH (by rfl) _ (by rfl) _ had ?_;rintro v6 w6 ⟨rfl,dQ,dn⟩;have fB:=zh (eB.out.trans (Kpt.less (C:=C) dn));have j0:=(dX.out.trans dn).blk (.inr (.inr ⟨zl,l0⟩)) K0.out;have az:(fun w':World=>zv w' C.rb 6 (.pointer (some ⟨C.sb,0,none⟩))/\zN4 w' W.heap.size (.int .u8 t.k) (.int .i64 t.n) (.string t.s) (.slice A t.ks.length c)) w6:=⟨dQ.cells.1,zc j0 rfl,zc j0 rfl,zc j0 rfl,zc j0 rfl⟩
   have gQ:=zh dQ.less;have aT:=zh dQ.below;refine hK.out _ _ ⟨az,trivial⟩ ?_;have kK:=zh az;clear hK K had dQ dn j0 az hSS;(try simp only[zQ]);have had:=zk5 ⟨C.rb,0,none⟩ R.1 w6;refine zp 7 fun K hK=>?_;refine zk2 (by rfl) (.func 168) [.tmp 19,.tmp 25] _ (by rfl) 168 _ zl9 (by rfl) _ (by rfl) (fun v w'=>w'=w6/\R.1=0) (had.mono ?_) ?_
   ·rintro e y1 ⟨rfl,hv1⟩;rcases hv1 with⟨h0,u0,rfl⟩|⟨h0,rfl⟩
    ·exact .inl ⟨_,rfl,rfl,h0⟩
    ·refine .inr ⟨_,rfl,?_⟩;refine⟨rfl,fB.out,aT.out,?_⟩
     try rw[bO.out]
     rw[<-fO.out,show zkl r1 R=.err R.1 by unfold zkl;rw[if_pos h0]]
   rintro v12 kN ⟨rfl,h0⟩;have gT:=zh (show o=.ok { r1 with S:=R.2 } by rw[<-fO.out];unfold zkl;rw[if_neg (by simpa using h0)]);refine hK.out _ _ kK.out ?_;clear hK K had h0;(try simp only[zQ]);refine zd ?_;go_wp2_with fail;go_end0;refine⟨fB.out,aT.out,?_⟩
   try rw[bO.out]
   rw[gT.out];exact⟨⟨_,rfl⟩,gQ.out⟩
  ·skip
   go_upto_region 4 with fail;refine zkk (fun w':World=>zv w' C.rb 6 (.pointer (some ⟨C.sb,0,none⟩))/\zN4 w' W.heap.size (.int .u8 t.k) (.int .i64 t.n) (.string t.s) (.slice A t.ks.length c)) zU 7 (by kernel_rfl) ?_;refine zT 0 hSS ?_;refine zT 1 hSS ?_;refine zT 2 hSS ?_;refine zT 3 hSS ?_;refine zT 4 hSS ?_;refine zT 5 hSS ?_;obtain⟨R,hR⟩:=zX (zoh r1.S t);have fO:=zh (show zkl r1 R=o by rw[<-hR];exact jC.out);have hbd:Below w4.heap.size w4 w4.drew:=zr.drew;have had:Calls Tryz.prog 172 [.pointer (some ⟨C.sb,0,none⟩),.agg #[.int .u8 t.k,.int .i64 t.n,.string t.s,.slice A t.ks.length c]].toArray w4.drew fun e w'=>∃v,e=.returned v/\(v=.int .i64 R.1/\RI (C.plus W.heap.size hi) w' { r1 with S:=R.2 }/\Kpt C.n0 (C.plus W.heap.size hi).kb w4 w') :=
    ((HR4.out.later hbd).ks.undo t _ (HV.out.later (zkb av.out hbd))).mono fun e w' ⟨h1,h2,h3⟩=>by
     have hs:=RI.store (C:=C.plus W.heap.size hi) (HR4.out.later hbd) h2 h3 (by rw[dM.out.2];exact dM.out.1.undo _);rw[hR]at h1 hs;exact⟨_,h1,rfl,hs.1,(Kpt.of_below hbd).trans hs.2⟩
   refine zo 6 fun K hK=>?_;refine zk3 (by rfl) (.func 172) [.tmp 15,.tmp 16] _ (by rfl) 172 _ zwV (by rfl) _ (by rfl) _ had ?_;rintro v6 w6 ⟨rfl,dQ,dn⟩;have fB:=zh (eB.out.trans (Kpt.less (C:=C) dn));have j0:=(dX.out.trans dn).blk (.inr (.inr ⟨zl,l0⟩)) K0.out;have az:(fun w':World=>zv w' C.rb 6 (.pointer (some ⟨C.sb,0,none⟩))/\zN4 w' W.heap.size (.int .u8 t.k) (.int .i64 t.n) (.string t.s) (.slice A t.ks.length c)) w6:=⟨dQ.cells.1,zc j0 rfl,zc j0 rfl,zc j0 rfl,zc j0 rfl⟩
   have gQ:=zh dQ.less;have aT:=zh dQ.below;refine hK.out _ _ ⟨az,trivial⟩ ?_;have kK:=zh az;clear hK K had dQ dn j0 az hSS;(try simp only[zQ]);have had:=zk5 ⟨C.rb,0,none⟩ R.1 w6;refine zp 7 fun K hK=>?_;refine zk2 (by rfl) (.func 168) [.tmp 11,.tmp 17] _ (by rfl) 168 _ zl9 (by rfl) _ (by rfl) (fun v w'=>w'=w6/\R.1=0) (had.mono ?_) ?_
   ·rintro e y1 ⟨rfl,hv1⟩;rcases hv1 with⟨h0,u0,rfl⟩|⟨h0,rfl⟩
    ·exact .inl ⟨_,rfl,rfl,h0⟩
    ·refine .inr ⟨_,rfl,?_⟩;refine⟨rfl,fB.out,aT.out,?_⟩
     try rw[bO.out]
     rw[<-fO.out,show zkl r1 R=.err R.1 by unfold zkl;rw[if_pos h0]]
   rintro v12 kN ⟨rfl,h0⟩;have gT:=zh (show o=.ok { r1 with S:=R.2 } by rw[<-fO.out];unfold zkl;rw[if_neg (by simpa using h0)]);refine hK.out _ _ kK.out ?_;clear hK K had h0;(try simp only[zQ]);refine zd ?_;go_wp2_with fail;go_end0;refine⟨fB.out,aT.out,?_⟩
   try rw[bO.out]
   rw[gT.out];exact⟨⟨_,rfl⟩,gQ.out⟩
def lsR(prs:List PR)(F:Int)(g:Nat)(back:Bool)(t:T)(r:RS):Out :=
 (zld (zkB prs F g back) (blkL back (kid t 0)) r).bind fun r=>(zkF F r).bind fun r=>zkl r (zlb r.S t.s 0)
def lsO(prs:List PR)(F:Int)(g:Nat)(back:Bool)(t:T)(r:RS):Out :=
 (zkF F r).bind fun r=>(zkl r (zl0 r.S ⟨t.s,3,0⟩ 0)).bind (lsR prs F g back t)
theorem zwy{G:List PR->T->Prop}{g:Nat}(hS:IStC G g){C:RC}(hC:C.Ok){W:World}{r:RS}(h:RI C W r)(t:T)(v:Value)(back:Bool)(hv:NV C.w Any t v)(hk0:t.k=55)(hk:t.ks.length=1)(hG1:∀u∈(kid t 0).ks,G C.p.prs u)
  (aD:lsO C.p.prs C.F g back t r ≠ .gas) :
  Calls Tryz.prog 139 #[.pointer (some ⟨C.rb,0,none⟩),v,.bool back] W (RunP C W (lsO C.p.prs C.F g back t r)):=by
 have HV:=zh hv;have H:=zh h;have HS:=zh hS;have lZ:=zh hk;obtain⟨A,c,rfl,-,hlk,hlc,hrow⟩:=hv.open_;have aa:=zh hrow;have hb0:=zkc (zs W) (.cells #[.int .u8 t.k,.int .i64 t.n,.string t.s,.slice A t.ks.length c] 24);obtain⟨dJ,h1⟩:=h.plus hC hb0;have k0:=heap_alloc_new W (.cells #[.int .u8 t.k,.int .i64 t.n,.string t.s,.slice A t.ks.length c] 24);obtain⟨x0,x1,x2,x3⟩:=box4 k0;have bV:=zh (Kpt.of_below (n0:=C.n0) (kb:=C.kb) hb0);obtain⟨w3,hw3⟩:=zX (W.alloc (.cells #[.int .u8 t.k,.int .i64 t.n,.string t.s,.slice A t.ks.length c] 24));rw[hw3]at dJ h1 k0 x0 x1 x2 x3 bV;have l0:=zki k0;have K0:=zh k0;obtain⟨hi,hhi⟩:=zX (w3.heap.size);rw[hhi]at dJ h1 l0;have qh:=zh dJ;have jf:=zh (zlR dJ h1);obtain⟨o,ho⟩:=zX (lsO C.p.prs C.F g back t r);have bO:=zh ho;have HO:=zh (show(zkF C.F r).bind (fun r=>(zkl r (zl0 r.S ⟨t.s,3,0⟩ 0)).bind (lsR C.p.prs C.F g back t))=o from ho)
 rw[ho]at aD ⊢;have dz:=zh aD;rw[hk0]at hw3;have hw3':=hw3;clear hv hb0 dJ h1 k0 h hk ho aD hrow hS hlk;have HKK:=zh hk0;rw[hk0]at x0;rw[hk0];clear hk0;go_enter Tryz.func139,Tryz.ntmps139;go_wp2_with fail;refine jf.out.mono ?_;rintro e w4 ⟨hk4,hb4,cB⟩;have eB:=zh (bV.out.trans (Kpt.less (C:=C) hk4));have av:=zh (show Below C.w.heap.size C.w w4 from hb4);have bB:match zkF C.F r with
  | .gas=>True
  | .err x=>e=zlx x
  | .ok r=>(∃u,e=.returned u)/\RI (C.plus W.heap.size hi) w4 r:=cB
 have dX:=zh hk4;clear x0 x1 x2 x3 jf hk4 hb4 cB hw3 hw3'
 cases hy:zkF C.F r with
 | gas=>exact absurd hy (zkt _ _).1
 | err x =>
  rw[hy]at bB;subst bB;refine⟨rfl,eB.out,av.out,?_⟩
  try rw[bO.out]
  rw[<-HO.out,hy];rfl
 | ok r1 =>
  rw[hy]at bB;obtain⟨⟨u3,rfl⟩,hr1⟩:=bB;have HR4:=zh hr1;have jC:=zh (show(zkl r1 (zl0 r1.S ⟨t.s,3,0⟩ 0)).bind (lsR C.p.prs C.F g back t)=o by rw[<-HO.out,hy];rfl);have dM:=zh (show FB r.n r1.S/\r1.n=r.n+1 by obtain⟨rfl,-⟩:=zls hy;exact⟨H.out.fb,rfl⟩);have j0:=dX.out.blk (.inr (.inr ⟨zl,l0⟩)) K0.out;have hSS:zW (fun w':World=>zv w' C.rb 6 (.pointer (some ⟨C.sb,0,none⟩))/\zv w' W.heap.size 2 (.string t.s)) zU w4.drew:=⟨⟨hr1.cells.1,zc j0 rfl⟩,trivial⟩
  clear hr1 hy j0;go_upto_region 14 with fail;refine zG hSS 9 ?_;refine zT 0 hSS ?_;refine zT 1 hSS ?_;refine zT 2 hSS ?_;refine zT 3 hSS ?_;refine zT 4 hSS ?_;refine zT 5 hSS ?_;refine zT 6 hSS ?_;refine zT 7 hSS ?_;obtain⟨R,hR⟩:=zX (zl0 r1.S ⟨t.s,3,0⟩ 0);have HRR:=zh hR;have kV:=dM.out.1.cur;have mq:=H.out.n;have hbd:Below w4.heap.size w4 w4.drew:=zr.drew;have had:Calls Tryz.prog 169 [.pointer (some ⟨C.sb,0,none⟩),.agg #[.string t.s,.int .u8 3,.int .i64 0],.int .i64 0].toArray w4.drew fun e w'=>∃v,e=.returned v/\(v=.int .i64 R.1/\RI (C.plus W.heap.size hi) w' { r1 with S:=R.2 }/\Kpt C.n0 (C.plus W.heap.size hi).kb w4 w') :=
   ((HR4.out.later hbd).ks.open_ ⟨t.s,3,0⟩ (by obtain⟨_,_,_,hf,-⟩:=HV.out.open_;exact⟨hf.2.2,⟨by simp only;omega,by simp only;omega⟩,⟨by simp only;omega,by simp only;omega⟩⟩) 0 zero_I64 (by omega)).mono fun e w' ⟨h1,h2,h3⟩=>by
    have hs:=RI.store (C:=C.plus W.heap.size hi) (HR4.out.later hbd) (hR▸h2) h3 (by rw[dM.out.2,<-hR];exact dM.out.1.open_ _ _);exact⟨_,h1,by rw[hR],hs.1,(Kpt.of_below hbd).trans hs.2⟩
  refine zo 8 fun K hK=>?_;refine zk3 (by rfl) (.func 169) [.tmp 53,.tmp 56,.const (.int .i64 0)] _ (by rfl) 169 _ ztc (by rfl) _ (by rfl) _ had ?_;rintro v6 w6 ⟨rfl,dQ,dn⟩;have fQ:=zh (dX.out.trans dn);have j0:=fQ.out.blk (.inr (.inr ⟨zl,l0⟩)) K0.out;have gQ:=zh dQ;have az:(fun w':World=>zv w' C.rb 6 (.pointer (some ⟨C.sb,0,none⟩))/\zv w' W.heap.size 2 (.string t.s)) w6:=⟨dQ.cells.1,zc j0 rfl⟩
  refine hK.out _ _ ⟨az,trivial⟩ ?_;have kK:=zh az;have aT:=zh dQ.below;clear hK K had dQ dn j0 az hSS;(try simp only[zQ]);have fB:=zh (bV.out.trans (Kpt.less (C:=C) fQ.out));rw[hR]at jC;have had:=zk5 ⟨C.rb,0,none⟩ R.1 w6;refine zp 9 fun K hK=>?_;refine zk2 (by rfl) (.func 168) [.tmp 49,.tmp 57] _ (by rfl) 168 _ zl9 (by rfl) _ (by rfl) (fun v w'=>w'=w6/\R.1=0) (had.mono ?_) ?_
  ·rintro e y1 ⟨rfl,hv1⟩;rcases hv1 with⟨h0,u0,rfl⟩|⟨h0,rfl⟩
   ·exact .inl ⟨_,rfl,rfl,h0⟩
   ·refine .inr ⟨_,rfl,?_⟩;refine⟨rfl,fB.out,aT.out,?_⟩
    try rw[bO.out]
    rw[<-jC.out,show zkl r1 R=.err R.1 by unfold zkl;rw[if_pos h0]];rfl
  rintro v7 w7 ⟨rfl,h0⟩;have lY:=zh (show lsR C.p.prs C.F g back t { r1 with S:=R.2 }=o by rw[<-jC.out,show zkl r1 R=.ok { r1 with S:=R.2 } by unfold zkl;rw[if_neg (by simpa using h0)]];rfl);refine hK.out _ _ kK.out ?_;clear hK K had h0;(try simp only[zQ]);refine zd ?_;obtain⟨r2,hr2⟩:=zX (({ r1 with S:=R.2 }:RS));rw[hr2]at gQ lY;have hI:0<t.ks.length:=by have:=lZ.out;omega
  have hI1:(0:Int)<(t.ks.length:Int):=by omega
  obtain⟨a,u,Au,cu,rfl,-,hu,⟨p0,p1,p2,p3⟩,hnu⟩:=aa.out.nd hI;have gJ:kid t 0=u:=by unfold kid;rw[List.getD_eq_getElem?_getD,List.getElem?_eq_getElem hI];exact hu.out
  have tZ:=zh (show ∀x∈u.ks,G C.p.prs x by rw[<-gJ];exact hG1);have lF:=zh (show(runO C.p.prs C.F g back u r2).bind (fun r=>(zkF C.F r).bind fun r=>zkl r (zlb r.S t.s 0))=o by rw[<-lY.out,<-gJ];rfl);have hgu:runO C.p.prs C.F g back u r2 ≠ .gas:=fun e=>dz.out (by rw[<-lF.out,e];rfl);have aj:=zh (zla HS.out qh.out gQ.out u _ back hnu tZ.out hgu);have ha:a.add (0*4)=a:=by unfold Addr.add;simp
  rw[ha]at p0 p1 p2 p3;have q0:=zb aT.out p0;have q1:=zb aT.out p1;have q2:=zb aT.out p2;have q3:=zb aT.out p3;have j0:=fQ.out.blk (.inr (.inr ⟨zl,l0⟩)) K0.out;have q4:=zc (i:=3) j0 rfl;clear gJ hnu hu p0 p1 p2 p3 hgu ha j0 kV mq hG1;go_wp2_with fail;refine aj.out.mono ?_;rintro e w8 ⟨iM,cK,mo⟩;have ny:=zh (fQ.out.trans iM);have pV:=zh (bV.out.trans (Kpt.less (C:=C) ny.out));have bF:=zh (show Below C.w.heap.size C.w w8 from cK);have bY:match runO C.p.prs C.F g back u r2 with
   | .gas=>True
   | .err x=>e=zlx x
   | .ok r=>(∃u,e=.returned u)/\RI (C.plus W.heap.size hi) w8 r:=mo
  clear q0 q1 q2 q3 q4 iM cK mo aj
  cases hx:runO C.p.prs C.F g back u r2 with
  | gas=>exact absurd (by rw[<-lF.out,hx];rfl) dz.out
  | err x =>
   rw[hx]at bY;subst bY;refine⟨rfl,pV.out,bF.out,?_⟩
   try rw[bO.out]
   rw[<-lF.out,hx];rfl
  | ok r3 =>
   rw[hx]at bY;obtain⟨⟨u9,rfl⟩,hr3⟩:=bY;have HST:=zh (zlR qh.out hr3);have iw:=zh (show((zkF C.F r3).bind fun r=>zkl r (zlb r.S t.s 0))=o by rw[<-lF.out,hx];rfl);have oo:=zh hr3;clear hx hr3;go_wp2_with fail;refine HST.out.mono ?_;rintro e w9 ⟨aH,aF,dR⟩;have ja:=zh (ny.out.trans aH);have iZ:=zh (bV.out.trans (Kpt.less (C:=C) ja.out));have aW:=zh (show Below C.w.heap.size C.w w9 from aF);have gG:match zkF C.F r3 with
    | .gas=>True
    | .err x=>e=zlx x
    | .ok r=>(∃u,e=.returned u)/\RI (C.plus W.heap.size hi) w9 r:=dR
   clear aH aF dR HST
   cases hy:zkF C.F r3 with
   | gas=>exact absurd (by rw[<-iw.out,hy];rfl) dz.out
   | err x =>
    rw[hy]at gG;subst gG;refine⟨rfl,iZ.out,aW.out,?_⟩
    try rw[bO.out]
    rw[<-iw.out,hy];rfl
   | ok r4 =>
    rw[hy]at gG;obtain⟨⟨u9,rfl⟩,hr4⟩:=gG;have lu:=zh hr4;have jh:=zh (show FB r3.n r4.S/\r4.n=r3.n+1 by obtain⟨rfl,-⟩:=zls hy;exact⟨oo.out.fb,rfl⟩);obtain⟨Rc,lS⟩:=zX (zlb r4.S t.s 0);have iX:=zh (show zkl r4 Rc=o by rw[<-iw.out,hy,<-lS];rfl);have j0:=ja.out.blk (.inr (.inr ⟨zl,l0⟩)) K0.out;have hSS:zW (fun w':World=>zv w' C.rb 6 (.pointer (some ⟨C.sb,0,none⟩))/\zv w' W.heap.size 2 (.string t.s)) zU w9.drew:=⟨⟨hr4.cells.1,zc j0 rfl⟩,trivial⟩
    clear hr4 hy j0;go_upto_region 17 with fail;refine zG hSS 8 ?_;refine zT 0 hSS ?_;refine zT 1 hSS ?_;refine zT 2 hSS ?_;refine zT 3 hSS ?_;refine zT 4 hSS ?_;refine zT 5 hSS ?_;refine zT 6 hSS ?_;have rR:Below w9.heap.size w9 w9.drew:=zr.drew;have had:Calls Tryz.prog 170 [.pointer (some ⟨C.sb,0,none⟩),.string t.s,.int .i64 0].toArray w9.drew fun e w'=>∃v,e=.returned v/\(v=.int .i64 Rc.1/\RI (C.plus W.heap.size hi) w' { r4 with S:=Rc.2 }/\Kpt C.n0 (C.plus W.heap.size hi).kb w9 w') :=
     ((lu.out.later rR).ks.close t.s 0).mono fun e w' ⟨h1,h2,h3⟩=>by
      have hs:=RI.store (C:=C.plus W.heap.size hi) (lu.out.later rR) (lS▸h2) h3 (by rw[jh.out.2,<-lS];exact jh.out.1.close_ _ _);exact⟨_,h1,by rw[lS],hs.1,(Kpt.of_below rR).trans hs.2⟩
    refine zo 7 fun K hK=>?_;refine zk3 (by rfl) (.func 170) [.tmp 72,.tmp 74,.const (.int .i64 0)] _ (by rfl) 170 _ zrd (by rfl) _ (by rfl) _ had ?_;rintro v11 aZ ⟨rfl,gD,iN⟩;have gq:=zh (ja.out.trans iN);have j0:=gq.out.blk (.inr (.inr ⟨zl,l0⟩)) K0.out;have lC:=zh gD;have az:(fun w':World=>zv w' C.rb 6 (.pointer (some ⟨C.sb,0,none⟩))/\zv w' W.heap.size 2 (.string t.s)) aZ:=⟨gD.cells.1,zc j0 rfl⟩
    refine hK.out _ _ ⟨az,trivial⟩ ?_;have kK:=zh az;have ky:=zh gD.below;clear hK K had gD iN j0 az hSS;(try simp only[zQ]);have kg:=zh (bV.out.trans (Kpt.less (C:=C) gq.out));have had:=zk5 ⟨C.rb,0,none⟩ Rc.1 aZ;refine zp 8 fun K hK=>?_;refine zk2 (by rfl) (.func 168) [.tmp 68,.tmp 75] _ (by rfl) 168 _ zl9 (by rfl) _ (by rfl) (fun v w'=>w'=aZ/\Rc.1=0) (had.mono ?_) ?_
    ·rintro e y1 ⟨rfl,hv1⟩;rcases hv1 with⟨h0,u0,rfl⟩|⟨h0,rfl⟩
     ·exact .inl ⟨_,rfl,rfl,h0⟩
     ·refine .inr ⟨_,rfl,?_⟩;refine⟨rfl,kg.out,ky.out,?_⟩
      try rw[bO.out]
      rw[<-iX.out,show zkl r4 Rc=.err Rc.1 by unfold zkl;rw[if_pos h0]]
    rintro v12 kN ⟨rfl,h0⟩;have gT:=zh (show o=.ok { r4 with S:=Rc.2 } by rw[<-iX.out];unfold zkl;rw[if_neg (by simpa using h0)]);refine hK.out _ _ kK.out ?_;clear hK K had h0;(try simp only[zQ]);refine zd ?_;have mY:=zh lC.out.less;go_wp2_with fail;go_end0;refine⟨kg.out,ky.out,?_⟩
    try rw[bO.out]
    rw[gT.out];exact⟨⟨_,rfl⟩,mY.out⟩
end
end Go.Proofs.YtghbhbdnkjjnnaaGreat
