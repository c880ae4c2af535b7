/-
  Texts of the proof, put together without their remarks: Rxi, Rxj, Rxk, Rxn, Rxg, Rxh, Rxl, Scl, Apn, Ia, Nz.
-/
import Derived.Test.YtmbbaccjcekhkaaGreatF10
import Derived.Tactics
import Derived.Tactics2
import Derived.Defers
set_option linter.unusedSimpArgs false
set_option linter.unusedVariables false
set_option maxHeartbeats 8000000
set_option maxRecDepth 100000
namespace Go.Proofs.YtmbbaccjcekhkaaGreat
open Go Go.RowKit
structure AftS (K:RK) (P:RP) (W:World) (r:RS) (P1:RP) (r1:RS) (w:World):Prop where
 rf:RF K P1 w r1 0
 st:Stp K.n0 (zkg K P r 0) W (zkg K P1 r1 0) w
 sq:SamQ P P1 r.S.nc
 nc:r.S.nc<=r1.S.nc
section
variable {K:RK} {P P1 P2:RP} {W W0 w w1 w2:World} {r r1 r2:RS} {x:Int} {o:Out} {f:RS->Out} {rb:Nat}
theorem AftS.refl (h:RF K P W r 0):AftS K P W r P r W:=⟨h,Stp.refl h.rws,⟨rfl,rfl,fun _ _=>rfl⟩,Nat.le_refl _⟩
theorem AftS.more (h:AftS K P W r P1 r1 w1) (g1:RF K P2 w2 r2 0) (g2:Stp K.n0 (zkg K P1 r1 0) w1 (zkg K P2 r2 0) w2) (g3:SamQ P1 P2 r1.S.nc) (hn:r1.S.nc<=r2.S.nc):AftS K P W r P2 r2 w2 :=
 ⟨g1,h.st.trans g2,⟨g3.rb.trans h.sq.rb,g3.cv.trans h.sq.cv,fun i hi=>(g3.cb i (Nat.lt_of_lt_of_le hi h.nc)).trans (h.sq.cb i hi)⟩,Nat.le_trans h.nc hn⟩
theorem AftS.failc (h:AftS K P W r P1 r1 w1) (h1:ErM P1.rb w2 x) (h2:Chg (OwnB (zkg K P1 r1 0)) w1 w2):zmH K P W r x w2 :=
 ⟨h.sq.rb▸h1,h.st.chg.trans2 h2 fun b hb hc=>(h.st.own b hc).elim id fun h=>by omega⟩
theorem AftS.below (h:AftS K P W r P1 r1 w1) (hb:Below w1.heap.size w1 w2):AftS K P W r P1 r1 w2:=⟨h.rf.later hb,h.st.below hb,h.sq,h.nc⟩
theorem AftS.box (h:AftS K P W r P1 r1 w1) {b:Nat} {ob:Obj} (hb:W.heap[b]?=some ob) (hn:¬ OwnB (zkg K P r 0) b):w1.heap[b]?=some ob:=h.st.chg.keep hb hn
theorem AftS.m (h:AftS K P W r P1 r1 w1) (hb:Below W0.heap.size W0 W) (h0:RF K P W0 r 0) (ho:o=.ok r1):RunM K P W0 r o w1:=by
 subst ho;exact⟨P1,h.rf,(Stp.below (Stp.refl h0.rws) hb).trans h.st,h.sq⟩
theorem znL (hK:K.Ok) (h:AftS K P W r P1 r1 w) (ho:(zkq K.F r1).bind f=o) (hrb:P.rb=rb) :
  Calls Tryz.prog 67 #[.pointer (some ⟨rb,0,none⟩)] w fun en w'=>∃ b,en=.returned (.bool b) /\
   ((b=true/\AftS K P W r P1 { r1 with n:=r1.n+1 } w'/\f { r1 with n:=r1.n+1 }=o/\(r1.n:Int)<K.F)\/(b=false/\∃ x,zmH K P W r x w'/\o=.err x)):=by
 subst hrb;rw[<-h.sq.rb];refine(zmc hK h.rf).mono ?_;rintro en w' (⟨hF,rfl,hf⟩|⟨hF,rfl,h1,st1⟩)
 ·exact⟨_,rfl,.inr ⟨rfl,18,h.failc ⟨by decide,hf.1.errC.1⟩ hf.2.chg,by rw[<-ho,zkq,if_pos hF];rfl⟩⟩
 ·exact⟨_,rfl,.inl ⟨rfl,h.more h1 st1 ⟨rfl,rfl,fun _ _=>rfl⟩ (Nat.le_refl _),by rw[<-ho,zkq,if_neg (by omega)];rfl,hF⟩⟩
theorem ztI (hK:K.Ok) {f:Int->RS->Out} (h:AftS K P W r P1 r1 w) {t:T} {v:Value} (ho:valO t r1 f=o) (ko:EP r1.S.cur.vs t) (hv:NV K.w Any t v) (hrb:P.rb=rb) :
  Calls Tryz.prog 68 #[.pointer (some ⟨rb,0,none⟩),v] w fun en w'=>∃ x,en=.returned (.int .i64 x) /\
   ((AftS K P W r P1 r1 w'/\f x r1=o/\I64 x)\/∃ e,zmH K P W r e w'/\o=.err e):=by
 subst hrb;rw[<-h.sq.rb];refine(znu hK t P1 w r1 0 v h.rf ko hv).mono ?_;rintro en w' ⟨x,er,rfl,hf,-,hx⟩;obtain⟨hx1,hx2⟩:=hx rfl;have e1:zlb r1.S.look t=evE r1.S.look t:=by unfold zlb;rw[if_pos ko.e]
 unfold valO at ho;rw[e1] at ho;refine⟨x,rfl,?_⟩;by_cases he:er=0
 ·subst he;obtain rfl:=hx2 rfl;rw[if_neg (by rw[<-hx1];simp)] at ho;exact .inl ⟨h.more hf.1 hf.2 ⟨rfl,rfl,fun _ _=>rfl⟩ (Nat.le_refl _),ho,by rw[<-e1];exact zrp h.rf.inv.wf hv⟩
 ·rw[<-hx1,if_pos he] at ho;exact .inr ⟨er,h.failc ⟨he,hf.1.errC.1⟩ hf.2.chg,ho.symm⟩
theorem zpx (hK:K.Ok) {g:Nat} (hS:RexC K g) (h:AftS K P W r P1 r1 w) {t:T} {v:Value} {back:Bool} (ho:(runO K.p.prs K.F g back t r1).bind f=o) (aC:o ≠ .gas) (hv:NV K.w Any t v) (hb:isB t=true) (hc:cntV K.p.prs t r1.S.cur.vs=0) (hrb:P.rb=rb) :
  Calls Tryz.prog 45 #[.pointer (some ⟨rb,0,none⟩),v,.bool back] w fun en w'=>(∃ u,en=.returned u) /\
   ((∃ P2 r2,AftS K P W r P2 r2 w'/\f r2=o/\Keep r1 r2)\/∃ x,zmH K P W r x w'/\o=.err x):=by
 subst hrb;rw[<-h.sq.rb];refine(znM hK hS h.rf t v back hv hb hc (fun e=>aC (by rw[<-ho];simp only[e];rfl))).mono ?_;rintro en w' ⟨hu,hm⟩;refine⟨hu,?_⟩
 cases hx:runO K.p.prs K.F g back t r1 with
 | gas=>exact absurd (by rw[<-ho];simp only[hx];rfl) aC
 | err x =>
  rw[hx] at hm;exact .inr ⟨x,h.failc hm.1 hm.2,by rw[<-ho];simp only[hx];rfl⟩
 | ok r2 =>
  rw[hx] at hm;obtain⟨P2,h1,h2,h3⟩:=hm;have hk:=(zn8 hK.F6 hK.lit g back t r1 r2 hv.lit h.rf.inv hx).2;exact .inl ⟨P2,r2,h.more h1 h2 h3 hk.nc,by rw[<-ho];simp only[hx];rfl,hk⟩
theorem zqQ (hK:K.Ok) {e:Int} (he:e≠0) (h:AftS K P W r P1 r1 w) (ho:o=.err e) (hrb:P.rb=rb) :
  Calls Tryz.prog 66 #[.pointer (some ⟨rb,0,none⟩),.int .i64 e] w fun en w'=>(∃ u,en=.returned u)/\zmH K P W r e w'/\o=.err e:=by
 subst hrb;rw[<-h.sq.rb];refine(zkR hK h.rf e).mono ?_;rintro en w' ⟨hu,h1,h2⟩;rw[if_pos rfl] at h1;exact⟨hu,h.failc ⟨he,h1.errC.1⟩ h2.chg,ho⟩
theorem ztC (hK:K.Ok) (h:AftS K P W r P1 r1 w) (hb:Below w.heap.size w w1) (vd:VD) {l:List Int} {A:Option Addr} {n c:Nat} (ho:w1.ownsRow K.n0 3 1 (.slice A n c) l.length (zke l)) (hfr:∀ b,(Value.slice A n c).ownBlock=some b->w.heap.size<=b)
  (hi:RInv { r1 with S:=(r1.S.newCell l).setCur (r1.S.cur.push vd r1.S.nc) }) (hrb:P.rb=rb) :
  Calls Tryz.prog 44 #[.pointer (some ⟨rb,0,none⟩),.string vd.s,.slice A n c] w1 fun en w'=>(∃ u,en=.returned u) /\
   ∃ P2,AftS K P W r P2 { r1 with S:=(r1.S.newCell l).setCur (r1.S.cur.push vd r1.S.nc) } w':=by
 subst hrb;rw[<-h.sq.rb];have h1:=h.rf.later hb;have hlt:∀ b,OwnB (zkg K P1 r1 0) b->b<w.heap.size:=fun b ⟨i,hi⟩=>(h.rf.rws.lt i b hi).2;have hsl:∀ (v:Value) (us:List Value),Sl w (fun b=>¬ OwnB (zkg K P1 r1 0) b) v us->Sl w1 (fun b=>¬ OwnB (zkg K P1 r1 0) b/\(Value.slice A n c).ownBlock≠some b) v us:=fun v us h =>
  h.keep (fun b hb hlt=>⟨hb,fun e=>by have:=hfr b e;omega⟩) fun b _ hlt=>hb.block b hlt
 have hl:r1.S.cur.vs.length<=3000000:=by have:=h.rf.inv.fb.cur;have:=h.rf.inv.n;omega
 refine(zqf hK h1 ho (fun b e h2=>by have:=hfr b e;have:=hlt b h2;omega) (hsl _ _ h.rf.iv) (hsl _ _ h.rf.ov) vd hl rfl hi).mono ?_;rintro en w' ⟨hu,P2,g⟩;refine⟨hu,P2,h.more g.rf ⟨g.rf.rws,(Chg.of_below hb).trans g.chg,fun b h2=>?_⟩ ⟨g.rb,g.cv,g.cb⟩ ?_⟩
 ·rcases g.own b h2 with h3|h3|h3
  ·exact .inl h3
  ·exact .inr (hfr b h3)
  ·exact .inr (Nat.le_trans hb.size h3)
 ·have:=(zkD (r1.S.newCell l) (r1.S.cur.push vd r1.S.nc)).2.1
  show r1.S.nc<=((r1.S.newCell l).setCur (r1.S.cur.push vd r1.S.nc)).nc
  rw[this];exact Nat.le_succ _
theorem ztA (hK:K.Ok) (h:AftS K P W r P1 { r1 with n:=r1.n+1 } w) (hi:RInv r1) (hF:(r1.n:Int)<K.F) {fr:FR} {vd:VD} {id:Nat} (hc:r1.S.cur=fr.push vd id) (hlf:fr.cs.length=fr.vs.length) (hrb:P.rb=rb) :
  Calls Tryz.prog 69 #[.pointer (some ⟨rb,0,none⟩)] w fun en w'=>∃ P2 q,en=.returned (.pointer (some ⟨q,0,none⟩))/\AftS K P W r P2 { r1 with n:=r1.n+1,S:=r1.S.setCur fr } w'/\P2.cb id=q:=by
 subst hrb;rw[<-h.sq.rb];have hl:fr.vs.length+1<=3000000:=by
  have h1:=hi.fb.cur;have h2:=hi.n;rw[hc] at h1;simp[FR.push] at h1;omega
 have e0:=zkD r1.S fr;refine(ztB hK h.rf (f:=fr) (vd:=vd) (id:=id) hc hlf (by omega) ⟨zow hi.wf fr fun kd hkd=>?_,?_,h.rf.inv.n⟩).mono ?_
 ·rw[hc] at hkd;have:=ztu hkd;rwa[zpd hlf] at this
 ·exact FB.setCur hi.fb fr (by rw[hc];simp[FR.push];omega)
 rintro en w' ⟨rfl,P2,g⟩;exact⟨P2,_,rfl,h.more g.rf g.st ⟨g.rb,g.cv,fun i _=>by rw[g.cb]⟩ (by show r1.S.nc<=(r1.S.setCur fr).nc;rw[e0.2.1];exact Nat.le_refl _),by rw[g.cb]⟩
end
theorem zrc {r:RS} {F:Int} (hi:RInv r) (hF:F<=1000000) (hn:(r.n:Int)<F) {vd:VD} (hk:vd.k=1\/vd.k=3) (h0:vd.n=0) (hf:FldV vd) (hfn:zkA r.S.cur.vs vd.s=none) {x:Int} (hx:I64 x) :
  RInv { r with n:=r.n+1,S:=(r.S.newCell (if vd.k=1 then [x] else [])).setCur (r.S.cur.push vd r.S.nc) }:=by
 have e:=zrb (S:=r.S) hk h0 hfn x;have h1:=hi.store (R:=zli r.S vd x) hF hn (zpi hi.wf _ hf _ hx (by have:=hi.fb.cur;have:=hi.n;omega)) (hi.fb.open_ _ _);rw[e] at h1;exact h1
theorem zpN {S:ST} (hw:S.WF) {f:FR} {vd:VD} {id:Nat} (hc:S.cur=f.push vd id) (hlf:f.cs.length=f.vs.length):id<S.nc/\(vd.k=1->(S.cell id).length=1):=by
 obtain⟨kd,h1,h2⟩:=hw.cur2;rw[hc] at h1;have h3:id<S.nc:=h1.num id (by simp[FR.push]);have h4:=h1.kind f.vs.length (by simp[FR.push]) (by simp[FR.push,hlf]);simp only[FR.push] at h4;rw[List.getElem_append_right (by omega),List.getElem_append_right (by omega)] at h4;simp[hlf] at h4;exact⟨h3,fun h=>(h2 id h3).1 (by rw[h4];exact h)⟩
theorem zwf {r:RS} {f:FR} {s:ByteArray} {id:Nat} (hc:r.S.cur=f.push ⟨s,1,0⟩ id) (hlf:f.cs.length=f.vs.length) {t:T} (ko:EP f.vs t) (hfn:zkA f.vs s=none) :
  valO t r (fun y r=>zki r (zkL r.S s y))=valO t { r with S:=r.S.setCur f } fun y r=>if (r.S.cell id).getD 0 0≠y then .err 16 else .ok r:=by
 have e1:∀ look,zlb look t=evE look t:=fun look=>by unfold zlb;rw[if_pos ko.e]
 have e2:evE r.S.look t=evE (r.S.setCur f).look t:=zs7 (vs:=f.vs) (fun n u hu=>zsy hc hlf hu hfn) t ko;have e3:∀ y,zkL r.S s y=if (r.S.cell id).getD 0 0≠y then (16,r.S) else (0,r.S.setCur f):=fun y=>(zp6 (v:=⟨s,1,0⟩) hc hlf y).trans (by simp)
 unfold valO;simp only[e1,e2,e3,(zkD r.S f).1]
 split
 ·rfl
 ·split<;>rfl
theorem zne {w:World} {t t':T} {v v':Value} (b:Bool) (h:NV w Any t v) (h':NV w Any t' v'):NV w Any (cond b t t') (cond b v v'):=by cases b<;>assumption
theorem znH {vs:List VD} {t t':T} (b:Bool) (h:EP vs t) (h':EP vs t'):EP vs (cond b t t'):=by cases b<;>assumption
theorem zug {w:World} {A:Option Addr} {u0 u1 u2:T} (h:zl3 w Any A [u0,u1,u2]):∃ (a:Addr) (A0 A1 A2:Option Addr) (c0 c1 c2:Nat),A=some a /\
  (Nd4 w a u0 A0 c0/\Nd4 w ⟨a.block,a.off+4,none⟩ u1 A1 c1/\Nd4 w ⟨a.block,a.off+8,none⟩ u2 A2 c2) /\
  (NV w Any u0 (nv u0.k u0.n u0.s A0 u0.ks.length c0)/\NV w Any u1 (nv u1.k u1.n u1.s A1 u1.ks.length c1)/\NV w Any u2 (nv u2.k u2.n u2.s A2 u2.ks.length c2)):=by
 obtain⟨a,t0,A0,c0,rfl,_,H0,n0,v0⟩:=h.nd (i:=0) (by simp);obtain⟨a',t1,A1,c1,e1,_,H1,n1,v1⟩:=h.nd (i:=1) (by simp);injection e1 with e1;subst e1;obtain⟨a',t2,A2,c2,e1,_,H2,n2,v2⟩:=h.nd (i:=2) (by simp);injection e1 with e1;subst e1;obtain rfl:u0=t0:=H0.out;obtain rfl:u1=t1:=H1.out;obtain rfl:u2=t2:=H2.out;have ha1:a.add (1*4)=⟨a.block,a.off+4,none⟩:=by unfold Addr.add;split<;>simp_all
 have ha2:a.add (2*4)=⟨a.block,a.off+8,none⟩:=by unfold Addr.add;split<;>simp_all
 rw[ha1] at n1;rw[ha2] at n2;simp only[Nat.zero_mul,Addr.add_zero'] at n0;exact⟨a,A0,A1,A2,c0,c1,c2,rfl,⟨n0,n1,n2⟩,⟨v0,v1,v2⟩⟩
theorem bRI1 (x:Int) (w:World):(Instr.buildSlice 30 1 #[(0,.int .i64 x)]).run Tryz.prog w=.ok (.slice (some ⟨w.heap.size,0,none⟩) 1 1) (w.alloc (.cells #[.int .i64 x] 3)):=by kernel_rfl
theorem zqZ {r:RS} {s:ByteArray} {k:Int} (hk:k=1\/k=3) (hfn:zkA r.S.cur.vs s=none) (x:Int) (f:RS->Out) :
  (zki r (zli r.S ⟨s,k,0⟩ x)).bind f=f { r with S:=(r.S.newCell (if k=1 then [x] else [])).setCur (r.S.cur.push ⟨s,k,0⟩ r.S.nc) }:=by
 rw[zrb (v:=⟨s,k,0⟩) hk rfl hfn x];rfl
theorem zwV {K:RK} (hK:K.Ok) {g:Nat} (hS:RexC K g) {P:RP} {W:World} {r:RS} (h:RF K P W r 0) {n:Int} {s:ByteArray} {u0 u1 u2:T} {v:Value} (back:Bool) (hv:NV K.w Any (.nd 54 n s [u0,u1,u2]) v) (e0:EP r.S.cur.vs u0) (e2:EP r.S.cur.vs u2) (b1:isB u1=true) (c1:cntV K.p.prs u1 (r.S.cur.vs++[⟨s,1,0⟩])=0) (hfn:zkA r.S.cur.vs s=none)
  {o:Out} (ho:zkr K.p.prs K.F (g+1) back (.nd 54 n s [u0,u1,u2]) r=o) (hog:o ≠ .gas) :
  Calls Tryz.prog 45 #[.pointer (some ⟨P.rb,0,none⟩),v,.bool back] W fun en W'=>(∃ u,en=.returned u)/\RunM K P W r o W':=by
 have ky:=zh hv.lit;obtain⟨A,c,rfl,-,hlk,hlc,hrow⟩:=hv.open_;simp only[T.k_nd,T.n_nd,T.s_nd,T.ks_nd,List.length_cons,List.length_nil,Nat.zero_add,Nat.reduceAdd] at hrow ⊢;obtain⟨a,A0,A1,A2,d0,d1,d2,rfl,hnd,bR⟩:=zug hrow;have hb0:=zkc (Below.refl W.heap.size W) (.cells #[.int .u8 54,.int .i64 n,.string s,.slice (some a) 3 c] 26);have hbx:=heap_alloc_new W (.cells #[.int .u8 54,.int .i64 n,.string s,.slice (some a) 3 c] 26);obtain⟨W0,hW0⟩:∃ x,W.alloc (.cells #[.int .u8 54,.int .i64 n,.string s,.slice (some a) 3 c] 26)=x:=⟨_,rfl⟩
 obtain⟨nb,hnb⟩:∃ x,W.heap.size=x:=⟨_,rfl⟩
 rw[hW0] at hb0 hbx;rw[hnb] at hbx;have hh0:=h.later hb0;obtain⟨rb,hrb⟩:∃ b,P.rb=b:=⟨_,rfl⟩
 obtain⟨y14,-⟩:=hh0.errC;rw[hrb] at y14 ⊢;have aZ:=zh (show ¬ OwnB (zkg K P r 0) nb from znD h (by omega));have HH:=zh h;have HH0:=zh hh0;have HB0:=zh hb0;have ax:=zh hbx;have ag:=zh hrb;have HS:=zh hS;have HK:=zh hK;have dQ:=zh (show ∀ w',Below K.w.heap.size K.w w'->Nd4 w' a u0 A0 d0/\Nd4 w' ⟨a.block,a.off+4,none⟩ u1 A1 d1/\Nd4 w' ⟨a.block,a.off+8,none⟩ u2 A2 d2 from fun w' hb=>⟨zkE hb hnd.1,zkE hb hnd.2.1,zkE hb hnd.2.2⟩);have HV:=zh (And.intro (zne back bR.2.2 bR.1) (And.intro (zne back bR.1 bR.2.2) bR.2.1));have HE:=zh (And.intro (znH back e2 e0) (znH back e0 e2));have HI:=zh (And.intro b1 (And.intro c1 hfn));have bE:=zh hog
 have HO:=zh (show(zkq K.F r).bind (fun r1=>valO (cond back u2 u0) r1 fun x r1=>(zki r1 (zli r1.S ⟨s,1,0⟩ x)).bind fun r1=>(runO K.p.prs K.F g back u1 r1).bind fun r1=>(zkq K.F r1).bind fun r1=>valO (cond back u0 u2) r1 fun y r1=>zki r1 (zkL r1.S s y))=o by
  rw[<-ho,zkr,T.k_nd,if_neg (by decide),if_neg (by decide),if_pos rfl];cases back<;>rfl)
 have HST:=zh (znL hK (AftS.refl hh0) HO.out hrb);have uG:=zh (show r.S.cur.cs.length=r.S.cur.vs.length from (h.inv.wf.cur).elim fun _ h=>h.len);clear hb0 hbx h hrb hS hK hv hrow hnd bR e0 e2 b1 c1 hfn ho hog hlk hlc
 cases back
 all_goals
  simp only[cond_true,cond_false] at HV HE HST HO;obtain⟨x0,x1,x2,x3⟩:=box4 ax.out;clear hh0;go_enter Tryz.func45,Tryz.ntmps45;go_wp2_with fail;refine HST.out.mono ?_;rintro e w1 ⟨b,rfl,⟨rfl,h1,ho1,hF1⟩|⟨rfl,x,her,hox⟩⟩;rotate_left 1
  ·have aa:=zh (show RunM K P W r o w1 from her.m HB0.out hox);clear her hox;go_wp2_with fail
   first
   | (refine bodyPost_ret (results_none rfl _ _ _) rfl ?_;exact⟨⟨_,rfl⟩,aa.out⟩)
   | (go_end0;exact⟨⟨_,rfl⟩,aa.out⟩)
  clear HST hW0 y14 hnb HO x0 x1 x2 x3;have iO:=zh hF1;have HX:=zh (ztI HK.out h1 ho1 HE.out.1 HV.out.1 ag.out);obtain⟨x0,x1,x2,x3⟩:=box4 (h1.box ax.out aZ.out);obtain⟨⟨dz,dw,dn,dm⟩,⟨bL,bB,bg,y13⟩,⟨y20,y21,y22,y23⟩⟩:=dQ.out _ h1.rf.bl;dsimp only at bL bB bg y13 y20 y21 y22 y23;clear h1 ho1 hF1;go_wp2_with fail;refine HX.out.mono ?_;rintro e w2 ⟨x,rfl,⟨h2,ho2,hI⟩|⟨x,her,hox⟩⟩;rotate_left 1
  ·skip
   obtain⟨hx0,y14⟩:=her.er;rw[ag.out] at y14;have e1:(x==0)=false:=by simpa using hx0
   have e2:(x != 0)=true:=by simpa using hx0
   have aa:=zh (show RunM K P W r o w2 from her.m HB0.out hox);clear x0 x1 x2 x3 dz dw dn dm bL bB bg y13 y20 y21 y22 y23;clear her hox hx0 HX;go_wp2_with fail
   first
   | (refine bodyPost_ret (results_none rfl _ _ _) rfl ?_;exact⟨⟨_,rfl⟩,aa.out⟩)
   | (go_end0;exact⟨⟨_,rfl⟩,aa.out⟩)
  clear x0 x1 x2 x3 dz dw dn dm bL bB bg y13 y20 y21 y22 y23;clear HX;obtain⟨y14,-⟩:=h2.rf.errC;rw[h2.sq.rb,ag.out] at y14;have ho3:=(zqZ (r:={ r with n:=r.n+1 }) (k:=1) (.inl rfl) HI.out.2.2 x _).symm.trans ho2;have hbA:=zkc (Below.refl w2.heap.size w2) (.cells #[.int .i64 x] 3);have hsz:=(h2.rf.size HK.out)
  have uC:=zh (ztC HK.out h2 hbA ⟨s,1,0⟩ (l:=[x]) (zq9 w2 K.n0 (by omega) (.int .i64 x) 3) (fun b e=>by simp[Value.ownBlock] at e;omega) (zrc HH0.out.inv HK.out.F6 iO.out (vd:=⟨s,1,0⟩) (.inl rfl) rfl (zps ky.out 1 (.inl rfl)) HI.out.2.2 hI) ag.out);have zt:=bRI1 x;obtain⟨x0,x1,x2,x3⟩:=box4 (h2.box ax.out aZ.out);obtain⟨⟨dz,dw,dn,dm⟩,⟨bL,bB,bg,y13⟩,⟨y20,y21,y22,y23⟩⟩:=dQ.out _ h2.rf.bl;dsimp only at bL bB bg y13 y20 y21 y22 y23;have jw:=zh ho3;clear h2 ho2 hI ho3 hbA hsz;go_wp2_with fail;refine uC.out.mono ?_;rintro e w3 ⟨⟨u3,rfl⟩,P2,h3⟩;clear x0 x1 x2 x3 dz dw dn dm bL bB bg y13 y20 y21 y22 y23;clear uC zt y14;have hcv:cntV K.p.prs u1 ((({ r with n:=r.n+1 }:RS).S.newCell [x]).setCur (r.S.cur.push ⟨s,1,0⟩ r.S.nc)).cur.vs=0:=by rw[zlc];exact HI.out.2.1
  have az:=zh (zpx HK.out HS.out h3 jw.out bE.out HV.out.2.2 HI.out.1 hcv ag.out);obtain⟨x0,x1,x2,x3⟩:=box4 (h3.box ax.out aZ.out);obtain⟨⟨dz,dw,dn,dm⟩,⟨bL,bB,bg,y13⟩,⟨y20,y21,y22,y23⟩⟩:=dQ.out _ h3.rf.bl;dsimp only at bL bB bg y13 y20 y21 y22 y23;clear h3 jw hcv;go_wp2_with fail;refine az.out.mono ?_;rintro e w4 ⟨⟨u4,rfl⟩,⟨P4,r4,h4,eu,k4⟩|⟨x,her,hox⟩⟩;rotate_left 1
  ·have qZ:=zh (zns her.er);rw[ag.out] at qZ;have aa:=zh (show RunM K P W r o w4 from her.m HB0.out hox);clear x0 x1 x2 x3 dz dw dn dm bL bB bg y13 y20 y21 y22 y23;clear her hox az;go_wp2_with fail;refine qZ.out.mono ?_;rintro e w5 ⟨rfl,rfl⟩;go_wp2_with fail
   first
   | (refine bodyPost_ret (results_none rfl _ _ _) rfl ?_;exact⟨⟨_,rfl⟩,aa.out⟩)
   | (go_end0;exact⟨⟨_,rfl⟩,aa.out⟩)
  clear x0 x1 x2 x3 dz dw dn dm bL bB bg y13 y20 y21 y22 y23;clear az;have HST:=zh (znL HK.out h4 eu ag.out);have wP:=zh h4.rf.inv;have fH:=zh (show r4.S.cur=r.S.cur.push ⟨s,1,0⟩ r.S.nc by rw[k4.cur,zlc]);clear h4 eu k4;go_wp2_with fail;refine HST.out.mono ?_;rintro e w5 ⟨b,rfl,⟨rfl,h5,av,wI⟩|⟨rfl,x,her,hox⟩⟩;rotate_left 1
  ·have aa:=zh (show RunM K P W r o w5 from her.m HB0.out hox);clear her hox HST;go_wp2_with fail
   first
   | (refine bodyPost_ret (results_none rfl _ _ _) rfl ?_;exact⟨⟨_,rfl⟩,aa.out⟩)
   | (go_end0;exact⟨⟨_,rfl⟩,aa.out⟩)
  clear HST;have wS:=zh (ztA HK.out h5 wP.out wI fH.out uG.out ag.out);have dZ:=zh av;clear h5 av wI;go_wp2_with fail;refine wS.out.mono ?_;rintro e w6 ⟨P6,q,rfl,h6,hq⟩;clear wS;have dD:=(zwf (r:={ r4 with n:=r4.n+1 }) fH.out uG.out HE.out.2 HI.out.2.2).symm.trans dZ.out;have hcr:(r4.S.setCur r.S.cur).cur=r.S.cur:=zlc _ _;have HX:=zh (ztI HK.out h6 dD (by show EP (r4.S.setCur r.S.cur).cur.vs _;rw[hcr];exact HE.out.2) HV.out.2.1 ag.out);have HQ:=zh hq;obtain⟨x0,x1,x2,x3⟩:=box4 (h6.box ax.out aZ.out);obtain⟨⟨dz,dw,dn,dm⟩,⟨bL,bB,bg,y13⟩,⟨y20,y21,y22,y23⟩⟩:=dQ.out _ h6.rf.bl;dsimp only at bL bB bg y13 y20 y21 y22 y23;clear h6 dD hcr dZ hq;go_wp2_with fail;refine HX.out.mono ?_;rintro e w7 ⟨y,rfl,⟨h7,gW,-⟩|⟨x,her,hox⟩⟩;rotate_left 1
  ·skip
   obtain⟨hx0,y14⟩:=her.er;rw[ag.out] at y14;have e1:(x==0)=false:=by simpa using hx0
   have e2:(x != 0)=true:=by simpa using hx0
   have aa:=zh (show RunM K P W r o w7 from her.m HB0.out hox);clear x0 x1 x2 x3 dz dw dn dm bL bB bg y13 y20 y21 y22 y23;clear her hox hx0 HX;go_wp2_with fail
   first
   | (refine bodyPost_ret (results_none rfl _ _ _) rfl ?_;exact⟨⟨_,rfl⟩,aa.out⟩)
   | (go_end0;exact⟨⟨_,rfl⟩,aa.out⟩)
  clear x0 x1 x2 x3 dz dw dn dm bL bB bg y13 y20 y21 y22 y23;clear HX;obtain⟨y14,-⟩:=h7.rf.errC;rw[h7.sq.rb,ag.out] at y14;obtain⟨hid,hlen⟩:=zpN wP.out.wf fH.out uG.out;have e0:=zkD r4.S r.S.cur;obtain⟨Aq,cq,-,-,z0,z1⟩:=h7.rf.celC (id:=r.S.nc) (by show _<(r4.S.setCur r.S.cur).nc;rw[e0.2.1];exact hid);have e3:({ r4 with n:=r4.n+1,S:=r4.S.setCur r.S.cur }:RS).S.cell=r4.S.cell:=e0.1;rw[e3,hlen rfl,HQ.out] at z0;obtain⟨gq,rfl,z5⟩:=z1 0 (by rw[e3,hlen rfl];exact Nat.one_pos);obtain⟨v0,hv0⟩:∃ v0,(r4.S.cell r.S.nc).getD 0 0=v0:=⟨_,rfl⟩
  rw[show({ r4 with n:=r4.n+1,S:=r4.S.setCur r.S.cur }:RS).S.el r.S.nc 0=v0 by rw[<-hv0,<-e3];rfl] at z5;have gW:(if v0≠y then .err 16 else .ok { r4 with n:=r4.n+1,S:=r4.S.setCur r.S.cur })=o:=by rw[<-hv0,<-(zkD r4.S r.S.cur).1];exact gW
  have H7:=zh h7;have gH:=zh gW;clear h7 gW hid hlen e0 e3 hv0;by_cases oM:v0=y
  ·have e2:(v0 != y)=false:=by simpa using oM
   have aa:=zh (show RunM K P W r o w7 from H7.out.m HB0.out HH.out (by rw[<-gH.out,if_neg (by simpa using oM)]));clear oM;go_wp2_with fail
   first
   | (refine bodyPost_ret (results_none rfl _ _ _) rfl ?_;exact⟨⟨_,rfl⟩,aa.out⟩)
   | (go_end0;exact⟨⟨_,rfl⟩,aa.out⟩)
  ·have e2:(v0 != y)=true:=by simpa using oM
   have aR:=zh (zqQ HK.out (e:=16) (by decide) H7.out (o:=o) (by rw[<-gH.out,if_pos (by simpa using oM)]) ag.out);clear oM;go_wp2_with fail;refine aR.out.mono ?_;rintro e w8 ⟨⟨u8,rfl⟩,her,hox⟩;have aa:=zh (show RunM K P W r o w8 from her.m HB0.out hox);clear her hox aR;go_wp2_with fail
   first
   | (refine bodyPost_ret (results_none rfl _ _ _) rfl ?_;exact⟨⟨_,rfl⟩,aa.out⟩)
   | (go_end0;exact⟨⟨_,rfl⟩,aa.out⟩)
theorem zv7 {r:RS} {f:FR} {s:ByteArray} {id:Nat} (hc:r.S.cur=f.push ⟨s,3,0⟩ id) (hlf:f.cs.length=f.vs.length) :
  zki r (zkL r.S s 0)=if 0<(r.S.cell id).length then .err 16 else .ok { r with S:=r.S.setCur f }:=by
 have e3:zkL r.S s 0=if 0<(r.S.cell id).length then (16,r.S) else (0,r.S.setCur f):=(zp6 (v:=⟨s,3,0⟩) hc hlf 0).trans (by simp)
 rw[e3]
 split<;>rfl
theorem zw9 {w:World} {A:Option Addr} {u0:T} (h:zl3 w Any A [u0]):∃ (a:Addr) (A0:Option Addr) (c0:Nat),A=some a/\Nd4 w a u0 A0 c0/\NV w Any u0 (nv u0.k u0.n u0.s A0 u0.ks.length c0):=by
 obtain⟨a,t0,A0,c0,rfl,_,H0,n0,v0⟩:=h.nd (i:=0) (by simp);obtain rfl:u0=t0:=H0.out;simp only[Nat.zero_mul,Addr.add_zero'] at n0;exact⟨a,A0,c0,rfl,n0,v0⟩
theorem zwU {K:RK} (hK:K.Ok) {g:Nat} (hS:RexC K g) {P:RP} {W:World} {r:RS} (h:RF K P W r 0) {n:Int} {s:ByteArray} {u0:T} {v:Value} (back:Bool) (hv:NV K.w Any (.nd 55 n s [u0]) v) (b0:isB u0=true) (c0:cntV K.p.prs u0 (r.S.cur.vs++[⟨s,3,0⟩])=0) (hfn:zkA r.S.cur.vs s=none)
  {o:Out} (ho:zkr K.p.prs K.F (g+1) back (.nd 55 n s [u0]) r=o) (hog:o ≠ .gas) :
  Calls Tryz.prog 45 #[.pointer (some ⟨P.rb,0,none⟩),v,.bool back] W fun en W'=>(∃ u,en=.returned u)/\RunM K P W r o W':=by
 have ky:=zh hv.lit;obtain⟨A,c,rfl,-,hlk,hlc,hrow⟩:=hv.open_;simp only[T.k_nd,T.n_nd,T.s_nd,T.ks_nd,List.length_cons,List.length_nil,Nat.zero_add,Nat.reduceAdd] at hrow ⊢;obtain⟨a,A0,d0,rfl,hnd,bR⟩:=zw9 hrow;have hb0:=zkc (Below.refl W.heap.size W) (.cells #[.int .u8 55,.int .i64 n,.string s,.slice (some a) 1 c] 26);have hbx:=heap_alloc_new W (.cells #[.int .u8 55,.int .i64 n,.string s,.slice (some a) 1 c] 26);obtain⟨W0,hW0⟩:∃ x,W.alloc (.cells #[.int .u8 55,.int .i64 n,.string s,.slice (some a) 1 c] 26)=x:=⟨_,rfl⟩
 obtain⟨nb,hnb⟩:∃ x,W.heap.size=x:=⟨_,rfl⟩
 rw[hW0] at hb0 hbx;rw[hnb] at hbx;have hh0:=h.later hb0;obtain⟨rb,hrb⟩:∃ b,P.rb=b:=⟨_,rfl⟩
 obtain⟨y14,-⟩:=hh0.errC;rw[hrb] at y14 ⊢;have aZ:=zh (show ¬ OwnB (zkg K P r 0) nb from znD h (by omega));have HH:=zh h;have HH0:=zh hh0;have HB0:=zh hb0;have ax:=zh hbx;have ag:=zh hrb;have HS:=zh hS;have HK:=zh hK;have dQ:=zh (show ∀ w',Below K.w.heap.size K.w w'->Nd4 w' a u0 A0 d0 from fun w' hb=>zkE hb hnd);have HV:=zh bR;have HI:=zh (And.intro b0 (And.intro c0 hfn));have bE:=zh hog;have HO:=zh (show(zkq K.F r).bind (fun r1=>(zki r1 (zli r1.S ⟨s,3,0⟩ 0)).bind fun r1=>(runO K.p.prs K.F g back u0 r1).bind fun r1=>(zkq K.F r1).bind fun r1=>zki r1 (zkL r1.S s 0))=o by
  rw[<-ho,zkr,T.k_nd,if_neg (by decide),if_neg (by decide),if_neg (by decide),if_pos rfl];rfl)
 have HST:=zh (znL hK (AftS.refl hh0) HO.out hrb);have uG:=zh (show r.S.cur.cs.length=r.S.cur.vs.length from (h.inv.wf.cur).elim fun _ h=>h.len);clear hb0 hbx h hrb hS hK hv hrow hnd bR b0 c0 hfn ho hog hlk hlc hh0
 cases back
 all_goals
  obtain⟨x0,x1,x2,x3⟩:=box4 ax.out;go_enter Tryz.func45,Tryz.ntmps45;go_wp2_with fail;refine HST.out.mono ?_;rintro e w1 ⟨b,rfl,⟨rfl,h1,ho1,hF1⟩|⟨rfl,x,her,hox⟩⟩;rotate_left 1
  ·have aa:=zh (show RunM K P W r o w1 from her.m HB0.out hox);clear her hox;go_wp2_with fail
   first
   | (refine bodyPost_ret (results_none rfl _ _ _) rfl ?_;exact⟨⟨_,rfl⟩,aa.out⟩)
   | (go_end0;exact⟨⟨_,rfl⟩,aa.out⟩)
  clear HST hW0 y14 hnb HO x0 x1 x2 x3;have ho3:=(zqZ (r:={ r with n:=r.n+1 }) (k:=3) (.inr rfl) HI.out.2.2 0 _).symm.trans ho1;have hsz:=(h1.rf.size HK.out)
  have uC:=zh (ztC HK.out h1 (Below.refl _ _) ⟨s,3,0⟩ (l:=[]) (A:=none) (n:=0) (c:=0) ⟨rfl,.inl ⟨rfl,rfl⟩⟩ (fun b e=>by simp[Value.ownBlock] at e) (zrc HH0.out.inv HK.out.F6 hF1 (vd:=⟨s,3,0⟩) (.inr rfl) rfl (zps ky.out 3 (.inr rfl)) HI.out.2.2 zero_I64) ag.out);obtain⟨x0,x1,x2,x3⟩:=box4 (h1.box ax.out aZ.out);obtain⟨dz,dw,dn,dm⟩:=dQ.out _ h1.rf.bl;have jw:=zh ho3;clear h1 ho1 ho3 hsz hF1;go_wp2_with fail;refine uC.out.mono ?_;rintro e w3 ⟨⟨u3,rfl⟩,P2,h3⟩;clear x0 x1 x2 x3 dz dw dn dm;clear uC;have hcv:cntV K.p.prs u0 ((({ r with n:=r.n+1 }:RS).S.newCell []).setCur (r.S.cur.push ⟨s,3,0⟩ r.S.nc)).cur.vs=0:=by rw[zlc];exact HI.out.2.1
  have az:=zh (zpx HK.out HS.out h3 jw.out bE.out HV.out HI.out.1 hcv ag.out);obtain⟨x0,x1,x2,x3⟩:=box4 (h3.box ax.out aZ.out);obtain⟨dz,dw,dn,dm⟩:=dQ.out _ h3.rf.bl;clear h3 jw hcv;go_wp2_with fail;refine az.out.mono ?_;rintro e w4 ⟨⟨u4,rfl⟩,⟨P4,r4,h4,eu,k4⟩|⟨x,her,hox⟩⟩;rotate_left 1
  ·have qZ:=zh (zns her.er);rw[ag.out] at qZ;have aa:=zh (show RunM K P W r o w4 from her.m HB0.out hox);clear x0 x1 x2 x3 dz dw dn dm;clear her hox az;go_wp2_with fail;refine qZ.out.mono ?_;rintro e w5 ⟨rfl,rfl⟩;go_wp2_with fail
   first
   | (refine bodyPost_ret (results_none rfl _ _ _) rfl ?_;exact⟨⟨_,rfl⟩,aa.out⟩)
   | (go_end0;exact⟨⟨_,rfl⟩,aa.out⟩)
  clear x0 x1 x2 x3 dz dw dn dm;clear az;have HST:=zh (znL HK.out h4 eu ag.out);have wP:=zh h4.rf.inv;have fH:=zh (show r4.S.cur=r.S.cur.push ⟨s,3,0⟩ r.S.nc by rw[k4.cur,zlc]);clear h4 eu k4;go_wp2_with fail;refine HST.out.mono ?_;rintro e w5 ⟨b,rfl,⟨rfl,h5,av,wI⟩|⟨rfl,x,her,hox⟩⟩;rotate_left 1
  ·have aa:=zh (show RunM K P W r o w5 from her.m HB0.out hox);clear her hox HST;go_wp2_with fail
   first
   | (refine bodyPost_ret (results_none rfl _ _ _) rfl ?_;exact⟨⟨_,rfl⟩,aa.out⟩)
   | (go_end0;exact⟨⟨_,rfl⟩,aa.out⟩)
  clear HST;have wS:=zh (ztA HK.out h5 wP.out wI fH.out uG.out ag.out);have dZ:=zh ((zv7 (r:={ r4 with n:=r4.n+1 }) fH.out uG.out).symm.trans av);clear h5 av wI;go_wp2_with fail;refine wS.out.mono ?_;rintro e w7 ⟨P6,q,rfl,h7,hq⟩;clear wS;obtain⟨hid,-⟩:=zpN wP.out.wf fH.out uG.out;have e0:=zkD r4.S r.S.cur;obtain⟨Aq,cq,-,-,z0,-⟩:=h7.rf.celC (id:=r.S.nc) (by show _<(r4.S.setCur r.S.cur).nc;rw[e0.2.1];exact hid);have e3:({ r4 with n:=r4.n+1,S:=r4.S.setCur r.S.cur }:RS).S.cell=r4.S.cell:=e0.1;rw[e3,hq] at z0;obtain⟨L,hL⟩:∃ L,(r4.S.cell r.S.nc).length=L:=⟨_,rfl⟩
  have gW:(if 0<L then .err 16 else .ok { r4 with n:=r4.n+1,S:=r4.S.setCur r.S.cur })=o:=by rw[<-hL];exact dZ.out
  rw[hL] at z0;have H7:=zh h7;have gH:=zh gW;clear h7 gW hid e0 e3 hL hq dZ;by_cases oM:L=0
  ·subst oM;have aa:=zh (show RunM K P W r o w7 from H7.out.m HB0.out HH.out (by rw[<-gH.out,if_neg (by omega)]));go_wp2_with fail
   first
   | (refine bodyPost_ret (results_none rfl _ _ _) rfl ?_;exact⟨⟨_,rfl⟩,aa.out⟩)
   | (go_end0;exact⟨⟨_,rfl⟩,aa.out⟩)
  ·have e2:((L:Int) != 0)=true:=by simpa using oM
   have aR:=zh (zqQ HK.out (e:=16) (by decide) H7.out (o:=o) (by rw[<-gH.out,if_pos (by omega)]) ag.out);clear oM;go_wp2_with fail;refine aR.out.mono ?_;rintro e w8 ⟨⟨u8,rfl⟩,her,hox⟩;have aa:=zh (show RunM K P W r o w8 from her.m HB0.out hox);clear her hox aR;go_wp2_with fail
   first
   | (refine bodyPost_ret (results_none rfl _ _ _) rfl ?_;exact⟨⟨_,rfl⟩,aa.out⟩)
   | (go_end0;exact⟨⟨_,rfl⟩,aa.out⟩)
def famC (nv cv:Value) (xs ys:List Value):Bool->RowD
 | true=>⟨nv,9,1,xs.length,xs⟩
 | false=>⟨cv,95,1,ys.length,ys⟩
theorem zuT (w:World) (n0:Nat):Rws w n0 (famC (.slice none 0 0) (.slice none 0 0) [] []) :=
 ⟨fun i=>by cases i<;>exact⟨rfl,.inl ⟨rfl,rfl⟩⟩,fun i j b _ hi=>by cases i<;>simp[famC,Value.ownBlock] at hi⟩
section
variable {w w':World} {n1:Nat} {nv cv v' x:Value} {xs ys:List Value} {o:Obj}
theorem zs3 (h:Rws w n1 (famC nv cv xs ys)) (hn:n1<=w.heap.size) (ho:w'.ownsRow n1 9 1 v' (xs.length+[x].length) (xs++[x])) (hg:(w.alloc o).grownBy w' nv.ownBlock) (aL:v'.ownBlock=nv.ownBlock\/v'.ownBlock=some (w.alloc o).heap.size) :
  Rws w' n1 (famC v' cv (xs++[x]) ys)/\Below n1 w w':=by
 have hb:=zkc (Below.refl w.heap.size w) o;have hc:Chg (fun b=>(famC nv cv xs ys true).v.ownBlock=some b) w w':=(Chg.of_below hb).trans (Chg.row hg);have st:=Stp.upd (i:=true) (r:=⟨v',9,1,(xs++[x]).length,xs++[x]⟩) h hc (by simpa using ho) fun b e=>by
  have e:v'.ownBlock=some b:=e;rcases aL with h1|h1
  ·exact .inl (by rw[<-e,h1];rfl)
  ·rw[h1] at e;injection e with e;have:=hb.size;exact .inr (by omega)
 refine⟨?_,hc.below hn fun b e=>(h.lt true b e).1⟩;have e:updR (famC nv cv xs ys) true ⟨v',9,1,(xs++[x]).length,xs++[x]⟩=famC v' cv (xs++[x]) ys:=by
  funext i
  cases i
  ·rw[zkb (by simp)];rfl
  ·rw[zkk];rfl
 rw[<-e];exact st.rws
theorem zs4 (h:Rws w n1 (famC nv cv xs ys)) (hn:n1<=w.heap.size) (ho:w'.ownsRow n1 95 1 v' (ys.length+[x].length) (ys++[x])) (hg:(w.alloc o).grownBy w' cv.ownBlock) (aL:v'.ownBlock=cv.ownBlock\/v'.ownBlock=some (w.alloc o).heap.size) :
  Rws w' n1 (famC nv v' xs (ys++[x]))/\Below n1 w w':=by
 have hb:=zkc (Below.refl w.heap.size w) o;have hc:Chg (fun b=>(famC nv cv xs ys false).v.ownBlock=some b) w w':=(Chg.of_below hb).trans (Chg.row hg);have st:=Stp.upd (i:=false) (r:=⟨v',95,1,(ys++[x]).length,ys++[x]⟩) h hc (by simpa using ho) fun b e=>by
  have e:v'.ownBlock=some b:=e;rcases aL with h1|h1
  ·exact .inl (by rw[<-e,h1];rfl)
  ·rw[h1] at e;injection e with e;have:=hb.size;exact .inr (by omega)
 refine⟨?_,hc.below hn fun b e=>(h.lt false b e).1⟩;have e:updR (famC nv cv xs ys) false ⟨v',95,1,(ys++[x]).length,ys++[x]⟩=famC nv v' xs (ys++[x]):=by
  funext i
  cases i
  ·rw[zkk];rfl
  ·rw[zkb (by simp)];rfl
 rw[<-e];exact st.rws
end
def celN (f:FR) (s:ByteArray):Nat:=f.cs.getD ((f.at s).getD 0) 0
theorem zu2 {S:ST} {s:ByteArray} {id:Nat} (h:S.num s=some id):celN S.cur s=id:=by
 unfold ST.num at h;unfold celN
 cases hf:S.cur.at s with
 | none=>rw[hf] at h;cases h
 | some i =>
  rw[hf] at h;have h:S.cur.cs[i]?=some id:=h;simp[List.getD_eq_getElem?_getD,h]
theorem zxr {S:ST} {ps:List VD} {ks:List T} (hl:ks.length=ps.length) (ha:∀ j (hj:j<ks.length) (hp:j<ps.length),∃ v,zkA S.cur.vs ks[j].s=some v/\v.k=ps[j].k/\v.n=ps[j].n) :
  zlh S ps (ks.map (·.s))=if 100<=S.calls.length then (19,S) else (0,{ S with calls:=S.calls++[⟨ps,ks.map fun u=>celN S.cur u.s,0⟩] }):=by
 unfold zlh;rw[if_neg (by simp[hl])];rw[ztb S.cur (ps.zip (ks.map (·.s))) ⟨[],[],0⟩ rfl fun p hp=>by
  obtain⟨j,hj,rfl⟩:=List.getElem_of_mem hp;simp only[List.length_zip,List.length_map] at hj;obtain⟨v,h1,h2,h3⟩:=ha j (by omega) (by omega);exact⟨v,by simpa using h1,by simpa using h2,by simpa using h3⟩]
 have e1:(ps.zip (ks.map (·.s))).map (·.1)=ps:=List.map_fst_zip (by simp[hl]);have e2:(ps.zip (ks.map (·.s))).map (fun p=>S.cur.cs.getD ((S.cur.at p.2).getD 0) 0)=ks.map fun u=>celN S.cur u.s:=by
  have:(fun p:VD×ByteArray=>S.cur.cs.getD ((S.cur.at p.2).getD 0) 0)=(fun s=>celN S.cur s) ∘ Prod.snd:=rfl;rw[this,<-List.map_map,List.map_snd_zip (by simp[hl]),List.map_map];rfl
 rw[e1,e2];rfl
theorem zsn:∀ {prs:List PR} {s:ByteArray} {i:Nat},prcI prs s=some i->∀ j (hj:j<prs.length),j<=i->(prs[j].s.toList==s.toList)=decide (j=i)
 | q::qs,s,i,h,j,hj,hji=>by
  unfold prcI at h
  split at h
  ·injection h with h;subst h;obtain rfl:j=0:=by omega
   rename_i h0;simpa using h0
  ·rename_i h0;obtain⟨m,h1,rfl⟩:=Option.map_eq_some_iff.1 h
   cases j with
   | zero=>simpa using h0
   | succ j=>simpa using zsn h1 j (by simpa using hj) (by omega)
theorem RF.cntC {K:RK} {P:RP} {W:World} {r:RS} {er:Int} (h:RF K P W r er) {i:Nat} (hi:i<r.ent.length):∃ g c,P.cv=.slice (some ⟨g,0,none⟩) r.ent.length c/\W.cell? ⟨g,i,none⟩=some (.int .i64 (r.ent.getD i 0:Nat))/\W.frozen? ⟨g,i,none⟩=false:=by
 have h1:=h.rws.row .cnt;obtain⟨A,c,hv,hc,-⟩:=zkh h1;have hv:P.cv=.slice A r.ent.length c:=hv;rcases h1.2 with⟨_,h0⟩|⟨g,cap,cur,hv2,_⟩
 ·have h0:r.ent.length=0:=h0;omega
 ·have hv2:P.cv=.slice (some ⟨g,0,none⟩) r.ent.length cap:=hv2;have aL:(zkg K P r er .cnt).v.ownBlock=some g:=by show P.cv.ownBlock=some g;rw[hv2];rfl
  refine⟨g,cap,hv2,h.rws.cell .cnt aL (o:=i) ?_,h.rws.frozen .cnt aL i⟩;simp[zkg,zke,hi]
section
variable {K:RK} {P P4:RP} {W w:World} {r r1 r5:RS} {fr:FR} {nv cv:Value}
theorem AftS.enter (hK:K.Ok) (h:AftS K P W r P r1 w) {i g c:Nat} (hi:i<r1.ent.length) (hcv:P.cv=.slice (some ⟨g,0,none⟩) r1.ent.length c) (hn:Sl w (fun b=>¬ OwnB (zkg K P r1 0) b) nv (zk7 fr)) (hc:Sl w (fun b=>¬ OwnB (zkg K P r1 0) b) cv (ptrs P.cb fr.cs))
  (hv:RInv { r1 with S:={ r1.S with calls:=r1.S.calls++[fr] } }) (hm:r1.ent.getD i 0+1<=r1.n) {rb:Nat} (hrb:P.rb=rb) {w':World}
  (hw:w'=(((w.setCell ⟨rb,6,none⟩ nv).setCell ⟨rb,7,none⟩ cv).setCell ⟨rb,12,none⟩ (.int .i64 ((r1.S.calls.length+1:Nat):Int))).setCell ⟨g,i,none⟩ (.int .i64 ((r1.ent.getD i 0+1:Nat):Int))) :
  AftS K P W r { P with nm:=nv,cl:=cv } { r1 with S:={ r1.S with calls:=r1.S.calls++[fr] },ent:=r1.ent.set i (r1.ent.getD i 0+1) } w':=by
 subst hrb;have s1:=fldS (P':={ P with nm:=nv }) (r':=r1) (er':=0) h.rf.rws (o:=6) (by decide) nv rfl ⟨rfl,rfl,rfl,rfl⟩ rfl rfl rfl;have s2:=fldS (P':={ P with nm:=nv,cl:=cv }) (r':=r1) (er':=0) s1.rws (o:=7) (by decide) cv rfl ⟨rfl,rfl,rfl,rfl⟩ rfl rfl rfl;have s3:=fldS (P':={ P with nm:=nv,cl:=cv }) (r':={ r1 with S:={ r1.S with calls:=r1.S.calls++[fr] } }) (er':=0) s2.rws (o:=12) (by decide) (.int .i64 ((r1.S.calls.length+1:Nat):Int)) (by simp[RK.cells]) ⟨rfl,rfl,rfl,rfl⟩ rfl rfl rfl;have s4:=Stp.set (i:=RX.cnt) s3.rws (g:=g) (by show P.cv.ownBlock=some g;rw[hcv];rfl) (o:=i) (by simp[zkg,zke];exact hi) (.int .i64 ((r1.ent.getD i 0+1:Nat):Int));have s5:=s4.cast (d'':=zkg K { P with nm:=nv,cl:=cv } { r1 with S:={ r1.S with calls:=r1.S.calls++[fr] },ent:=r1.ent.set i (r1.ent.getD i 0+1) } 0) (by
  funext x
  cases x with
  | run=>rw[zkb (by simp)];rfl
  | cnt=>rw[zkk];simp[zkg,zke,List.map_set]
  | cel i=>rw[zkb (by simp)];rfl
  | row i=>rw[zkb (by simp)];rfl)
 have st:=((s1.trans s2).trans s3).trans s5;rw[<-hw] at st;have sZ:({ r1.S with calls:=r1.S.calls++[fr] }:ST).cur=fr:=by simp[ST.cur]
 refine h.more (h.rf.step hK st ?_ ?_ (h.rf.iv.stp st) (h.rf.ov.stp st) ⟨hv.wf,hv.fb,hv.n⟩ (by simp) fun c hc=>?_) st ⟨rfl,rfl,fun _ _=>rfl⟩ (Nat.le_refl _)
 ·show Sl w' _ nv (zk7 ({ r1.S with calls:=r1.S.calls++[fr] }:ST).cur)
  rw[sZ];exact hn.stp st
 ·show Sl w' _ cv (ptrs P.cb ({ r1.S with calls:=r1.S.calls++[fr] }:ST).cur.cs)
  rw[sZ];exact hc.stp st
 ·rcases List.mem_or_eq_of_mem_set hc with hc|rfl
  ·exact h.rf.en c hc
  ·exact hm
theorem AftS.enter3 (h:AftS K P W r P r1 w) {rb:Nat} (hrb:P.rb=rb) :
  Rws (((w.setCell ⟨rb,6,none⟩ nv).setCell ⟨rb,7,none⟩ cv).setCell ⟨rb,12,none⟩ (.int .i64 ((r1.S.calls.length+1:Nat):Int))) K.n0 (zkg K { P with nm:=nv,cl:=cv } { r1 with S:={ r1.S with calls:=r1.S.calls++[fr] } } 0):=by
 subst hrb;have s1:=fldS (P':={ P with nm:=nv }) (r':=r1) (er':=0) h.rf.rws (o:=6) (by decide) nv rfl ⟨rfl,rfl,rfl,rfl⟩ rfl rfl rfl;have s2:=fldS (P':={ P with nm:=nv,cl:=cv }) (r':=r1) (er':=0) s1.rws (o:=7) (by decide) cv rfl ⟨rfl,rfl,rfl,rfl⟩ rfl rfl rfl;exact(fldS (P':={ P with nm:=nv,cl:=cv }) (r':={ r1 with S:={ r1.S with calls:=r1.S.calls++[fr] } }) (er':=0) s2.rws (o:=12) (by decide) (.int .i64 ((r1.S.calls.length+1:Nat):Int)) (by simp[RK.cells]) ⟨rfl,rfl,rfl,rfl⟩ rfl rfl rfl).rws
theorem AftS.leave (hK:K.Ok) (h0:RF K P W r 0) (h:AftS K P W r P4 r5 w) (hb:r5.S.base=r.S.base) (hv:RInv { r5 with S:={ r5.S with calls:=r.S.calls } }) {rb:Nat} (hrb:P.rb=rb) {w':World}
  (hw:w'=((w.setCell ⟨rb,6,none⟩ P.nm).setCell ⟨rb,7,none⟩ P.cl).setCell ⟨rb,12,none⟩ (.int .i64 r.S.calls.length)) :
  AftS K P W r { P4 with nm:=P.nm,cl:=P.cl } { r5 with S:={ r5.S with calls:=r.S.calls } } w':=by
 subst hrb;have s1:=fldS (P':={ P4 with nm:=P.nm }) (r':=r5) (er':=0) h.rf.rws (o:=6) (by decide) P.nm rfl ⟨rfl,rfl,rfl,rfl⟩ rfl rfl rfl;have s2:=fldS (P':={ P4 with nm:=P.nm,cl:=P.cl }) (r':=r5) (er':=0) s1.rws (o:=7) (by decide) P.cl rfl ⟨rfl,rfl,rfl,rfl⟩ rfl rfl rfl;have s3:=fldS (P':={ P4 with nm:=P.nm,cl:=P.cl }) (r':={ r5 with S:={ r5.S with calls:=r.S.calls } }) (er':=0) s2.rws (o:=12) (by decide) (.int .i64 r.S.calls.length) rfl ⟨rfl,rfl,rfl,rfl⟩ rfl rfl rfl;have st:=(s1.trans s2).trans s3;rw[<-h.sq.rb] at hw;rw[<-hw] at st;have sZ:({ r5.S with calls:=r.S.calls }:ST).cur=r.S.cur:=by simp only[ST.cur,hb]
 have hal:=h.st.trans st;have hcs:ptrs P4.cb r.S.cur.cs=ptrs P.cb r.S.cur.cs:=by
  obtain⟨kd,hkd⟩:=h0.inv.wf.cur;unfold ptrs;exact List.map_congr_left fun c hc=>by rw[h.sq.cb c (hkd.num c hc)]
 refine h.more (h.rf.step hK st ?_ ?_ (h.rf.iv.stp st) (h.rf.ov.stp st) hv rfl h.rf.en) st ⟨rfl,rfl,fun _ _=>rfl⟩ (Nat.le_refl _)
 ·show Sl w' _ P.nm (zk7 ({ r5.S with calls:=r.S.calls }:ST).cur)
  rw[sZ];exact h0.nm.stp hal
 ·show Sl w' _ P.cl (ptrs P4.cb ({ r5.S with calls:=r.S.calls }:ST).cur.cs)
  rw[sZ,hcs];exact h0.cl.stp hal
end
theorem zuB {S S':ST} {ps:List VD} {cs:List Nat} (h:S'.calls=S.calls++[⟨ps,cs,0⟩]):zlt S'=(0,{ S' with calls:=S.calls }):=by
 have h1:S'.cur=⟨ps,cs,0⟩:=by simp[ST.cur,h]
 unfold zlt;rw[h1,if_neg (by simp[h])];simp[h]
theorem ztE {K:RK} (hK:K.Ok) {g:Nat} (hS:RexC K g) {P:RP} {W:World} {r:RS} (h:RF K P W r 0) {t:T} {v:Value} (back:Bool) (hv:NV K.w Any t v) {i:Nat} (hi:prcI K.p.prs t.s=some i) {q:PR} (hq:K.p.prs[i]?=some q) (hl:t.ks.length=q.ps.length) (kZ:t.ks.length<=8)
  (ha:∀ j (hj:j<t.ks.length) (hp:j<q.ps.length),∃ v,zkA r.S.cur.vs t.ks[j].s=some v/\v.k=q.ps[j].k/\v.n=q.ps[j].n) (hqb:isB q.b=true/\cntV K.p.prs q.b q.ps=0) {o:Out}
  (ho:(zkq K.F r).bind (fun r1=>(zki r1 (zlh r1.S q.ps (t.ks.map (·.s)))).bind fun r1=>(runO K.p.prs K.F g back q.b { r1 with ent:=r1.ent.set i (r1.ent.getD i 0+1) }).bind fun r1=>(zkq K.F r1).bind fun r1=>zki r1 (zlt r1.S))=o) (hog:o ≠ .gas) :
  Calls Tryz.prog 70 #[.pointer (some ⟨P.rb,0,none⟩),v,.bool back] W fun en W'=>(∃ u,en=.returned u)/\RunM K P W r o W':=by
 obtain⟨hil,hqi⟩:=List.getElem?_eq_some_iff.1 hq;obtain⟨A,c,rfl,-,hlk,hlc,hrow⟩:=hv.open_;obtain⟨k,n,s,ks⟩:=t;simp only[T.k_nd,T.n_nd,T.s_nd,T.ks_nd] at *
 obtain⟨m,hm⟩:∃ m,ks.length=m:=⟨_,rfl⟩
 rw[hm] at hl kZ hlk hlc ⊢;have hb0:=zkc (Below.refl W.heap.size W) (.cells #[.int .u8 k,.int .i64 n,.string s,.slice A m c] 26);have hbx:=heap_alloc_new W (.cells #[.int .u8 k,.int .i64 n,.string s,.slice A m c] 26);obtain⟨W0,hW0⟩:∃ x,W.alloc (.cells #[.int .u8 k,.int .i64 n,.string s,.slice A m c] 26)=x:=⟨_,rfl⟩
 obtain⟨nb,hnb⟩:∃ x,W.heap.size=x:=⟨_,rfl⟩
 rw[hW0] at hb0 hbx;rw[hnb] at hbx;have hh0:=h.later hb0;obtain⟨rb,hrb⟩:∃ b,P.rb=b:=⟨_,rfl⟩
 rw[hrb];have aZ:=zh (show ¬ OwnB (zkg K P r 0) nb from znD h (by omega));have HH:=zh h;have HH0:=zh hh0;have HB0:=zh hb0;have ax:=zh hbx;have ag:=zh hrb;have HS:=zh hS;have HK:=zh hK;have bE:=zh hog;have ah:=zh hrow;have vH:=zh (show(∃ h:i<K.p.prs.length,K.p.prs[i]=q) from ⟨hil,hqi⟩);have HQB:=zh hqb;have HA:=zh ha;have HM:=zh hm;have HL:=zh hl;have yn:=zh (fun j (hj:j<K.p.prs.length) hji=>zsn hi j hj hji);have HST:=zh (znL hK (AftS.refl hh0) ho hrb);have kS:=zh (show zlh r.S q.ps (ks.map (·.s))=if 100<=r.S.calls.length then (19,r.S) else (0,{ r.S with calls:=r.S.calls++[⟨q.ps,ks.map fun u=>celN r.S.cur u.s,0⟩] }) from zxr (by omega) ha);clear hb0 hbx h hh0 hrb hS hK hv hrow ho hog hlk hlc hi hq hl ha hqb hil hqi hm;go_enter Tryz.func70,Tryz.ntmps70;go_wp2_with fail;refine HST.out.mono ?_;rintro e w1 ⟨b,rfl,⟨rfl,h1,ho1,hF1⟩|⟨rfl,x,her,hox⟩⟩;rotate_left 1
 ·have aa:=zh (show RunM K P W ⟨r.S,r.n,r.ent⟩ o w1 from her.m HB0.out hox);clear her hox;go_wp2_with fail
  first
  | (refine bodyPost_ret (results_none rfl _ _ _) rfl ?_;exact⟨⟨_,rfl⟩,aa.out⟩)
  | (go_end0;exact⟨⟨_,rfl⟩,aa.out⟩)
 clear HST hW0 hnb;have ho1:(zki { r with n:=r.n+1 } (zlh r.S q.ps (ks.map (·.s)))).bind _=o:=ho1;rw[kS.out] at ho1;have bg:=(h1.rf.box).1.2.2.2.2.2.2.1;rw[ag.out] at bg;obtain⟨L,hL⟩:∃ L,r.S.calls.length=L:=⟨_,rfl⟩
 rw[show({ r with n:=r.n+1 }:RS).S.calls.length=L from hL] at bg;rw[hL] at ho1;have bS:=zh hL;have H1:=zh h1;have iO:=zh hF1;clear h1 hF1 hL;by_cases jo:100<=L
 ·rw[if_pos jo] at ho1;have aR:=zh (zqQ HK.out (e:=19) (by decide) H1.out (o:=o) (by rw[<-ho1];rfl) ag.out);have e1:(100:Int)<=(L:Int):=by omega
  clear ho1 jo;go_wp2_with fail;refine aR.out.mono ?_;rintro e w8 ⟨⟨u8,rfl⟩,her,hox⟩;have aa:=zh (show RunM K P W ⟨r.S,r.n,r.ent⟩ o w8 from her.m HB0.out hox);clear her hox aR;go_wp2_with fail
  first
  | (refine bodyPost_ret (results_none rfl _ _ _) rfl ?_;exact⟨⟨_,rfl⟩,aa.out⟩)
  | (go_end0;exact⟨⟨_,rfl⟩,aa.out⟩)
 rw[if_neg jo] at ho1;have jA:=zh ho1;have e1:¬ (100:Int)<=(L:Int):=by omega
 have H100:=zh jo;have HBW1:=zh (show Below w1.heap.size w1 w1 from Below.refl _ _);clear ho1;go_wp2_with fail
 go_loopw [6] (fun x wr=>∃ j:Nat,j<=i/\x=.int .i64 j/\Hid (Below w1.heap.size w1 wr)) (fun x _=>i-(intOf x).toNat)
 case atStart=>exact⟨0,Nat.zero_le _,rfl,HBW1⟩
 case round =>
  clear HBW1;obtain⟨j,hj,rfl,HB⟩:=hrel;obtain⟨hil,-⟩:=vH.out;have xL:j<K.p.prs.length:=by omega
  obtain⟨pa,qj,B1,d1,B2,d2,hA2,-,Hqj,⟨p0,p1,p2,p3,p4,p5⟩,hpr⟩:=HK.out.pg.procs.nd xL;have hbw:=zka H1.out.rf.bl HB.out;have hx1:=(H1.out.rf.later HB.out).box;obtain⟨N,hN⟩:∃ N,K.p.prs.length=N:=⟨_,rfl⟩
  have y1:=hx1.2.1.2;rw[ag.out,hA2,hN] at y1;have hcmp:=yn.out j xL hj;have hqj:K.p.prs[j]=qj:=Hqj.out;rw[hqj] at hcmp;have p0:=zb hbw p0;have hj0:(0:Int)<=(j:Int):=by omega
  have hj1:(j:Int)<(N:Int):=by omega
  have x2:wr.cell? ⟨nb,2,none⟩=some (.string s):=zc (zkf (H1.out.box ax.out aZ.out) HB.out) rfl;by_cases hji:j=i;rotate_left 1
  ·have e3:(qj.s.toList==s.toList)=false:=by rw[hcmp];simpa using hji
   have hjl:j<i:=by omega
   clear hcmp hqj Hqj hpr p1 p2 p3 p4 p5 hx1 hji hbw;have hj2:IntKind.i64.wrap ((j:Int)+1)=(j:Int)+1:=IntWalk.i64_in _ (by have:=HK.out.np;omega);clear hil xL hN hj;go_upto_region 5 with fail
   go_quiet (fail)
   go_wp2_with fail
   go_roundw
   case rel=>exact⟨j+1,by omega,by go_num,zh (zka HB.out (zlm (Below.refl _ _) nq))⟩
   case measure=>simp[intOf];omega
  subst hji;have e3:(qj.s.toList==s.toList)=true:=by rw[hcmp];simp
  go_upto_region 5 with fail
  go_quiet (fail)
  obtain⟨w2,hw2⟩:∃ x,wr.drewN nq=x:=⟨_,rfl⟩
  have hb2:Below w1.heap.size w1 w2:=hw2▸zka HB.out (zlm (Below.refl _ _) nq);rw[hw2];have hq:qj=q:=by obtain⟨h1,h2⟩:=vH.out;rw[<-h2];exact hqj.symm
  subst hq;have hbw:=zka H1.out.rf.bl hb2;have ig:=zh hpr;have y1:=(H1.out.rf.later hb2).box.2.1.2;rw[ag.out,hA2,hN] at y1;clear p0 hcmp e3 x2 yn hqj Hqj hx1 hil xL HB hw2 ho1;have q0:=zb hbw p0;have q1:=zb hbw p1;have q2:=zb hbw p2;have q3:=zb hbw p3;have q4:=zb hbw p4;have q5:=zb hbw p5;have hb3:=zkc hb2 (.cells #[.string qj.s,.slice B1 qj.ps.length d1,.int .u8 qj.b.k,.int .i64 qj.b.n,.string qj.b.s,.slice B2 qj.b.ks.length d2] 51);have hfx:=heap_alloc_new w2 (.cells #[.string qj.s,.slice B1 qj.ps.length d1,.int .u8 qj.b.k,.int .i64 qj.b.n,.string qj.b.s,.slice B2 qj.b.ks.length d2] 51);go_upto_region 8 with fail;obtain⟨w3,hw3⟩:∃ x,w2.alloc (.cells #[.string qj.s,.slice B1 qj.ps.length d1,.int .u8 qj.b.k,.int .i64 qj.b.n,.string qj.b.s,.slice B2 qj.b.ks.length d2] 51)=x:=⟨_,rfl⟩
  obtain⟨fb,gX⟩:∃ x,w2.heap.size=x:=⟨_,rfl⟩
  rw[hw3] at hb3 hfx;rw[gX] at hfx;have vQ:=zh hfx;have HFBL:=zh (show w1.heap.size<=fb from gX▸hb2.size);have HB3:=zh hb3;obtain⟨n1,hn1⟩:∃ n,w3.heap.size=n:=⟨_,rfl⟩
  have eP:=zh hn1;have yB:=zh (H1.out.rf.later hb3);have HNX:=zh (zkf (H1.out.box ax.out aZ.out) hb3);obtain⟨NS,zK⟩:∃ l,qj.ps.map (fun v=>Value.string v.s)=l:=⟨_,rfl⟩
  obtain⟨CS,hCS⟩:∃ l,ptrs P.cb (ks.map fun u=>celN r.S.cur u.s)=l:=⟨_,rfl⟩
  have HNS:=zh zK;have vR:=zh hCS;have vK:=zh (show NS.length=m/\CS.length=m from ⟨by rw[<-zK,List.length_map,HL.out],by rw[<-hCS];simp[ptrs,HM.out]⟩);have HBI:=zh (show Below n1 w3 w3 from hn1▸Below.refl _ _);have gG:=zh (zuT w3 n1);have HMP:=zh (show qj.ps.length=m from HL.out.symm);obtain⟨pl,hpl⟩:∃ l,qj.ps.length=l:=⟨_,rfl⟩
  have ym:=zh hpl;rw[gX,hw3];clear hw3 gX hfx hb3 hb2 hbw q0 q1 q2 q3 q4 q5 p0 p1 p2 p3 p4 p5 bg y1 hn1 zK hCS hpr hpl;go_wp2_with fail
  go_loopw [8,9,10] (fun x8 x9 x wr=>∃ j2:Nat,j2<=m/\x=.int .i64 j2/\Hid (Below n1 w3 wr)/\Hid (Rws wr n1 (famC x8 x9 (NS.take j2) (CS.take j2)))) (fun _ _ x _=>m-(intOf x).toNat)
  case atStart=>exact⟨0,Nat.zero_le _,rfl,HBI,gG⟩
  case round =>
   clear HBI gG;obtain⟨j2,hj2,rfl,HB,HR⟩:=hrel;have hbw:Below w3.heap.size w3 wr:=by rw[eP.out];exact HB.out
   have f1:wr.cell? ⟨fb,1,none⟩=some (.slice B1 m d1):=by rw[<-HMP.out];exact zc (zkf vQ.out hbw) rfl
   by_cases hlt:j2<m
   ·have hm1:(j2:Int)<(m:Int):=by omega
    have hm0:(0:Int)<=(j2:Int):=by omega
    obtain⟨pa2,pv,hB1,-,Hpv,⟨c0,-,-⟩,-⟩:=ig.out.row.nd (i:=j2) (by rw[HMP.out];exact hlt);obtain⟨ka,u,Au,cu,hA,-,Hu,⟨g0,g1,g2,g3⟩,-⟩:=ah.out.nd (i:=j2) (by rw[HM.out];exact hlt);have hbK:=zka yB.out.bl hbw;have c0:=zb hbK c0;subst hB1 hA;have hnn:n1<=wr.heap.size:=by rw[<-eP.out];exact hbw.size
    have hbs:=bRS1 pv.s;have OW1:=zkJ (HR.out.row true) (zkc (Below.refl wr.heap.size wr) (.cells #[.string pv.s] 9));have qw:∀ x∈[Value.string pv.s],x.oneCell'=true:=by intro x hx;simp only[List.mem_singleton] at hx;subst hx;rfl
    have hl1:(NS.take j2).length+[Value.string pv.s].length<=4000000:=by simp;omega
    have hn2:n1<=(wr.alloc (.cells #[.string pv.s] 9)).heap.size:=by simp;omega
    have aY:=zh (show ∀ va wa,Rws wa n1 (famC va u9 (NS.take j2++[.string pv.s]) (CS.take j2))/\Below n1 wr wa->Hid (Below n1 w3 wa)/\Hid (Rws wa n1 (famC va u9 (NS.take (j2+1)) (CS.take j2)))/\(wa.cell? ⟨nb,3,none⟩=some (.slice (some ka) m c)/\wa.cell? ⟨(ka.add (j2*4)).block,(ka.add (j2*4)).off+2,none⟩=some (.string u.s)) from fun va wa h=>by
     have hb:=HB.out.trans h.2;have hb3:Below w3.heap.size w3 wa:=by rw[eP.out];exact hb
     refine⟨hb,?_,zc (zkf HNX.out hb3) rfl,zb (zka yB.out.bl hb3) g2⟩;have e:NS.take (j2+1)=NS.take j2++[.string pv.s]:=by
      rw[List.take_succ_eq_append_getElem (by rw[vK.out.1];exact hlt)];congr 2;simp only[<-HNS.out,List.getElem_map,Hpv.out]
     rw[e];exact h.1)
    clear g0 g1 g2 g3;go_wp2_with (at_builtin;refine zlV rfl (.tmp 52) (.tmp 59) rfl n1 u8 (NS.take j2).length (NS.take j2) rfl OW1 Any (.slice (some ⟨wr.heap.size,0,none⟩) 1 1) [.string pv.s] rfl (zq1 _ _ _) qw hl1 hn2 ?_;intro va wa hoa hga fZ;obtain⟨dJ,HRA,k3,k2⟩:=aY.out _ _ (zs3 HR.out hnn hoa hga fZ);clear hoa hga fZ)
    obtain⟨fv,oO,-⟩:=HA.out j2 (by rw[HM.out];exact hlt) (by have:=HL.out;omega);have hF:=zmu (yB.out.later (by rw[eP.out];exact dJ.out)) (s:=u.s) (v:=fv) (by rw[<-Hu.out];exact oO);rw[ag.out] at hF;refine hF.mono ?_;rintro e wx ⟨⟨id,hid,-,rfl⟩,rfl⟩;clear hF oO hbs OW1 qw hl1 hn2 aY k2 k3 c0 f1;have hbs:=bRP1 (some ⟨P.cb id,0,none⟩);have hnn:n1<=wx.heap.size:=by rw[<-eP.out];exact(show Below w3.heap.size w3 wx by rw[eP.out];exact dJ.out).size
    have OW2:=zkJ (HRA.out.row false) (zkc (Below.refl wx.heap.size wx) (.cells #[.pointer (some ⟨P.cb id,0,none⟩)] 95));have xQ:∀ x∈[Value.pointer (some ⟨P.cb id,0,none⟩)],x.oneCell'=true:=by intro x hx;simp only[List.mem_singleton] at hx;subst hx;rfl
    have hl2:(CS.take j2).length+[Value.pointer (some ⟨P.cb id,0,none⟩)].length<=4000000:=by simp;omega
    have hn2:n1<=(wx.alloc (.cells #[.pointer (some ⟨P.cb id,0,none⟩)] 95)).heap.size:=by simp;omega
    have bF:=zh (show ∀ vb wb,Rws wb n1 (famC va vb (NS.take (j2+1)) (CS.take j2++[.pointer (some ⟨P.cb id,0,none⟩)]))/\Below n1 wx wb->Hid (Below n1 w3 wb)/\Hid (Rws wb n1 (famC va vb (NS.take (j2+1)) (CS.take (j2+1)))) from fun vb wb h=>by
     refine⟨dJ.out.trans h.2,?_⟩;have e:CS.take (j2+1)=CS.take j2++[.pointer (some ⟨P.cb id,0,none⟩)]:=by
      rw[List.take_succ_eq_append_getElem (by rw[vK.out.2];exact hlt)];congr 2;have h5:celN r.S.cur u.s=id:=zu2 (S:=r.S) hid;simp only[<-vR.out,ptrs,List.getElem_map,Hu.out,h5]
     rw[e];exact h.1)
    clear hid;go_wp2_with (at_builtin;refine zlW rfl (.tmp 61) (.tmp 70) rfl n1 u9 (CS.take j2).length (CS.take j2) rfl OW2 Any (.slice (some ⟨wx.heap.size,0,none⟩) 1 1) [.pointer (some ⟨P.cb id,0,none⟩)] rfl (zq1 _ _ _) xQ hl2 hn2 ?_;intro vb wb hoa hga fZ;obtain⟨iA,HRB2⟩:=bF.out _ _ (zs4 HRA.out hnn hoa hga fZ);clear hoa hga fZ)
    go_roundw
    case rel=>exact⟨j2+1,by omega,by go_num,iA,HRB2⟩
    case measure=>simp[intOf];omega
   ·obtain rfl:j2=m:=by omega
    have hm1:¬ (j2:Int)<(j2:Int):=by omega
    have hrw:=yB.out.later hbw;obtain⟨⟨y6,y7,-,-,-,-,bg,-,-⟩,-,yf⟩:=hrw.box;obtain⟨g1,cg,hcv,z0,zf⟩:=hrw.cntC (i:=j) (by rw[hrw.el];exact vH.out.1);rw[ag.out] at y6 y7 bg yf;rw[show({ r with n:=r.n+1 }:RS).S.calls.length=L from bS.out] at bg;obtain⟨An,cn,hnm,-⟩:=HH.out.nm;obtain⟨Ac,cc,hcl,-⟩:=HH.out.cl;obtain⟨ln,hln⟩:∃ n,(zk7 r.S.cur).length=n:=⟨_,rfl⟩
    obtain⟨lc,hlc⟩:∃ n,(ptrs P.cb r.S.cur.cs).length=n:=⟨_,rfl⟩
    rw[hln] at hnm;rw[hlc] at hcl;rw[hnm] at y6;rw[hcl] at y7;have yu:=zh (And.intro hnm hcl);clear hnm hcl hln hlc;have hbq:∀ w',Below wr.heap.size wr w'->w'.cell? ⟨rb,6,none⟩=some (.slice An ln cn)/\w'.cell? ⟨rb,7,none⟩=some (.slice Ac lc cc)/\w'.cell? ⟨rb,12,none⟩=some (.int .i64 L):=fun w' hb=>⟨zb hb y6,zb hb y7,zb hb bg⟩
    obtain⟨L1,hL1n⟩:∃ n,L+1=n:=⟨_,rfl⟩
    have hL1:IntKind.i64.wrap ((L:Int)+1)=(L1:Int):=by rw[IntWalk.i64_in _ (by omega)];omega
    have mI:=zh hL1n;clear hL1n;go_upto_region 15 with fail
    go_quiet (fail)
    obtain⟨w4,hw4⟩:∃ x,wr.drewN nq=x:=⟨_,rfl⟩
    have hb4:Below wr.heap.size wr w4:=hw4▸zlm (Below.refl _ _) nq;rw[hw4];have aK:=zh (zka hbw hb4);have HRW:=zh (HR.out.later hb4);have vT:=zh (((H1.out.below HB3.out).below hbw).below hb4);clear hw4 y6 y7 bg yf z0 zf hrw hbw HB HR y1 hA2 hN f1 hj hj2 hlt hm1 jo hj0 hj1 hcv hbq hb4;obtain⟨⟨y6,y7,-,-,-,-,bg,-,-⟩,-,yf⟩:=vT.out.rf.box;obtain⟨g1,cg,hcv,z0,zf⟩:=vT.out.rf.cntC (i:=j) (by rw[vT.out.rf.el];exact vH.out.1);rw[ag.out] at y6 y7 bg yf;rw[show({ r with n:=r.n+1 }:RS).S.calls.length=L from bS.out] at bg;rw[yu.out.1] at y6;rw[yu.out.2] at y7;obtain⟨el,hel⟩:∃ n,r.ent.length=n:=⟨_,rfl⟩
    obtain⟨e0,he0⟩:∃ n,r.ent.getD j 0=n:=⟨_,rfl⟩
    have hcv:P.cv=.slice (some ⟨g1,0,none⟩) el cg:=by rw[hcv,<-hel]
    have sV:j<el:=by rw[<-hel];have:=vT.out.rf.el;have h2:=vH.out.1;exact this▸h2
    have hent:=HH.out.en;have he0n:e0<=r.n:=by
     rw[<-he0,List.getD_eq_getElem?_getD,List.getElem?_eq_getElem (by rw[hel];exact sV)];exact hent _ (List.getElem_mem _)
    obtain⟨css,hcss⟩:∃ l,ks.map (fun u=>celN r.S.cur u.s)=l:=⟨_,rfl⟩
    obtain⟨A8,c8,e8r,-⟩:=zkh (HRW.out.row true);obtain⟨A9,c9,e9r,-⟩:=zkh (HRW.out.row false);obtain⟨l8,kZ⟩:∃ l,(NS.take j2).length=l:=⟨_,rfl⟩
    obtain⟨l9,xK⟩:∃ l,(CS.take j2).length=l:=⟨_,rfl⟩
    have e8:u8=.slice A8 l8 c8:=by rw[<-kZ];exact e8r
    have e9:u9=.slice A9 l9 c9:=by rw[<-xK];exact e9r
    clear e8r e9r;subst e8 e9;have E3:=AftS.enter3 (nv:=.slice A8 l8 c8) (cv:=(.slice A9 l9 c9)) (fr:=⟨qj.ps,css,0⟩) vT.out ag.out;rw[show({ r with n:=r.n+1 }:RS).S.calls.length=L from bS.out,mI.out] at E3;have HE3:=zh E3;clear E3;have iY:=zh (show r.ent.length=el/\r.ent.getD j 0=e0/\j<el/\e0<=r.n/\ks.map (fun u=>celN r.S.cur u.s)=css/\P.cv=.slice (some ⟨g1,0,none⟩) el cg from ⟨hel,he0,sV,he0n,hcss,hcv⟩);clear hel he0 sV he0n hent hcss hcv z0 zf kZ xK;go_upto_region 19 with fail;obtain⟨w5,fP⟩:∃ x,((w4.setCell ⟨rb,6,none⟩ (.slice A8 l8 c8)).setCell ⟨rb,7,none⟩ (.slice A9 l9 c9)).setCell ⟨rb,12,none⟩ (.int .i64 (L1:Int))=x:=⟨_,rfl⟩
    have HW5:=zh fP;rw[fP];have E3:=HE3.out;rw[fP] at E3;have yL:w5.cell? ⟨rb,13,none⟩=some (.slice (some ⟨g1,0,none⟩) el cg):=by
     rw[<-ag.out,<-iY.out.2.2.2.2.2];exact E3.cell .run (g:=P.rb) rfl (o:=13) rfl
    have pM:(zkg K { P with nm:=(.slice A8 l8 c8),cl:=(.slice A9 l9 c9) } { r with n:=r.n+1,S:={ r.S with calls:=r.S.calls++[⟨qj.ps,css,0⟩] } } 0 .cnt).v.ownBlock=some g1:=by show P.cv.ownBlock=some g1;rw[iY.out.2.2.2.2.2];rfl
    have pz:w5.cell? ⟨g1,j,none⟩=some (.int .i64 (e0:Int)):=E3.cell .cnt pM (o:=j) (by
     have h1:=iY.out.1;have h2:=iY.out.2.1;have h3:=iY.out.2.2.1;simp only[zkg,zke,List.getElem?_map];rw[List.getElem?_eq_getElem (by rw[h1];exact h3)];rw[List.getD_eq_getElem?_getD,List.getElem?_eq_getElem (by rw[h1];exact h3)] at h2;simp only[Option.getD_some] at h2;rw[h2];rfl)
    have pf:w5.frozen? ⟨g1,j,none⟩=false:=E3.frozen .cnt pM j;have hne:g1≠rb:=fun e=>E3.sep .cnt .run g1 (by simp) pM (by show some P.rb=some g1;rw[ag.out,e]);have hj0:(0:Int)<=(j:Int):=by omega
    have hj1:(j:Int)<(el:Int):=by have:=iY.out.2.2.1;omega
    obtain⟨e9,he9⟩:∃ n,e0+1=n:=⟨_,rfl⟩
    have HE9:=zh he9;have hew:IntKind.i64.wrap ((e0:Int)+1)=(e9:Int):=by
     have h1:=iY.out.2.2.2.1;have h2:=HH.out.inv.n;rw[IntWalk.i64_in _ (by omega)];omega
    clear E3 pM fP y6 y7 bg yf hL1 he9;have hSS:(fun w':World=>w'.cell? ⟨rb,13,none⟩=some (.slice (some ⟨g1,0,none⟩) el cg)) w5.drew/\(fun w':World=>w'.cell? ⟨g1,j,none⟩=some (.int .i64 (e0:Int))) w5.drew:=⟨yL,pz⟩
    refine wp_region_noPanic ?_;refine zkd (fun w':World=>w'.cell? ⟨rb,13,none⟩=some (.slice (some ⟨g1,0,none⟩) el cg)) (fun w':World=>w'.cell? ⟨g1,j,none⟩=some (.int .i64 (e0:Int))) 14 (by kernel_rfl) ?_;refine zT 0 hSS ?_;(try simp only[zQ]);refine zT 1 hSS ?_;(try simp only[zQ]);refine zT 2 hSS ?_;(try simp only[zQ]);refine zT 3 hSS ?_;(try simp only[zQ]);refine zT 4 hSS ?_;(try simp only[zQ]);refine zT 5 hSS ?_;(try simp only[zQ]);refine zT 6 hSS ?_;(try simp only[zQ]);refine zT 7 hSS ?_;(try simp only[zQ]);refine zT 8 hSS ?_;(try simp only[zQ]);refine zT 9 hSS ?_;(try simp only[zQ]);refine zT 10 hSS ?_;(try simp only[zQ]);refine zko (i:=11) (v:=?_) rfl (by kernel_rfl) (by kernel_rfl) (by kernel_rfl) (by decide) rfl (by kernel_rfl) (by kernel_rfl) (fun _ _ _ h=>h) (Or.inl ⟨by rfl,?_⟩) hSS ?_;rotate_left 1
    ·(intro w hSw;(try dsimp only at hSw);(try simp only[zA,zB,zC]);go_simp;(try with_reducible rfl))
    (try simp only[zQ]);refine zT 12 hSS ?_;(try simp only[zQ]);refine zT 13 hSS ?_;(try simp only[zQ]);obtain⟨w6,bz⟩:∃ x,w5.setCell ⟨g1,j,none⟩ (.int .i64 (e9:Int))=x:=⟨_,rfl⟩
    have qW:=zh bz;have u5:w6.drew.cell? ⟨rb,13,none⟩=some (.slice (some ⟨g1,0,none⟩) el cg):=by
     show w6.cell? _=_
     rw[<-bz];exact zks yL (Below.heap_setCell _ _ _ _ (fun e=>hne e.symm))
    refine zp 14 fun K hK=>?_;(try simp only[zA,zB,zC]);go_simp
    try rw[bz]
    refine hK.out _ _ u5 ?_;clear hK K hSS;(try simp only[zQ]);refine zd ?_;refine NoPanic.normal ?_;clear u5 yL pz pf hne hj0 hj1 hew;have sG:∀ b,OwnB (zkg K P { r with n:=r.n+1 } 0) b->b<n1:=fun b ⟨x,hx⟩=>by
     have h1:=(H1.out.rf.rws.lt x b hx).2;have h2:=HB3.out.size;have h3:=eP.out;omega
    have hpre:n1<=w4.heap.size:=by rw[<-eP.out];exact aK.out.size
    have hcp:NS.take j2=NS/\CS.take j2=CS:=⟨List.take_of_length_le (by rw[vK.out.1];omega),List.take_of_length_le (by rw[vK.out.2];omega)⟩
    have lM:=HRW.out;rw[hcp.1,hcp.2] at lM;have hslN:=znB (us:=NS) (lM.row true);have hslC:=znB (us:=CS) (lM.row false);have uQ:=kS.out;rw[if_neg (by rw[bS.out];exact H100.out),iY.out.2.2.2.2.1] at uQ;have hnf:zk7 ⟨qj.ps,css,0⟩=NS:=HNS.out;have hcf:ptrs P.cb css=CS:=by rw[<-vR.out,iY.out.2.2.2.2.1]
    have pR:=HK.out.lit qj (by obtain⟨h1,h2⟩:=vH.out;rw[<-h2];exact List.getElem_mem _);have hv3:=RInv.store (R:=zlh r.S qj.ps (ks.map (·.s))) HH.out.inv HK.out.F6 iO.out (zp4 HH.out.inv.wf _ _ pR.2.1 (by have:=pR.2.2;omega)) (HH.out.inv.fb.enter _ _ pR.2.2);rw[uQ] at hv3;have h6:=AftS.enter HK.out vT.out (i:=j) (g:=g1) (c:=cg) (fr:=⟨qj.ps,css,0⟩) (nv:=.slice A8 l8 c8) (cv:=.slice A9 l9 c9) (by show j<r.ent.length;rw[iY.out.1];exact iY.out.2.2.1) (by rw[iY.out.2.2.2.2.2];show Value.slice _ el cg=.slice _ r.ent.length cg;rw[iY.out.1])
     (by rw[hnf];exact hslN.keep (fun b hb _ h'=>by have h1:=sG b h';have h2:=(lM.lt true b hb).1;omega) fun _ _ _=>rfl)
     (by show Sl w4 _ _ (ptrs P.cb css);rw[hcf];exact hslC.keep (fun b hb _ h'=>by have h1:=sG b h';have h2:=(lM.lt false b hb).1;omega) fun _ _ _=>rfl)
     hv3 (by show r.ent.getD j 0+1<=r.n+1;rw[iY.out.2.1];have:=iY.out.2.2.2.1;omega) ag.out (w':=w6) (by rw[<-qW.out,<-HW5.out,<-mI.out,<-HE9.out,<-iY.out.2.1,<-bS.out])
    have h6:=h6.below (Below.refl _ _).drew;have dD:(runO K.p.prs K.F g back qj.b _).bind _=o:=jA.out;rw[iY.out.2.2.2.2.1] at dD;have az:=zh (zpx HK.out HS.out h6 dD bE.out ig.out.body HQB.out.1 (by show cntV K.p.prs qj.b ({ r.S with calls:=r.S.calls++[⟨qj.ps,css,0⟩] }:ST).cur.vs=0;rw[show({ r.S with calls:=r.S.calls++[⟨qj.ps,css,0⟩] }:ST).cur=⟨qj.ps,css,0⟩ by simp[ST.cur]];exact HQB.out.2) ag.out);have lq:w6.drew.heap[fb]?=some (.cells #[.string qj.s,.slice B1 qj.ps.length d1,.int .u8 qj.b.k,.int .i64 qj.b.n,.string qj.b.s,.slice B2 qj.b.ks.length d2] 51 (0,0)):=by
     have hr1:=(H1.out.rf.rws.lt .run rb (by show some P.rb=some rb;rw[ag.out])).2;have hg1:=(H1.out.rf.rws.lt .cnt g1 (by show P.cv.ownBlock=some g1;rw[iY.out.2.2.2.2.2];rfl)).2;have hfl:=HFBL.out
     show w6.heap[fb]?=_
     rw[<-qW.out,Below.heap_setCell _ _ _ _ (by show fb≠g1;omega),<-HW5.out,Below.heap_setCell _ _ _ _ (by show fb≠rb;omega),Below.heap_setCell _ _ _ _ (by show fb≠rb;omega),Below.heap_setCell _ _ _ _ (by show fb≠rb;omega)];exact zkf vQ.out aK.out
    obtain⟨w7,hw7⟩:∃ x,w6.drew=x:=⟨_,rfl⟩
    rw[hw7] at az lq ⊢;have q2:w7.cell? ⟨fb,2,none⟩=some (.int .u8 qj.b.k):=zc lq rfl;have q3:w7.cell? ⟨fb,3,none⟩=some (.int .i64 qj.b.n):=zc lq rfl;have q4:w7.cell? ⟨fb,4,none⟩=some (.string qj.b.s):=zc lq rfl;have q5:w7.cell? ⟨fb,5,none⟩=some (.slice B2 qj.b.ks.length d2):=zc lq rfl;clear h6 dD lq hw7 hv3 pR hnf hcf hslN hslC lM hcp hpre sG uQ;go_wp2_with fail;refine az.out.mono ?_;rintro e w8 ⟨⟨u8,rfl⟩,⟨P7,r7,h7,gW,k7⟩|⟨x,her,hox⟩⟩;rotate_left 1
    ·have qZ:=zh (zns her.er);rw[ag.out] at qZ;have aa:=zh (show RunM K P W ⟨r.S,r.n,r.ent⟩ o w8 from her.m HB0.out hox);clear her hox az q2 q3 q4 q5;go_wp2_with fail;refine qZ.out.mono ?_;rintro e w9 ⟨rfl,rfl⟩;go_wp2_with fail
     first
     | (refine bodyPost_ret (results_none rfl _ _ _) rfl ?_;exact⟨⟨_,rfl⟩,aa.out⟩)
     | (go_end0;exact⟨⟨_,rfl⟩,aa.out⟩)
    clear az q2 q3 q4 q5;have HST:=zh (znL HK.out h7 gW ag.out);have Af:=zh h7.rf.inv;have qF:=zh (show r7.S.calls=r.S.calls++[⟨qj.ps,css,0⟩]/\r7.S.base=r.S.base from ⟨k7.calls,k7.base⟩);clear h7 gW k7;go_wp2_with fail;refine HST.out.mono ?_;rintro e w9 ⟨b,rfl,⟨rfl,h8,kJ,hF8⟩|⟨rfl,x,her,hox⟩⟩;rotate_left 1
    ·have aa:=zh (show RunM K P W ⟨r.S,r.n,r.ent⟩ o w9 from her.m HB0.out hox);clear her hox HST;go_wp2_with fail
     first
     | (refine bodyPost_ret (results_none rfl _ _ _) rfl ?_;exact⟨⟨_,rfl⟩,aa.out⟩)
     | (go_end0;exact⟨⟨_,rfl⟩,aa.out⟩)
    clear HST;have hle:=zuB qF.out.1;have yV:=RInv.store (R:=zlt r7.S) Af.out HK.out.F6 hF8 (zpU Af.out.wf) Af.out.fb.leave;rw[hle] at yV;have kJ:zki { r7 with n:=r7.n+1 } (zlt r7.S)=o:=kJ;rw[hle] at kJ;obtain⟨⟨y6,y7,-,-,-,-,bg,-,-⟩,-,yf⟩:=h8.rf.box;rw[h8.sq.rb,ag.out] at y6 y7 bg yf;have hcl:({ r7 with n:=r7.n+1 }:RS).S.calls.length=L1:=by show r7.S.calls.length=L1;rw[qF.out.1,List.length_append,bS.out];exact mI.out
    rw[hcl] at bg;have hLw:IntKind.i64.wrap ((L1:Int)-1)=(L:Int):=by have:=mI.out;have:=H100.out;rw[IntWalk.i64_in _ (by omega)];omega
    have aa:=zh (show ∀ w',w'=((w9.setCell ⟨rb,6,none⟩ (.slice An ln cn)).setCell ⟨rb,7,none⟩ (.slice Ac lc cc)).setCell ⟨rb,12,none⟩ (.int .i64 (L:Int))->RunM K P W ⟨r.S,r.n,r.ent⟩ o w' from fun w' hw' =>
     (AftS.leave HK.out HH0.out h8 qF.out.2 yV ag.out (by rw[hw',yu.out.1,yu.out.2,bS.out])).m HB0.out HH.out (by rw[<-kJ];rfl))
    clear h8 kJ hF8 yV hle hcl;go_wp2_with fail;go_end0;exact⟨⟨_,rfl⟩,aa.out _ rfl⟩
theorem zxE {K:RK} (hK:K.Ok) {g:Nat} (hS:RexC K g) {P:RP} {W:World} {r:RS} (h:RF K P W r 0) {n:Int} {s:ByteArray} {u0 u1 u2 u3:T} {v:Value} (back:Bool) (hv:NV K.w Any (.nd 52 n s [u0,u1,u2,u3]) v) (e0:EP r.S.cur.vs u0) (e3:EP r.S.cur.vs u3) (b1:isB u1=true) (b2:isB u2=true) (c1:cntV K.p.prs u1 r.S.cur.vs=0) (c2:cntV K.p.prs u2 r.S.cur.vs=0)
  {o:Out} (ho:zkr K.p.prs K.F (g+1) back (.nd 52 n s [u0,u1,u2,u3]) r=o) (hog:o ≠ .gas) :
  Calls Tryz.prog 45 #[.pointer (some ⟨P.rb,0,none⟩),v,.bool back] W fun en W'=>(∃ u,en=.returned u)/\RunM K P W r o W':=by
 obtain⟨A,c,rfl,-,hlk,hlc,hrow⟩:=hv.open_;simp only[T.k_nd,T.n_nd,T.s_nd,T.ks_nd,List.length_cons,List.length_nil,Nat.zero_add,Nat.reduceAdd] at hrow ⊢;obtain⟨a,A0,A1,A2,A3,d0,d1,d2,d3,rfl,hnd,bR⟩:=zvB hrow;have hb0:=zkc (Below.refl W.heap.size W) (.cells #[.int .u8 52,.int .i64 n,.string s,.slice (some a) 4 c] 26);have hbx:=heap_alloc_new W (.cells #[.int .u8 52,.int .i64 n,.string s,.slice (some a) 4 c] 26);obtain⟨W0,hW0⟩:∃ x,W.alloc (.cells #[.int .u8 52,.int .i64 n,.string s,.slice (some a) 4 c] 26)=x:=⟨_,rfl⟩
 obtain⟨nb,hnb⟩:∃ x,W.heap.size=x:=⟨_,rfl⟩
 rw[hW0] at hb0 hbx;rw[hnb] at hbx;have hh0:=h.later hb0;obtain⟨rb,hrb⟩:∃ b,P.rb=b:=⟨_,rfl⟩
 obtain⟨y14,-⟩:=hh0.errC;rw[hrb] at y14 ⊢;have aZ:=zh (show ¬ OwnB (zkg K P r 0) nb from znD h (by omega));have HH:=zh h;have HH0:=zh hh0;have HB0:=zh hb0;have ax:=zh hbx;have ag:=zh hrb;have HS:=zh hS;have HK:=zh hK;have dQ:=zh (show ∀ w',Below K.w.heap.size K.w w'->Nd4 w' a u0 A0 d0/\Nd4 w' ⟨a.block,a.off+4,none⟩ u1 A1 d1/\Nd4 w' ⟨a.block,a.off+8,none⟩ u2 A2 d2/\Nd4 w' ⟨a.block,a.off+12,none⟩ u3 A3 d3 from fun w' hb=>⟨zkE hb hnd.1,zkE hb hnd.2.1,zkE hb hnd.2.2.1,zkE hb hnd.2.2.2⟩);have HV:=zh (And.intro (zne back bR.2.2.2 bR.1) (And.intro (zne back bR.1 bR.2.2.2) (And.intro bR.2.1 bR.2.2.1)));have HE:=zh (And.intro (znH back e3 e0) (znH back e0 e3));have HI:=zh (And.intro b1 (And.intro b2 (And.intro c1 c2)));have bE:=zh hog
 have st0:Stt K P W0 r 0 True (fun r=>zkG K.F (cond back u3 u0) r fun yes r=>(runO K.p.prs K.F g back (cond yes u1 u2) r).bind fun r=>zkG K.F (cond back u0 u3) r fun b r=>if b=yes then .ok r else .err 15) o W0:=(Stt.of hh0 (by
  rw[<-ho,zkr,T.k_nd,if_pos rfl];have e:∀ yes:Bool,cond yes u1 u2=if yes=true then u1 else u2:=fun yes=>by cases yes<;>rfl
  simp only[e]
  cases back<;>rfl)).mono (Nat.zero_le _) id fun _ h=>h
 clear hb0 hbx h hh0 hrb hS hK hv hrow hnd bR e0 e3 b1 b2 c1 c2 ho hog hlk hlc
 cases back
 all_goals
  simp only[cond_true,cond_false] at HV HE st0;have HT:=zh (zoy HK.out st0 HE.out.1 HV.out.1 ag.out);obtain⟨x0,x1,x2,x3⟩:=box4 (st0.box ax.out aZ.out);obtain⟨⟨dz,dw,dn,dm⟩,⟨bL,bB,bg,y13⟩,⟨y20,y21,y22,y23⟩,⟨fO,y31,y32,fM⟩⟩:=dQ.out _ (st0.bl HK.out HH0.out);dsimp only at bL bB bg y13 y20 y21 y22 y23 fO y31 y32 fM;clear st0;go_enter Tryz.func45,Tryz.ntmps45;go_wp2_with fail;refine HT.out.mono ?_;rintro e w1 ⟨yes,rfl,st1⟩;clear x0 x1 x2 x3 dz dw dn dm bL bB bg y13 y20 y21 y22 y23 fO y31 y32 fM;clear HT hW0 y14 hnb;have az:=zh (zpw HK.out HS.out st1 bE.out (zne yes HV.out.2.2.1 HV.out.2.2.2) (by cases yes;exact HI.out.2.1;exact HI.out.1) (by cases yes;exact HI.out.2.2.2;exact HI.out.2.2.1) ag.out);obtain⟨x0,x1,x2,x3⟩:=box4 (st1.box ax.out aZ.out)
  obtain⟨⟨dz,dw,dn,dm⟩,⟨bL,bB,bg,y13⟩,⟨y20,y21,y22,y23⟩,⟨fO,y31,y32,fM⟩⟩:=dQ.out _ (st1.bl HK.out HH0.out);dsimp only at bL bB bg y13 y20 y21 y22 y23 fO y31 y32 fM;clear st1
  cases yes
  all_goals
   simp only[cond_true,cond_false] at az;go_wp2_with fail;refine az.out.mono ?_;rintro e w2 ⟨⟨u9,rfl⟩,st2⟩;clear x0 x1 x2 x3 dz dw dn dm bL bB bg y13 y20 y21 y22 y23 fO y31 y32 fM;clear az;have HT2:=zh (zoy HK.out st2 HE.out.2 HV.out.2.1 ag.out);obtain⟨x0,x1,x2,x3⟩:=box4 (st2.box ax.out aZ.out);obtain⟨⟨dz,dw,dn,dm⟩,⟨bL,bB,bg,y13⟩,⟨y20,y21,y22,y23⟩,⟨fO,y31,y32,fM⟩⟩:=dQ.out _ (st2.bl HK.out HH0.out);dsimp only at bL bB bg y13 y20 y21 y22 y23 fO y31 y32 fM;clear st2;go_wp2_with fail;refine HT2.out.mono ?_;rintro e w3 ⟨b,rfl,jM⟩;clear x0 x1 x2 x3 dz dw dn dm bL bB bg y13 y20 y21 y22 y23 fO y31 y32 fM;clear HT2
   cases b
   all_goals first
    |
     have aa:=zh (show RunM K P W r o w3 from (jM.mono (lo':=0) (Cd':=True) (Rm':=.ok) (Nat.zero_le _) (fun _=>trivial) fun r hr=>by simpa using hr).m HB0.out HH.out)
     clear jM;go_wp2_with fail;go_end0;exact⟨⟨_,rfl⟩,aa.out⟩
    |
     have aR:=zh (zqP HK.out (by decide) (jM.mono (lo':=0) (Cd':=True) (Rm':=fun _=>.err 15) (Nat.zero_le _) (fun _=>trivial) fun r hr=>by simpa using hr) ag.out)
     clear jM;go_wp2_with fail;refine aR.out.mono ?_;rintro e w4 ⟨⟨u4,rfl⟩,x,her,hox⟩;have aa:=zh (show RunM K P W r o w4 from her.m HB0.out hox);clear her hox aR;go_wp2_with fail;go_end0;exact⟨⟨_,rfl⟩,aa.out⟩
def msr (rb:Nat) (F:Int) (w:World):Nat:=match w.cell? ⟨rb,14,none⟩,w.cell? ⟨rb,11,none⟩ with
 | some (.int _ e),some (.int _ n)=>if e=0 then (F-n).toNat+1 else 0
 | _,_=>0
theorem zvI {K:RK} {P:RP} {w:World} {r:RS} (h:RF K P w r 0):msr P.rb K.F w=(K.F-r.n).toNat+1:=by
 obtain⟨⟨-,-,-,-,-,h11,-,-,h14⟩,-⟩:=h.box;unfold msr;rw[h14,h11];simp
theorem zvJ {rb:Nat} {w:World} {e:Int} (h:ErM rb w e) (F:Int):msr rb F w=0:=by
 unfold msr;rw[h.2]
 cases hq:w.cell? ⟨rb,11,none⟩ with
 | none=>rfl
 | some v=>cases v<;>simp[h.1]
theorem Stt.msr {K:RK} {P:RP} {W w:World} {r:RS} {lo:Nat} {Cd:Prop} {Rm:RS->Out} {o:Out} (h:Stt K P W r lo Cd Rm o w) {n:Nat} (hn:Cd->n<lo/\(n:Int)<K.F):msr P.rb K.F w<(K.F-n).toNat+1:=by
 rcases h with⟨P1,r1,h,h1,h2,h3⟩|⟨x,h,-⟩
 ·rw[<-h.sq.rb,zvI h.rf];have:=hn h2;omega
 ·rw[zvJ h.er];omega
theorem zvn {K:RK} (hK:K.Ok) {g:Nat} (hS:RexC K g) {P:RP} {W:World} {r:RS} (h:RF K P W r 0) {n:Int} {s:ByteArray} {u0 u1 u2 u3:T} {v:Value} (back:Bool) (hv:NV K.w Any (.nd 53 n s [u0,u1,u2,u3]) v) (e0:EP r.S.cur.vs u0) (e3:EP r.S.cur.vs u3) (b1:isB u1=true) (b2:isB u2=true) (c1:cntV K.p.prs u1 r.S.cur.vs=0) (c2:cntV K.p.prs u2 r.S.cur.vs=0)
  {o:Out} (ho:zkr K.p.prs K.F (g+1) back (.nd 53 n s [u0,u1,u2,u3]) r=o) (hog:o ≠ .gas) :
  Calls Tryz.prog 45 #[.pointer (some ⟨P.rb,0,none⟩),v,.bool back] W fun en W'=>(∃ u,en=.returned u)/\RunM K P W r o W':=by
 obtain⟨A,c,rfl,-,hlk,hlc,hrow⟩:=hv.open_;simp only[T.k_nd,T.n_nd,T.s_nd,T.ks_nd,List.length_cons,List.length_nil,Nat.zero_add,Nat.reduceAdd] at hrow ⊢;obtain⟨a,A0,A1,A2,A3,d0,d1,d2,d3,rfl,hnd,bR⟩:=zvB hrow;have hb0:=zkc (Below.refl W.heap.size W) (.cells #[.int .u8 53,.int .i64 n,.string s,.slice (some a) 4 c] 26);have hbx:=heap_alloc_new W (.cells #[.int .u8 53,.int .i64 n,.string s,.slice (some a) 4 c] 26);obtain⟨W0,hW0⟩:∃ x,W.alloc (.cells #[.int .u8 53,.int .i64 n,.string s,.slice (some a) 4 c] 26)=x:=⟨_,rfl⟩
 obtain⟨nb,hnb⟩:∃ x,W.heap.size=x:=⟨_,rfl⟩
 rw[hW0] at hb0 hbx;rw[hnb] at hbx;have hh0:=h.later hb0;obtain⟨rb,hrb⟩:∃ b,P.rb=b:=⟨_,rfl⟩
 obtain⟨y14,-⟩:=hh0.errC;rw[hrb] at y14 ⊢;have aZ:=zh (show ¬ OwnB (zkg K P r 0) nb from znD h (by omega));have HH:=zh h;have HH0:=zh hh0;have HB0:=zh hb0;have ax:=zh hbx;have ag:=zh hrb;have HS:=zh hS;have HK:=zh hK;have dQ:=zh (show ∀ w',Below K.w.heap.size K.w w'->Nd4 w' a u0 A0 d0/\Nd4 w' ⟨a.block,a.off+4,none⟩ u1 A1 d1/\Nd4 w' ⟨a.block,a.off+8,none⟩ u2 A2 d2/\Nd4 w' ⟨a.block,a.off+12,none⟩ u3 A3 d3 from fun w' hb=>⟨zkE hb hnd.1,zkE hb hnd.2.1,zkE hb hnd.2.2.1,zkE hb hnd.2.2.2⟩);have HV:=zh (And.intro (zne back bR.2.2.2 bR.1) (And.intro (zne back bR.1 bR.2.2.2) (And.intro bR.2.1 bR.2.2.1)));have HE:=zh (And.intro (znH back e3 e0) (znH back e0 e3));have HI:=zh (And.intro b1 (And.intro b2 (And.intro c1 c2)));have bE:=zh hog
 obtain⟨LP,zN⟩:∃ LP:Nat->RS->Out,(∀ r,LP 0 r=.gas)/\(∀ m,LP (m+1)=fun r=>(runO K.p.prs K.F g back u1 r).bind fun r=>zkG K.F (cond back u0 u3) r fun b r=>if b=true then .ok r else (runO K.p.prs K.F g back u2 r).bind fun r=>zkG K.F (cond back u3 u0) r fun b r=>if b=false then LP m r else .err 15) /\
   zkr K.p.prs K.F (g+1) back (.nd 53 n s [u0,u1,u2,u3]) r=zkG K.F (cond back u3 u0) r fun b r=>if b=true then LP g r else .err 15 :=
  ⟨fun m r=>zml K.F (zkr K.p.prs K.F g back) (cond back u3 u0) (cond back u0 u3) (blkL back u1) (blkL back u2) m r,fun _=>rfl,fun m=>by funext r;simp only[<-znQ];rfl,by
   rw[<-znQ,zkr,T.k_nd,if_neg (by decide),if_pos rfl];cases back<;>rfl⟩
 have bU:=zh zN;have st0:Stt K P W0 r 0 True (fun r=>zkG K.F (cond back u3 u0) r fun b r=>if b=true then LP g r else .err 15) o W0:=(Stt.of hh0 (ho▸zN.2.2.symm)).mono (Nat.zero_le _) id fun _ h=>h;clear hb0 hbx h hh0 hrb hS hK hv hrow hnd bR e0 e3 b1 b2 c1 c2 ho hog hlk hlc zN
 cases back
 all_goals
  simp only[cond_true,cond_false] at HV HE bU st0;have HT:=zh (zoy HK.out (f:=fun b r=>if b=true then LP g r else .err 15) st0 HE.out.1 HV.out.1 ag.out);obtain⟨x0,x1,x2,x3⟩:=box4 (st0.box ax.out aZ.out);obtain⟨⟨dz,dw,dn,dm⟩,⟨bL,bB,bg,y13⟩,⟨y20,y21,y22,y23⟩,⟨fO,y31,y32,fM⟩⟩:=dQ.out _ (st0.bl HK.out HH0.out);dsimp only at bL bB bg y13 y20 y21 y22 y23 fO y31 y32 fM;clear st0;go_enter Tryz.func45,Tryz.ntmps45;go_wp2_with fail;refine HT.out.mono ?_;rintro e w1 ⟨yes,rfl,st1⟩;clear x0 x1 x2 x3 dz dw dn dm bL bB bg y13 y20 y21 y22 y23 fO y31 y32 fM;clear HT hW0 y14 hnb
  cases yes
  ·skip
   have aR:=zh (zqP HK.out (by decide) (st1.mono (lo':=0) (Cd':=True) (Rm':=fun _=>.err 15) (Nat.zero_le _) (fun _=>trivial) fun r hr=>by simpa using hr) ag.out);clear st1;go_wp2_with fail;refine aR.out.mono ?_;rintro e w9 ⟨⟨u9,rfl⟩,x,her,hox⟩;have xc:=zh her;have AR:=zh hox;clear her hox aR;obtain⟨hx0,y14⟩:=xc.out.er;rw[ag.out] at y14;have e1:(x==0)=false:=by simpa using hx0
   have aa:=zh (show RunM K P W r o w9 from xc.out.m HB0.out AR.out);clear hx0;go_wp2_with fail
   go_loopw [] (fun wr=>wr=w9) (fun _=>0)
   case atStart=>rfl
   case round =>
    subst hrel;go_wp2_with fail;go_end0;exact⟨⟨_,rfl⟩,aa.out⟩
  ·have ST1:=zh (show Stt K P W0 r 0 True (LP g) o w1 from st1.mono (Nat.zero_le _) (fun _=>trivial) fun r hr=>by simpa using hr);clear st1;go_wp2_with fail
   go_loopw [] (fun wr=>∃ m,Hid (Stt K P W0 r 0 True (LP m) o wr)) (fun wr=>msr P.rb K.F wr)
   case atStart=>exact⟨g,ST1⟩
   case round =>
    obtain⟨m,ST2⟩:=hrel;obtain⟨e,y14,⟨rfl,P1,r1,aJ,-,-,hlp⟩|⟨he,x,aJ,hox⟩⟩:=ST2.out.err14;rotate_left 1
    ·have e1:(e==0)=false:=by simpa using he
     rw[ag.out] at y14;have aa:=zh (show RunM K P W r o wr from aJ.m HB0.out hox);clear he aJ hox;go_wp2_with fail;go_end0;exact⟨⟨_,rfl⟩,aa.out⟩
    rw[ag.out] at y14
    cases m with
    | zero=>exact absurd (hlp.symm.trans (bU.out.1 _)) bE.out
    | succ m =>
    obtain⟨n0,hn0⟩:∃ n0,r1.n=n0:=⟨_,rfl⟩
    have HM0:=zh (show msr P.rb K.F wr=(K.F-n0).toNat+1 by rw[<-aJ.sq.rb,zvI aJ.rf,hn0]);have st2:Stt K P W0 r n0 True (LP (m+1)) o wr:=.inl ⟨P1,r1,aJ,by omega,trivial,hlp⟩;rw[bU.out.2.1 m] at st2;clear aJ hlp hn0;have az:=zh (zpw HK.out HS.out st2 bE.out HV.out.2.2.1 HI.out.1 HI.out.2.2.1 ag.out);obtain⟨x0,x1,x2,x3⟩:=box4 (st2.box ax.out aZ.out);obtain⟨⟨dz,dw,dn,dm⟩,⟨bL,bB,bg,y13⟩,⟨y20,y21,y22,y23⟩,⟨fO,y31,y32,fM⟩⟩:=dQ.out _ (st2.bl HK.out HH0.out);dsimp only at bL bB bg y13 y20 y21 y22 y23 fO y31 y32 fM;clear st2;go_wp2_with fail;refine az.out.mono ?_;rintro e w2 ⟨⟨u9,rfl⟩,jM⟩;clear x0 x1 x2 x3 dz dw dn dm bL bB bg y13 y20 y21 y22 y23 fO y31 y32 fM;clear az y14;have HT2:=zh (zoy HK.out jM HE.out.2 HV.out.2.1 ag.out);obtain⟨x0,x1,x2,x3⟩:=box4 (jM.box ax.out aZ.out)
    obtain⟨⟨dz,dw,dn,dm⟩,⟨bL,bB,bg,y13⟩,⟨y20,y21,y22,y23⟩,⟨fO,y31,y32,fM⟩⟩:=dQ.out _ (jM.bl HK.out HH0.out);dsimp only at bL bB bg y13 y20 y21 y22 y23 fO y31 y32 fM;clear jM;go_wp2_with fail;refine HT2.out.mono ?_;rintro e w3 ⟨b,rfl,uY⟩;clear x0 x1 x2 x3 dz dw dn dm bL bB bg y13 y20 y21 y22 y23 fO y31 y32 fM;clear HT2
    cases b
    rotate_left 1
    ·have aa:=zh (show RunM K P W r o w3 from (uY.mono (lo':=0) (Cd':=True) (Rm':=.ok) (Nat.zero_le _) (fun _=>trivial) fun r hr=>by simpa using hr).m HB0.out HH.out);clear uY;go_wp2_with fail;go_end0;exact⟨⟨_,rfl⟩,aa.out⟩
    have xq:=uY.mono (Rm':=fun r=>(runO K.p.prs K.F g _ u2 r).bind fun r=>zkG K.F _ r fun b r=>if b=false then LP m r else .err 15) (Nat.le_refl _) id fun r hr=>by simpa using hr
    clear uY;have az:=zh (zpw HK.out HS.out xq bE.out HV.out.2.2.2 HI.out.2.1 HI.out.2.2.2 ag.out);obtain⟨x0,x1,x2,x3⟩:=box4 (xq.box ax.out aZ.out);obtain⟨⟨dz,dw,dn,dm⟩,⟨bL,bB,bg,y13⟩,⟨y20,y21,y22,y23⟩,⟨fO,y31,y32,fM⟩⟩:=dQ.out _ (xq.bl HK.out HH0.out);dsimp only at bL bB bg y13 y20 y21 y22 y23 fO y31 y32 fM;clear xq;go_wp2_with fail;refine az.out.mono ?_;rintro e w4 ⟨⟨u9,rfl⟩,bA⟩;clear x0 x1 x2 x3 dz dw dn dm bL bB bg y13 y20 y21 y22 y23 fO y31 y32 fM;clear az;have HT2:=zh (zoy HK.out (f:=fun b r=>if b=false then LP m r else .err 15) bA HE.out.1 HV.out.1 ag.out);obtain⟨x0,x1,x2,x3⟩:=box4 (bA.box ax.out aZ.out);obtain⟨⟨dz,dw,dn,dm⟩,⟨bL,bB,bg,y13⟩,⟨y20,y21,y22,y23⟩,⟨fO,y31,y32,fM⟩⟩:=dQ.out _ (bA.bl HK.out HH0.out);dsimp only at bL bB bg y13 y20 y21 y22 y23 fO y31 y32 fM;clear bA;go_wp2_with fail;refine HT2.out.mono ?_
    rintro e w5 ⟨b,rfl,aW⟩;clear x0 x1 x2 x3 dz dw dn dm bL bB bg y13 y20 y21 y22 y23 fO y31 y32 fM;clear HT2
    cases b
    ·have uy:=zh (show Stt K P W0 r 0 True (LP m) o w5 from aW.mono (Nat.zero_le _) (fun _=>trivial) fun r hr=>by simpa using hr);have pq:=zh (show msr P.rb K.F w5<msr P.rb K.F wr by rw[HM0.out];exact aW.msr fun h=>⟨by omega,h.2.1⟩);clear aW;go_wp2_with fail
     go_roundw
     case rel=>exact⟨m,uy⟩
     case measure=>exact pq.out
    ·skip
     have aR:=zh (zqP HK.out (by decide) (aW.mono (lo':=0) (Cd':=True) (Rm':=fun _=>.err 15) (Nat.zero_le _) (fun _=>trivial) fun r hr=>by simpa using hr) ag.out);clear aW;go_wp2_with fail;refine aR.out.mono ?_;rintro e w9 ⟨⟨u9,rfl⟩,x,her,hox⟩;have xc:=zh her;have AR:=zh hox;clear her hox aR;have uy:=zh (show Stt K P W0 r 0 True (LP m) o w9 from .inr ⟨x,xc.out,AR.out⟩);have pq:=zh (show msr P.rb K.F w9<msr P.rb K.F wr by rw[HM0.out,zvJ xc.out.er];omega);go_wp2_with fail
     go_roundw
     case rel=>exact⟨m,uy⟩
     case measure=>exact pq.out
theorem zuL:IsFn Tryz.prog 71 Tryz.f71:=⟨Tryz.func71,by kernel_rfl,by kernel_rfl⟩
theorem zxj:IsFn Tryz.prog 72 Tryz.f72:=⟨Tryz.func72,by kernel_rfl,by kernel_rfl⟩
theorem RunM.below {K:RK} {P:RP} {W0 W W':World} {r:RS} {o:Out} (h2:RunM K P W0 r o W') (h0:RF K P W r 0) (hb:Below W.heap.size W W0):RunM K P W r o W':=by
 cases o with
 | gas=>trivial
 | err x=>exact⟨h2.1,(Chg.of_below hb).trans h2.2⟩
 | ok r' =>
  obtain⟨P',g1,g2,g3⟩:=h2;exact⟨P',g1,(Stp.below (Stp.refl h0.rws) hb).trans g2,g3⟩
theorem RunE.below {K:RK} {P:RP} {W0 W W':World} {r:RS} {o:Out} {en:Ending} (h:RunE K P W0 r o en W') (h0:RF K P W r 0) (hb:Below W.heap.size W W0):(∃ u,en=.returned u)/\RunM K P W r o W':=by
 exact⟨h.m.1,RunM.below h.m.2 h0 hb⟩
theorem zwX {K:RK} (hK:K.Ok) {g:Nat} {P:RP} {W:World} {r:RS} (h:RF K P W r 0) {t:T} {v:Value} (back:Bool) (hv:NV K.w Any t v) (hk:¬ (50<=t.k/\t.k<=55)) (hs:isS t=true) (hf:fltE r.S.cur.vs t=0) {o:Out} (ho:zkr K.p.prs K.F (g+1) back t r=o) :
  Calls Tryz.prog 45 #[.pointer (some ⟨P.rb,0,none⟩),v,.bool back] W fun en W'=>(∃ u,en=.returned u)/\RunM K P W r o W':=by
 obtain⟨k,n,s,ks⟩:=t;simp only[T.k_nd] at hk;have hr:=zog hs;have dJ:=zh (show ∀ W0,Below W.heap.size W W0->Calls Tryz.prog 71 #[.pointer (some ⟨P.rb,0,none⟩),.int .u8 (cond back (zmF k) k),v] W0 fun en W'=>(∃ u,en=.returned u)/\RunM K P W r o W' from fun W0 hb=>by
  have h0:=h.later hb;rw[zkr,if_neg (by simp only[T.k_nd];omega),if_neg (by simp only[T.k_nd];omega),if_neg (by simp only[T.k_nd];omega),if_neg (by simp only[T.k_nd];omega),if_neg (by simp only[T.k_nd];omega)] at ho;subst ho
  cases back
  ·exact(zpa hK h0 (k:=k) hv hk hs hf).mono fun en W' h1=>RunE.below h1 h hb
  ·have hr2:=zog (zrk hs hk);exact(zpa hK h0 (k:=zmF k) hv (by unfold zmF;omega) (zrk hs hk) (by rw[zuS];exact hf)).mono fun en W' h1=>RunE.below h1 h hb)
 obtain⟨A,c,rfl,-,hlk,hlc,hrow⟩:=hv.open_;simp only[T.k_nd,T.n_nd,T.s_nd,T.ks_nd] at hrow dJ ⊢;obtain⟨L,hL⟩:∃ L,ks.length=L:=⟨_,rfl⟩
 rw[hL] at dJ ⊢;have hb0:=zkc (Below.refl W.heap.size W) (.cells #[.int .u8 k,.int .i64 n,.string s,.slice A L c] 26);have hbx:=heap_alloc_new W (.cells #[.int .u8 k,.int .i64 n,.string s,.slice A L c] 26);obtain⟨W0,hW0⟩:∃ x,W.alloc (.cells #[.int .u8 k,.int .i64 n,.string s,.slice A L c] 26)=x:=⟨_,rfl⟩
 obtain⟨nb,hnb⟩:∃ x,W.heap.size=x:=⟨_,rfl⟩
 rw[hW0] at hb0 hbx;rw[hnb] at hbx;obtain⟨y14,-⟩:=(h.later hb0).errC;obtain⟨rb,hrb⟩:∃ b,P.rb=b:=⟨_,rfl⟩
 rw[hrb] at y14 dJ ⊢;have ax:=zh hbx;have HB0:=zh hb0;obtain⟨x0,x1,x2,x3⟩:=box4 hbx;have c57:(k==57)=false:=by simpa using(by omega:¬ k=57)
 have c52:(k==52)=false:=by simpa using(by omega:¬ k=52)
 have c53:(k==53)=false:=by simpa using(by omega:¬ k=53)
 have c54:(k==54)=false:=by simpa using(by omega:¬ k=54)
 have c55:(k==55)=false:=by simpa using(by omega:¬ k=55)
 have c50:(k==50)=false:=by simpa using(by omega:¬ k=50)
 have c51:(k==51)=false:=by simpa using(by omega:¬ k=51)
 clear hbx hb0 hv hrow hk hs hf ho hlk hlc hL h hr hK
 cases back
 ·simp only[cond_false] at dJ;go_enter Tryz.func45,Tryz.ntmps45;go_wp2_with fail;refine(dJ.out _ HB0.out).mono ?_;rintro en w1 ⟨⟨u,rfl⟩,hm⟩;have HM:=zh hm;clear hm;go_wp2_with fail;go_end0;exact⟨⟨_,rfl⟩,HM.out⟩
 ·simp only[cond_true] at dJ;obtain⟨RM,zG⟩:∃ RM:World->Prop,RM=RunM K P W r o:=⟨_,rfl⟩
  rw[<-zG] at dJ;have og:=zh zG;clear zG;go_enter Tryz.func45,Tryz.ntmps45;go_upto_region 7 with fail;have hSS:(fun _:World=>True) W0.drew/\(fun w':World=>w'.cell? ⟨nb,0,none⟩=some (.int .u8 k)/\w'.cell? ⟨nb,1,none⟩=some (.int .i64 n)/\w'.cell? ⟨nb,2,none⟩=some (.string s)/\w'.cell? ⟨nb,3,none⟩=some (.slice A L c)) W0.drew:=⟨trivial,x0,x1,x2,x3⟩
  refine wp_region_noPanic ?_;refine zkd (fun _:World=>True) (fun w':World=>w'.cell? ⟨nb,0,none⟩=some (.int .u8 k)/\w'.cell? ⟨nb,1,none⟩=some (.int .i64 n)/\w'.cell? ⟨nb,2,none⟩=some (.string s)/\w'.cell? ⟨nb,3,none⟩=some (.slice A L c)) 5 (by kernel_rfl) ?_;refine zT 0 hSS ?_;(try simp only[zQ]);refine zT 1 hSS ?_;(try simp only[zQ]);refine zn4 (i:=2) (v:=?_) [3] rfl (by kernel_rfl) (by kernel_rfl) (by kernel_rfl) (by decide) (by kernel_rfl) (by kernel_rfl) (fun _ _ _ h=>h) (Or.inl ⟨by rfl,?_⟩) hSS ?_;rotate_left 1
  ·(intro w hSw;(try dsimp only at hSw);(try simp only[zA,zB,zC]);go_simp;(try with_reducible rfl))
  (try simp only[zQ]);refine zko (i:=4) (v:=?_) rfl (by kernel_rfl) (by kernel_rfl) (by kernel_rfl) (by decide) rfl (by kernel_rfl) (by kernel_rfl) (fun _ _ _ h=>h) (Or.inl ⟨by rfl,?_⟩) hSS ?_;rotate_left 1
  ·(intro w hSw;(try dsimp only at hSw);(try simp only[zA,zB,zC]);go_simp;(try with_reducible rfl))
  (try simp only[zQ]);refine zo 3 fun K hK=>?_;refine zkj (by rfl) (.func 72) [.tmp 25] _ (by rfl) 72 _ zxj (by rfl) _ (by rfl) (fun x w'=>x=.int .u8 (zmF k)/\w'=W0.drew) ((zqh k _).mono fun e w' h=>⟨_,h.1,rfl,h.2⟩) ?_;rintro x wx ⟨rfl,rfl⟩;refine hK _ _ hSS ?_;clear hK;(try simp only[zQ]);refine zp 5 fun K hK=>?_;refine zkj (by rfl) (.func 71) [.tmp 23,.tmp 26,.tmp 27] _ (by rfl) 71 _ zuL (by rfl) _ (by rfl) (fun x w'=>RM w') ((dJ.out W0.drew (zka HB0.out (Below.refl _ _).drew)).mono fun e w' h=>by obtain⟨⟨u,hu⟩,h2⟩:=h;exact⟨u,hu,h2⟩) ?_;rintro x w1 hm;have HM:=zh hm;refine hK _ _ trivial ?_;clear hK hm;(try simp only[zQ]);refine zd ?_;refine NoPanic.normal ?_;go_wp2_with fail;go_end0;exact⟨⟨_,rfl⟩,by have h:=HM.out;rw[og.out] at h;exact h⟩
theorem zwW {K:RK} (hK:K.Ok) {g:Nat} (hS:RexC K g) {P:RP} {W:World} {r:RS} (h:RF K P W r 0) {t:T} {v:Value} (back:Bool) (hv:NV K.w Any t v) (hsp:SP K.p.prs r.S.cur.vs t) (hk:t.k=50\/t.k=51) {o:Out} (ho:zkr K.p.prs K.F (g+1) back t r=o) (hog:o ≠ .gas) :
  Calls Tryz.prog 45 #[.pointer (some ⟨P.rb,0,none⟩),v,.bool back] W fun en W'=>(∃ u,en=.returned u)/\RunM K P W r o W':=by
 obtain⟨i,hi,hil,hlen,kZ,harg⟩:=hsp.cal hk;have hq:=hsp.q K.p.prs[i] (List.getElem_mem _);obtain⟨bk,hbk⟩:∃ b,(back != decide (t.k=51))=b:=⟨_,rfl⟩
 have vS:=zh (show ∀ W0,Below W.heap.size W W0->Calls Tryz.prog 70 #[.pointer (some ⟨P.rb,0,none⟩),v,.bool bk] W0 fun en W'=>(∃ u,en=.returned u)/\RunM K P W r o W' from fun W0 hb=>by
  have h0:=h.later hb;refine(ztE hK hS h0 bk hv hi (q:=K.p.prs[i]) (List.getElem?_eq_getElem hil) hlen kZ (fun j hj hp=>harg j hj hp) ⟨hq.1,hq.2.1⟩ (o:=o) ?_ hog).mono fun en W' h1=>⟨h1.1,RunM.below h1.2 h hb⟩
  rw[<-ho,zkr,if_neg (by omega),if_neg (by omega),if_neg (by omega),if_neg (by omega),if_pos hk,hi,hbk];simp only[List.getD_eq_getElem?_getD,List.getElem?_eq_getElem hil,Option.getD_some];rfl)
 obtain⟨k,n,s,ks⟩:=t;obtain⟨A,c,rfl,-,hlk,hlc,hrow⟩:=hv.open_;simp only[T.k_nd,T.n_nd,T.s_nd,T.ks_nd] at hrow vS hk hbk ⊢;obtain⟨L,hL⟩:∃ L,ks.length=L:=⟨_,rfl⟩
 rw[hL] at vS ⊢;have hb0:=zkc (Below.refl W.heap.size W) (.cells #[.int .u8 k,.int .i64 n,.string s,.slice A L c] 26);have hbx:=heap_alloc_new W (.cells #[.int .u8 k,.int .i64 n,.string s,.slice A L c] 26);obtain⟨W0,hW0⟩:∃ x,W.alloc (.cells #[.int .u8 k,.int .i64 n,.string s,.slice A L c] 26)=x:=⟨_,rfl⟩
 obtain⟨nb,hnb⟩:∃ x,W.heap.size=x:=⟨_,rfl⟩
 rw[hW0] at hb0 hbx;rw[hnb] at hbx;obtain⟨y14,-⟩:=(h.later hb0).errC;obtain⟨rb,hrb⟩:∃ b,P.rb=b:=⟨_,rfl⟩
 rw[hrb] at y14 vS ⊢;have ax:=zh hbx;have HB0:=zh hb0;clear hbx hb0 hv hrow ho hog hlk hlc hL h hK hsp hi hil hlen kZ harg hq hS hrb;rcases hk with rfl|rfl
 all_goals
  cases back
  all_goals
   simp at hbk;subst hbk;obtain⟨x0,x1,x2,x3⟩:=box4 ax.out;go_enter Tryz.func45,Tryz.ntmps45;go_wp2_with fail;refine(vS.out _ HB0.out).mono ?_;rintro en w1 ⟨⟨u,rfl⟩,hm⟩;have HM:=zh hm;clear hm;go_wp2_with fail;go_end0;exact⟨⟨_,rfl⟩,HM.out⟩
theorem zqg {K:RK} (hK:K.Ok):∀ g,RexC K g
 | 0=>fun _ _ _ _ _ _ _ _ _ hg=>absurd rfl hg
 | g+1=>by
  have hS:=zqg hK g;intro P W r h t v back hv hsp aC;by_cases h2:t.k=52\/t.k=53
  ·obtain⟨n,s,a,b,c,d,he,h3,h4,h5,h6,h7,h8⟩:=hsp.two h2;rcases h2 with h2|h2
   all_goals
    rw[h2] at he;subst he
   ·exact zxE hK hS h back hv h3 h4 h5 h6 h7 h8 rfl aC
   ·exact zvn hK hS h back hv h3 h4 h5 h6 h7 h8 rfl aC
  by_cases h4:t.k=54
  ·obtain⟨n,s,a,b,c,rfl,h5,h6,h7,h8,h9⟩:=hsp.loc h4;exact zwV hK hS h back hv h5 h6 h7 h8 h9 rfl aC
  by_cases h5:t.k=55
  ·obtain⟨n,s,b,rfl,h6,h7,h8⟩:=hsp.stk h5;exact zwU hK hS h back hv h6 h7 h8 rfl aC
  by_cases h0:t.k=50\/t.k=51
  ·exact zwW hK hS h back hv hsp h0 rfl aC
  ·exact zwX hK h back hv (by omega) hsp.s (hsp.bas (by omega)) rfl
theorem k_2 (l5 l9:Bool) (v5 v8 v8' v9 v12:Value) (b3:Nat) (s:SS):updR (zoD false false false l5 l9 v5 v8' v9 v12 b3 s) (some .inp) ⟨v8,3,1,s.tin.length,zke s.tin⟩=zoD false true false l5 l9 v5 v8 v9 v12 b3 s:=by
 funext i;rcases i with _|i
 ·rfl
 ·cases i<;>rfl
theorem k_5 (l2 l9:Bool) (v5 v8 v9 v12 v12':Value) (b3:Nat) (s:SS):updR (zoD false l2 false false l9 v5 v8 v9 v12' b3 s) (some .out) ⟨v12,3,1,s.tout.length,zke s.tout⟩=zoD false l2 false true l9 v5 v8 v9 v12 b3 s:=by
 funext i;rcases i with _|i
 ·rfl
 ·cases i<;>rfl
theorem k_7 (l2 l5:Bool) (v5 v8 v9 v12:Value) (b3 b3':Nat) (s:SS):updR (zoD false l2 false l5 false v5 v8 v9 v12 b3' s) none ⟨boxV b3,32,3,1,[.slice none 0 0,.slice none 0 0,.slice none 0 0]⟩=zoD false l2 false l5 true v5 v8 v9 v12 b3 s:=by
 funext i;rcases i with _|i
 ·rfl
 ·cases i<;>rfl
theorem zxZ (vi vo v5 v9:Value) (fc:Nat->Value) (b3:Nat) (s:SS):updR (updR (zoD false true false true true v5 vi v9 vo b3 s) none ⟨boxV b3,32,3,1,[.slice none 0 0,vi,vo]⟩) (some .all) ⟨.slice none 0 0,30,1,0,[]⟩=zl8 (.slice none 0 0) vi vo fc b3 s 0:=by
 funext i;rcases i with _|i
 ·rfl
 ·cases i<;>rfl
theorem zxd (vc jL vi vo:Value) (fc:Nat->Value) (b3:Nat) (s:SS) (j:Nat) (l:List Int) (v8:Value) (hl:s.cells.getD j []=l) :
  updR (updR (updR (zl8 vc vi vo fc b3 s j) (some (.el j)) ⟨v8,3,1,l.length,zke l⟩) (some .all) ⟨jL,30,1,j+1,(List.range j).map fc++[v8]⟩) none ⟨boxV b3,32,3,1,[jL,vi,vo]⟩=zl8 jL vi vo (fun i=>if i=j then v8 else fc i) b3 s (j+1):=by
 rw[<-zoM vc jL vi vo fc b3 s j l v8 v8 hl];congr 2;funext i;by_cases e:i=some (.el j)
 ·subst e;simp[updR]
 ·simp[updR,e]
theorem zvy (s:SS) (v:Value) (w:World) (hv:SV w Any s v) (hcl:s.cells.length<=5864062014800):Calls Tryz.prog 25 #[v] w fun e W'=>∃ v',e=.returned v'/\OwnS W' w.heap.size s v'/\Below w.heap.size w W':=by
 have h1:=bS12;have HV:=zh hv;obtain⟨A,c,B,d,D,e,rfl,hr1,hr2,hr3,hc1,hc2,hc3,hl1,hl2,hl3,hl4⟩:=hv;have hk:=heap_alloc_new w (.cells #[.slice A s.cells.length c,.slice B s.tin.length d,.slice D s.tout.length e] 32);have hbw:Below w.heap.size w ((w.alloc (.cells #[.slice A s.cells.length c,.slice B s.tin.length d,.slice D s.tout.length e] 32)).alloc (.cells #[.slice none 0 0,.slice none 0 0,.slice none 0 0] 32)):=zkc (zkc (Below.refl _ _) _) _;have hk2:=zkn hk (.cells #[.slice none 0 0,.slice none 0 0,.slice none 0 0] 32);have hz1:((w.alloc (.cells #[.slice A s.cells.length c,.slice B s.tin.length d,.slice D s.tout.length e] 32)).alloc (.cells #[.slice none 0 0,.slice none 0 0,.slice none 0 0] 32)).heap.size=w.heap.size+1+1:=by simp
 have hk3:=heap_alloc_new (w.alloc (.cells #[.slice A s.cells.length c,.slice B s.tin.length d,.slice D s.tout.length e] 32)) (.cells #[.slice none 0 0,.slice none 0 0,.slice none 0 0] 32);rw[World.size_alloc] at hk3;have HI:=zh (show s.I from ⟨fun l hl=>by
  obtain⟨i,hi,rfl⟩:=List.mem_iff_getElem.1 hl;obtain⟨_,_,_,_,_,_,_,hr⟩:=hr1 i hi;exact hr.fits,hr2.fits,hr3.fits⟩)
 go_enter Tryz.func25,Tryz.ntmps25;go_upto_region 1 with fail;obtain⟨w1,hw1⟩:∃ x,(w.alloc (.cells #[.slice A s.cells.length c,.slice B s.tin.length d,.slice D s.tout.length e] 32)).alloc (.cells #[.slice none 0 0,.slice none 0 0,.slice none 0 0] 32)=x:=⟨_,rfl⟩
 rw[hw1] at hbw hk2 hk3 hz1 ⊢;have HB1:=zh hbw;have aH:=zh hk2;have kC:=zh hk3;have HR1:=zh (hr1.later hbw);have HR2:=zh (hr2.later hbw);have HR3:=zh (hr3.later hbw);have HL:=zh (show s.Lim from ⟨hl1,hl2,hl3,hl4⟩);clear hk hbw hk2 hk3 hw1 hr1 hr2 hr3 hl1 hl2 hl3 hl4 HV;obtain⟨z0,z1,z2⟩:=zwI aH.out;have hSS:(fun w':World=>w'.cell? ⟨w.heap.size,1,none⟩=some (.slice B s.tin.length d)/\w'.cell? ⟨w.heap.size,2,none⟩=some (.slice D s.tout.length e)) w1.drew/\(fun _:World=>True) w1.drew:=⟨⟨z1,z2⟩,trivial⟩
 refine wp_region_noPanic ?_;refine zkd (fun w':World=>w'.cell? ⟨w.heap.size,1,none⟩=some (.slice B s.tin.length d)/\w'.cell? ⟨w.heap.size,2,none⟩=some (.slice D s.tout.length e)) (fun _:World=>True) 8 (by kernel_rfl) ?_;refine zT 0 hSS ?_;(try simp only[zQ]);refine zT 1 hSS ?_;(try simp only[zQ]);refine zT 3 hSS ?_;(try simp only[zQ]);refine zT 4 hSS ?_;(try simp only[zQ]);refine znS (fun A f l a wr=>∃ (l2 l5 l6 l7:Bool) (v8 v12 v13 v3:Value) (b3:Nat),f=(!l2).toNat+(!l5).toNat+(!l6).toNat+(!l7).toNat+1/\l = #[true,true,l2,true,true,l5,l6,l7,false] /\
  a=(((A.put (some 8) v8).put (some 11) v12).put (some 12) v13).put (some 3) v3/\Hid (Below w1.heap.size w1 wr)/\Hid (Rws wr w1.heap.size (zoD false l2 false l5 l7 undef v8 undef v12 b3 s))/\Hid ((l5=true->l2=true)/\(l6=true->v13=.agg #[.slice none 0 0,v8,v12]/\l2=true/\l5=true)/\(l7=true->v3=.pointer (some ⟨b3,0,none⟩)))/\Hid (l7=false->v3=undef)) (fun A f l a wr h=>?_) ?_ ⟨false,false,false,false,undef,undef,undef,undef,0,rfl,rfl,(by simp only[Act.put,zD,zE,zF]),zh (Below.refl _ _).drew,zh (zst _ _ _ _ _ _ _ _),zh ⟨fun h=>(by cases h),fun h=>(by cases h),fun h=>(by cases h)⟩,zh (fun _=>rfl)⟩
 ·obtain⟨_,_,_,_,_,_,_,_,_,_,_,_,hb,_⟩:=h;exact⟨⟨zb hb.out z1,zb hb.out z2⟩,trivial⟩
 rintro A' hA f l a wr ⟨l2,l5,l6,l7,v8,v12,v13,v3,b3,hf,rfl,ha,af,HRW,HC,HU⟩;by_cases hall:(l2&&l5&&l6&&l7)=true
 ·left
  simp only[Bool.and_eq_true] at hall;obtain⟨⟨⟨rfl,rfl⟩,rfl⟩,rfl⟩:=hall;obtain⟨-,tZ,h3⟩:=HC.out;obtain⟨rfl,-,-⟩:=tZ rfl;obtain rfl:=h3 rfl;subst hf ha hA;have hrow:=HRW.out.row none;obtain⟨B8,c8,e8,-,-⟩:=zkh (HRW.out.row (some .inp));change v8=.slice B8 s.tin.length c8 at e8;obtain⟨lV,c12,e12,-,-⟩:=zkh (HRW.out.row (some .out));change v12=.slice lV s.tout.length c12 at e12;subst e8 e12;have hbx:=zlK hrow;have c0:wr.cell? ⟨b3,0,none⟩=some (.slice none 0 0):=zc hbx rfl;have c1:wr.cell? ⟨b3,1,none⟩=some (.slice none 0 0):=zc hbx rfl;have c2:wr.cell? ⟨b3,2,none⟩=some (.slice none 0 0):=zc hbx rfl;have cf:∀ j,wr.frozen? ⟨b3,j,none⟩=false:=fun j=>zf hbx;refine zp 8 fun K hK=>?_;(try simp only[zQ]);go_simp;have hb3:w1.heap.size<=b3/\b3<wr.heap.size:=hrow.lt b3 rfl
  have hch:Chg (fun b=>b=b3) wr (((wr.setCell ⟨b3,0,none⟩ (.slice none 0 0)).setCell ⟨b3,1,none⟩ (.slice B8 s.tin.length c8)).setCell ⟨b3,2,none⟩ (.slice lV s.tout.length c12)) :=
   (((Chg.refl (fun b=>b=b3) wr).setCell (p:=⟨b3,0,none⟩) (.inl rfl) _).setCell (p:=⟨b3,1,none⟩) (.inl rfl) _).setCell (p:=⟨b3,2,none⟩) (.inl rfl) _
  have hh:=heap_setCell_same _ b3 2 _ _ (.slice lV s.tout.length c12) (heap_setCell_same _ b3 1 _ _ (.slice B8 s.tin.length c8) (heap_setCell_same wr b3 0 _ _ (.slice none 0 0) hbx));have ax:=zh (af.out.trans (hch.below af.out.size fun b e=>by omega));have hrw:=(HRW.out.upd none (r:=⟨boxV b3,32,3,1,[.slice none 0 0,.slice B8 s.tin.length c8,.slice lV s.tout.length c12]⟩) (hch.mono fun b _ e=>by subst e;rfl) (zwc hb3.1 hh) (fun b hb=>.inl hb)).upd (some .all) (r:=⟨.slice none 0 0,30,1,0,[]⟩) (Chg.refl _ _) (zpg _ _ _) (fun b hb=>by simp[Value.ownBlock] at hb);rw[zxZ (fc:=fun _=>.slice none 0 0)] at hrw;have q9:=zh hrw;obtain⟨w2,hw2⟩:∃ x,((wr.setCell ⟨b3,0,none⟩ (.slice none 0 0)).setCell ⟨b3,1,none⟩ (.slice B8 s.tin.length c8)).setCell ⟨b3,2,none⟩ (.slice lV s.tout.length c12)=x:=⟨_,rfl⟩
  rw[hw2] at ax q9 ⊢;have aX:(fun w':World=>w'.cell? ⟨w.heap.size,1,none⟩=some (.slice B s.tin.length d)/\w'.cell? ⟨w.heap.size,2,none⟩=some (.slice D s.tout.length e)) w2:=⟨zb ax.out z1,zb ax.out z2⟩
  refine hK.out _ _ aX ?_;clear hK K hSS aX hch hh hrw hw2 hbx c0 c1 c2 cf hrow HRW af HU HC tZ h3 h1;refine zd ?_;refine NoPanic.normal ?_;obtain⟨vi,yU⟩:∃ x,Value.slice B8 s.tin.length c8=x:=⟨_,rfl⟩
  obtain⟨vo,yS⟩:∃ x,Value.slice lV s.tout.length c12=x:=⟨_,rfl⟩
  rw[yU,yS] at q9;have HVI:=zh yU;have HVO:=zh yS;clear yU yS;have q0:=zb ax.out z0;go_wp2_with fail;clear q0
  go_loopw [16] (fun i wr=>∃ j:Nat,j<=s.cells.length/\i=.int .i64 j/\Hid (Below w1.heap.size w1 wr)/\∃ vc fc,Hid (Rws wr w1.heap.size (zl8 vc vi vo fc b3 s j))) (fun i _=>s.cells.length-(intOf i).toNat)
  case atStart=>exact⟨0,Nat.zero_le _,rfl,ax,_,_,q9⟩
  case round =>
   clear ax q9;obtain⟨j,hj,rfl,af,vc,fc,HRW⟩:=hrel;have y0:=zb af.out z0;by_cases hlt:j<s.cells.length
   ·have hj1:(j:Int)<(s.cells.length:Int):=by omega
    have hj0:(0:Int)<=(j:Int):=by omega
    obtain⟨a,l,Al,cl,rfl,Hl,hcl0,hlc,hrl⟩:=(HR1.out.later af.out).nd hlt;have wT:=zh hrl;have bS:=zh (show l.length<=LI by rw[<-Hl.out];exact HL.out.2.1 _ (List.getElem_mem hlt));have hbx:=zlK (HRW.out.row none);have x0:wr.cell? ⟨b3,0,none⟩=some vc:=zc hbx rfl;have hz0:wr.frozen? ⟨b3,0,none⟩=false:=zf hbx;obtain⟨Av,cv,dB,-⟩:=zkh (HRW.out.row (some .all));change vc=.slice Av j cv at dB;subst dB;have hS0:(fun _:World=>True) wr.drew/\(fun w':World=>w'.cell? ⟨b3,0,none⟩=some (.slice Av j cv)) wr.drew:=⟨trivial,x0⟩
    obtain⟨i0,hi0,hq0,hq1,hq2⟩:=info_parts zq3;have fK:=zh (zk1 l Al cl Any wr.drew (wT.out.later (Below.refl _ _).drew) bS.out);go_upto_region 5 with fail;refine wp_region_noPanic ?_;refine zkd (fun _:World=>True) (fun w':World=>w'.cell? ⟨b3,0,none⟩=some (.slice Av j cv)) 7 (by kernel_rfl) ?_;refine zT 0 hS0 ?_;(try simp only[zQ]);refine zko (i:=1) (v:=?_) rfl (by kernel_rfl) (by kernel_rfl) (by kernel_rfl) (by decide) rfl (by kernel_rfl) (by kernel_rfl) (fun _ _ _ h=>h) (Or.inl ⟨by rfl,?_⟩) hS0 ?_;rotate_left 1
    ·(intro w hSw;(try dsimp only at hSw);(try simp only[zA,zB,zC]);go_simp;(try with_reducible rfl))
    (try simp only[zQ]);refine zT 2 hS0 ?_;(try simp only[zQ]);have hsz:=af.out.size;have had:Calls Tryz.prog 35 [.slice Al l.length cl].toArray wr.drew fun e w'=>∃ v,e=.returned v/\(w'.ownsRow wr.heap.size 3 1 v l.length (zke l)/\Below wr.heap.size wr w') :=
     fK.out.mono fun e w' ⟨v,h1,h2,_,h4⟩=>⟨v,h1,h2,zka (Below.refl wr.heap.size wr).drew h4⟩
    refine zo 3 fun K hK=>?_;refine zkj (by rfl) (.func 35) [.tmp 22] _ (by rfl) 35 _ znn (by rfl) _ (by rfl) _ had ?_;rintro v8 wb ⟨ho,hbb⟩;have hd1:=HRW.out.upd (some (.el j)) (r:=⟨v8,3,1,l.length,zke l⟩) (Chg.of_below hbb) (zlv ho hsz) (fun b hb=>.inr (ho.lt b hb).1);have HD1:=zh hd1;have iA:=zh hbb;have hS2:(fun _:World=>True) wb/\(fun w':World=>w'.cell? ⟨b3,0,none⟩=some (.slice Av j cv)) wb:=⟨trivial,zb iA.out x0⟩
    obtain⟨A8,gB,rfl,-⟩:=zkh ho;refine hK.out _ _ hS2 ?_;clear hK K hd1 ho hS0 hbb had;(try simp only[zQ]);have h1:=zwJ;refine zo 4 fun K hK=>?_;(try simp only[zA,zB,zC]);go_simp;have kT:=zh (show Below wr.heap.size wr (wb.alloc (.cells #[.slice A8 l.length gB] 30)) from zkc iA.out _);have HD2:=zh (HD1.out.later (show Below wb.heap.size wb (wb.alloc (.cells #[.slice A8 l.length gB] 30)) from zkc (Below.refl _ _) _));have aT:=zh (show(wb.alloc (.cells #[.slice A8 l.length gB] 30)).heap[wb.heap.size]?=some (.cells #[.slice A8 l.length gB] 30 (0,0)) from heap_alloc_new wb _);have oQ:(fun _:World=>True) (wb.alloc (.cells #[.slice A8 l.length gB] 30))/\(fun w':World=>w'.cell? ⟨b3,0,none⟩=some (.slice Av j cv)) (wb.alloc (.cells #[.slice A8 l.length gB] 30)):=⟨trivial,zb kT.out x0⟩
    obtain⟨wc,hwc⟩:∃ x,(wb.alloc (.cells #[.slice A8 l.length gB] 30))=x:=⟨_,rfl⟩
    rw[hwc] at kT HD2 aT oQ ⊢;refine hK.out _ _ oQ ?_;clear hK K hwc hS2 HD1;(try simp only[zQ]);have mV:=(zka af.out kT.out).size;have hrow:=HD2.out.row (some .all);rw[zkb (by simp)] at hrow;change wc.ownsRow w1.heap.size 30 1 (.slice Av j cv) j ((List.range j).map fc) at hrow;refine zo 5 fun K hK=>?_;refine zkI (by rfl) (.tmp 21) (.tmp 24) 29 (by rfl) w1.heap.size 30 i0 _ 1 24 Tryz.underlying29 hi0 hq0 hq1 hq2 rfl (by decide) (.slice Av j cv) j ((List.range j).map fc) (by rfl) hrow ⟨wb.heap.size,0,none⟩ 1 1 [.slice A8 l.length gB] (by rfl) rfl (fun q u hq=>by
     match q,hq with
     | 0,hq=>injection hq with hq;subst hq;exact zc aT.out rfl) (fun u hu=>by simp at hu;subst hu;rfl) (by unfold maxLen;omega) (by omega) mV (fun vd wd ho hg aL=>?_)
    have hd3:=HD2.out.upd (some .all) (r:=⟨vd,30,1,j+1,(List.range j).map fc++[.slice A8 l.length gB]⟩) ((Chg.row hg).mono fun b _ hb=>hb) ho (fun b hb=>by
     rcases aL with h5|h5
     ·exact .inl (h5▸hb)
     ·exact .inr (by rw[h5] at hb;injection hb with hb;omega))
    have HD3:=zh hd3;have zu:∀ g,(Value.slice Av j cv).ownBlock=some g->(zl8 (.slice Av j cv) vi vo fc b3 s j (some .all)).v.ownBlock=some g:=fun g e=>e;have hsep:∀ g,(Value.slice Av j cv).ownBlock=some g->g≠b3:=fun g e h=>HRW.out.sep (some .all) none g (by simp) e (by rw[h];rfl);have hlo:∀ g,(Value.slice Av j cv).ownBlock=some g->w1.heap.size<=g:=fun g e=>(HRW.out.lt (some .all) g e).1;have tF:Chg (fun b=>(Value.slice Av j cv).ownBlock=some b) wc wd:=Chg.row hg;have mO:=zh (show Below w1.heap.size w1 wd from (zka af.out kT.out).grown hg mV (fun g e=>hlo g e));have eF:=zlK (HD3.out.row none);have e0:wd.cell? ⟨b3,0,none⟩=some (.slice Av j cv):=zc eF rfl;have ez:wd.frozen? ⟨b3,0,none⟩=false:=zf eF;have hab:a.block<w1.heap.size:=by
     obtain⟨a',_,_,e',_,hc',_⟩:=HR1.out j hlt;injection e' with e';subst e';have:=World.block_lt_of_cell? w1 _ hc';rwa[zkv] at this
    have qo:(fun _:World=>True) wd/\(fun w':World=>w'.cell? ⟨b3,0,none⟩=some (.slice Av j cv)) wd:=⟨trivial,e0⟩
    have hd4:=HD3.out.set none (g:=b3) (o:=0) (by rfl) (by show 0<3;decide) vd;have hd5:Rws (wd.setCell ⟨b3,0,none⟩ vd) w1.heap.size (zl8 vd vi vo (fun i=>if i=j then .slice A8 l.length gB else fc i) b3 s (j+1)):=by
     rw[<-zxd (.slice Av j cv) vd vi vo fc b3 s j l (.slice A8 l.length gB) (by rw[List.getD_eq_getElem?_getD,List.getElem?_eq_getElem hlt];exact Hl.out)];exact hd4
    have HD5:=zh hd5;have hb3lt:=(HD3.out.lt none b3 rfl)
    have uU:=zh (show Below w1.heap.size w1 (wd.setCell ⟨b3,0,none⟩ vd) from mO.out.trans ((((Chg.refl (fun b=>b=b3) wd).setCell (p:=⟨b3,0,none⟩) (.inl rfl) vd)).below mO.out.size fun b e=>by omega));obtain⟨Ad,cd',rfl,-⟩:=zkh ho;refine hK.out _ _ qo ?_;clear hK K hd3 hd4 hd5 ho hg aL hrow oQ tF zu hsep hlo eF;(try simp only[zQ]);refine zo 6 fun K hK=>?_;(try simp only[zA,zB,zC]);go_simp;refine hK.out _ _ qo ?_;clear hK K;(try simp only[zQ]);refine zp 7 fun K hK=>?_;(try simp only[zA,zB,zC]);go_simp;refine hK.out _ _ trivial ?_;clear hK K;(try simp only[zQ]);refine zd ?_;refine NoPanic.normal ?_;go_wp2_with fail
    go_roundw
    case rel=>exact⟨j+1,by omega,by go_num,uU,_,_,HD5⟩
    case measure=>simp[intOf];omega
   ·obtain rfl:j=s.cells.length:=by omega
    have hj1:¬ (s.cells.length:Int)<(s.cells.length:Int):=by omega
    have hbx:=zlK (HRW.out.row none);have x0:wr.cell? ⟨b3,0,none⟩=some vc:=zc hbx rfl;have x1:wr.cell? ⟨b3,1,none⟩=some vi:=zc hbx rfl;have x2:wr.cell? ⟨b3,2,none⟩=some vo:=zc hbx rfl;obtain⟨Av,cv,dB,-⟩:=zkh (HRW.out.row (some .all));change vc=.slice Av s.cells.length cv at dB;subst dB;rw[<-HVI.out] at x1;rw[<-HVO.out] at x2;have hk3:=zkf kC.out af.out;have q0:wr.cell? ⟨w.heap.size+1,0,none⟩=some (.slice none 0 0):=zc hk3 rfl;have q1:wr.cell? ⟨w.heap.size+1,1,none⟩=some (.slice none 0 0):=zc hk3 rfl;have q2:wr.cell? ⟨w.heap.size+1,2,none⟩=some (.slice none 0 0):=zc hk3 rfl;have cf:∀ j,wr.frozen? ⟨w.heap.size+1,j,none⟩=false:=fun j=>zf hk3;have bZ:=zh (zpK HRW.out);have HK3E:=zh hk3;clear hbx hk3 HRW;go_wp2_with fail
    have hch:Chg (fun b=>b=w.heap.size+1) wr (((wr.setCell ⟨w.heap.size+1,0,none⟩ (.slice Av s.cells.length cv)).setCell ⟨w.heap.size+1,1,none⟩ (.slice B8 s.tin.length c8)).setCell ⟨w.heap.size+1,2,none⟩ (.slice lV s.tout.length c12)) :=
     (((Chg.refl (fun b=>b=w.heap.size+1) wr).setCell (p:=⟨w.heap.size+1,0,none⟩) (.inl rfl) _).setCell (p:=⟨w.heap.size+1,1,none⟩) (.inl rfl) _).setCell (p:=⟨w.heap.size+1,2,none⟩) (.inl rfl) _
    have hh:=heap_setCell_same _ (w.heap.size+1) 2 _ _ (.slice lV s.tout.length c12) (heap_setCell_same _ (w.heap.size+1) 1 _ _ (.slice B8 s.tin.length c8) (heap_setCell_same wr (w.heap.size+1) 0 _ _ (.slice Av s.cells.length cv) HK3E.out));obtain⟨w9,bH⟩:∃ x,((wr.setCell ⟨w.heap.size+1,0,none⟩ (.slice Av s.cells.length cv)).setCell ⟨w.heap.size+1,1,none⟩ (.slice B8 s.tin.length c8)).setCell ⟨w.heap.size+1,2,none⟩ (.slice lV s.tout.length c12)=x:=⟨_,rfl⟩
    rw[bH] at hch hh ⊢;have t0:w9.cell? ⟨w.heap.size+1,0,none⟩=some (.slice Av s.cells.length cv):=zc hh (by simp);have t1:w9.cell? ⟨w.heap.size+1,1,none⟩=some (.slice B8 s.tin.length c8):=zc hh (by simp);have t2:w9.cell? ⟨w.heap.size+1,2,none⟩=some (.slice lV s.tout.length c12):=zc hh (by simp);refine bodyPost_ret (v:=.agg #[.slice Av s.cells.length cv,.slice B8 s.tin.length c8,.slice lV s.tout.length c12]) (by simp[results,Tryz.results25,go_sem,t0,t1,t2]) rfl ⟨_,rfl,?_,(zka HB1.out af.out).trans (hch.below (zka HB1.out af.out).size fun b e=>by omega)⟩;have hrw:=bZ.out.chg hch (fun i b hb e=>by have:=(bZ.out.lt i b hb).1;omega);rw[<-HVI.out,<-HVO.out] at hrw;exact⟨_,_,_,_,rfl,hrw.mono (by omega),HI.out⟩
 ·right
  have bK:=HC.out;have hcc:(l5=true->l2=true)/\(l6=true->l2=true/\l5=true):=⟨bK.1,fun h=>(bK.2.1 h).2⟩
  refine⟨f-1,?_,?_,?_⟩
  ·clear HC bK HRW HU ha af hcc;subst hf;revert hall;revert l2 l5 l6 l7
   decide
  ·clear HC bK HRW HU ha af hf;revert hall hcc;revert l2 l5 l6 l7
   decide +kernel
  intro i hi;have hcase:(i=2/\l2=false)\/(i=5/\l5=false/\l2=true)\/(i=6/\l6=false/\l2=true/\l5=true)\/(i=7/\l7=false):=by
   refine of_decide_eq_true ((List.all_eq_true (p:=fun i=>decide ((i=2/\l2=false)\/(i=5/\l5=false/\l2=true)\/(i=6/\l6=false/\l2=true/\l5=true)\/(i=7/\l7=false)))).1 ?_ i hi);clear HC bK HRW HU ha af hf hi;revert hall hcc;revert l2 l5 l6 l7
   decide +kernel
  clear hi hall;subst ha hA;rcases hcase with⟨rfl,rfl⟩|⟨rfl,rfl,rfl⟩|⟨rfl,rfl,rfl,rfl⟩|⟨rfl,rfl⟩
  ·refine wpOp_step rfl (fun K' aA=>?_);have hK:=zh aA;clear aA;have hsz:=af.out.size;have had:Calls Tryz.prog 35 [.slice B s.tin.length d].toArray wr fun e w'=>∃ v,e=.returned v/\(w'.ownsRow wr.heap.size 3 1 v s.tin.length (zke s.tin)/\Below wr.heap.size wr w') :=
    (zk1 s.tin B d Any wr (HR2.out.later af.out) HL.out.2.2.1).mono fun e w' ⟨v,h1,h2,_,h4⟩=>⟨v,h1,h2,h4⟩
   refine zkj (by rfl) (.func 35) [.tmp 7] _ (by rfl) 35 _ znn (by rfl) _ (by rfl) _ had ?_;rintro v' w' ⟨ho,hb⟩;obtain rfl:l6=false:=by
    rcases l6 with _|_
    ·rfl
    ·exact absurd (hcc.2 rfl).1 (by decide)
   obtain rfl:l5=false:=by
    rcases l5 with _|_
    ·rfl
    ·exact absurd (hcc.1 rfl) (by decide)
   have hrw:=HRW.out.upd (some .inp) (r:=⟨v',3,1,s.tin.length,zke s.tin⟩) (Chg.of_below hb) (zlv ho hsz) (fun b hb=>.inr (ho.lt b hb).1);rw[k_2] at hrw;exact hK.out _ _ ⟨true,false,false,l7,_,v12,v13,v3,b3,(by subst hf;simp<;>omega),rfl,(by simp only[zQ]),zh (zka af.out hb),zh hrw,zh ⟨fun h=>(by cases h),fun h=>(by cases h),bK.2.2⟩,HU⟩
  ·refine wpOp_step rfl (fun K' aA=>?_);have hK:=zh aA;clear aA;have hsz:=af.out.size;have had:Calls Tryz.prog 35 [.slice D s.tout.length e].toArray wr fun e w'=>∃ v,e=.returned v/\(w'.ownsRow wr.heap.size 3 1 v s.tout.length (zke s.tout)/\Below wr.heap.size wr w') :=
    (zk1 s.tout D e Any wr (HR3.out.later af.out) HL.out.2.2.2).mono fun e w' ⟨v,h1,h2,_,h4⟩=>⟨v,h1,h2,h4⟩
   refine zkj (by rfl) (.func 35) [.tmp 10] _ (by rfl) 35 _ znn (by rfl) _ (by rfl) _ had ?_;rintro v' w' ⟨ho,hb⟩;obtain rfl:l6=false:=by
    rcases l6 with _|_
    ·rfl
    ·exact absurd (hcc.2 rfl).2 (by decide)
   have hrw:=HRW.out.upd (some .out) (r:=⟨v',3,1,s.tout.length,zke s.tout⟩) (Chg.of_below hb) (zlv ho hsz) (fun b hb=>.inr (ho.lt b hb).1);rw[k_5] at hrw;exact hK.out _ _ ⟨true,true,false,l7,v8,_,v13,v3,b3,(by subst hf;simp<;>omega),rfl,(by simp only[zQ]),zh (zka af.out hb),zh hrw,zh ⟨fun _=>rfl,fun h=>(by cases h),bK.2.2⟩,HU⟩
  ·refine wpOp_step rfl (fun K' aA=>?_);have hK:=zh aA;clear aA;obtain⟨B8,c8,e8,-,-⟩:=zkh (HRW.out.row (some .inp));change v8=.slice B8 s.tin.length c8 at e8;obtain⟨lV,c12,e12,-,-⟩:=zkh (HRW.out.row (some .out));change v12=.slice lV s.tout.length c12 at e12;subst e8 e12;(try simp only[zQ]);go_simp;exact hK.out _ _ ⟨true,true,true,l7,_,_,_,v3,b3,(by subst hf;simp<;>omega),rfl,(by simp only[Act.put,zD,zE,zF]),af,HRW,zh ⟨fun _=>rfl,fun _=>⟨rfl,rfl,rfl⟩,bK.2.2⟩,HU⟩
  ·refine wpOp_step rfl (fun K' aA=>?_);have hK:=zh aA;clear aA;obtain rfl:=HU.out rfl;(try simp only[zQ]);go_simp;have hsz:=af.out.size;have hrw:=HRW.out.upd none (r:=⟨boxV wr.heap.size,32,3,1,[.slice none 0 0,.slice none 0 0,.slice none 0 0]⟩) (W':=wr.alloc (.cells #[.slice none 0 0,.slice none 0 0,.slice none 0 0] 32)) (Chg.of_below (zkc (Below.refl _ _) _)) (zph wr _ hsz _ _ _ _) (fun b hb=>.inr (by simp[Value.ownBlock] at hb;omega));rw[k_7] at hrw;exact hK.out _ _ ⟨l2,l5,l6,true,v8,v12,v13,_,wr.heap.size,(by subst hf;simp<;>omega),rfl,(by simp only[Act.put,zD,zE,zF]),zh (zkc af.out _),zh hrw,zh ⟨bK.1,bK.2.1,fun _=>rfl⟩,zh (fun h=>(by cases h))⟩
theorem zmI {ops:Array Oper} {rest:List Oper} {o:Oper} {a:Act} {W:World} {Q:Exit->Act->World->Prop} (hgd:o.guard=none) (s x:Operand)
  (ho:o.op=.call { callee:=.builtin .append,args := #[s,x],argTypes := #[30,30] }) (base:Nat) (v:Value) (n:Nat) (xs:List Value) (hs:a.eval s=v) (hrow:W.ownsRow base 3 1 v n xs)
  (A:Option Addr) (l:List Int) (c:Nat) (hx:a.eval x=.slice A l.length c) (hr:RowI W Any A l) (hl:n+l.length<=17592186044416) (hb:base<=W.heap.size)
  (h:∀ v' w',w'.ownsRow base 3 1 v' (n+l.length) (xs++zke l)->W.grownBy w' v.ownBlock->(v'.ownBlock=v.ownBlock\/v'.ownBlock=some W.heap.size)->wpList Tryz.prog ops Q rest (a.put o.dst v') w') :
  wpList Tryz.prog ops Q (o::rest) a W:=by
 obtain⟨i,hi,hz0,hz1,hz2⟩:=info_parts znb;rcases A with _|ad
 ·have hl0:l=[]:=by
   rcases l with _|⟨y,l⟩
   ·rfl
   ·obtain⟨_,h0,_⟩:=hr 0 (by simp);cases h0
  subst hl0;refine wpList_plain hgd fun K hK=>?_;have hrun:(Builtin.append_ #[30,30] o.type #[v,.slice none 0 c]).run Tryz.prog W=.ok v W:=by
   rcases hrow.2 with⟨rfl,h0⟩|⟨g,cap,cur,rfl,_,_,hnc,_⟩
   ·simp[Builtin.append_,run_underlying Tryz.underlying30,sizeOf,typeInfo,hi,Builtin.lenOf,Builtin.firstCells]
   ·simp[Builtin.append_,run_underlying Tryz.underlying30,sizeOf,typeInfo,hi,Builtin.lenOf,Builtin.firstCells,hnc,storeCells]
  unfold Oper.wp execOp;simp only[ho,resolve,invoke,builtin,Sem.run_bind,Sem.run_pure,Result.andThen_ok,List.map_toArray,List.map_cons,List.map_nil,hs,hx,List.length_nil,hrun];exact hK _ _ (h v W (by simpa[zke] using hrow) (zmn _ _) (.inl rfl))
 ·refine wpList_append_own_at (P:=Tryz.prog) _ hgd s x 30 ho base 3 i _ 1 8 Tryz.underlying30 hi hz0 hz1 hz2 rfl (by decide) v n xs hs hrow ad l.length c (zke l) hx (by simp[zke]) (fun j u hj=>?_) (fun u hu=>?_) (by unfold maxLen;omega) (by omega) hb (fun v' w' h1 h2 _ h4=>h v' w' h1 h2 h4)
  ·have hjl:j<l.length:=by have:=(List.getElem?_eq_some_iff.1 hj).1;simpa[zke] using this
   obtain⟨a',h0,_,h2,_⟩:=hr j hjl;injection h0 with h0;subst h0;rw[h2];simp[zke,hjl] at hj ⊢;exact hj
  ·simp only[zke,List.mem_map] at hu;obtain⟨y,_,rfl⟩:=hu;rfl
theorem zrj (jb:Nat) (w:World) (h:w.cell? ⟨jb,0,none⟩=some (.slice none 0 0)):Calls Tryz.prog 48 #[.pointer (some ⟨jb,0,none⟩)] w fun e w'=>e=.returned (.int .i64 0)/\w'=w:=by
 go_enter Tryz.func48,Tryz.ntmps48;go_wp2_with fail;go_ret;exact⟨rfl,rfl⟩
theorem zxk:IsFn Tryz.prog 48 Tryz.f48:=⟨Tryz.func48,by kernel_rfl,by kernel_rfl⟩
theorem zv0 {P:Program} {c:Code} {Q Q':Exit->Act->World->Prop} {a:Act} {w:World} (h:c.wp P Q a w) (hQ:∀ e a' w',Q e a' w'->Q' e a' w'):c.wp P Q' a w :=
 fun b k cs=>let ⟨e,a',w',q,r⟩:=h b k cs;⟨e,a',w',hQ _ _ _ q,r⟩
theorem zwe (C:World->Prop):∃ Q:Exit->Act->World->Prop,(∀ a' w',a'.defers=[]->C w'->Q .normal a' w')/\∀ e a' w',Q e a' w'->e=.normal/\a'.defers=[]/\C w' :=
 ⟨fun e a' w'=>e=.normal/\a'.defers=[]/\C w',fun _ _ h1 h2=>⟨rfl,h1,h2⟩,fun _ _ _ h=>h⟩
theorem tAss (x:Int) (w:World):(Instr.typeAssert (.iface 112 (.agg #[.int .i64 x])) 20 112 true).run Tryz.prog w=.ok (.tuple #[.agg #[.int .i64 x],.bool true]) w:=by kernel_rfl
theorem zva (a b c:Value) (w:World) :
  CallsD Tryz.prog 49 #[a,b,c] .returning w fun e u' w'=>e=.returned (.tuple #[])/\u'=.returning/\w'=w:=by
 refine callsD_of_wpS Tryz.func49 rfl fun c₀ cs hu=>?_;apply wpS_seq;apply wpS_region;simp[wpOpsS,go_sem,recoverD,hu,Tryz.ntmps49,Exit.thenS];apply wpS_seq;apply wpS_seq;apply wpS_region;simp[wpOpsS,go_sem,Exit.thenS];refine wpS_cond (t:=true) (by simp[Act.eval,Array.replicate]) ?_;simp only[if_true];refine wpS_of_wp (wp_ret ?_)
 cases c₀
 simp_all [bodyPostS,results,Tryz.results49,Exit.thenS]
theorem ztp (a2 a5 a4 jb:Nat) (x y:Int) (w:World) (h2:w.cell? ⟨a2,0,none⟩=some (.pointer (some ⟨jb,0,none⟩))) (h5:w.cell? ⟨a5,0,none⟩=some (.int .i64 0)) (hj:w.cell? ⟨jb,0,none⟩=some (.slice none 0 0)) (h4:w.cell? ⟨a4,0,none⟩=some (.int .i64 y)) (hf:w.frozen? ⟨a4,0,none⟩=false) :
  CallsD Tryz.prog 49 #[.pointer (some ⟨a2,0,none⟩),.pointer (some ⟨a5,0,none⟩),.pointer (some ⟨a4,0,none⟩)] (.panicking [{ v:=.iface 112 (.agg #[.int .i64 x]),recovered:=false }]) w fun e u' w' =>
   e=.returned (.tuple #[])/\u'=.panicking [{ v:=.iface 112 (.agg #[.int .i64 x]),recovered:=true }]/\w'.cell? ⟨a4,0,none⟩=some (.int .i64 x)/\Chg (fun b=>b=a4) w w':=by
 refine callsD_of_wpS Tryz.func49 rfl fun c₀ cs hu=>?_;apply wpS_seq;apply wpS_region;simp[wpOpsS,go_sem,recoverD,hu,Tryz.ntmps49,Exit.thenS];apply wpS_seq;apply wpS_seq;apply wpS_region;simp[wpOpsS,go_sem,Exit.thenS];refine wpS_cond (t:=false) (by simp[Act.eval,Array.replicate]) ?_;simp only[Bool.false_eq_true,if_false];refine wpS_of_wp (wp_skip ?_);refine wpS_of_wp ?_;obtain⟨Q,qw,xQ⟩:=zwe (fun w'=>w'.cell? ⟨a4,0,none⟩=some (.int .i64 x)/\Chg (fun b=>b=a4) w w');refine zv0 (Q:=Q) ?_ ?_;rotate_left 1
 ·intro e a' w' hq;obtain⟨rfl,h1,h2⟩:=xQ _ _ _ hq
  cases c₀
  simp_all [bodyPostS,results,Tryz.results49,Exit.thenS]
 have HQ:=zh qw;clear qw xQ hu;refine Eq.mp (congrArg (fun t=>Code.wp Tryz.prog _ Q ⟨t,[]⟩ w) (?e:(#[.pointer (some ⟨a2,0,none⟩),.pointer (some ⟨a5,0,none⟩),.pointer (some ⟨a4,0,none⟩),.iface 112 (.agg #[.int .i64 x]),undef,undef,.iface 112 (.agg #[.int .i64 x]),.iface 112 (.agg #[.int .i64 x]),.bool false,undef,undef,undef,undef,undef,undef,undef,undef,undef,undef,undef,undef,undef,undef,undef,undef,undef]:Array Value)=_)) ?_
 case e=>kernel_rfl
 go_upto_region 2 with fail;have HS:=zh (show ∀ w',Below w.heap.size w w'->(fun w':World=>w'.cell? ⟨a2,0,none⟩=some (.pointer (some ⟨jb,0,none⟩))/\w'.cell? ⟨a5,0,none⟩=some (.int .i64 0)) w' from fun w' hb=>⟨zb hb h2,zb hb h5⟩);have wZ:=zh (fun w' (hb:Below w.heap.size w w')=>zrj jb w' (zb hb hj));have hSS:(fun w':World=>w'.cell? ⟨a2,0,none⟩=some (.pointer (some ⟨jb,0,none⟩))/\w'.cell? ⟨a5,0,none⟩=some (.int .i64 0)) w.drew/\(fun _:World=>True) w.drew:=⟨HS.out _ (Below.refl _ _).drew,trivial⟩
 refine wp_region_noPanic ?_;refine zkd (fun w':World=>w'.cell? ⟨a2,0,none⟩=some (.pointer (some ⟨jb,0,none⟩))/\w'.cell? ⟨a5,0,none⟩=some (.int .i64 0)) (fun _:World=>True) 3 (by kernel_rfl) ?_;refine zT 0 hSS ?_;(try simp only[zQ]);refine zT 2 hSS ?_;(try simp only[zQ]);have had:Calls Tryz.prog 48 [.pointer (some ⟨jb,0,none⟩)].toArray w.drew fun e w'=>∃ v,e=.returned v/\(v=.int .i64 0/\w'=w.drew):=(wZ.out _ (Below.refl _ _).drew).mono fun e w' ⟨h1,h2⟩=>⟨_,h1,rfl,h2⟩
 refine zo 1 fun K hK=>?_;refine zkj (by rfl) (.func 48) [.tmp 9] _ (by rfl) 48 _ zxk (by rfl) _ (by rfl) _ had ?_;rintro v1 w1 ⟨rfl,rfl⟩;refine hK.out _ _ hSS ?_;clear hK K had;(try simp only[zQ]);refine zp 3 fun K hK=>?_;(try simp only[zA,zB,zC]);go_simp;refine hK.out _ _ hSS.1 ?_;clear hK K;(try simp only[zQ]);refine zd ?_;refine NoPanic.normal ?_;clear hSS HS wZ;have ht:=fun w=>tAss x w;obtain⟨w1,hw1⟩:∃ w1,w.drew=w1:=⟨_,rfl⟩
 have hb1:Below w.heap.size w w1:=hw1▸(Below.refl _ _).drew;have g4:=zb hb1 h4;have gf:w1.frozen? ⟨a4,0,none⟩=false:=hw1▸hf;have hlt:a4<w1.heap.size:=World.block_lt_of_cell? w1 _ g4;have z4:=zkm g4 (.cells #[.int .i64 x] 112);have HB1:=zh hb1;rw[hw1];clear h2 h5 hj h4 hf hw1 hb1;go_wp2_with fail;have hch:=(Chg.refl (fun b=>b=a4) w1).setCell (p:=⟨a4,0,none⟩) (.inl rfl) (.int .i64 x);exact HQ.out _ _ rfl ⟨zkm (by simp[go_sem,g4]) _,(Chg.of_below HB1.out).trans (hch.alloc _)⟩
def AttP (W:World) (R:World->Prop) (X:Int->World->Prop) (e:Ending) (w':World):Prop :=
 (e=.returned (.int .i64 0)/\∃ w1,R w1/\Chg (fun b=>W.heap.size<=b/\b<W.heap.size+3) w1 w')\/∃ x,e=.returned (.int .i64 x)/\∃ w1,X x w1/\Chg (fun b=>W.heap.size<=b/\b<W.heap.size+3) w1 w'
theorem zqW (jb:Nat) (f:FuncId) (fn:Func) (hf:IsFn Tryz.prog f fn) (caps:Array Value) (W:World) (hj:W.heap[jb]?=some (.cells #[.slice none 0 0,.bool false] 72 (0,0))) (R:World->Prop) (X:Int->World->Prop)
  (hact:∀ W1,Below W.heap.size W W1->W1.heap.size=W.heap.size+3->Calls Tryz.prog f caps W1 fun e w'=>(∀ b,(W.heap.size<=b\/b=jb)->b<W1.heap.size->w'.heap[b]?=W1.heap[b]?)/\(((∃ u,e=.returned u)/\R w')\/∃ x,e=zlT x/\X x w')) :
  Calls Tryz.prog 27 #[.pointer (some ⟨jb,0,none⟩),.func (.func f) #[] caps] W (AttP W R X):=by
 have wB:∀ (fn:Fn) (first cap:Array Value) (w:World),(Instr.makeFunc fn first cap).run Tryz.prog w=.ok (.func fn first cap) w:=fun _ _ _ _=>rfl;have hnf:∀ w:World,(binOp BinOp.eql 1 (.func (.func f) #[] caps) .nilFunc).run Tryz.prog w=.ok (.bool false) w:=fun _=>by kernel_rfl
 have HJ:=zh hj;have hjl:=zku hj;have HA:=zh hact;have hLE:=fun w' (hb:Below W.heap.size W w')=>zrj jb w' (zb hb (zc hj rfl));have wZ:=zh hLE;clear hj hact hLE
 go_enter_defers Tryz.func27,Tryz.ntmps27
 go_wp2_with fail;refine(wZ.out _ (zkc (zkc (Below.refl _ _) _) _)).mono ?_;rintro e w1 ⟨rfl,rfl⟩;go_wp2_with fail;rw[zk3 hf,Oper.upon_enter];have k0:=zkn (zkn (heap_alloc_new W (.cells #[.pointer (some ⟨jb,0,none⟩)] 69)) (.cells #[.int .i64 0] 35)) (.cells #[.int .i64 0] 3);have k1:=zkn (heap_alloc_new (W.alloc (.cells #[.pointer (some ⟨jb,0,none⟩)] 69)) (.cells #[.int .i64 0] 35)) (.cells #[.int .i64 0] 3);have k2:=heap_alloc_new ((W.alloc (.cells #[.pointer (some ⟨jb,0,none⟩)] 69)).alloc (.cells #[.int .i64 0] 35)) (.cells #[.int .i64 0] 3);have kj:=zkn (zkn (zkn HJ.out (.cells #[.pointer (some ⟨jb,0,none⟩)] 69)) (.cells #[.int .i64 0] 35)) (.cells #[.int .i64 0] 3);have hb3:=zkc (zkc (zkc (Below.refl W.heap.size W) (.cells #[.pointer (some ⟨jb,0,none⟩)] 69)) (.cells #[.int .i64 0] 35)) (.cells #[.int .i64 0] 3)
 simp only[World.size_alloc] at k1 k2;obtain⟨w3,hw3⟩:∃ x,((W.alloc (.cells #[.pointer (some ⟨jb,0,none⟩)] 69)).alloc (.cells #[.int .i64 0] 35)).alloc (.cells #[.int .i64 0] 3)=x:=⟨_,rfl⟩
 have hz3:w3.heap.size=W.heap.size+3:=by rw[<-hw3];simp
 rw[hw3] at k0 k1 k2 kj hb3 ⊢;clear hw3;refine(HA.out w3 hb3 hz3).mono ?_;rintro e w2 ⟨hk,h⟩;have q0:=(hk _ (.inl (Nat.le_refl _)) (by omega)).trans k0;have q1:=(hk _ (.inl (Nat.le_succ _)) (by omega)).trans k1;have q2:=(hk _ (.inl (by omega)) (by omega)).trans k2;have qj:=(hk _ (.inr rfl) (by omega)).trans kj;clear k0 k1 k2 kj hk hb3;rcases h with⟨⟨u,rfl⟩,hR⟩|⟨x,rfl,hX⟩
 ·have c1:w2.cell? ⟨W.heap.size+1,0,none⟩=some (.int .i64 0):=zc q1 rfl;have f1:∀ o,w2.frozen? ⟨W.heap.size+1,o,none⟩=false:=fun _=>zf q1;have HRR:=zh hR;clear q0 q2 qj wZ HA hR;go_wp2_with fail;refine leaves_cons (f:=49) (args := #[.pointer (some ⟨W.heap.size,0,none⟩),.pointer (some ⟨W.heap.size+1+1,0,none⟩),.pointer (some ⟨W.heap.size+1,0,none⟩)]) (by simp) (by simp[go_sem]) ?_;refine(zva _ _ _ _).mono ?_;rintro e u' w'' ⟨rfl,rfl,rfl⟩;have hch:=(Chg.refl (fun b=>W.heap.size<=b/\b<W.heap.size+3) w2).setCell (p:=⟨W.heap.size+1,0,none⟩) (.inl ⟨Nat.le_succ _,by simp⟩) (.int .i64 0);have hc2:(w2.setCell ⟨W.heap.size+1,0,none⟩ (.int .i64 0)).cell? ⟨W.heap.size+1,0,none⟩=some (.int .i64 0):=by simp[go_sem,c1]
  have HP:AttP W R X (.returned (.int .i64 0)) (w2.setCell ⟨W.heap.size+1,0,none⟩ (.int .i64 0)):=.inl ⟨rfl,w2,HRR.out,hch⟩;simp[Leaves,settle,results,Tryz.results27,go_sem,hc2,HP]
 ·have p0:w2.cell? ⟨W.heap.size,0,none⟩=some (.pointer (some ⟨jb,0,none⟩)):=zc q0 rfl;have p1:w2.cell? ⟨W.heap.size+1,0,none⟩=some (.int .i64 0):=zc q1 rfl;have p2:w2.cell? ⟨W.heap.size+1+1,0,none⟩=some (.int .i64 0):=zc q2 rfl;have pj:w2.cell? ⟨jb,0,none⟩=some (.slice none 0 0):=zc qj rfl;have f1:w2.frozen? ⟨W.heap.size+1,0,none⟩=false:=zf q1;refine leaves_cons (f:=49) (args := #[.pointer (some ⟨W.heap.size,0,none⟩),.pointer (some ⟨W.heap.size+1+1,0,none⟩),.pointer (some ⟨W.heap.size+1,0,none⟩)]) (by simp) (by simp[go_sem]) ?_;refine(ztp _ _ _ jb x 0 _ p0 p2 pj p1 f1).mono ?_;rintro e u' w'' ⟨rfl,rfl,hc2,hch⟩;have HP:AttP W R X (.returned (.int .i64 x)) w'':=.inr ⟨x,rfl,w2,hX,hch.mono fun b _ e=>by omega⟩;simp[Leaves,settle,results,Tryz.results27,go_sem,hc2,HP]
def Nz (o:Out):Prop:=o ≠ .err 0
theorem Nz.bind {o:Out} {f:RS->Out} (h:Nz o) (hf:∀ r,Nz (f r)):Nz (o.bind f):=by
 cases o with
 | gas=>exact fun e=>by cases e
 | err x=>exact h
 | ok r=>exact hf r
theorem Nz.ok (r:RS):Nz (.ok r):=fun e=>by cases e
theorem Nz.gas:Nz .gas:=fun e=>by cases e
theorem Nz.step (F:Int) (r:RS):Nz (zkq F r):=by
 unfold zkq
 split
 ·intro e;injection e with e;omega
 ·exact Nz.ok _
theorem Nz.store (r:RS) (R:Int×ST):Nz (zki r R):=by
 unfold zki
 split
 ·rename_i h;intro e;injection e with e;exact h e
 ·exact Nz.ok _
theorem Nz.val {t:T} {r:RS} {f:Int->RS->Out} (hf:∀ x,Nz (f x r)):Nz (valO t r f):=by
 unfold valO
 split
 ·rename_i h;intro e;injection e with e;exact h e
 ·exact hf _
theorem Nz.holds {F:Int} {t:T} {r:RS} {f:Bool->RS->Out} (hf:∀ b r,Nz (f b r)):Nz (zkG F t r f):=(Nz.step F r).bind fun r=>Nz.val fun x=>hf _ _
theorem Nz.assert (F:Int) (t:T) (b:Bool) (r:RS):Nz (zkx F t b r):=Nz.holds fun b' r=>by
 split
 ·exact Nz.ok _
 ·intro e;injection e with e;omega
theorem Nz.body {f:T->RS->Out}:∀ (l:List T) (r:RS),(∀ t∈l,∀ r,Nz (f t r))->Nz (zk9 f l r)
 | [],r,_=>Nz.ok r
 | t::ts,r,h=>(h t (List.mem_cons_self ..) r).bind fun r=>Nz.body ts r fun u hu=>h u (List.mem_cons_of_mem _ hu)
theorem Nz.loop {F:Int} {f:T->RS->Out} {entry test:T} {l1 l2:List T} (h1:∀ t∈l1,∀ r,Nz (f t r)) (h2:∀ t∈l2,∀ r,Nz (f t r)):∀ (m:Nat) (r:RS),Nz (zml F f entry test l1 l2 m r)
 | 0,_=>Nz.gas
 | m+1,r=>by
  rw[zml];refine(Nz.body l1 r h1).bind fun r=>Nz.holds fun b r=>?_
  split
  ·exact Nz.ok _
  ·exact(Nz.body l2 r h2).bind fun r=>(Nz.assert F entry false r).bind fun r=>Nz.loop h1 h2 m r
theorem znY {G:List PR->T->Prop} (hG:GC G) {prs:List PR} {F:Int}:∀ (g:Nat) (back:Bool) (t:T) (r:RS),G prs t->Nz (zkr prs F g back t r)
 | 0,_,_,_,_=>Nz.gas
 | g+1,back,t,r,h=>by
  have hb:∀ back (b:T) r,(∀ u∈b.ks,G prs u)->Nz (zk9 (zkr prs F g back) (blkL back b) r):=fun back b r hu=>Nz.body _ r fun u hm r=>znY hG g back u r (hu u (zls hm));rw[zkr]
  split
  ·rename_i hk;obtain⟨-,h1,h2⟩:=hG.two _ _ h (.inl hk);refine Nz.holds fun yes r=>Nz.bind ?_ fun r=>Nz.assert _ _ _ _
   split
   ·exact hb _ _ _ h1
   ·exact hb _ _ _ h2
  ·split
   ·rename_i hk;obtain⟨-,h1,h2⟩:=hG.two _ _ h (.inr hk);exact(Nz.assert _ _ _ _).bind fun r=>Nz.loop (fun u hm r=>znY hG g back u r (h1 u (zls hm))) (fun u hm r=>znY hG g back u r (h2 u (zls hm))) g r
   ·split
    ·rename_i hk;obtain⟨-,h1⟩:=hG.loc _ _ h hk;exact(Nz.step _ _).bind fun r=>Nz.val fun x=>(Nz.store _ _).bind fun r=>(hb _ _ _ h1).bind fun r=>(Nz.step _ _).bind fun r=>Nz.val fun x=>Nz.store _ _
    ·split
     ·rename_i hk;obtain⟨-,h1⟩:=hG.stk _ _ h hk;exact(Nz.step _ _).bind fun r=>(Nz.store _ _).bind fun r=>(hb _ _ _ h1).bind fun r=>(Nz.step _ _).bind fun r=>Nz.store _ _
     ·split
      ·rename_i hk;obtain⟨i,q,hi,hq,h1⟩:=hG.cal _ _ h hk;rw[hi];dsimp only;rw[getD_some hq];exact(Nz.step _ _).bind fun r=>(Nz.store _ _).bind fun r=>(hb _ _ _ h1).bind fun r=>(Nz.step _ _).bind fun r=>Nz.store _ _
      ·exact(Nz.step _ _).bind fun r=>Nz.store _ _
theorem zv9 {G:List PR->T->Prop} (hG:GC G) {prs:List PR} {F:Int} {g:Nat} {back:Bool} {b:T} {r:RS} (h:∀ u∈b.ks,G prs u):Nz (runO prs F g back b r):=Nz.body _ r fun u hm r=>znY hG g back u r (h u (zls hm))
theorem RI.chgK {C:RC} {lo hi:Nat} {W W':World} {r:RS} (hC:(C.plus lo hi).Ok) (h:RI (C.plus lo hi) W r) (hc:Chg (fun b=>lo<=b/\b<hi) W W') (hlo:C.w.heap.size<=lo):RI (C.plus lo hi) W' r:=by
 have hkb:∀ b,lo<=b/\b<hi->(C.plus lo hi).kb b:=fun b hb=>.inr hb;refine⟨h.ks.chg hc fun b _ hb=>⟨Nat.le_trans hlo hb.1,.inr (.inl (hkb b hb))⟩,hc.keep h.box fun hb=>hC.rb.2 (hkb _ hb),zm7 h.ent fun b hb=>?_,h.el,h.en,h.n,h.fb⟩;exact hc.block b (h.ent.lt b hb).2 fun hb'=>hC.ev.2 b hb (hkb _ hb')
end Go.Proofs.YtmbbaccjcekhkaaGreat
