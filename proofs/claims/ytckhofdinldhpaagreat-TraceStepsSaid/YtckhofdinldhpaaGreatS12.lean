/-
  Texts of the proof, put together without their remarks: If, Lfp, Tof, Taw, Ltf, Apl, Tsq, Tam, Tar.
-/
import Derived.Test.YtckhofdinldhpaaGreatS11
import Derived.Maps.OwnSet
set_option linter.unusedSimpArgs false
set_option linter.unusedVariables false
set_option maxHeartbeats 8000000
set_option maxRecDepth 100000
namespace Go.Proofs.YtckhofdinldhpaaGreat
open Go Go.RowKit
def Fl (F':Int) (n:Nat) (o o':Out):Prop:=∀ r',o=.ok r'->n<=r'.n/\((r'.n:Int)<=F'\/r'.n=n->o'=.ok r')/\(F'<(r'.n:Int)->n<r'.n->o'=.err 18)
theorem Fl.bind {F':Int} {n:Nat} {o o':Out} {f f':RS->Out} (h:Fl F' n o o') (hf:∀ r,n<=r.n->Fl F' r.n (f r) (f' r)):Fl F' n (o.bind f) (o'.bind f'):=by
 intro r2 e
 cases o with
 | gas=>cases e
 | err x=>cases e
 | ok r1 =>
  obtain⟨h1,h2,h3⟩:=h r1 rfl;obtain⟨g1,g2,g3⟩:=hf r1 h1 r2 e;refine⟨by omega,fun hc=>?_,fun a b=>?_⟩
  ·rw[h2 (by omega)];exact g2 (by omega)
  ·by_cases hc:(r1.n:Int)<=F'\/r1.n=n
   ·rw[h2 hc];exact g3 a (by omega)
   ·rw[h3 (by omega) (by omega)];rfl
theorem Fl.err {F':Int} {n:Nat} {x:Int} {o':Out}:Fl F' n (.err x) o':=fun _ e=>by cases e
theorem Fl.gas {F':Int} {n:Nat} {o':Out}:Fl F' n .gas o':=fun _ e=>by cases e
theorem Fl.same {F':Int} {r:RS}:Fl F' r.n (.ok r) (.ok r):=fun r' e=>by
 injection e with e;subst e;exact⟨Nat.le_refl _,fun _=>rfl,fun _ h=>absurd h (Nat.lt_irrefl _)⟩
theorem Fl.step (F F':Int) (r:RS):Fl F' r.n (zkD F r) (zkD F' r):=fun r' e=>by
 obtain⟨rfl,-⟩:=zkQ e;refine⟨by simp only;omega,fun h=>?_,fun h _=>?_⟩
 ·unfold zkD;rw[if_neg (by simp only at h;omega)]
 ·unfold zkD;rw[if_pos (by simp only at h;omega)]
theorem Fl.store {F':Int} {r:RS} (R:Int×ST):Fl F' r.n (zkm r R) (zkm r R):=by
 unfold zkm
 split
 ·exact Fl.err
 ·intro r' e;injection e with e;subst e;exact⟨Nat.le_refl _,fun _=>rfl,fun _ h=>absurd h (Nat.lt_irrefl _)⟩
theorem Fl.val {F':Int} {n:Nat} {t:T} {r:RS} {f f':Int->RS->Out} (h:∀ x,Fl F' n (f x r) (f' x r)):Fl F' n (valO t r f) (valO t r f'):=by
 unfold valO
 split
 ·exact Fl.err
 ·exact h _
theorem Fl.holds {F F':Int} {t:T} {r:RS} {f f':Bool->RS->Out} (h:∀ b r1,r.n<=r1.n->Fl F' r1.n (f b r1) (f' b r1)):Fl F' r.n (zk3 F t r f) (zk3 F' t r f'):=by
 unfold zk3;exact(Fl.step F F' r).bind fun r1 h1=>Fl.val fun x=>h _ _ h1
theorem Fl.assert {F F':Int} {t:T} {b:Bool} {r:RS}:Fl F' r.n (zkv F t b r) (zkv F' t b r):=by
 unfold zkv;refine Fl.holds fun b1 r1 _=>?_
 split
 ·exact Fl.same
 ·exact Fl.err
theorem Fl.body {F':Int} {f f':T->RS->Out}:∀ (l:List T) (r:RS),(∀ t∈l,∀ r',Fl F' r'.n (f t r') (f' t r'))->Fl F' r.n (zk2 f l r) (zk2 f' l r)
 | [],r,_=>Fl.same
 | t::ts,r,h=>by
  rw[zk2,zk2];exact(h t (List.mem_cons_self ..) r).bind fun r1 _=>Fl.body ts r1 fun u hu r'=>h u (List.mem_cons_of_mem _ hu) r'
theorem Fl.loop {F F':Int} {f f':T->RS->Out} {entry test:T} {l1 l2:List T} (h1:∀ t∈l1,∀ r',Fl F' r'.n (f t r') (f' t r')) (h2:∀ t∈l2,∀ r',Fl F' r'.n (f t r') (f' t r')):∀ (m:Nat) (r:RS),Fl F' r.n (zlI F f entry test l1 l2 m r) (zlI F' f' entry test l1 l2 m r)
 | 0,r=>Fl.gas
 | m+1,r=>by
  rw[zlI,zlI];refine(Fl.body l1 r h1).bind fun r1 _=>Fl.holds fun b r2 _=>?_
  split
  ·exact Fl.same
  ·exact(Fl.body l2 r2 h2).bind fun r3 _=>Fl.assert.bind fun r4 _=>Fl.loop h1 h2 m r4
theorem zmJ {prs:List PR} {F F':Int}:∀ (g:Nat) (back:Bool) (t:T) (r:RS),Fl F' r.n (zkw prs F g back t r) (zkw prs F' g back t r)
 | 0,_,_,_=>Fl.gas
 | g+1,back,t,r=>by
  have hb:∀ back (l:List T) r1,Fl F' r1.n (zk2 (zkw prs F g back) l r1) (zk2 (zkw prs F' g back) l r1):=fun back l r1=>Fl.body l r1 fun u _ r'=>zmJ g back u r';rw[zkw,zkw]
  split
  ·exact Fl.holds fun yes r1 _=>(hb _ _ r1).bind fun r2 _=>Fl.assert
  ·split
   ·exact Fl.assert.bind fun r1 _=>Fl.loop (fun u _ r'=>zmJ g back u r') (fun u _ r'=>zmJ g back u r') g r1
   ·split
    ·refine(Fl.step F F' r).bind fun r1 _=>Fl.val fun x=>(Fl.store _).bind fun r2 _=>(hb _ _ r2).bind fun r3 _=>(Fl.step F F' r3).bind fun r4 _=>Fl.val fun x=>Fl.store _
    ·split
     ·exact(Fl.step F F' r).bind fun r1 _=>(Fl.store _).bind fun r2 _=>(hb _ _ r2).bind fun r3 _=>(Fl.step F F' r3).bind fun r4 _=>Fl.store _
     ·split
      ·split
       ·exact Fl.err
       ·exact(Fl.step F F' r).bind fun r1 _=>(Fl.store _).bind fun r2 _=>Fl.bind (hb _ _ { r2 with ent:=_ }) fun r3 _=>(Fl.step F F' r3).bind fun r4 _=>Fl.store _
      ·exact(Fl.step F F' r).bind fun r1 _=>Fl.store _
theorem zsh {prs:List PR} {F F':Int} (g:Nat) (back:Bool) (b:T) (r:RS):Fl F' r.n (runO prs F g back b r) (runO prs F' g back b r):=Fl.body _ _ fun u _ r'=>zmJ g back u r'
theorem zp7 {p:PG} {s:SS} {F:Int} {g:Nat} {back:Bool} (hg:F.toNat*2000+2000<=g) (h:(resO p s F g back).2.2.1=0) :
  zlc p=true/\chkN p=0/\fitB p.vs s=true/\∃ r,runO p.prs F g back p.m ⟨newS p.vs s,0,List.replicate p.prs.length 0⟩=.ok r/\resO p s F g back=(r.S.state,r.n,0,r.ent):=by
 unfold resO at h ⊢
 split at h
 ·simp at h
 ·rename_i h1;rw[if_neg h1];simp only[not_or,Bool.not_eq_false,Decidable.not_not] at h1
  split at h
  ·simp at h
  ·rename_i h2;rw[if_neg h2];simp only[Bool.not_eq_false] at h2;refine⟨h1.1,by simpa using h1.2,h2,?_⟩;have hz:Nz (runO p.prs F g back p.m ⟨newS p.vs s,0,List.replicate p.prs.length 0⟩):=zsg zvp (zqw h1.1 (by simpa using h1.2));have hg0:=(zqE (F:=F) (g:=g) h1.1 hg back (newS p.vs s) (List.replicate p.prs.length 0)).1
   cases ho:runO p.prs F g back p.m ⟨newS p.vs s,0,List.replicate p.prs.length 0⟩ with
   | gas=>exact absurd ho hg0
   | err e =>
    rw[ho] at h hz;simp only[outR] at h;rw[h] at hz;exact absurd rfl hz
   | ok r=>exact⟨r,rfl,rfl⟩
theorem zqH {p:PG} {s:SS} {F:Int} {g:Nat} {back:Bool} (h1:zlc p=true) (h2:chkN p=0) (h3:fitB p.vs s=true) :
  resO p s F g back=outR s (runO p.prs F g back p.m ⟨newS p.vs s,0,List.replicate p.prs.length 0⟩):=by
 unfold resO;rw[if_neg (by rw[h1,h2];simp),if_neg (by rw[h3];simp)]
theorem zqW {p:PG} {s:SS} {F:Int} {g:Nat} {back:Bool} (hg:F.toNat*2000+2000<=g) (h:(resO p s F g back).2.2.1=0) :
  ((resO p s F g back).2.1:Int)<=max F 0/\(∀ F':Int,((resO p s F g back).2.1:Int)<=F'->resO p s F' g back=resO p s F g back) /\
   ∀ F':Int,F'<((resO p s F g back).2.1:Int)->0<(resO p s F g back).2.1->(resO p s F' g back).2.2.1=18:=by
 obtain⟨h1,h2,h3,r,hr,he⟩:=zp7 hg h;rw[he];simp only;have key:=fun F'=>zsh (prs:=p.prs) (F:=F) (F':=F') g back p.m ⟨newS p.vs s,0,List.replicate p.prs.length 0⟩ r hr;refine⟨?_,fun F' hF=>?_,fun F' hF h0=>?_⟩
 ·rcases Int.lt_or_le (max F 0) (r.n:Int) with hlt|hle
  ·have:=(key F).2.2 (by omega) (by simp only;omega);rw[hr] at this
   cases this
  ·exact hle
 ·rw[zqH h1 h2 h3,(key F').2.1 (.inl hF)];rfl
 ·rw[zqH h1 h2 h3,(key F').2.2 hF h0];rfl
theorem EvR.lower {w:World} {n0 n1:Nat} {O O':Nat->Prop} {v:Value} {es:List (List CH)} (h:EvR w n0 O v es) (hn:n1<=n0) (hO:∀ b,O b->O' b):EvR w n1 O' v es:=by
 obtain⟨xs,h1,h2,h3⟩:=h;refine⟨xs,zmn h1 hn,fun b hb=>hO b (h2 b hb),fun i hi=>?_⟩;obtain⟨A,c,f1,f2,f3⟩:=h3 i hi;exact⟨A,c,f1,f2,f3.keep (fun b hb _=>⟨hO b hb.1,hb.2⟩) fun b hb _=>rfl⟩
theorem bTrc (A1 A2 A3 AX BX DX:Option Addr) (l1 c1 l2 c2 l3 c3 x1 cX x2 dX x3 gX:Nat) (k n:Int) (s:ByteArray) (sb:Nat) (w:World):(Instr.build 119 #[(0,.agg #[.slice A1 l1 c1,.slice A2 l2 c2,.int .u8 k,.int .i64 n,.string s,.slice A3 l3 c3]),(1,.pointer (some ⟨sb,0,none⟩)),(2,.agg #[.slice AX x1 cX,.slice BX x2 dX,.slice DX x3 gX])]).run Tryz.prog w =
  .ok (.agg #[.slice A1 l1 c1,.slice A2 l2 c2,.int .u8 k,.int .i64 n,.string s,.slice A3 l3 c3,.pointer (some ⟨sb,0,none⟩),.slice AX x1 cX,.slice BX x2 dX,.slice DX x3 gX,.slice none 0 0]) w:=by kernel_rfl
def OfP (W:World) (p:PG) (s:SS) (R:SS×Nat×Int×List Nat) (e:Ending) (W':World):Prop:=Below W.heap.size W W' /\
 ((R.2.2.1≠0/\e=.returned (.tuple #[.slice none 0 0,.int .i64 R.2.2.1])) \/
  (R.2.2.1=0/\∃ (S':ST) (L:List SS) (ev:Value),Tg p.prs (.blk false (blkL false p.m)) (newS p.vs s) L S'/\S'.state=R.1/\R.2.1=L.length/\fitB p.vs s=true/\e=.returned (.tuple #[ev,.int .i64 0])/\EvR W' W.heap.size (fun b=>W.heap.size<=b) ev (evsE s L)/\L.length<=900000))
theorem zvP (p:PG) (s:SS) (F:Int) (g:Nat) (v sv:Value) (W:World) (hp:PV W Any p v) (hs:SV W Any s sv) (hcl:s.cells.length<=5864062014800) (hF:I64 F) (hF6:F<=900000) (hg:F.toNat*2000+2000<=g) :
  Calls Tryz.prog 24 #[v,sv,.int .i64 F] W (OfP W p s (resO p s F g false)):=by
 have HP:=zh hp;have HS:=zh hs;obtain⟨A1,c1,A2,c2,A3,c3,rfl,jK⟩:=hp;obtain⟨A,c,B,d,D,e,rfl,hr1,hr2,hr3,hc1,hc2,hc3,hl1,hl2,hl3,hl4⟩:=hs;have uQ:=zh jK;have xQ:=zh (fun w' (hb:Below W.heap.size W w')=>zoq p s F g _ _ w' (HP.out.later hb) (HS.out.later hb) hcl hF (by omega) hg);have mY:=zh (fun w' (hb:Below W.heap.size W w')=>ztB p.vs s A1 c1 _ w' (uQ.out.vars.later hb) uQ.out.lv (HS.out.later hb));have xM:=zh (fun h=>zp7 (p:=p) (s:=s) (F:=F) (g:=g) (back:=false) hg h);have jS:=zh (fun h=>zqW (p:=p) (s:=s) (F:=F) (g:=g) (back:=false) hg h);obtain⟨R,hR⟩:∃ R,resO p s F g false=R:=⟨_,rfl⟩
 rw[hR] at xQ xM jS;rw[hR];have hb2:=zkd (zkd (Below.refl W.heap.size W) (.cells #[.slice A1 p.vs.length c1,.slice A2 p.prs.length c2,.int .u8 p.m.k,.int .i64 p.m.n,.string p.m.s,.slice A3 p.m.ks.length c3] 35)) (.cells #[.slice A s.cells.length c,.slice B s.tin.length d,.slice D s.tout.length e] 26);have k0:=zkj (heap_alloc_new W (.cells #[.slice A1 p.vs.length c1,.slice A2 p.prs.length c2,.int .u8 p.m.k,.int .i64 p.m.n,.string p.m.s,.slice A3 p.m.ks.length c3] 35)) (.cells #[.slice A s.cells.length c,.slice B s.tin.length d,.slice D s.tout.length e] 26);have k1:=heap_alloc_new (W.alloc (.cells #[.slice A1 p.vs.length c1,.slice A2 p.prs.length c2,.int .u8 p.m.k,.int .i64 p.m.n,.string p.m.s,.slice A3 p.m.ks.length c3] 35)) (.cells #[.slice A s.cells.length c,.slice B s.tin.length d,.slice D s.tout.length e] 26);rw[World.size_alloc] at k1
 obtain⟨w2,hw2⟩:∃ x,(W.alloc (.cells #[.slice A1 p.vs.length c1,.slice A2 p.prs.length c2,.int .u8 p.m.k,.int .i64 p.m.n,.string p.m.s,.slice A3 p.m.ks.length c3] 35)).alloc (.cells #[.slice A s.cells.length c,.slice B s.tin.length d,.slice D s.tout.length e] 26)=x:=⟨_,rfl⟩
 rw[hw2] at hb2 k0 k1;have HB2:=zh hb2;have K0:=zh k0;have K1:=zh k1;have p0:w2.cell? ⟨W.heap.size,0,none⟩=some (.slice A1 p.vs.length c1):=zc k0 rfl;have p1:w2.cell? ⟨W.heap.size,1,none⟩=some (.slice A2 p.prs.length c2):=zc k0 rfl;have p2:w2.cell? ⟨W.heap.size,2,none⟩=some (.int .u8 p.m.k):=zc k0 rfl;have p3:w2.cell? ⟨W.heap.size,3,none⟩=some (.int .i64 p.m.n):=zc k0 rfl;have p4:w2.cell? ⟨W.heap.size,4,none⟩=some (.string p.m.s):=zc k0 rfl;have p5:w2.cell? ⟨W.heap.size,5,none⟩=some (.slice A3 p.m.ks.length c3):=zc k0 rfl;have s0:w2.cell? ⟨W.heap.size+1,0,none⟩=some (.slice A s.cells.length c):=zc k1 rfl;have s1:w2.cell? ⟨W.heap.size+1,1,none⟩=some (.slice B s.tin.length d):=zc k1 rfl;have s2:w2.cell? ⟨W.heap.size+1,2,none⟩=some (.slice D s.tout.length e):=zc k1 rfl;clear jK hr1 hr2 hr3 hR hb2 k0 k1 hl1 hl2 hl3 hl4 hc1 hc2 hc3;go_enter Tryz.func24,Tryz.ntmps24;go_wp2_with fail
 (try rw[hw2]);refine(xQ.out w2 HB2.out).mono ?_;rintro e3 w3 ⟨v1,v2,v3,rfl,ho3,hb3,hlm3⟩;obtain⟨A5,c5,B5,d5,D5,g5,h6⟩:=ho3.slices;injection h6 with h6;injection h6 with h6;injection h6 with h6 h7;injection h7 with h7 h8;injection h8 with h8 _;subst h6 h7 h8;have hb4:=zkd hb3 (.cells #[.slice A5 R.1.cells.length c5,.slice B5 R.1.tin.length d5,.slice D5 R.1.tout.length g5,.int .i64 (R.2.1:Int),.int .i64 R.2.2.1] 50);have k2:=heap_alloc_new w3 (.cells #[.slice A5 R.1.cells.length c5,.slice B5 R.1.tin.length d5,.slice D5 R.1.tout.length g5,.int .i64 (R.2.1:Int),.int .i64 R.2.2.1] 50);obtain⟨w4,hw4⟩:∃ x,w3.alloc (.cells #[.slice A5 R.1.cells.length c5,.slice B5 R.1.tin.length d5,.slice D5 R.1.tout.length g5,.int .i64 (R.2.1:Int),.int .i64 R.2.2.1] 50)=x:=⟨_,rfl⟩
 obtain⟨rb,hrb⟩:∃ x,w3.heap.size=x:=⟨_,rfl⟩
 rw[hw4] at hb4 k2;rw[hrb] at k2;have ax:=zh hb4;have K2:=zh k2;clear p0 p1 p2 p3 p4 p5 s0 s1 s2 hw2 ho3 hlm3 hb3 hb4;go_upto_region 2 with fail;(try rw[hw4]);(try rw[hrb]);clear hw4 hrb;have y2:w4.cell? ⟨rb,4,none⟩=some (.int .i64 R.2.2.1):=zc k2 rfl;clear k2;have dH:=zh (zka HB2.out ax.out);by_cases he:R.2.2.1≠0
 ·have e1:(R.2.2.1 != 0)=true:=by simpa using he
  clear xM jS mY xQ;go_upto_region 3 with fail
  go_quiet (fail)
  go_wp2_with fail;go_ret2;exact⟨zka dH.out (zkW (Below.refl _ _) nq),.inl ⟨he,rfl⟩⟩
 ·have he:=Decidable.not_not.1 he;obtain⟨S0,n0,e0,l0⟩:=R;change e0=0 at he;subst he;obtain⟨hvb,hch,hft,r,hrun,hres⟩:=xM.out rfl;simp only[Prod.mk.injEq] at hres;obtain⟨rfl,rfl,-,rfl⟩:=hres;have hfl:(r.n:Int)<=max F 0:=(jS.out rfl).1;obtain⟨L,pW,hn⟩:=zv1 hrun;simp only[Nat.zero_add] at hn;have fU:L.length<=900000:=by omega
  have xD:=zh pW;have HN:=zh hn;have HV:=zh hvb;have HC:=zh hch;have jD:=zh hft;have dN:=zh fU;have k0:=zkb K0.out ax.out;have k1:=zkb K1.out ax.out;have p0:w4.cell? ⟨W.heap.size,0,none⟩=some (.slice A1 p.vs.length c1):=zc k0 rfl;have s0:w4.cell? ⟨W.heap.size+1,0,none⟩=some (.slice A s.cells.length c):=zc k1 rfl;have s1:w4.cell? ⟨W.heap.size+1,1,none⟩=some (.slice B s.tin.length d):=zc k1 rfl;have s2:w4.cell? ⟨W.heap.size+1,2,none⟩=some (.slice D s.tout.length e):=zc k1 rfl;clear pW hn hvb hch hft fU k0 k1 xM jS hrun hfl xQ;go_wp2_with fail;refine(mY.out w4 dH.out).mono ?_;rintro e7 w7 ⟨b7,⟨hfit,rfl⟩|⟨hfit,P,rfl,uE⟩⟩
  ·have:=jD.out;rw[hfit] at this
   cases this
  have uL:=zh uE;have nL:=zh b7;have nN:=zh (zka ax.out b7);have HW7:=zh (zka dH.out b7);clear p0 s0 s1 s2 hfit uE y2 mY;go_upto_region 7 with fail;have aA:=zh (show ∀ w',Below w7.heap.size w7 w'->(fun w':World=>w'.cell? ⟨W.heap.size,0,none⟩=some (.slice A1 p.vs.length c1)/\w'.cell? ⟨W.heap.size,1,none⟩=some (.slice A2 p.prs.length c2)/\w'.cell? ⟨W.heap.size,2,none⟩=some (.int .u8 p.m.k)/\w'.cell? ⟨W.heap.size,3,none⟩=some (.int .i64 p.m.n)/\w'.cell? ⟨W.heap.size,4,none⟩=some (.string p.m.s)/\w'.cell? ⟨W.heap.size,5,none⟩=some (.slice A3 p.m.ks.length c3)) w' from fun w' hb=>by
   have k0:=zkb (zkb K0.out nN.out) hb;exact⟨zc k0 rfl,zc k0 rfl,zc k0 rfl,zc k0 rfl,zc k0 rfl,zc k0 rfl⟩)
  have hSS:(fun w':World=>w'.cell? ⟨W.heap.size,0,none⟩=some (.slice A1 p.vs.length c1)/\w'.cell? ⟨W.heap.size,1,none⟩=some (.slice A2 p.prs.length c2)/\w'.cell? ⟨W.heap.size,2,none⟩=some (.int .u8 p.m.k)/\w'.cell? ⟨W.heap.size,3,none⟩=some (.int .i64 p.m.n)/\w'.cell? ⟨W.heap.size,4,none⟩=some (.string p.m.s)/\w'.cell? ⟨W.heap.size,5,none⟩=some (.slice A3 p.m.ks.length c3)) w7.drew/\(fun _:World=>True) w7.drew:=⟨aA.out _ (Below.refl _ _).drew,trivial⟩
  refine wp_region_noPanic ?_;refine zkc (fun w':World=>w'.cell? ⟨W.heap.size,0,none⟩=some (.slice A1 p.vs.length c1)/\w'.cell? ⟨W.heap.size,1,none⟩=some (.slice A2 p.prs.length c2)/\w'.cell? ⟨W.heap.size,2,none⟩=some (.int .u8 p.m.k)/\w'.cell? ⟨W.heap.size,3,none⟩=some (.int .i64 p.m.n)/\w'.cell? ⟨W.heap.size,4,none⟩=some (.string p.m.s)/\w'.cell? ⟨W.heap.size,5,none⟩=some (.slice A3 p.m.ks.length c3)) (fun _:World=>True) 4 (by kernel_rfl) ?_;refine zT 0 hSS ?_;(try simp only[zQ]);refine zT 1 hSS ?_;(try simp only[zQ]);refine zT 2 hSS ?_;(try simp only[zQ]);have hks:=KS.new dH.out b7 uL.out;have had:Calls Tryz.prog 22 [.pointer (some ⟨P.sb,0,none⟩)].toArray w7.drew fun e W'=>∃ v,e=.returned v/\(OwnS W' w7.heap.size s v/\Below w7.heap.size w7 W') :=
   ((hks.later (Below.refl _ _).drew).state).mono fun e W' ⟨v,h1,h2,h3⟩=>⟨v,h1,by rw[zmD jD.out] at h2;exact h2,(Below.refl _ _).drew.trans h3⟩
  clear hSS b7 hks;refine zo 3 fun K hK=>?_;refine zkr (by rfl) (.func 22) [.tmp 34] _ (by rfl) 22 _ zqX (by rfl) _ (by rfl) _ had ?_;rintro v8 w8 ⟨fT,dC⟩;obtain⟨AX,cX,BX,dX,DX,gX,rfl⟩:=fT.slices;refine hK.out _ _ ⟨aA.out _ dC,trivial⟩ ?_;have iE:=zh fT;have fE:=zh dC;clear hK K had fT dC;obtain⟨x1,hx1⟩:∃ x,s.cells.length=x:=⟨_,rfl⟩
  obtain⟨x2,hx2⟩:∃ x,s.tin.length=x:=⟨_,rfl⟩
  obtain⟨x3,hx3⟩:∃ x,s.tout.length=x:=⟨_,rfl⟩
  rw[hx1,hx2,hx3];have nZ:=zh hx1;have dF:=zh hx2;have wy:=zh hx3;clear hx1 hx2 hx3;have hbt:=bTrc A1 A2 A3 AX BX DX p.vs.length c1 p.prs.length c2 p.m.ks.length c3 x1 cX x2 dX x3 gX p.m.k p.m.n p.m.s P.sb;(try simp only[zQ]);refine zp 4 fun K hK=>?_;(try simp only[zA,zB,zC]);go_simp;refine hK.out _ _ (aA.out _ fE.out) ?_;clear hK K;(try simp only[zQ]);refine zp 5 fun K hK=>?_;(try simp only[zA,zB,zC]);go_simp;have df:=zkd fE.out (.cells #[.slice A1 p.vs.length c1,.slice A2 p.prs.length c2,.int .u8 p.m.k,.int .i64 p.m.n,.string p.m.s,.slice A3 p.m.ks.length c3,.pointer (some ⟨P.sb,0,none⟩),.slice AX x1 cX,.slice BX x2 dX,.slice DX x3 gX,.slice none 0 0] 119)
  have kt:=heap_alloc_new w8 (.cells #[.slice A1 p.vs.length c1,.slice A2 p.prs.length c2,.int .u8 p.m.k,.int .i64 p.m.n,.string p.m.s,.slice A3 p.m.ks.length c3,.pointer (some ⟨P.sb,0,none⟩),.slice AX x1 cX,.slice BX x2 dX,.slice DX x3 gX,.slice none 0 0] 119);obtain⟨w9,eT⟩:∃ x,w8.alloc (.cells #[.slice A1 p.vs.length c1,.slice A2 p.prs.length c2,.int .u8 p.m.k,.int .i64 p.m.n,.string p.m.s,.slice A3 p.m.ks.length c3,.pointer (some ⟨P.sb,0,none⟩),.slice AX x1 cX,.slice BX x2 dX,.slice DX x3 gX,.slice none 0 0] 119)=x:=⟨_,rfl⟩
  have kZ:w9.heap.size=w8.heap.size+1:=by rw[<-eT];simp
  have HX89:=zh (show Below w8.heap.size w8 w9 from eT▸zkd (Below.refl _ _) _);obtain⟨tb,htb⟩:∃ x,w8.heap.size=x:=⟨_,rfl⟩
  rw[eT] at df kt ⊢;rw[htb] at kt kZ ⊢;have bT:=zh df;have KT:=zh kt;have xE:=zh (show w7.heap.size<=tb by rw[<-htb];exact fE.out.size);refine hK.out _ _ (aA.out _ df) ?_;clear hK K eT df kt hbt;(try simp only[zQ]);refine zp 6 fun K hK=>?_;(try simp only[zA,zB,zC]);go_simp;refine hK.out _ _ (aA.out _ bT.out) ?_;clear hK K;(try simp only[zQ]);refine zd ?_;refine NoPanic.normal ?_;obtain⟨C,hC⟩:∃ C:TC,C=⟨W,w4.heap.size,P.sb,tb,p,A1,c1,A2,c2,A3,c3,s,fun _=>False⟩:=⟨_,rfl⟩
  obtain⟨hvl,hpl,p8,-,hpm⟩:=zlf HV.out;have h47:=nL.out.size;have h7t:=xE.out;have lN:=zh (show C.Ok by
   rw[hC];exact⟨uQ.out,⟨by simp only;omega,fun h=>h⟩,fun q hq=>by have:=(p8 q hq).1;omega⟩)
  have HTI:=zh (show TI C w9 (newS p.vs s) [] by
   have hks:=(KS.new dH.out nL.out uL.out).also bT.out (kb':=fun b=>False\/b=tb\/(w7.heap.size<=b/\b<tb)) (fun b hb=>.inr (by
    rcases hb with hb|rfl|hb
    ·exact hb.elim
    ·exact⟨h7t,by rw[kZ];omega⟩
    ·exact⟨hb.1,by rw[kZ];omega⟩))
   have rz:FB 0 (newS p.vs s):=⟨by simp only[newS];omega,fun f hf=>by simp[newS] at hf⟩
   have hsm:s.Sm:=by
    have:=zoX hks.wf rz (by omega);rw[zmD jD.out] at this;exact this
   rw[hC];refine⟨⟨fun b=>w7.heap.size<=b/\b<tb,.slice AX x1 cX,.slice BX x2 dX,.slice DX x3 gX,.slice none 0 0,hks,fun b hb=>⟨by simp only;omega,fun h=>h,by simp only;omega⟩,KT.out,?_,⟨[],World.ownsRow_nil _ _ _ _,fun b hb=>(by cases hb),fun i hi=>(by cases hi)⟩,hsm,by simp⟩,rz⟩;have:=(iE.out.svR hsm.lim)
   rw[nZ.out,dF.out,wy.out] at this;exact this.keep (fun b hb hlt=>⟨⟨hb,by rw[<-htb];exact hlt⟩,fun e=>(by cases e)⟩) fun b hb hlt=>HX89.out.block b hlt)
  have av:=zh (zlg (G:=fun q t=>q=p.prs/\GP q t) lN.out HTI.out p.m (nv p.m.k p.m.n p.m.s A3 p.m.ks.length c3) false (zwT zvp xD.out) (by simpa using dN.out) (by rw[hC];exact uQ.out.main) (by rw[hC];exact fun u hu=>⟨rfl,zqw HV.out HC.out u hu⟩));rw[show C.tb=tb by rw[hC]] at av;have q2:w9.cell? ⟨W.heap.size,2,none⟩=some (.int .u8 p.m.k):=zc (zkb (zkb K0.out nN.out) bT.out) rfl;have q3:w9.cell? ⟨W.heap.size,3,none⟩=some (.int .i64 p.m.n):=zc (zkb (zkb K0.out nN.out) bT.out) rfl;have q4:w9.cell? ⟨W.heap.size,4,none⟩=some (.string p.m.s):=zc (zkb (zkb K0.out nN.out) bT.out) rfl;have q5:w9.cell? ⟨W.heap.size,5,none⟩=some (.slice A3 p.m.ks.length c3):=zc (zkb (zkb K0.out nN.out) bT.out) rfl;have aL:=zh hC;clear hvl hpl p8 hpm h47 hC htb HTI lN aA;go_wp2_with fail;refine av.out.mono ?_;rintro e10 bG ⟨rfl,hk10,dD,qU⟩
  clear q2 q3 q4 q5 av hk10;rw[aL.out] at dD qU;simp only[List.nil_append] at qU;obtain⟨⟨O,y1,y2,y3,ev,-,hO,hT,-,hE,-,-⟩,-⟩:=qU;have qE:bG.cell? ⟨tb,10,none⟩=some ev:=zc hT rfl;have HE:=zh (hE.lower (n1:=W.heap.size) (O':=fun b=>W.heap.size<=b) (by simp only;have:=dH.out.size;omega) (fun b hb=>by have:=(hO b hb).1;simp only at this;have:=dH.out.size;omega));have jX:=zh (show Below W.heap.size W bG from dD);clear hO hT hE dD;go_wp2_with fail;go_ret2;exact⟨jX.out,.inr ⟨rfl,_,L,ev,xD.out,rfl,by simp only;exact HN.out,jD.out,rfl,HE.out,dN.out⟩⟩
def xTt:T:=.nd 2 0 ⟨#[120]⟩ []
def oTt:T:=.nd 1 1 ⟨#[]⟩ []
def plTt:T:=.nd 40 0 ⟨#[]⟩ [xTt,oTt]
def miTt:T:=.nd 41 0 ⟨#[]⟩ [xTt,oTt]
def pgT:PG:=⟨[⟨⟨#[120]⟩,1,0⟩],[],.nd 57 0 ⟨#[]⟩ [plTt,miTt]⟩
theorem awT:(resO pgT ⟨[[0]],[],[]⟩ 9 20000 false).2.2.1=0:=by decide +kernel
theorem Tg.bas_inv {prs:List PR} {back:Bool} {t:T} {S S':ST} {L:List SS} (h:Tg prs (.stm back t) S L S') (hk:¬ (50<=t.k/\t.k<=55)):S'=(if back=true then zlp S t else doE S t).2/\L=[(if back=true then zlp S t else doE S t).2.state]:=by
 cases h<;>first|exact⟨rfl,rfl⟩|(exfalso;omega)
theorem evT:evsE ⟨[[0]],[],[]⟩ ([(doE (newS pgT.vs ⟨[[0]],[],[]⟩) plTt).2.state]++([(doE (doE (newS pgT.vs ⟨[[0]],[],[]⟩) plTt).2 miTt).2.state]++[]))=[[⟨0,0,0,1⟩],[⟨0,0,1,0⟩]]:=by decide +kernel
theorem TgT {S':ST} {L:List SS} (h:Tg pgT.prs (.blk false (blkL false pgT.m)) (newS pgT.vs ⟨[[0]],[],[]⟩) L S'):evsE ⟨[[0]],[],[]⟩ L=[[⟨0,0,0,1⟩],[⟨0,0,1,0⟩]]:=by
 have h:Tg pgT.prs (.blk false [plTt,miTt]) (newS pgT.vs ⟨[[0]],[],[]⟩) L S':=h
 cases h with
 | cons h1 h2 =>
  obtain⟨rfl,rfl⟩:=h1.bas_inv (by decide)
  cases h2 with
  | cons h3 h4 =>
   obtain⟨rfl,rfl⟩:=h3.bas_inv (by decide)
   cases h4
   exact evT
theorem EvR.nd {w:World} {n0:Nat} {O:Nat->Prop} {v:Value} {es:List (List CH)} (h:EvR w n0 O v es) (hl:0<es.length):∃ g cap,v=.slice (some ⟨g,0,none⟩) es.length cap/\∀ i (hi:i<es.length),∃ A c,w.cell? ⟨g,i,none⟩=some (.slice A es[i].length c)/\RowC w O A es[i]:=by
 obtain⟨xs,h1,h2,h3⟩:=h;rcases h1.2 with⟨e1,e2⟩|⟨g,cap,cur,e,hb,hg,-⟩
 ·omega
 ·subst e;refine⟨g,cap,rfl,fun i hi=>?_⟩;obtain⟨A,c,f1,f2,f3⟩:=h3 i hi;refine⟨A,c,?_,f3.keep (fun b hb _=>hb.1) fun _ _ _=>rfl⟩;rw[h1.cellAt i (by omega)];exact f1
theorem zux {W:World} {k n:Int} {s:ByteArray} (hf:Fld k n s):NV W Any (.nd k n s []) (nv k n s none 0 0):=NV.shut (ks:=[]) hf (by simp[LK]) (by simp) fun i hi=>by simp at hi
theorem fldT (k n:Int) (hk:0<=k/\k<256) (hn:I64 n):Fld k n ⟨#[]⟩:=⟨hk,hn,by decide⟩
theorem zxL (a0 a1 a2:Value) (w:World):(Instr.buildSlice 22 1 #[(0,.agg #[a0,a1,a2])]).run Tryz.prog w=.ok (.slice (some ⟨w.heap.size,0,none⟩) 1 1) (w.alloc (.cells #[a0,a1,a2] 83)):=by kernel_rfl
theorem zxO (A B:Option Addr) (l c m d:Nat) (k n:Int) (s:ByteArray) (w:World):(Instr.build 35 #[(0,.slice A l c),(2,nv k n s B m d)]).run Tryz.prog w=.ok (.agg #[.slice A l c,.slice none 0 0,.int .u8 k,.int .i64 n,.string s,.slice B m d]) w:=by kernel_rfl
theorem zxP (A:Option Addr) (l c:Nat) (w:World):(Instr.buildSlice 23 1 #[(0,.slice A l c)]).run Tryz.prog w=.ok (.slice (some ⟨w.heap.size,0,none⟩) 1 1) (w.alloc (.cells #[.slice A l c] 24)):=by kernel_rfl
theorem zxM (a0 a1 a2 a3 b0 b1 b2 b3:Value) (w:World):(Instr.buildSlice 27 2 #[(0,.agg #[a0,a1,a2,a3]),(1,.agg #[b0,b1,b2,b3])]).run Tryz.prog w=.ok (.slice (some ⟨w.heap.size,0,none⟩) 2 2) (w.alloc (.cells #[a0,a1,a2,a3,b0,b1,b2,b3] 29)):=by kernel_rfl
theorem bNkT (k:Int) (A:Option Addr) (l c:Nat) (w:World):(Instr.build 29 #[(0,.int .u8 k),(3,.slice A l c)]).run Tryz.prog w=.ok (nv k 0 ⟨#[]⟩ A l c) w:=by kernel_rfl
theorem bNx (w:World):(Instr.build 29 #[(0,.int .u8 2),(2,.string ⟨#[120]⟩)]).run Tryz.prog w=.ok (nv 2 0 ⟨#[120]⟩ none 0 0) w:=by kernel_rfl
theorem bNo (w:World):(Instr.build 29 #[(0,.int .u8 1),(1,.int .i64 1)]).run Tryz.prog w=.ok (nv 1 1 ⟨#[]⟩ none 0 0) w:=by kernel_rfl
theorem bCh3 (w:World):(Instr.build 64 #[(3,.int .i64 1)]).run Tryz.prog w=.ok (.agg #[.int .i64 0,.int .i64 0,.int .i64 0,.int .i64 1]) w:=by kernel_rfl
theorem bCh2 (w:World):(Instr.build 64 #[(2,.int .i64 1)]).run Tryz.prog w=.ok (.agg #[.int .i64 0,.int .i64 0,.int .i64 1,.int .i64 0]) w:=by kernel_rfl
theorem zxQ (a:Addr):a.add 0=a:=by unfold Addr.add;split<;>simp_all
theorem zvV (W:World) (x:Int) (hx:I64 x):SV ((W.alloc (.cells #[.int .i64 x] 3)).alloc (.cells #[.slice (some ⟨W.heap.size,0,none⟩) 1 1] 24)) Any ⟨[[x]],[],[]⟩ (.agg #[.slice (some ⟨W.heap.size+1,0,none⟩) 1 1,.slice none 0 0,.slice none 0 0]):=by
 have k0:=zkj (heap_alloc_new W (.cells #[.int .i64 x] 3)) (.cells #[.slice (some ⟨W.heap.size,0,none⟩) 1 1] 24);have k1:=heap_alloc_new (W.alloc (.cells #[.int .i64 x] 3)) (.cells #[.slice (some ⟨W.heap.size,0,none⟩) 1 1] 24);rw[World.size_alloc] at k1;refine⟨_,1,none,0,none,0,rfl,fun i hi=>?_,fun i hi=>by simp at hi,fun i hi=>by simp at hi,by simp,by simp,by simp,?_⟩
 ·have h0:i=0:=by simp at hi;exact hi
  subst h0;exact⟨⟨W.heap.size+1,0,none⟩,some ⟨W.heap.size,0,none⟩,1,rfl,trivial,zc k1 rfl,by simp,znE (xs:=[x]) k0 (by intro y hy;simp at hy;subst hy;exact hx)⟩
 ·exact⟨by simp[LI],fun l hl=>by simp at hl;subst hl;simp[LI],by simp,by simp⟩
theorem pv_T (w2:World):PV ((((w2.alloc (.cells #[.string ⟨#[120]⟩,.int .u8 1,.int .i64 0] 83)).alloc (.cells #[.int .u8 2,.int .i64 0,.string ⟨#[120]⟩,.slice none 0 0,.int .u8 1,.int .i64 1,.string ⟨#[]⟩,.slice none 0 0] 29)).alloc (.cells #[.int .u8 2,.int .i64 0,.string ⟨#[120]⟩,.slice none 0 0,.int .u8 1,.int .i64 1,.string ⟨#[]⟩,.slice none 0 0] 29)).alloc (.cells #[.int .u8 40,.int .i64 0,.string ⟨#[]⟩,.slice (some ⟨w2.heap.size+1,0,none⟩) 2 2,.int .u8 41,.int .i64 0,.string ⟨#[]⟩,.slice (some ⟨w2.heap.size+1+1,0,none⟩) 2 2] 29)) Any pgT (.agg #[.slice (some ⟨w2.heap.size,0,none⟩) 1 1,.slice none 0 0,.int .u8 57,.int .i64 0,.string ⟨#[]⟩,.slice (some ⟨w2.heap.size+1+1+1,0,none⟩) 2 2]):=by
 have n1:=ztC (w2.alloc (.cells #[.string ⟨#[120]⟩,.int .u8 1,.int .i64 0] 83)) 29 (S:=Any) trivial (fldT 40 0 (by decide) ⟨by decide,by decide⟩) (zux (W:=w2.alloc (.cells #[.string ⟨#[120]⟩,.int .u8 1,.int .i64 0] 83)) (k:=2) (n:=0) (s:=⟨#[120]⟩) ⟨by decide,⟨by decide,by decide⟩,by decide⟩) (zux (W:=w2.alloc (.cells #[.string ⟨#[120]⟩,.int .u8 1,.int .i64 0] 83)) (k:=1) (n:=1) (s:=⟨#[]⟩) (fldT 1 1 (by decide) ⟨by decide,by decide⟩))
 have n2:=ztC ((w2.alloc (.cells #[.string ⟨#[120]⟩,.int .u8 1,.int .i64 0] 83)).alloc (.cells #[.int .u8 2,.int .i64 0,.string ⟨#[120]⟩,.slice none 0 0,.int .u8 1,.int .i64 1,.string ⟨#[]⟩,.slice none 0 0] 29)) 29 (S:=Any) trivial (fldT 41 0 (by decide) ⟨by decide,by decide⟩) (zux (W:=(w2.alloc (.cells #[.string ⟨#[120]⟩,.int .u8 1,.int .i64 0] 83)).alloc (.cells #[.int .u8 2,.int .i64 0,.string ⟨#[120]⟩,.slice none 0 0,.int .u8 1,.int .i64 1,.string ⟨#[]⟩,.slice none 0 0] 29)) (k:=2) (n:=0) (s:=⟨#[120]⟩) ⟨by decide,⟨by decide,by decide⟩,by decide⟩) (zux (W:=(w2.alloc (.cells #[.string ⟨#[120]⟩,.int .u8 1,.int .i64 0] 83)).alloc (.cells #[.int .u8 2,.int .i64 0,.string ⟨#[120]⟩,.slice none 0 0,.int .u8 1,.int .i64 1,.string ⟨#[]⟩,.slice none 0 0] 29)) (k:=1) (n:=1) (s:=⟨#[]⟩) (fldT 1 1 (by decide) ⟨by decide,by decide⟩))
 have n3:=ztC (((w2.alloc (.cells #[.string ⟨#[120]⟩,.int .u8 1,.int .i64 0] 83)).alloc (.cells #[.int .u8 2,.int .i64 0,.string ⟨#[120]⟩,.slice none 0 0,.int .u8 1,.int .i64 1,.string ⟨#[]⟩,.slice none 0 0] 29)).alloc (.cells #[.int .u8 2,.int .i64 0,.string ⟨#[120]⟩,.slice none 0 0,.int .u8 1,.int .i64 1,.string ⟨#[]⟩,.slice none 0 0] 29)) 29 (S:=Any) trivial (fldT 57 0 (by decide) ⟨by decide,by decide⟩) (n1.later (zkd (Below.refl _ _) _)) n2
 have hk:=zkj (zkj (zkj (heap_alloc_new w2 (.cells #[.string ⟨#[120]⟩,.int .u8 1,.int .i64 0] 83)) (.cells #[.int .u8 2,.int .i64 0,.string ⟨#[120]⟩,.slice none 0 0,.int .u8 1,.int .i64 1,.string ⟨#[]⟩,.slice none 0 0] 29)) (.cells #[.int .u8 2,.int .i64 0,.string ⟨#[120]⟩,.slice none 0 0,.int .u8 1,.int .i64 1,.string ⟨#[]⟩,.slice none 0 0] 29)) (.cells #[.int .u8 40,.int .i64 0,.string ⟨#[]⟩,.slice (some ⟨w2.heap.size+1,0,none⟩) 2 2,.int .u8 41,.int .i64 0,.string ⟨#[]⟩,.slice (some ⟨w2.heap.size+1+1,0,none⟩) 2 2] 29);simp only[World.size_alloc] at n1 n2 n3;refine⟨some ⟨w2.heap.size,0,none⟩,1,none,0,_,2,rfl,zuh (vs:=[⟨⟨#[120]⟩,1,0⟩]) hk ?_,by decide,by decide,fun i hi=>by simp[pgT] at hi,by decide,by decide,n3⟩;intro v hv;simp at hv;subst hv;exact⟨by decide,⟨by decide,by decide⟩,by decide,by decide⟩
theorem zrL (w:World):Calls Tryz.prog 23 #[] w fun e w'=>e=.returned (.bool true)/\Below w.heap.size w w':=by
 have h1:=bNx;have h2:=bNo;have h3:=bV2;have h4:=zxL;have h5:=zxM;have h6:=bNkT;have h7:=zxO;have h8:=zpe;have h9:=zxP;have h10:=bS1;go_enter Tryz.func23,Tryz.ntmps23;go_upto_region 3 with fail;have hb2:=zkd (zkd (Below.refl w.heap.size w) (.cells #[.int .u8 2,.int .i64 0,.string ⟨#[120]⟩,.slice none 0 0] 29)) (.cells #[.int .u8 1,.int .i64 1,.string ⟨#[]⟩,.slice none 0 0] 29);have kx:=zkj (heap_alloc_new w (.cells #[.int .u8 2,.int .i64 0,.string ⟨#[120]⟩,.slice none 0 0] 29)) (.cells #[.int .u8 1,.int .i64 1,.string ⟨#[]⟩,.slice none 0 0] 29);have ko:=heap_alloc_new (w.alloc (.cells #[.int .u8 2,.int .i64 0,.string ⟨#[120]⟩,.slice none 0 0] 29)) (.cells #[.int .u8 1,.int .i64 1,.string ⟨#[]⟩,.slice none 0 0] 29);rw[World.size_alloc] at ko
 obtain⟨w2,hw2⟩:∃ x,(w.alloc (.cells #[.int .u8 2,.int .i64 0,.string ⟨#[120]⟩,.slice none 0 0] 29)).alloc (.cells #[.int .u8 1,.int .i64 1,.string ⟨#[]⟩,.slice none 0 0] 29)=x:=⟨_,rfl⟩
 rw[hw2] at hb2 kx ko ⊢;have HB2:=zh hb2;obtain⟨x0,x1,x2,x3⟩:=box4 kx;obtain⟨o0,o1,o2,o3⟩:=box4 ko;have y0:=fun o=>zkl x0 o;have y1:=fun o=>zkl x1 o;have y2:=fun o=>zkl x2 o;have y3:=fun o=>zkl x3 o;have q0:=fun o=>zkl o0 o;have q1:=fun o=>zkl o1 o;have q2:=fun o=>zkl o2 o;have q3:=fun o=>zkl o3 o;have Y0:=fun o p=>zkl (y0 o) p;have Y1:=fun o p=>zkl (y1 o) p;have Y2:=fun o p=>zkl (y2 o) p;have Y3:=fun o p=>zkl (y3 o) p;have Q0:=fun o p=>zkl (q0 o) p;have Q1:=fun o p=>zkl (q1 o) p;have Q2:=fun o p=>zkl (q2 o) p;have Q3:=fun o p=>zkl (q3 o) p;clear hw2 hb2 kx ko x0 x1 x2 x3 o0 o1 o2 o3;go_upto_region 4 with fail;have hn:=pv_T w2
 have kp:=heap_alloc_new (((((w2.alloc (.cells #[.string ⟨#[120]⟩,.int .u8 1,.int .i64 0] 83)).alloc (.cells #[.int .u8 2,.int .i64 0,.string ⟨#[120]⟩,.slice none 0 0,.int .u8 1,.int .i64 1,.string ⟨#[]⟩,.slice none 0 0] 29)).alloc (.cells #[.int .u8 2,.int .i64 0,.string ⟨#[120]⟩,.slice none 0 0,.int .u8 1,.int .i64 1,.string ⟨#[]⟩,.slice none 0 0] 29)).alloc (.cells #[.int .u8 40,.int .i64 0,.string ⟨#[]⟩,.slice (some ⟨w2.heap.size+1,0,none⟩) 2 2,.int .u8 41,.int .i64 0,.string ⟨#[]⟩,.slice (some ⟨w2.heap.size+1+1,0,none⟩) 2 2] 29))) (.cells #[.slice (some ⟨w2.heap.size,0,none⟩) 1 1,.slice none 0 0,.int .u8 57,.int .i64 0,.string ⟨#[]⟩,.slice (some ⟨w2.heap.size+1+1+1,0,none⟩) 2 2] 35);simp only[World.size_alloc] at kp
 have hb3:=zkd (zkd (zkd (zkd (zkd (Below.refl w2.heap.size w2) (.cells #[.string ⟨#[120]⟩,.int .u8 1,.int .i64 0] 83)) (.cells #[.int .u8 2,.int .i64 0,.string ⟨#[120]⟩,.slice none 0 0,.int .u8 1,.int .i64 1,.string ⟨#[]⟩,.slice none 0 0] 29)) (.cells #[.int .u8 2,.int .i64 0,.string ⟨#[120]⟩,.slice none 0 0,.int .u8 1,.int .i64 1,.string ⟨#[]⟩,.slice none 0 0] 29)) (.cells #[.int .u8 40,.int .i64 0,.string ⟨#[]⟩,.slice (some ⟨w2.heap.size+1,0,none⟩) 2 2,.int .u8 41,.int .i64 0,.string ⟨#[]⟩,.slice (some ⟨w2.heap.size+1+1,0,none⟩) 2 2] 29)) (.cells #[.slice (some ⟨w2.heap.size,0,none⟩) 1 1,.slice none 0 0,.int .u8 57,.int .i64 0,.string ⟨#[]⟩,.slice (some ⟨w2.heap.size+1+1+1,0,none⟩) 2 2] 35)
 obtain⟨w3,hw3⟩:∃ x,(((((w2.alloc (.cells #[.string ⟨#[120]⟩,.int .u8 1,.int .i64 0] 83)).alloc (.cells #[.int .u8 2,.int .i64 0,.string ⟨#[120]⟩,.slice none 0 0,.int .u8 1,.int .i64 1,.string ⟨#[]⟩,.slice none 0 0] 29)).alloc (.cells #[.int .u8 2,.int .i64 0,.string ⟨#[120]⟩,.slice none 0 0,.int .u8 1,.int .i64 1,.string ⟨#[]⟩,.slice none 0 0] 29)).alloc (.cells #[.int .u8 40,.int .i64 0,.string ⟨#[]⟩,.slice (some ⟨w2.heap.size+1,0,none⟩) 2 2,.int .u8 41,.int .i64 0,.string ⟨#[]⟩,.slice (some ⟨w2.heap.size+1+1,0,none⟩) 2 2] 29))).alloc (.cells #[.slice (some ⟨w2.heap.size,0,none⟩) 1 1,.slice none 0 0,.int .u8 57,.int .i64 0,.string ⟨#[]⟩,.slice (some ⟨w2.heap.size+1+1+1,0,none⟩) 2 2] 35)=x:=⟨_,rfl⟩
 obtain⟨pb,hpb⟩:∃ x,w2.heap.size+1+1+1+1=x:=⟨_,rfl⟩
 rw[hw3] at kp hb3 ⊢;rw[hpb] at kp ⊢;have HP:=zh (fun w' (hb:Below w3.heap.size w3 w')=>PV.later hn (zka (hw3▸zkd (Below.refl _ _) _) hb));have HB3:=zh (zka HB2.out hb3);have z0:w3.cell? ⟨pb,0,none⟩=some (.slice (some ⟨w2.heap.size,0,none⟩) 1 1):=zc kp rfl;have z1:w3.cell? ⟨pb,1,none⟩=some (.slice none 0 0):=zc kp rfl;have z2:w3.cell? ⟨pb,2,none⟩=some (.int .u8 57):=zc kp rfl;have z3:w3.cell? ⟨pb,3,none⟩=some (.int .i64 0):=zc kp rfl;have z4:w3.cell? ⟨pb,4,none⟩=some (.string ⟨#[]⟩):=zc kp rfl;have z5:w3.cell? ⟨pb,5,none⟩=some (.slice (some ⟨w2.heap.size+1+1+1,0,none⟩) 2 2):=zc kp rfl;clear y0 y1 y2 y3 q0 q1 q2 q3 Y0 Y1 Y2 Y3 Q0 Q1 Q2 Q3 kp hw3 hpb hn hb3;go_wp2_with fail;have hbf:=zkd (zkd (Below.refl w3.heap.size w3) (.cells #[.int .i64 0] 3)) (.cells #[.slice (some ⟨w3.heap.size,0,none⟩) 1 1] 24)
 have wF:=zh (zvP pgT ⟨[[0]],[],[]⟩ 9 20000 _ _ _ (HP.out _ hbf) (zvV w3 0 ⟨by decide,by decide⟩) (by decide) ⟨by decide,by decide⟩ (by decide) (by decide));refine wF.out.mono ?_;rintro e4 w4 ⟨hb4,⟨hne,-⟩|⟨-,S',L,ev,pW,-,-,-,rfl,hev,-⟩⟩
 ·exact absurd awT hne
 rw[TgT pW] at hev;obtain⟨g,cap,e4,vR⟩:=hev.nd (by decide);change ev=.slice (some ⟨g,0,none⟩) 2 cap at e4;subst e4;obtain⟨A0,c0,f0,r0⟩:=vR 0 (by decide);obtain⟨A1,c1,f1,r1⟩:=vR 1 (by decide);obtain⟨a0,rfl,-,m0,m1,m2,m3⟩:=r0 0 (by decide);obtain⟨a1,rfl,-,n0,n1,n2,n3⟩:=r1 0 (by decide);change w4.cell? ⟨g,0,none⟩=some (.slice (some a0) 1 c0) at f0;change w4.cell? ⟨g,1,none⟩=some (.slice (some a1) 1 c1) at f1;simp only[Nat.zero_mul,zxQ] at m0 m1 m2 m3 n0 n1 n2 n3;change w4.cell? a0=some (.int .i64 0) at m0;change w4.cell? _=some (.int .i64 0) at m1;change w4.cell? _=some (.int .i64 0) at m2;change w4.cell? _=some (.int .i64 1) at m3;change w4.cell? a1=some (.int .i64 0) at n0;change w4.cell? _=some (.int .i64 0) at n1;change w4.cell? _=some (.int .i64 1) at n2;change w4.cell? _=some (.int .i64 0) at n3;have hc3:=bCh3;have hc2:=bCh2;have ax:=zh (zka HB3.out (zka hbf hb4))
 clear hev pW hb4 hbf wF HP z0 z1 z2 z3 z4 z5 r0 r1 vR h1 h2 h3 h4 h5 h6 h7 h8 h9 h10;go_wp2_with fail;go_ret;exact⟨rfl,ax.out⟩
theorem EvR.len {w:World} {n0:Nat} {O:Nat->Prop} {v:Value} {s:SS} {L:List SS} (h:EvR w n0 O v (evsE s L)):∃ A c,v=.slice A L.length c:=by
 obtain⟨xs,h1,-⟩:=h;obtain⟨A,c,e,-⟩:=zke h1;exact⟨A,c,by rw[e,zlZ]⟩
structure SQ where
 len:Int
 el:List Int
def ext (l:List Int) (n:Nat):List Int:=l++List.replicate (n-l.length) 0
def chgQ (q:SQ) (c:CH):Int×SQ :=
 if c.at' < -1\/4096<=c.at' then (2,q)
 else if c.at' = -1/\(c.new<0\/4096<c.new) then (2,q)
 else if c.at' = -1/\c.old≠q.len then (20,q)
 else if c.at' = -1 then (0,{ q with len:=c.new })
 else if c.old≠q.el.getD c.at'.toNat 0 then (20,q)
 else (0,{ q with el:=(ext q.el (c.at'.toNat+1)).set c.at'.toNat c.new })
def lstQ (q:SQ):Option (List Int) :=
 if ((ext q.el q.len.toNat).drop q.len.toNat).all (fun x=>decide (x=0))=true then some ((ext q.el q.len.toNat).take q.len.toNat) else none
abbrev QM:=Int->Option SQ
def QM.put (m:QM) (c:Int) (q:SQ):QM:=fun d=>if d=c then some q else m d
theorem QM.put_same (m:QM) (c:Int) (q:SQ):m.put c q c=some q:=if_pos rfl
theorem QM.put_put (m:QM) (c:Int) (q q':SQ):(m.put c q).put c q'=m.put c q':=by
 funext d;unfold QM.put
 split<;>rfl
def zll:QM->List CH->Int×QM
 | m,[]=>(0,m)
 | m,c::l=>match m c.cell with
  | none=>(2,m)
  | some q=>if (chgQ q c).1≠0 then ((chgQ q c).1,m) else zll (m.put c.cell (chgQ q c).2) l
def QM.of (s:SS):QM:=fun c=>if c∈zkp s.cells.length then some ⟨(part s c).length,part s c⟩ else none
def zpA (m:QM):List Int->Option (List (List Int))
 | []=>some []
 | c::l=>match m c with
  | none=>none
  | some q=>match lstQ q with
   | none=>none
   | some x=>(zpA m l).map (x :: ·)
def zl6 (s:SS) (l:List CH):Int×SS :=
 if (zll (QM.of s) l).1≠0 then ((zll (QM.of s) l).1,⟨[],[],[]⟩)
 else match zpA (zll (QM.of s) l).2 (zkp s.cells.length) with
  | none=>(20,⟨[],[],[]⟩)
  | some ls=>(0,⟨ls.take s.cells.length,(ls.getD s.cells.length []).reverse,ls.getD (s.cells.length+1) []⟩)
theorem zpa (l:List Int) (n i:Nat):(ext l n).getD i 0=l.getD i 0:=by
 unfold ext;simp only[List.getD_eq_getElem?_getD];rcases Nat.lt_or_ge i l.length with h|h
 ·rw[List.getElem?_append_left h]
 ·rw[List.getElem?_append_right h,List.getElem?_eq_none h];rcases Nat.lt_or_ge (i-l.length) (n-l.length) with h2|h2
  ·rw[List.getElem?_replicate,if_pos h2];rfl
  ·rw[List.getElem?_replicate,if_neg (by omega)]
theorem znu (l:List Int) (n:Nat):(ext l n).length=max l.length n:=by
 unfold ext;simp;omega
theorem zsc {l:List Int} {i:Nat} (hi:i<l.length) (x:Int) (j:Nat):(l.set i x).getD j 0=if j=i then x else l.getD j 0:=by
 simp only[List.getD_eq_getElem?_getD,List.getElem?_set];by_cases h:i=j
 ·subst h;simp[hi]
 ·rw[if_neg h,if_neg (by omega)]
theorem zv8 {q:SQ} {y:List Int} (hl:q.len=y.length) (he:∀ j,q.el.getD j 0=y.getD j 0):lstQ q=some y:=by
 have hn:q.len.toNat=y.length:=by omega
 unfold lstQ;rw[hn];have hlen:=znu q.el y.length;rw[if_pos]
 ·congr 1;refine List.ext_getElem? fun i=>?_;rw[List.getElem?_take]
  split
  ·rename_i hi;have h1:=zpa q.el y.length i;rw[he i] at h1;simp only[List.getD_eq_getElem?_getD] at h1;rw[List.getElem?_eq_getElem (by omega),List.getElem?_eq_getElem hi] at h1 ⊢;simpa using h1
  ·rename_i hi;rw[List.getElem?_eq_none (by omega)]
 ·rw[List.all_eq_true];intro x hx;obtain⟨i,hi,rfl⟩:=List.getElem_of_mem hx;rw[List.length_drop] at hi;rw[List.getElem_drop,decide_eq_true_eq];have h1:=zpa q.el y.length (y.length+i);rw[he] at h1;simp only[List.getD_eq_getElem?_getD] at h1;rw[List.getElem?_eq_getElem (by omega),List.getElem?_eq_none (by omega:y.length<=y.length+i)] at h1;simpa using h1
theorem zni {x y:List Int} {c:Int}:∀ (k i:Nat) (m:QM) (q:SQ),i+k<=4096->m c=some q->(∀ j,q.el.getD j 0=if j<i then y.getD j 0 else x.getD j 0)->∀ l,
  ∃ q':SQ,q'.len=q.len/\(∀ j,q'.el.getD j 0=if j<i+k then y.getD j 0 else x.getD j 0)/\zll m ((List.range' i k).flatMap (chg1 c x y)++l)=zll (m.put c q') l
 | 0,i,m,q,hi,hm,he,l=>⟨q,rfl,he,by
  have:m.put c q=m:=by
   funext d;unfold QM.put
   split
   ·rename_i h;rw[h,hm]
   ·rfl
  rw[this];rfl⟩
 | k+1,i,m,q,hi,hm,he,l=>by
  rw[List.range'_succ,List.flatMap_cons,List.append_assoc];by_cases hxy:x.getD i 0≠y.getD i 0
  ·have hq:chgQ q ⟨c,i,x.getD i 0,y.getD i 0⟩=(0,{ q with el:=(ext q.el (i+1)).set i (y.getD i 0) }):=by
    unfold chgQ;simp only[Int.toNat_natCast];rw[if_neg (by omega),if_neg (by omega),if_neg (by omega),if_neg (by omega),if_neg (by rw[he i,if_neg (by omega)];simp)]
   have hlen:=znu q.el (i+1);obtain⟨q',h1,h2,h3⟩:=zni (x:=x) (y:=y) (c:=c) k (i+1) (m.put c { q with el:=(ext q.el (i+1)).set i (y.getD i 0) }) { q with el:=(ext q.el (i+1)).set i (y.getD i 0) } (by omega) (QM.put_same _ _ _) (fun j=>by
    rw[zsc (by omega),zpa,he j];by_cases h1:j=i
    ·subst h1;rw[if_pos rfl,if_pos (by omega)]
    ·rw[if_neg h1];by_cases h2:j<i
     ·rw[if_pos h2,if_pos (by omega)]
     ·rw[if_neg h2,if_neg (by omega)]) l
   refine⟨q',h1,fun j=>by rw[h2 j,show i+1+k=i+(k+1) by omega],?_⟩;rw[show chg1 c x y i=[⟨c,i,x.getD i 0,y.getD i 0⟩] by unfold chg1;rw[if_pos hxy]];simp only[List.cons_append,List.nil_append];rw[zll];simp only[hm,hq];rw[if_neg (by simp)];rw[QM.put_put] at h3;exact h3
  ·have hxy':x.getD i 0=y.getD i 0:=by simpa using hxy
   obtain⟨q',h1,h2,h3⟩:=zni (x:=x) (y:=y) (c:=c) k (i+1) m q (by omega) hm (fun j=>by
    rw[he j];by_cases h1:j=i
    ·subst h1;rw[if_neg (by omega),if_pos (by omega),hxy']
    ·by_cases h2:j<i
     ·rw[if_pos h2,if_pos (by omega)]
     ·rw[if_neg h2,if_neg (by omega)]) l
   refine⟨q',h1,fun j=>by rw[h2 j,show i+1+k=i+(k+1) by omega],?_⟩;rw[show chg1 c x y i=[] by unfold chg1;rw[if_neg hxy]];exact h3
theorem ztr {x y:List Int} {c:Int} {m:QM} {q:SQ} (hx:x.length<=4096) (hy:y.length<=4096) (hm:m c=some q) (hq:q.len=x.length) (he:∀ j,q.el.getD j 0=x.getD j 0) (l:List CH) :
  ∃ q':SQ,q'.len=(y.length:Int)/\(∀ j,q'.el.getD j 0=y.getD j 0)/\zll m (dif1 c x y++l)=zll (m.put c q') l:=by
 have fin:∀ j,(if j<0+max x.length y.length then y.getD j 0 else x.getD j 0)=y.getD j 0:=fun j=>by
  split
  ·rfl
  ·rename_i h;simp only[List.getD_eq_getElem?_getD];rw[List.getElem?_eq_none (by omega),List.getElem?_eq_none (by omega)]
 unfold dif1;rw[List.append_assoc,List.range_eq_range'];by_cases hl:x.length≠y.length
 ·obtain⟨q',h1,h2,h3⟩:=zni (x:=x) (y:=y) (c:=c) (max x.length y.length) 0 (m.put c { q with len:=y.length }) { q with len:=y.length } (by omega) (QM.put_same _ _ _) (fun j=>by rw[if_neg (by omega)];exact he j) l;refine⟨q',h1,fun j=>by rw[h2 j];exact fin j,?_⟩;have hc:chgQ q ⟨c,-1,x.length,y.length⟩=(0,{ q with len:=y.length }):=by
   unfold chgQ;simp only;rw[if_neg (by omega),if_neg (by omega),if_neg (by omega),if_pos trivial]
  unfold chgL;rw[if_pos hl];simp only[List.cons_append,List.nil_append];rw[zll];simp only[hm,hc];rw[if_neg (by simp),h3,QM.put_put]
 ·have hl':x.length=y.length:=by simpa using hl
  obtain⟨q',h1,h2,h3⟩:=zni (x:=x) (y:=y) (c:=c) (max x.length y.length) 0 m q (by omega) hm (fun j=>by rw[if_neg (by omega)];exact he j) l;refine⟨q',by rw[h1,hq,hl'],fun j=>by rw[h2 j];exact fin j,?_⟩;unfold chgL;rw[if_neg hl];exact h3
def QR (m:QM) (c:Int) (x:List Int):Prop:=∃ q:SQ,m c=some q/\q.len=(x.length:Int)/\∀ j,q.el.getD j 0=x.getD j 0
theorem zpP {s x:SS}:∀ (cs:List Int) (m:QM),cs.Nodup->(∀ c∈cs,(part s c).length<=4096/\(part x c).length<=4096)->(∀ c∈cs,QR m c (part s c)) ->
  ∃ m',zll m (cs.flatMap fun c=>dif1 c (part s c) (part x c))=(0,m')/\(∀ c∈cs,QR m' c (part x c))/\∀ c,c ∉ cs->m' c=m c
 | [],m,_,_,_=>⟨m,rfl,fun c h=>(by cases h),fun _ _=>rfl⟩
 | c::cs,m,hn,hl,hr=>by
  rw[List.nodup_cons] at hn;obtain⟨q,h1,h2,h3⟩:=hr c (List.mem_cons_self ..);obtain⟨h4,h5⟩:=hl c (List.mem_cons_self ..);obtain⟨q',g1,g2,g3⟩:=ztr h4 h5 h1 h2 h3 (cs.flatMap fun c=>dif1 c (part s c) (part x c));obtain⟨m',f1,f2,f3⟩:=zpP cs (m.put c q') hn.2 (fun d hd=>hl d (List.mem_cons_of_mem _ hd)) (fun d hd=>by
   obtain⟨q2,k1,k2,k3⟩:=hr d (List.mem_cons_of_mem _ hd);have hne:¬ (d=c):=fun e=>hn.1 (e▸hd);exact⟨q2,(show m.put c q' d=some q2 from (if_neg hne).trans k1),k2,k3⟩)
  refine⟨m',by rw[List.flatMap_cons,g3];exact f1,fun d hd=>?_,fun d hd=>?_⟩
  ·rcases List.mem_cons.1 hd with rfl|hd
   ·exact⟨q',by rw[f3 d hn.1];exact QM.put_same _ _ _,g1,g2⟩
   ·exact f2 d hd
  ·rw[List.mem_cons,not_or] at hd;rw[f3 d hd.2];exact if_neg hd.1
theorem zoj (n:Nat):(zkp n).Nodup:=by
 unfold zkp;rw[List.nodup_append];refine⟨?_,by decide,fun a ha b hb=>?_⟩
 ·unfold List.Nodup;rw[List.pairwise_map];exact List.nodup_range.imp fun h e=>h (Int.ofNat.inj e)
 ·obtain⟨i,-,rfl⟩:=List.mem_map.1 ha;have:b = -1\/b = -2:=by simpa using hb
  intro e;have:(Int.ofNat i:Int)=(i:Int):=rfl;omega
theorem zsz {x:SS} {m:QM}:∀ cs:List Int,(∀ c∈cs,QR m c (part x c))->zpA m cs=some (cs.map (part x))
 | [],_=>rfl
 | c::cs,h=>by
  obtain⟨q,h1,h2,h3⟩:=h c (List.mem_cons_self ..);rw[zpA,h1];simp only;rw[zv8 h2 h3];simp only;rw[zsz cs fun d hd=>h d (List.mem_cons_of_mem _ hd)];rfl
theorem zv4 (x:SS):(zkp x.cells.length).map (part x)=x.cells++[x.tin.reverse,x.tout]:=by
 unfold zkp;rw[List.map_append,List.map_map];congr 1;refine List.ext_getElem (by simp) fun i h1 h2=>?_;have hi:(Int.ofNat i:Int)=(i:Int):=rfl;simp only[List.getElem_map,List.getElem_range,Function.comp];unfold part;rw[hi,if_neg (by omega),if_neg (by omega),Int.toNat_natCast,List.getD_eq_getElem?_getD,List.getElem?_eq_getElem h2];rfl
theorem zrP {s x:SS} (hc:s.cells.length=x.cells.length) (hl:∀ c∈zkp s.cells.length,(part s c).length<=4096/\(part x c).length<=4096):zl6 s (zlR s x)=(0,x):=by
 have hd:zlR s x=(zkp s.cells.length).flatMap fun c=>dif1 c (part s c) (part x c):=by
  unfold zlR;rw[if_neg (by simp[hc])]
 rw[hd];unfold zl6;obtain⟨m',h1,h2,-⟩:=zpP (s:=s) (x:=x) (zkp s.cells.length) (QM.of s) (zoj _) hl (fun c hc=>⟨⟨(part s c).length,part s c⟩,if_pos hc,rfl,fun _=>rfl⟩);rw[h1];simp only;rw[if_neg (by simp),zsz _ h2,hc,zv4];simp
structure SqV (W:World) (n0:Nat) (B:Nat->Prop) (b:Nat) (q:SQ) (v:Value):Prop where
 box:W.heap[b]?=some (.cells #[.int .i64 q.len,v] 128 (0,0))
 row:W.ownsRow n0 3 1 v q.el.length (zkf q.el)
 own:∀ g,v.ownBlock=some g->B g/\g≠b
 bb:B b
 nb:n0<=b
 i:∀ x∈q.el,I64 x
def SqB (W:World) (n0:Nat) (B:Nat->Prop) (b:Nat) (q:SQ):Prop:=∃ v,SqV W n0 B b q v
section
variable {W W' w0 w':World} {n0 b:Nat} {B B':Nat->Prop} {q:SQ} {v v':Value}
theorem SqV.keep (h:SqV W n0 B b q v) (hk:∀ g,B g->g<W.heap.size->W'.heap[g]?=W.heap[g]?):SqV W' n0 B b q v :=
 ⟨(hk b h.bb (zkk h.box)).trans h.box,zmB h.row fun g hg=>hk g (h.own g hg).1 (h.row.lt g hg).2,h.own,h.bb,h.nb,h.i⟩
theorem SqV.later (h:SqV W n0 B b q v) (hb:Below W.heap.size W W'):SqV W' n0 B b q v:=h.keep fun g _ hlt=>hb.block g hlt
theorem SqV.mono (h:SqV W n0 B b q v) (hB:∀ g,B g->g<W.heap.size->B' g):SqV W n0 B' b q v :=
 ⟨h.box,h.row,fun g hg=>⟨hB g (h.own g hg).1 (h.row.lt g hg).2,(h.own g hg).2⟩,hB b h.bb (zkk h.box),h.nb,h.i⟩
theorem SqB.keep (h:SqB W n0 B b q) (hk:∀ g,B g->g<W.heap.size->W'.heap[g]?=W.heap[g]?):SqB W' n0 B b q:=let ⟨v,h⟩:=h;⟨v,h.keep hk⟩
theorem SqB.later (h:SqB W n0 B b q) (hb:Below W.heap.size W W'):SqB W' n0 B b q:=let ⟨v,h⟩:=h;⟨v,h.later hb⟩
theorem SqB.mono (h:SqB W n0 B b q) (hB:∀ g,B g->g<W.heap.size->B' g):SqB W n0 B' b q:=let ⟨v,h⟩:=h;⟨v,h.mono hB⟩
def zme (B:Nat->Prop) (lo hi:Nat):Nat->Prop:=fun g=>B g\/(lo<=g/\g<hi)
theorem SqB.add (h:SqB W n0 B b q) (lo hi:Nat):SqB W n0 (zme B lo hi) b q:=h.mono fun _ h _=>.inl h
theorem SqV.push {x:Int} (h:SqV W n0 B b q v) (hx:I64 x) (hb0:Below W.heap.size W w0) (ho:w'.ownsRow n0 3 1 v' (q.el.length+1) (zkf q.el++zkf [x])) (hg:w0.grownBy w' v.ownBlock) (aH:v'.ownBlock=v.ownBlock\/v'.ownBlock=some w0.heap.size) :
  (w'.cell? ⟨b,1,none⟩=some v/\∀ o,w'.frozen? ⟨b,o,none⟩=false)/\SqB (w'.setCell ⟨b,1,none⟩ v') n0 (zme B W.heap.size (w'.setCell ⟨b,1,none⟩ v').heap.size) b ⟨q.len,q.el++[x]⟩/\Chg B W (w'.setCell ⟨b,1,none⟩ v'):=by
 have hlt:=zkk h.box;have hbv:some b≠v.ownBlock:=fun e=>(h.own b e.symm).2 rfl;have hbx:w'.heap[b]?=some (.cells #[.int .i64 q.len,v] 128 (0,0)):=(hg.block b (Nat.lt_of_lt_of_le hlt hb0.size) hbv).trans (zkb h.box hb0);have hch:Chg (fun g=>g=b) w' (w'.setCell ⟨b,1,none⟩ v'):=(Chg.refl (fun g=>g=b) w').setCell (p:=⟨b,1,none⟩) (.inl rfl) _;have hne:∀ g,v'.ownBlock=some g->g≠b:=fun g e=>by
  rcases aH with h1|h1
  ·exact(h.own g (h1▸e)).2
  ·rw[h1] at e;injection e with e;have:=hb0.size;omega
 have h0:=hb0.size;have h1:=hg.size;have h2:=hch.size;refine⟨⟨zc hbx rfl,fun o=>zf hbx⟩,⟨v',?_,?_,?_,.inl h.bb,h.nb,?_⟩,?_⟩
 ·have:=heap_setCell_same w' b 1 _ _ v' hbx;simpa using this
 ·have e:zkf (q.el++[x])=zkf q.el++zkf [x]:=by simp[zkf]
  show World.ownsRow _ _ _ _ _ (q.el++[x]).length (zkf (q.el++[x]))
  rw[e,List.length_append];exact zmB ho fun g hg=>hch.block g (ho.lt g hg).2 (hne g hg)
 ·intro g e;refine⟨?_,hne g e⟩;rcases aH with h3|h3
  ·exact .inl (h.own g (h3▸e)).1
  ·rw[h3] at e;injection e with e;have:=(ho.lt g (by rw[h3,e])).2;exact .inr ⟨by omega,by omega⟩
 ·intro y hy;rcases List.mem_append.1 hy with hy|hy
  ·exact h.i y hy
  ·simp at hy;subst hy;exact hx
 ·have c0:Chg B W w0:=Chg.of_below hb0;have c1:Chg B W w':=c0.trans2 (Chg.row hg) fun g _ e=>(h.own g e).1;exact c1.trans2 hch fun g _ e=>by have e:g=b:=e;subst e;exact h.bb
def sql (b:Nat) (W:World):Nat:=match W.cell? ⟨b,1,none⟩ with
 | some (.slice _ n _)=>n
 | _=>0
theorem zvx (h:SqB W n0 B b q):sql b W=q.el.length:=by
 obtain⟨v,h⟩:=h;obtain⟨A,c,rfl,-⟩:=zke h.row;unfold sql;rw[show W.cell? ⟨b,1,none⟩=some (.slice A q.el.length c) from zc h.box rfl]
end
theorem zoR {W:World} {n0 b:Nat} {B:Nat->Prop} {q:SQ} (h:SqB W n0 B b q) (n:Int) (hn:I64 n) (hn2:n<=1000001) (hnw:n0<=W.heap.size) :
  Calls Tryz.prog 121 #[.pointer (some ⟨b,0,none⟩),.int .i64 n] W fun e W'=>(∃ u,e=.returned u)/\SqB W' n0 (zme B W.heap.size W'.heap.size) b ⟨q.len,ext q.el n.toNat⟩/\Chg B W W':=by
 have H:=zh h;have h1:=zpe;clear h;go_enter Tryz.func121,Tryz.ntmps121;go_wp2_with fail
 go_loopw [] (fun wr=>∃ j:Nat,Hid (j<=n.toNat-q.el.length)/\Hid (SqB wr n0 (zme B W.heap.size wr.heap.size) b ⟨q.len,q.el++List.replicate j 0⟩)/\Hid (Chg B W wr)) (fun wr=>n.toNat-sql b wr)
 case atStart=>exact⟨0,zh (Nat.zero_le _),zh (by simpa using H.out.add _ _),zh (Chg.refl _ _)⟩
 case round =>
  obtain⟨j,HJ,HS,aQ⟩:=hrel;obtain⟨v,hv⟩:=HS.out;have HV:=zh hv;obtain⟨A,c,ev,-⟩:=zke hv.row;obtain⟨m,hm⟩:∃ m,(q.el++List.replicate j (0:Int)).length=m:=⟨_,rfl⟩
  change v=.slice A (q.el++List.replicate j (0:Int)).length c at ev;rw[hm] at ev;subst ev;have HM:=zh hm;have x1:wr.cell? ⟨b,1,none⟩=some (.slice A m c):=zc hv.box rfl;have hrow:wr.ownsRow n0 3 1 (.slice A m c) m (zkf (q.el++List.replicate j (0:Int))):=by have:=hv.row;rw[show(⟨q.len,q.el++List.replicate j (0:Int)⟩:SQ).el.length=m from hm] at this;exact this
  have HSQ:=zh (zvx HS.out);clear hv hm;by_cases hlt:(m:Int)<n
  ·have hbz:=zkd (Below.refl wr.heap.size wr) (.cells #[.int .i64 0] 3);have jZ:=zkB hrow hbz;have aY:RowI (wr.alloc (.cells #[.int .i64 0] 3)) Any (some ⟨wr.heap.size,0,none⟩) [0]:=znE (xs:=[0]) (heap_alloc_new wr _) (by intro x hx;simp at hx;subst hx;exact⟨by decide,by decide⟩);have hln:m+1<=17592186044416:=by omega
   have hsz:n0<=(wr.alloc (.cells #[.int .i64 0] 3)).heap.size:=by have:=aQ.out.size;have:=hbz.size;omega
   have y1:=fun o=>zkl x1 o;have HX:=zh (show ∀ v' w',w'.ownsRow n0 3 1 v' (m+[(0:Int)].length) (zkf (q.el++List.replicate j (0:Int))++zkf [0])->(wr.alloc (.cells #[.int .i64 0] 3)).grownBy w' (Value.slice A m c).ownBlock->(v'.ownBlock=(Value.slice A m c).ownBlock\/v'.ownBlock=some (wr.alloc (.cells #[.int .i64 0] 3)).heap.size) ->
     ∃ A' c',v'=.slice A' (m+1) c'/\w'.cell? ⟨b,1,none⟩=some (.slice A m c)/\(∀ o,w'.frozen? ⟨b,o,none⟩=false)/\SqB (w'.setCell ⟨b,1,none⟩ v') n0 (zme B W.heap.size (w'.setCell ⟨b,1,none⟩ v').heap.size) b ⟨q.len,q.el++List.replicate (j+1) 0⟩/\Chg B W (w'.setCell ⟨b,1,none⟩ v') from fun v' w' ho hg aH=>by
    obtain⟨A',c',e',-⟩:=zke ho;obtain⟨⟨p1,p2⟩,p3,p4⟩:=HV.out.push (x:=0) ⟨by decide,by decide⟩ hbz (by rw[show(⟨q.len,q.el++List.replicate j (0:Int)⟩:SQ).el.length=m from HM.out];exact ho) hg aH;refine⟨A',c',e',p1,p2,?_,aQ.out.trans2 p4 fun g hlt hg=>?_⟩
    ·have e:(q.el++List.replicate j (0:Int))++[0]=q.el++List.replicate (j+1) 0:=by rw[List.append_assoc,List.replicate_succ']
     rw[e] at p3;refine p3.mono fun g hg _=>?_;rcases hg with(hg|hg)|hg
     ·exact .inl hg
     ·have:=p4.size;exact .inr ⟨hg.1,by omega⟩
     ·have:=aQ.out.size;exact .inr ⟨by omega,hg.2⟩
    ·rcases hg with hg|hg
     ·exact hg
     ·omega)
   go_wp2_with (at_builtin;refine zlL rfl (.tmp 15) (.tmp 16) rfl n0 (.slice A m c) m (zkf (q.el++List.replicate j (0:Int))) rfl jZ (some ⟨wr.heap.size,0,none⟩) [0] 1 rfl aY (by simp;omega) hsz ?_;intro v' w' ho hg aH;obtain⟨A',c',rfl,z1,zf,hs2,hc2⟩:=HX.out _ _ ho hg aH;clear ho hg aH)
   refine⟨⟨j+1,zh (by have:=HM.out;simp at this;omega),zh hs2,zh hc2⟩,?_⟩;rw[zvx hs2,HSQ.out];have:=HM.out;simp at this ⊢;omega
  ·go_wp2_with fail;go_end0;refine⟨⟨_,rfl⟩,?_,aQ.out⟩;have e:q.el++List.replicate j (0:Int)=ext q.el n.toNat:=by
    unfold ext;have e1:=HM.out;have e2:=HJ.out;simp only[List.length_append,List.length_replicate] at e1;rw[show j=n.toNat-q.el.length by omega]
   rw[<-e];exact HS.out
theorem zw8:IsFn Tryz.prog 120 Tryz.f120:=⟨Tryz.func120,by kernel_rfl,by kernel_rfl⟩
def ChqP (W:World) (n0:Nat) (B:Nat->Prop) (b:Nat) (R:Int×SQ) (e:Ending) (W':World):Prop:=e=.returned (.int .i64 R.1)/\SqB W' n0 (zme B W.heap.size W'.heap.size) b R.2/\Chg B W W'
theorem zrH {W:World} {n0 b:Nat} {B:Nat->Prop} {q:SQ} (h:SqB W n0 B b q) (cc co cn:Int) (i:Nat) (hi:i<4096) (hcn:I64 cn) (hnw:n0<=W.heap.size) (hel:q.el.length<=1000000) :
  Calls Tryz.prog 69 #[.pointer (some ⟨b,0,none⟩),.agg #[.int .i64 cc,.int .i64 (i:Int),.int .i64 co,.int .i64 cn]] W (ChqP W n0 B b (chgQ q ⟨cc,i,co,cn⟩)):=by
 have hb1:=zkd (Below.refl W.heap.size W) (.cells #[.int .i64 cc,.int .i64 (i:Int),.int .i64 co,.int .i64 cn] 64);have k1:=heap_alloc_new W (.cells #[.int .i64 cc,.int .i64 (i:Int),.int .i64 co,.int .i64 cn] 64);obtain⟨w1,hw1⟩:∃ x,W.alloc (.cells #[.int .i64 cc,.int .i64 (i:Int),.int .i64 co,.int .i64 cn] 64)=x:=⟨_,rfl⟩
 rw[hw1] at hb1 k1;obtain⟨x0,x1,x2,x3⟩:=box4 k1;have H:=zh h;have K1:=zh k1;have HB1:=zh hb1;have HEL:=zh hel;have jU:=zh (show ∀ w',Below w1.heap.size w1 w'->SqB w' n0 (zme B W.heap.size w'.heap.size) b q/\Chg B W w' from fun w' hb=>⟨(H.out.later (zka HB1.out hb)).add _ _,Chg.of_below (zka HB1.out hb)⟩);obtain⟨R,hR⟩:∃ R,chgQ q ⟨cc,(i:Int),co,cn⟩=R:=⟨_,rfl⟩
 rw[hR];unfold chgQ at hR;dsimp only at hR;clear h k1 hb1 hel;have h1:¬ ((i:Int) < -1):=by omega
 have h2:¬ (4096<=(i:Int)):=by omega
 have h3:¬ ((i:Int) = -1):=by omega
 have e3:((i:Int) == -1)=false:=by rw[beq_eq_false_iff_ne];exact h3
 rw[if_neg (by omega),if_neg (fun h=>h3 h.1),if_neg (fun h=>h3 h.1),if_neg h3] at hR;go_enter Tryz.func69,Tryz.ntmps69;go_upto_region 1 with fail;(try rw[hw1]);clear hw1;simp only[Int.toNat_natCast] at hR;obtain⟨v,hv⟩:=H.out;have HV:=zh hv;obtain⟨A,k,ev,hkc⟩:=zke hv.row;subst ev;obtain⟨Aq,kq,eq,-,aY⟩:=zlh (w:=W) (xs:=q.el) (by simpa[zkf] using hv.row) hv.i;simp only[Value.slice.injEq,true_and] at eq;obtain⟨rfl,rfl⟩:=eq;obtain⟨x,hx⟩:∃ x,q.el.getD i 0=x:=⟨_,rfl⟩
 have HEL1:=zh (fun w' (hb:Below W.heap.size W w')=>zlQ q.el A k i w' ((aY.keep (fun _ _ _=>trivial) fun _ _ _=>rfl).later hb) (by unfold LI;have:=HEL.out;omega));rw[hx] at HEL1 hR;go_upto_region 5 with fail
 go_quiet (fail)
 obtain⟨w2,hw2⟩:∃ w2,w1.drewN nq=w2:=⟨_,rfl⟩
 have hb2:Below w1.heap.size w1 w2:=hw2▸zkW (Below.refl _ _) nq;rw[hw2];have z0:=zb hb2 x0;have z1:=zb hb2 x1;have z2:=zb hb2 x2;have z3:=zb hb2 x3;have HB2:=zh (zka HB1.out hb2);have cK:=zh hb2;have K2:=zh (zkb K1.out hb2);clear hw2 hb2 x0 x1 x2 x3 hv aY;go_upto_region 10 with fail;have aA:=zh (show ∀ w',Below w2.heap.size w2 w'->(fun w':World=>w'.cell? ⟨b,1,none⟩=some (.slice A q.el.length k)/\w'.cell? ⟨W.heap.size,1,none⟩=some (.int .i64 (i:Int))/\w'.cell? ⟨W.heap.size,2,none⟩=some (.int .i64 co)) w' from fun w' hb=>⟨zc (zkb (zkb HV.out.box HB2.out) hb) rfl,zb hb z1,zb hb z2⟩);have hSS:(fun w':World=>w'.cell? ⟨b,1,none⟩=some (.slice A q.el.length k)/\w'.cell? ⟨W.heap.size,1,none⟩=some (.int .i64 (i:Int))/\w'.cell? ⟨W.heap.size,2,none⟩=some (.int .i64 co)) w2.drew/\(fun _:World=>True) w2.drew:=⟨aA.out _ (Below.refl _ _).drew,trivial⟩
 refine wp_region_noPanic ?_;refine zkc (fun w':World=>w'.cell? ⟨b,1,none⟩=some (.slice A q.el.length k)/\w'.cell? ⟨W.heap.size,1,none⟩=some (.int .i64 (i:Int))/\w'.cell? ⟨W.heap.size,2,none⟩=some (.int .i64 co)) (fun _:World=>True) 9 (by kernel_rfl) ?_;refine zT 0 hSS ?_;(try simp only[zQ]);refine zT 1 hSS ?_;(try simp only[zQ]);refine zT 2 hSS ?_;(try simp only[zQ]);refine zT 3 hSS ?_;(try simp only[zQ]);refine zT 4 hSS ?_;(try simp only[zQ]);refine zT 5 hSS ?_;(try simp only[zQ]);refine zT 6 hSS ?_;(try simp only[zQ]);refine zT 7 hSS ?_;(try simp only[zQ]);have had:Calls Tryz.prog 120 [.slice A q.el.length k,.int .i64 (i:Int)].toArray w2.drew fun e w'=>∃ u,e=.returned u/\(u=.int .i64 x/\w'=w2.drew) :=
  (HEL1.out w2.drew (HB2.out.trans (Below.refl _ _).drew)).mono fun e w' ⟨g1,g2⟩=>⟨_,g1,rfl,g2⟩
 refine zo 8 fun K hK=>?_
 set_option pp.deepTerms true in
 set_option pp.maxSteps 1000000 in
 refine zkr (by rfl) (.func 120) [.tmp 56,.tmp 58] _ (by rfl) 120 _ zw8 (by rfl) _ (by rfl) _ had ?_;rintro v3 w3 ⟨rfl,rfl⟩;refine hK.out _ _ ⟨aA.out _ (Below.refl _ _).drew,trivial⟩ ?_;clear hK K had hSS;(try simp only[zQ]);refine zp 9 fun K hK=>?_;(try simp only[zA,zB,zC]);go_simp;refine hK.out _ _ (aA.out _ (Below.refl _ _).drew) ?_;clear hK K;(try simp only[zQ]);refine zp 10 fun K hK=>?_;(try simp only[zA,zB,zC]);go_simp;refine hK.out _ _ (aA.out _ (Below.refl _ _).drew) ?_;clear hK K;(try simp only[zQ]);refine zd ?_;refine NoPanic.normal ?_;obtain⟨w3,hw3⟩:∃ w3,w2.drew=w3:=⟨_,rfl⟩
 have hb3:Below w2.heap.size w2 w3:=hw3▸(Below.refl _ _).drew;rw[hw3];have HB3:=zh (zka HB2.out hb3);have uy:=zh (zka cK.out hb3);have K3:=zh (zkb K2.out hb3);clear z0 z1 z2 z3 hw3 hb3 aA;by_cases h7:co=x
 ·rw[if_neg (fun h=>h h7)] at hR;subst h7 hR;have vE:IntKind.i64.wrap ((i:Int)+1)=(i:Int)+1:=IntWalk.i64_in _ (by omega);have xK:=zh ((H.out.mono (B':=fun g=>B g/\g<W.heap.size) fun g h1 h2=>⟨h1,h2⟩).later HB3.out);have jo:=zh (zoR (W:=w3) xK.out ((i:Int)+1) ⟨by omega,by omega⟩ (by omega) (Nat.le_trans hnw HB3.out.size));rw[show((i:Int)+1).toNat=i+1 by omega] at jo;obtain⟨z0,z1,z2,z3⟩:=box4 K3.out;go_wp2_with fail;refine jo.out.mono ?_;rintro e4 w4 ⟨⟨u4,rfl⟩,hs4,hc4⟩;have hcz:=zkk K1.out;have K4:=zh ((hc4.block W.heap.size (Nat.lt_of_lt_of_le hcz uy.out.size) fun h=>Nat.lt_irrefl _ h.2).trans K3.out);have HC4:=zh ((Chg.of_below HB3.out).trans2 hc4 fun g _ h=>h.1);have hs4':SqB w4 n0 (zme B W.heap.size w4.heap.size) b ⟨q.len,ext q.el (i+1)⟩:=hs4.mono fun g h _=>by
   rcases h with h|h
   ·exact .inl h.1
   ·exact .inr ⟨Nat.le_trans HB3.out.size h.1,h.2⟩
  obtain⟨v4,hv4⟩:=hs4';have hne4:∀ g,v4.ownBlock=some g->g≠W.heap.size:=fun g hg e=>by
   obtain⟨v4',hv4'⟩:=hs4;have hb1:=hv4.box.symm.trans hv4'.box;simp only[Option.some.injEq,Obj.cells.injEq,Array.mk.injEq,List.cons.injEq,and_true,true_and] at hb1;subst hb1;rcases(hv4'.own g hg).1 with h|h
   ·omega
   ·have:=uy.out.size;omega
  obtain⟨L,hL⟩:∃ L,(ext q.el (i+1)).length=L:=⟨_,rfl⟩
  have hiL:i<L:=by rw[<-hL,znu];omega
  have hrow4:w4.ownsRow n0 3 1 v4 (ext q.el (i+1)).length (zkf (ext q.el (i+1))):=hv4.row;have qR:=zmC hrow4;obtain⟨g,c4,e4,-,-,-⟩:=zkZ hrow4 (by omega);subst e4;have hg:(Value.slice (some ⟨g,0,none⟩) (ext q.el (i+1)).length c4).ownBlock=some g:=rfl;obtain⟨p0,p1⟩:=zlO qR hg (o:=i) (by omega);have hset:=zo0 qR hg (o:=i) (by omega) cn;have HSET:=zh (hset.row ());have hgb:=(hv4.own g rfl).2;have uJ:=zh hv4;have vL:=hne4 g rfl;have y1:w4.cell? ⟨b,1,none⟩=some (.slice (some ⟨g,0,none⟩) L c4):=by rw[<-hL];exact zc hv4.box rfl
  obtain⟨x,hx⟩:∃ x,(ext q.el (i+1)).getD i 0=x:=⟨_,rfl⟩
  rw[hx] at p0;have hi1:(i:Int)<(L:Int):=by omega
  have hi0:(0:Int)<=(i:Int):=by omega
  have HL:=zh hL;have HGB:=zh hgb;have HNG:=zh vL;have aQ:=zh (show Chg (fun x=>x=g) w4 (w4.setCell ⟨g,i,none⟩ (.int .i64 cn)) from (Chg.refl (fun x=>x=g) w4).setCell (p:=⟨g,i,none⟩) (.inl rfl) _);have aR:=zh ((aQ.out.block b (zkk hv4.box) fun e=>hgb e.symm).trans hv4.box);have dh:=zh ((aQ.out.block W.heap.size (zkk K4.out) fun e=>vL e.symm).trans K4.out);rw[hL] at aR;clear hs4 hc4 hv4 hne4 hrow4 qR hset hgb vL hL hx hg jo xK z0 z1 z2 z3;obtain⟨z0,z1,z2,z3⟩:=box4 K4.out;go_upto_region 13 with fail;have hSS:(fun w':World=>w'.cell? ⟨b,1,none⟩=some (.slice (some ⟨g,0,none⟩) L c4)/\w'.cell? ⟨W.heap.size,1,none⟩=some (.int .i64 (i:Int))/\w'.cell? ⟨W.heap.size,3,none⟩=some (.int .i64 cn)) w4.drew/\(fun _:World=>True) w4.drew:=⟨⟨y1,z1,z3⟩,trivial⟩
  have vz:w4.drew.cell? ⟨g,i,none⟩=some (.int .i64 x):=p0;have vw:w4.drew.frozen? ⟨g,i,none⟩=false:=p1;refine wp_region_noPanic ?_;refine zkc (fun w':World=>w'.cell? ⟨b,1,none⟩=some (.slice (some ⟨g,0,none⟩) L c4)/\w'.cell? ⟨W.heap.size,1,none⟩=some (.int .i64 (i:Int))/\w'.cell? ⟨W.heap.size,3,none⟩=some (.int .i64 cn)) (fun _:World=>True) 9 (by kernel_rfl) ?_;refine zT 0 hSS ?_;(try simp only[zQ]);refine zT 1 hSS ?_;(try simp only[zQ]);refine zT 2 hSS ?_;(try simp only[zQ]);refine zT 3 hSS ?_;(try simp only[zQ]);refine zT 4 hSS ?_;(try simp only[zQ]);refine zT 5 hSS ?_;(try simp only[zQ]);refine zT 6 hSS ?_;(try simp only[zQ]);refine zT 7 hSS ?_;(try simp only[zQ]);refine zT 8 hSS ?_;(try simp only[zQ]);refine zp 9 fun K hK=>?_;(try simp only[zA,zB,zC]);go_simp;refine hK.out _ _ ⟨zc aR.out rfl,zc dh.out rfl,zc dh.out rfl⟩ ?_;clear hK K hSS;(try simp only[zQ]);refine zd ?_
  refine NoPanic.normal ?_;clear y1 z0 z1 z2 z3 p0 p1 vz vw;go_wp2_with fail;go_ret;have hsq:SqB (w4.setCell ⟨g,i,none⟩ (.int .i64 cn)) n0 (zme B W.heap.size (w4.setCell ⟨g,i,none⟩ (.int .i64 cn)).heap.size) b ⟨q.len,(ext q.el (i+1)).set i cn⟩:=by
   refine⟨.slice (some ⟨g,0,none⟩) (ext q.el (i+1)).length c4,?_,HSET.out,fun g' hg'=>⟨?_,(uJ.out.own g' hg').2⟩,?_,uJ.out.nb,fun y hy=>?_⟩
   ·rw[HL.out];exact aR.out
   ·rcases(uJ.out.own g' hg').1 with h|h
    ·exact .inl h
    ·exact .inr ⟨h.1,Nat.lt_of_lt_of_le h.2 aQ.out.size⟩
   ·rcases uJ.out.bb with h|h
    ·exact .inl h
    ·exact .inr ⟨h.1,Nat.lt_of_lt_of_le h.2 aQ.out.size⟩
   ·rcases List.mem_or_eq_of_mem_set hy with h|rfl
    ·exact uJ.out.i y h
    ·exact hcn
  have hcc:Chg B W (w4.setCell ⟨g,i,none⟩ (.int .i64 cn)):=HC4.out.trans2 aQ.out fun g' hlt e=>by
   have e:g'=g:=e;subst e;rcases(uJ.out.own g' rfl).1 with h|h
   ·exact h
   ·omega
  exact⟨rfl,hsq.later (Below.refl _ _).drew,⟨hcc.os,hcc.tape,hcc.output,hcc.size,hcc.block⟩⟩
 ·rw[if_pos h7] at hR;subst hR;obtain⟨z0,z1,z2,z3⟩:=box4 K3.out;go_wp2_with fail;go_ret;exact⟨rfl,jU.out _ uy.out⟩
theorem zrI {W:World} {n0 b:Nat} {B:Nat->Prop} {q:SQ} (h:SqB W n0 B b q) (c:CH) (hc:c.I) (hnw:n0<=W.heap.size) (hel:q.el.length<=1000000) :
  Calls Tryz.prog 69 #[.pointer (some ⟨b,0,none⟩),.agg #[.int .i64 c.cell,.int .i64 c.at',.int .i64 c.old,.int .i64 c.new]] W (ChqP W n0 B b (chgQ q c)):=by
 obtain⟨cc,ca,co,cn⟩:=c;obtain⟨-,⟨ha1,ha2⟩,-,hcn⟩:=hc;dsimp only at ha1 ha2 hcn ⊢;by_cases hps:0<=ca/\ca<4096
 ·obtain⟨i,rfl⟩:∃ i:Nat,ca=(i:Int):=⟨ca.toNat,by omega⟩
  exact zrH h cc co cn i (by omega) hcn hnw hel
 have hb1:=zkd (Below.refl W.heap.size W) (.cells #[.int .i64 cc,.int .i64 ca,.int .i64 co,.int .i64 cn] 64);have k1:=heap_alloc_new W (.cells #[.int .i64 cc,.int .i64 ca,.int .i64 co,.int .i64 cn] 64);obtain⟨w1,hw1⟩:∃ x,W.alloc (.cells #[.int .i64 cc,.int .i64 ca,.int .i64 co,.int .i64 cn] 64)=x:=⟨_,rfl⟩
 rw[hw1] at hb1 k1;obtain⟨x0,x1,x2,x3⟩:=box4 k1;have H:=zh h;have K1:=zh k1;have HB1:=zh hb1;have HEL:=zh hel;have jU:=zh (show ∀ w',Below w1.heap.size w1 w'->SqB w' n0 (zme B W.heap.size w'.heap.size) b q/\Chg B W w' from fun w' hb=>⟨(H.out.later (zka HB1.out hb)).add _ _,Chg.of_below (zka HB1.out hb)⟩);obtain⟨R,hR⟩:∃ R,chgQ q ⟨cc,ca,co,cn⟩=R:=⟨_,rfl⟩
 rw[hR];unfold chgQ at hR;dsimp only at hR;clear h k1 hb1 hel;go_enter Tryz.func69,Tryz.ntmps69;go_upto_region 1 with fail;(try rw[hw1]);clear hw1;by_cases h1:ca < -1
 ·rw[if_pos (.inl h1)] at hR;subst hR;go_wp2_with fail;go_ret;exact⟨rfl,jU.out _ (Below.refl _ _)⟩
 by_cases h2:4096<=ca
 ·rw[if_pos (.inr h2)] at hR;subst hR;go_wp2_with fail;go_ret;exact⟨rfl,jU.out _ (Below.refl _ _)⟩
 rw[if_neg (by omega)] at hR;obtain rfl:ca = -1:=by omega
 ·
  by_cases h4:cn<0
  ·rw[if_pos ⟨rfl,.inl h4⟩] at hR;subst hR;go_wp2_with fail;go_ret;exact⟨rfl,jU.out _ (Below.refl _ _)⟩
  by_cases h5:4096<cn
  ·rw[if_pos ⟨rfl,.inr h5⟩] at hR;subst hR;go_wp2_with fail;go_ret;exact⟨rfl,jU.out _ (Below.refl _ _)⟩
  rw[if_neg (by omega)] at hR;obtain⟨v,hv⟩:=H.out;have HV:=zh hv;have y0:w1.cell? ⟨b,0,none⟩=some (.int .i64 q.len):=zc (zkb hv.box HB1.out) rfl;have yf:∀ o,w1.frozen? ⟨b,o,none⟩=false:=fun o=>zf (zkb hv.box HB1.out);clear hv;by_cases h6:co=q.len
  ·rw[if_neg (by omega),if_pos rfl] at hR;subst h6 hR;go_upto_region 5 with fail
   go_quiet (fail)
   obtain⟨w2,hw2⟩:∃ w2,w1.drewN nq=w2:=⟨_,rfl⟩
   have hb2:Below w1.heap.size w1 w2:=hw2▸zkW (Below.refl _ _) nq;rw[hw2];have z0:=zb hb2 x0;have z1:=zb hb2 x1;have z2:=zb hb2 x2;have z3:=zb hb2 x3;have hbx:=zkb (zkb HV.out.box HB1.out) hb2;have u0:w2.cell? ⟨b,0,none⟩=some (.int .i64 q.len):=zc hbx rfl;have uf:∀ o,w2.frozen? ⟨b,o,none⟩=false:=fun o=>zf hbx;have HB2:=zh (zka HB1.out hb2);have aX:=zh hbx;clear hw2 hb2 x0 x1 x2 x3 y0 yf hbx;go_wp2_with fail;go_ret;have hch:Chg (fun g=>g=b) w2 (w2.setCell ⟨b,0,none⟩ (.int .i64 cn)):=(Chg.refl (fun g=>g=b) w2).setCell (p:=⟨b,0,none⟩) (.inl rfl) _;refine⟨rfl,⟨v,?_,zmB (zkB HV.out.row HB2.out) fun g hg=>hch.block g ?_ (HV.out.own g hg).2,fun g hg=>⟨.inl (HV.out.own g hg).1,(HV.out.own g hg).2⟩,.inl HV.out.bb,HV.out.nb,HV.out.i⟩,(Chg.of_below HB2.out).trans2 hch fun g _ e=>by have e:g=b:=e;subst e;exact HV.out.bb⟩
   ·have:=heap_setCell_same w2 b 0 _ _ (.int .i64 cn) aX.out;simpa using this
   ·exact Nat.lt_of_lt_of_le (HV.out.row.lt g hg).2 HB2.out.size
  ·rw[if_pos ⟨rfl,h6⟩] at hR;subst hR;go_upto_region 5 with fail
   go_quiet (fail)
   go_wp2_with fail;go_ret;exact⟨rfl,jU.out _ (zkW (Below.refl _ _) nq)⟩
def LstP (W:World) (B:Nat->Prop) (r:Option (List Int)) (e:Ending) (W':World):Prop:=Chg B W W'/\match r with
 | none=>e=.returned (.tuple #[.slice none 0 0,.bool false])
 | some l=>∃ v,e=.returned (.tuple #[v,.bool true])/\W'.ownsRow W.heap.size 3 1 v l.length (zkf l)
theorem zuv {W:World} {n0 b:Nat} {B:Nat->Prop} {q:SQ} (h:SqB W n0 B b q) (h0:0<=q.len) (h1:q.len<=1000000) (hnw:n0<=W.heap.size) (hel:q.el.length<=1000000) :
  Calls Tryz.prog 70 #[.pointer (some ⟨b,0,none⟩)] W (LstP W B (lstQ q)):=by
 obtain⟨ql,el⟩:=q;simp only at h0 h1 hel;obtain⟨n,rfl⟩:∃ n:Nat,ql=(n:Int):=⟨ql.toNat,by omega⟩
 obtain⟨R,hR⟩:∃ R,lstQ ⟨(n:Int),el⟩=R:=⟨_,rfl⟩
 rw[hR];have jo:=zh (zoR h (n:Int) ⟨by omega,by omega⟩ (by omega) hnw);rw[Int.toNat_natCast] at jo;obtain⟨v,hv⟩:=h;have y0:W.cell? ⟨b,0,none⟩=some (.int .i64 (n:Int)):=zc hv.box rfl;unfold lstQ at hR;simp only[Int.toNat_natCast] at hR;obtain⟨xs,hxs⟩:∃ xs,ext el n=xs:=⟨_,rfl⟩
 have hnl:n<=xs.length:=by rw[<-hxs,znu];omega
 have hxl:xs.length<=1000001:=by rw[<-hxs,znu];omega
 rw[hxs] at hR jo;have HR:=zh hR;have mY:=zh hnw;have rY:=zh hxl;clear hv hR hxs h0 h1 hel hnw;go_enter Tryz.func70,Tryz.ntmps70;go_wp2_with fail;refine jo.out.mono ?_;rintro e1 w1 ⟨⟨u1,rfl⟩,hs1,hc1⟩;obtain⟨v1,hv1⟩:=hs1;obtain⟨A,c,e1,hcap⟩:=zke hv1.row;subst e1;clear y0 jo;have y0:w1.cell? ⟨b,0,none⟩=some (.int .i64 (n:Int)):=zc hv1.box rfl;have y1:w1.cell? ⟨b,1,none⟩=some (.slice A xs.length c):=zc hv1.box rfl;have kM:=zh hv1;have di:=zh hc1;obtain⟨L,hL⟩:∃ L,xs.length=L:=⟨_,rfl⟩
 rw[hL] at y1 hnl;have HL:=zh hL;have hn1:(n:Int)<=(L:Int):=by omega
 have hn2:(0:Int)<=(n:Int):=by omega
 clear hv1 hc1 hL;go_upto_region 2 with fail
 go_quiet (fail)
 obtain⟨w2,hw2⟩:∃ w2,w1.drewN nq=w2:=⟨_,rfl⟩
 have hb2:Below w1.heap.size w1 w2:=hw2▸zkW (Below.refl _ _) nq;obtain⟨A',hA'⟩:∃ A',(if c=n then A else Option.map (fun x=>x.add n) A)=A':=⟨_,rfl⟩
 obtain⟨M,hM⟩:∃ M,L-n=M:=⟨_,rfl⟩
 rw[hw2,hA',hM];have HB2:=zh hb2;have jg:=zh (show n+M=L by omega);have HCELL:=zh (show ∀ j,j<M->∃ g,A'=some ⟨g,n,none⟩/\∀ wr,Below w1.heap.size w1 wr->wr.cell? ⟨g,n+j,none⟩=some (.int .i64 (xs.getD (n+j) 0)) from fun j hj=>by
  have hL:=HL.out;obtain⟨g,c',e,hc',-,hcell⟩:=zkZ kM.out.row (by show 0<xs.length;omega);simp only[Value.slice.injEq,true_and] at e;obtain⟨rfl,rfl⟩:=e;change xs.length<=c at hc';refine⟨g,?_,fun wr hb=>?_⟩
  ·rw[<-hA',if_neg (by omega)]
   show some ((⟨g,0,none⟩:Addr).add n)=_
   rw[Addr.add_lit,Nat.zero_add]
  ·have h1:=hcell (n+j) (by show n+j<xs.length*1;omega);have h2:(zkf xs)[n+j]?=some (.int .i64 (xs.getD (n+j) 0)):=by
    simp only[zkf,List.getElem?_map,List.getD_eq_getElem?_getD];rw[List.getElem?_eq_getElem (by omega)];rfl
   exact zb hb (h1.trans h2))
 have hkk:=kM.out.row;clear hw2 hb2 hA' hM hn1 hn2 y0 y1 hkk hnl hxl;go_wp2_with fail
 go_loopw [22] (fun i wr=>∃ j:Nat,j<=M/\i=.int .i64 j/\Hid (Below w1.heap.size w1 wr)/\Hid (∀ k,k<j->xs.getD (n+k) 0=0)) (fun i _=>M-(intOf i).toNat)
 case atStart=>exact⟨0,Nat.zero_le _,rfl,HB2,zh fun k hk=>by omega⟩
 case round =>
  clear HB2;obtain⟨j,hj,rfl,HB,HZ⟩:=hrel;by_cases hlt:j<M
  ·have hj1:(j:Int)<(M:Int):=by omega
   have hj0:(0:Int)<=(j:Int):=by omega
   have iQ:=zh hlt;have vE:IntKind.i64.wrap ((j:Int)+1)=(j:Int)+1:=IntWalk.i64_in _ (by have:=rY.out;have:=jg.out;have:=HL.out;omega);obtain⟨g,rfl,hcell⟩:=HCELL.out j hlt;have x0:=hcell wr HB.out;obtain⟨x,hx⟩:∃ x,xs.getD (n+j) 0=x:=⟨_,rfl⟩
   rw[hx] at x0;have HX:=zh hx;clear hcell hx;by_cases hx0:x=0
   ·subst hx0;go_wp2_with fail
    go_roundw
    case rel=>exact⟨j+1,by have:=iQ.out;omega,by go_num,HB,zh fun k hk=>by
     rcases Nat.lt_or_ge k j with h|h
     ·exact HZ.out k h
     ·rw[show k=j by omega];exact HX.out⟩
    case measure=>have:=iQ.out;simp[intOf];omega
   ·go_wp2_with fail;go_ret2;refine⟨di.out.trans2 (Chg.of_below (C:=B) HB.out) fun g _ h=>h,?_⟩;have hl:=HL.out;have hm:=jg.out;have hr:=HR.out;rw[if_neg (fun hall=>hx0 (by
     rw[List.all_eq_true] at hall;have hmem:x∈xs.drop n:=by
      have hlt2:n+j<xs.length:=by omega
      rw[<-HX.out,List.getD_eq_getElem?_getD,List.getElem?_eq_getElem hlt2,Option.getD_some];exact List.mem_drop_iff_getElem.2 ⟨j,by omega,rfl⟩
     simpa using hall x hmem))] at hr
    rw[<-hr];rfl
  ·have hz:(xs.drop n).all (fun x=>decide (x=0))=true:=by
    have hl:=HL.out;have hm:=jg.out;rw[List.all_eq_true];intro x hx;obtain⟨i,hi,rfl⟩:=List.getElem_of_mem hx;rw[List.length_drop] at hi;have:=HZ.out i (by omega);rw[List.getD_eq_getElem?_getD,List.getElem?_eq_getElem (by omega),Option.getD_some] at this;rw[List.getElem_drop,this];rfl
   have hr:=HR.out;rw[if_pos hz] at hr;subst hr;have hjm:¬ (j:Int)<(M:Int):=by omega
   obtain⟨Aq,kq,eq,-,aY⟩:=zlh (w:=w1) (xs:=xs) (by simpa[zkf] using kM.out.row) kM.out.i;simp only[Value.slice.injEq,true_and] at eq;obtain⟨rfl,rfl⟩:=eq;have nT:=jg.out;have hle:=HL.out;have hnl:n<=xs.length:=by omega
   have gG:RowI w1 Any A (xs.take n):=fun i hi=>by
    rw[List.length_take] at hi;obtain⟨a,h1,h2,h3,h4⟩:=aY i (by omega);exact⟨a,h1,trivial,by rw[List.getElem_take];exact h3,by rw[List.getElem_take];exact h4⟩
   have htl:(xs.take n).length=n:=by rw[List.length_take];omega
   have HCLO:=zh (fun w' (hb:Below w1.heap.size w1 w')=>zkG (xs.take n) A c Any w' (gG.later hb) (by rw[htl];have:=rY.out;unfold LI;omega));rw[htl] at HCLO;have HTL:=zh htl;have hn1:(n:Int)<=(c:Int):=by omega
   have hn2:(0:Int)<=(n:Int):=by omega
   have y0:wr.cell? ⟨b,0,none⟩=some (.int .i64 (n:Int)):=zc (zkb kM.out.box HB.out) rfl;have y1:wr.cell? ⟨b,1,none⟩=some (.slice A L c):=by rw[<-HL.out];exact zc (zkb kM.out.box HB.out) rfl
   clear aY gG htl nT hle hnl hz;have aL:=zh (di.out.trans2 (Chg.of_below (C:=B) HB.out) fun g _ h=>h);have sD:=zh (show W.heap.size<=wr.heap.size from aL.out.size);go_upto_region 8 with fail;have hSS:(fun w':World=>w'.cell? ⟨b,0,none⟩=some (.int .i64 (n:Int))/\w'.cell? ⟨b,1,none⟩=some (.slice A L c)) wr.drew/\(fun _:World=>True) wr.drew:=⟨⟨y0,y1⟩,trivial⟩
   have had:Calls Tryz.prog 49 [.slice A n c].toArray wr.drew fun e w'=>∃ u,e=.returned u/\(w'.ownsRow wr.heap.size 3 1 u (xs.take n).length ((xs.take n).map (fun x=>Value.int .i64 x))/\Below wr.heap.size wr w') :=
    (HCLO.out wr.drew (HB.out.trans (Below.refl _ _).drew)).mono fun e w' ⟨v,h1,h2,_,h4⟩=>⟨v,h1,h2,zka (Below.refl wr.heap.size wr).drew h4⟩
   refine wp_region_noPanic ?_;refine zkc (fun w':World=>w'.cell? ⟨b,0,none⟩=some (.int .i64 (n:Int))/\w'.cell? ⟨b,1,none⟩=some (.slice A L c)) (fun _:World=>True) 9 (by kernel_rfl) ?_;refine zT 0 hSS ?_;(try simp only[zQ]);refine zT 1 hSS ?_;(try simp only[zQ]);refine zT 2 hSS ?_;(try simp only[zQ]);refine zT 3 hSS ?_;(try simp only[zQ]);refine zT 4 hSS ?_;(try simp only[zQ]);refine zT 5 hSS ?_;(try simp only[zQ]);refine zT 6 hSS ?_;(try simp only[zQ]);refine zT 7 hSS ?_;(try simp only[zQ]);refine zT 8 hSS ?_;(try simp only[zQ]);refine zo 9 fun K hK=>?_;refine zkg (by rfl) (.func 49) [.tmp 37] _ (by rfl) 49 _ zmG (by rfl) _ (by rfl) _ had ?_;rintro v8 w8 ⟨fT,dC⟩;have iE:=zh fT;have fE:=zh dC;refine hK.out _ _ ⟨⟨zb dC y0,zb dC y1⟩,trivial⟩ ?_;clear hK K fT dC had hSS;(try simp only[zQ]);refine zp 10 fun K hK=>?_;(try simp only[zA,zB,zC]);go_simp
   refine hK.out _ _ ⟨zb fE.out y0,zb fE.out y1⟩ ?_;clear hK K;(try simp only[zQ]);refine zp 11 fun K hK=>?_;(try simp only[zA,zB,zC]);go_simp;refine hK.out _ _ ⟨zb fE.out y0,zb fE.out y1⟩ ?_;clear hK K;(try simp only[zQ]);refine zd ?_;refine NoPanic.normal ?_;clear y0 y1;go_wp2_with fail;go_ret2;exact⟨aL.out.trans2 (Chg.of_below (C:=B) fE.out) fun g _ h=>h,v8,rfl,zmn iE.out sD.out⟩
def pR:Value->Option (DataW Unit×List MemPlace)
 | .pointer (some ⟨b,0,none⟩)=>some (.lit (.int .i64 b),[])
 | .pointer none=>some (.nil,[])
 | _=>none
theorem zvy {v:Value} {x:Nat} {ps:List MemPlace} (h:pR v=some (.lit (.int .i64 (x:Int)),ps)):v=.pointer (some ⟨x,0,none⟩):=by
 unfold pR at h
 split at h
 ·simp only[Option.some.injEq,Prod.mk.injEq,DataW.lit.injEq,Lit.int.injEq,true_and] at h;obtain⟨h1,-⟩:=h;have:∀ a b:Nat,(a:Int)=(b:Int)->a=b:=fun a b h=>by omega
  rw[this _ _ h1]
 ·simp at h
 ·cases h
def kL (c:Int):Lit:=.int .i64 c
theorem zw1 {c d:Int} (h:c≠d):kL c≠kL d:=fun e=>h (by unfold kL at e;injection e)
theorem zvD (c:Int):WideAt.IsKeyLit (kL c):=trivial
theorem zua {c:Int} (hc:I64 c):keyOf Tryz.prog 3 (.int .i64 c)=some (kL c) :=
 Maps.keyOf_int_mk Tryz.underlying3 (by
  obtain⟨h1,h2⟩:=hc;simp[Lit.wf,IntKind.min,IntKind.max,IntKind.signed,IntKind.bits];omega)
theorem zSqp (w:World):(zeroValue 126).run Tryz.prog w=.ok (.pointer none) w:=by kernel_rfl
structure AF (W:World) (n0 mb k:Nat) (S:Int->Prop) (m:QM) (F:Int->Nat) (Bs:Int->Nat->Prop):Prop where
 map:∃ D:DataW Unit,W.ownsMap Tryz.prog 3 pR mb k D/\(∀ c,I64 c->Maps.has D (kL c)=(m c).isSome)/\∀ c q,I64 c->m c=some q->D.atKey (kL c) .nil=.lit (.int .i64 (F c))
 seq:∀ c q,S c->m c=some q->SqB W n0 (Bs c) (F c) q
 sep:∀ c c' g,c≠c'->Bs c g->¬ Bs c' g
 lo:∀ c g,Bs c g->n0<=g/\g<W.heap.size/\g≠mb
 nb:n0<=mb
section
variable {W W' W1 W2 W3:World} {n0 mb k:Nat} {S S':Int->Prop} {m:QM} {F:Int->Nat} {Bs:Int->Nat->Prop} {c:Int} {q q':SQ}
theorem zmm {D:DataW Unit} (h:W.ownsMap Tryz.prog 3 pR mb k D) (hk:W'.heap[mb]?=W.heap[mb]?):W'.ownsMap Tryz.prog 3 pR mb k D:=by
 obtain⟨es,clock,hb,r⟩:=h;exact⟨es,clock,hk.trans hb,r⟩
theorem AF.mlt (h:AF W n0 mb k S m F Bs):mb<W.heap.size:=by
 obtain⟨D,h1,-⟩:=h.map;exact h1.lt
theorem AF.keep (h:AF W n0 mb k S m F Bs) (hs:W.heap.size<=W'.heap.size) (hS:∀ c,S' c->S c) (hk:∀ g,g<W.heap.size->(g=mb\/∃ c,S' c/\Bs c g)->W'.heap[g]?=W.heap[g]?):AF W' n0 mb k S' m F Bs where
 map:=by
  obtain⟨D,h1,h2⟩:=h.map;exact⟨D,zmm h1 (hk mb h1.lt (.inl rfl)),h2⟩
 seq:=fun c q hc hq=>(h.seq c q (hS c hc) hq).keep fun g hg hlt=>hk g hlt (.inr ⟨c,hc,hg⟩)
 sep:=h.sep
 lo:=fun c g hg=>by
  obtain⟨h1,h2,h3⟩:=h.lo c g hg;exact⟨h1,by omega,h3⟩
 nb:=h.nb
theorem AF.later (h:AF W n0 mb k S m F Bs) (hb:Below W.heap.size W W'):AF W' n0 mb k S m F Bs:=h.keep hb.size (fun _ h=>h) fun g hlt _=>hb.block g hlt
theorem AF.made (W:World) {n0:Nat} (hn:n0<=W.heap.size):AF (W.alloc (.map #[] 0)) n0 W.heap.size 0 (fun _=>True) (fun _=>none) (fun _=>0) (fun _ _=>False) where
 map:=⟨.map [],World.ownsMap_made W _ _ _,fun _ _=>rfl,fun c q _ h=>by cases h⟩
 seq:=fun c q _ h=>by cases h
 sep:=fun c c' g _ h=>h.elim
 lo:=fun c g h=>h.elim
 nb:=hn
theorem AF.put (h:AF W n0 mb k S m F Bs) {xs:List Int} {v:Value} {D:DataW Unit} (hc:I64 c) (hI:∀ x∈xs,I64 x) (hm:∀ c,I64 c->Maps.has D (kL c)=(m c).isSome) (ha:∀ c q,I64 c->m c=some q->D.atKey (kL c) .nil=.lit (.int .i64 (F c))) (hD:Maps.IsMap D) (hb:Below W.heap.size W W1) (ho:W1.ownsRow W.heap.size 3 1 v xs.length (zkf xs))
  (h3:W3.ownsMap Tryz.prog 3 pR mb (k+1) (D.put (kL c) (.lit (.int .i64 (W1.heap.size:Int))))) (hg:(W1.alloc (.cells #[.int .i64 (xs.length:Int),v] 128)).grownBy W3 (some mb)) :
  AF W3 n0 mb (k+1) S (m.put c ⟨xs.length,xs⟩) (fun d=>if d=c then W1.heap.size else F d) (fun d=>if d=c then fun g=>W.heap.size<=g/\g<W3.heap.size else Bs d) where
 map:=by
  refine⟨_,h3,fun d hd=>?_,fun d q hd hq=>?_⟩
  ·by_cases e:d=c
   ·subst e;rw[Maps.has_put_same hD (zvD d),QM.put_same];rfl
   ·rw[Maps.has_put_other (zw1 e),hm d hd]
    show _=(if d=c then _ else _:Option SQ).isSome
    rw[if_neg e]
  ·by_cases e:d=c
   ·subst e;rw[Maps.atKey_put_same hD (zvD d)];simp
   ·rw[Maps.atKey_put_other (zw1 e),if_neg e];exact ha d q hd ((if_neg e).symm.trans hq)
 seq:=fun d q hd hq=>by
  have nT:=h.mlt;have hs1:=hb.size;have hs3:=hg.size;have hs2:(W1.alloc (.cells #[.int .i64 (xs.length:Int),v] 128)).heap.size=W1.heap.size+1:=World.size_alloc ..
  have hbx:W3.heap[W1.heap.size]?=some (.cells #[.int .i64 (xs.length:Int),v] 128 (0,0)):=(hg.block _ (by omega) (by intro e;injection e with e;omega)).trans (heap_alloc_new W1 _);by_cases e:d=c
  ·subst e;have hq:some (⟨xs.length,xs⟩:SQ)=some q:=(QM.put_same m d _).symm.trans hq;injection hq with hq;subst hq;simp only[if_true];have hn0:n0<=W.heap.size:=by have:=h.nb;omega
   refine⟨v,hbx,zmB (zkB (zmn ho hn0) (zkd (Below.refl _ _) _)) fun g hg'=>hg.block g ?_ ?_,fun g hg'=>⟨⟨(ho.lt g hg').1,?_⟩,?_⟩,⟨hs1,by omega⟩,by omega,hI⟩
   ·have:=(ho.lt g hg').2;omega
   ·intro e;injection e with e;have:=(ho.lt g hg').1;omega
   ·have:=(ho.lt g hg').2;omega
   ·have:=(ho.lt g hg').2;omega
  ·simp only[if_neg e];refine(h.seq d q hd ((if_neg e).symm.trans hq)).keep fun g hg' hlt=>?_;have h1:=hb.block g hlt;have h2:=(zkd (Below.refl W1.heap.size W1) (.cells #[.int .i64 (xs.length:Int),v] 128)).block g (by omega);exact(hg.block g (by omega) (by intro e;injection e with e;exact(h.lo d g hg').2.2 e)).trans (h2.trans h1)
 sep:=fun d d' g hne h1 h2=>by
  by_cases e:d=c
  ·rw[if_pos e] at h1;rw[if_neg (fun e'=>hne (e.trans e'.symm))] at h2;have:=(h.lo d' g h2).2.1;omega
  ·rw[if_neg e] at h1;by_cases e':d'=c
   ·rw[if_pos e'] at h2;have:=(h.lo d g h1).2.1;omega
   ·rw[if_neg e'] at h2;exact h.sep d d' g hne h1 h2
 lo:=fun d g h1=>by
  have nT:=h.mlt;have hnb:=h.nb;have hs1:=hb.size;have hs3:=hg.size;have hs2:(W1.alloc (.cells #[.int .i64 (xs.length:Int),v] 128)).heap.size=W1.heap.size+1:=World.size_alloc ..
  by_cases e:d=c
  ·rw[if_pos e] at h1;exact⟨by omega,h1.2,by omega⟩
  ·rw[if_neg e] at h1;obtain⟨h2,h3,h4⟩:=h.lo d g h1;exact⟨h2,by omega,h4⟩
 nb:=h.nb
theorem AF.change (h:AF W n0 mb k S m F Bs) (hq:m c=some q) (hc:Chg (Bs c) W W') (hs:SqB W' n0 (zme (Bs c) W.heap.size W'.heap.size) (F c) q'):AF W' n0 mb k S (m.put c q') F (fun d=>if d=c then zme (Bs c) W.heap.size W'.heap.size else Bs d) where
 map:=by
  obtain⟨D,h1,h2,h3⟩:=h.map;refine⟨D,zmm h1 (hc.block mb h1.lt fun e=>(h.lo c mb e).2.2 rfl),fun d hd=>?_,fun d q hd hq'=>?_⟩
  ·rw[h2 d hd];by_cases e:d=c
   ·subst e;rw[hq,QM.put_same];rfl
   ·show _=(if d=c then _ else _:Option SQ).isSome
    rw[if_neg e]
  ·by_cases e:d=c
   ·subst e;exact h3 d _ hd hq
   ·exact h3 d q hd ((if_neg e).symm.trans hq')
 seq:=fun d q2 hd hq2=>by
  by_cases e:d=c
  ·subst e;have hq2:some q'=some q2:=(QM.put_same m d _).symm.trans hq2;injection hq2 with hq2;subst hq2;simp only[if_true];exact hs
  ·simp only[if_neg e];exact(h.seq d q2 hd ((if_neg e).symm.trans hq2)).keep fun g hg hlt=>hc.block g hlt fun h1=>h.sep d c g e hg h1
 sep:=fun d d' g hne h1 h2=>by
  by_cases e:d=c
  ·rw[if_pos e] at h1;rw[if_neg (fun e'=>hne (e.trans e'.symm))] at h2;rcases h1 with h1|h1
   ·exact h.sep c d' g (fun e'=>hne (e.trans e')) h1 h2
   ·have:=(h.lo d' g h2).2.1;omega
  ·rw[if_neg e] at h1;by_cases e':d'=c
   ·rw[if_pos e'] at h2;rcases h2 with h2|h2
    ·exact h.sep d c g e h1 h2
    ·have:=(h.lo d g h1).2.1;omega
   ·rw[if_neg e'] at h2;exact h.sep d d' g hne h1 h2
 lo:=fun d g h1=>by
  have nT:=h.mlt;have hnb:=h.nb;have hs1:=hc.size;by_cases e:d=c
  ·rw[if_pos e] at h1;rcases h1 with h1|h1
   ·obtain⟨h2,h3,h4⟩:=h.lo c g h1;exact⟨h2,by omega,h4⟩
   ·exact⟨by omega,h1.2,by omega⟩
  ·rw[if_neg e] at h1;obtain⟨h2,h3,h4⟩:=h.lo d g h1;exact⟨h2,by omega,h4⟩
 nb:=h.nb
theorem AF.look (h:AF W n0 mb k S m F Bs) (hc:I64 c) (hq:m c=some q):(Instr.lookup 123 (.map (some mb)) (.int .i64 c) true).run Tryz.prog W=.ok (.tuple #[.pointer (some ⟨F c,0,none⟩),.bool true]) W:=by
 obtain⟨D,h1,h2,h3⟩:=h.map;obtain⟨v,ps,hr,hv⟩:=h1.look_ok (Maps.int_keyed Tryz.underlying3) Tryz.underlying123 (zSqp W) (zd:=.nil) (zp:=[]) rfl (zua hc);rw[h3 c q hc hq] at hv;rw[h2 c hc,hq] at hr;rw[hr,zvy hv];rfl
theorem AF.look0 (h:AF W n0 mb k S m F Bs) (hc:I64 c) (hq:m c=none):∃ v,(Instr.lookup 123 (.map (some mb)) (.int .i64 c) true).run Tryz.prog W=.ok (.tuple #[v,.bool false]) W:=by
 obtain⟨D,h1,h2,h3⟩:=h.map;obtain⟨v,ps,hr,hv⟩:=h1.look_ok (Maps.int_keyed Tryz.underlying3) Tryz.underlying123 (zSqp W) (zd:=.nil) (zp:=[]) rfl (zua hc);rw[h2 c hc,hq] at hr;exact⟨v,hr⟩
theorem AF.get (h:AF W n0 mb k S m F Bs) (hc:I64 c) (hq:m c=some q):(Instr.lookup 123 (.map (some mb)) (.int .i64 c) false).run Tryz.prog W=.ok (.pointer (some ⟨F c,0,none⟩)) W:=by
 obtain⟨D,h1,h2,h3⟩:=h.map;obtain⟨v,ps,hr,hv⟩:=h1.lookup (Maps.int_keyed Tryz.underlying3) Tryz.underlying123 (zSqp W) (zd:=.nil) (zp:=[]) rfl (zua hc);rw[h3 c q hc hq] at hv;rw[hr,zvy hv]
end
theorem Rws.put {I:Type} [DecidableEq I] {W:World} {n0:Nat} {d:I->RowD} {r:RowD} (h:Rws W n0 d) (i:I) (ho:W.ownsRow n0 r.E r.sz r.v r.n r.xs) (aH:∀ b,r.v.ownBlock=some b->∀ j,j≠i->(d j).v.ownBlock≠some b):Rws W n0 (updR d i r):=by
 refine⟨fun j=>?_,fun j k b hjk hj hk=>?_⟩
 ·by_cases e:j=i
  ·subst e;rw[zku];exact ho
  ·rw[zkh e];exact h.row j
 ·by_cases e:j=i
  ·subst e;rw[zku] at hj;rw[zkh (fun e=>hjk e.symm)] at hk;exact aH b hj k (fun e=>hjk e.symm) hk
  ·rw[zkh e] at hj;by_cases e':k=i
   ·subst e';rw[zku] at hk;exact aH b hk j e hj
   ·rw[zkh e'] at hk;exact h.sep j k b hjk hj hk
theorem zrt {W:World} {b3:Nat} (CS:List (List Int)) (h:W.heap[b3]?=some (.cells #[.slice none 0 0,.slice none 0 0,.slice none 0 0] 26 (0,0))):Rws W b3 (zk5 (.slice none 0 0) (.slice none 0 0) (.slice none 0 0) (fun _=>.slice none 0 0) b3 ⟨CS,[],[]⟩ 0):=by
 refine⟨fun i=>?_,fun i j b hij hi hj=>?_⟩
 ·rcases i with _|i
  ·exact zss (Nat.le_refl _) h
  ·cases i with
   | all=>exact zmV _ _ _
   | el i=>exact zly _ _
   | inp=>exact zmV _ _ _
   | out=>exact zmV _ _ _
 ·have key:∀ i:SI,(zk5 (.slice none 0 0) (.slice none 0 0) (.slice none 0 0) (fun _=>.slice none 0 0) b3 ⟨CS,[],[]⟩ 0 (some i)).v.ownBlock=none:=fun i=>by cases i<;>simp[zk5,nilR,Value.ownBlock]
  rcases i with _|i
  ·rcases j with _|j
   ·exact hij rfl
   ·rw[key] at hj;cases hj
  ·rw[key] at hi;cases hi
section
variable {W W2:World} {b3 j:Nat} {vc dm vi vo v:Value} {fc:Nat->Value} {s:SS} {x:List Int}
theorem zmx (h:Rws W b3 (zk5 vc vi vo fc b3 s j)):(W.cell? ⟨b3,0,none⟩=some vc/\W.cell? ⟨b3,1,none⟩=some vi/\W.cell? ⟨b3,2,none⟩=some vo)/\∀ o,W.frozen? ⟨b3,o,none⟩=false :=
 ⟨⟨h.cell none rfl rfl,h.cell none rfl rfl,h.cell none rfl rfl⟩,fun o=>h.frozen none rfl o⟩
theorem zsj (h:Rws W b3 (zk5 vc vi vo fc b3 s j)) (hl:s.cells.getD j []=x) (ho:W.ownsRow b3 3 1 v x.length (zkf x)) (hd:∀ b,v.ownBlock=some b->∀ i,(zk5 vc vi vo fc b3 s j i).v.ownBlock≠some b)
  (ha:W2.ownsRow b3 24 1 dm (j+1) ((List.range j).map fc++[v])) (hg:(W.alloc (.cells #[v] 24)).grownBy W2 vc.ownBlock) (aH:dm.ownBlock=vc.ownBlock\/dm.ownBlock=some (W.alloc (.cells #[v] 24)).heap.size) :
  (W2.cell? ⟨b3,0,none⟩=some vc/\∀ o,W2.frozen? ⟨b3,o,none⟩=false)/\Rws (W2.setCell ⟨b3,0,none⟩ dm) b3 (zk5 dm vi vo (fun i=>if i=j then v else fc i) b3 s (j+1))/\Chg (fun b=>b=b3\/vc.ownBlock=some b) W (W2.setCell ⟨b3,0,none⟩ dm):=by
 have h1:=(h.put (some (.el j)) (r:=⟨v,3,1,x.length,zkf x⟩) ho fun b hb k _=>hd b hb k).later (zkd (Below.refl _ _) (.cells #[v] 24));have e1:updR (zk5 vc vi vo fc b3 s j) (some (.el j)) ⟨v,3,1,x.length,zkf x⟩ (some .all)=⟨vc,24,1,j,(List.range j).map fc⟩:=zkh (by simp);have h2:=h1.upd (some .all) (r:=⟨dm,24,1,j+1,(List.range j).map fc++[v]⟩) ((Chg.row hg).mono fun b _ e=>by rw[e1];exact e) ha (fun b hb=>by
  rcases aH with e|e
  ·exact .inl (by rw[e1];exact e▸hb)
  ·rw[e] at hb;injection hb with hb;exact .inr (by omega))
 have e2:updR (updR (zk5 vc vi vo fc b3 s j) (some (.el j)) ⟨v,3,1,x.length,zkf x⟩) (some .all) ⟨dm,24,1,j+1,(List.range j).map fc++[v]⟩ none=⟨boxV b3,26,3,1,[vc,vi,vo]⟩:=by
  rw[zkh (by simp),zkh (by simp)];rfl
 have hb3:(updR (updR (zk5 vc vi vo fc b3 s j) (some (.el j)) ⟨v,3,1,x.length,zkf x⟩) (some .all) ⟨dm,24,1,j+1,(List.range j).map fc++[v]⟩ none).v.ownBlock=some b3:=by rw[e2];rfl
 have h3:=h2.set none hb3 (o:=0) (by rw[e2];show 0<3;decide) dm;rw[e2] at h3;refine⟨⟨h2.cell none hb3 (by rw[e2];rfl),fun o=>h2.frozen none hb3 o⟩,?_,?_⟩
 ·rw[<-zvC vc dm vi vo fc b3 s j x v hl];exact h3
 ·refine((Chg.of_below (C:=fun b=>b=b3\/vc.ownBlock=some b) (zkd (Below.refl W.heap.size W) (.cells #[v] 24))).trans2 (Chg.row hg) fun b _ e=>.inr e).trans2 ((Chg.refl (fun b=>b=b3) W2).setCell (p:=⟨b3,0,none⟩) (.inl rfl) dm) fun b _ e=>.inl e
theorem zv2 {CS:List (List Int)} {y:List Int} (h:Rws W b3 (zk5 vc vi vo fc b3 ⟨CS,[],y⟩ j)) (ho:W.ownsRow b3 3 1 v x.length (zkf x)) (hd:∀ b,v.ownBlock=some b->∀ i,(zk5 vc vi vo fc b3 ⟨CS,[],y⟩ j i).v.ownBlock≠some b) :
  Rws (W.setCell ⟨b3,1,none⟩ v) b3 (zk5 vc v vo fc b3 ⟨CS,x,y⟩ j):=by
 have h1:=h.put (some .inp) (r:=⟨v,3,1,x.length,zkf x⟩) ho fun b hb k _=>hd b hb k;have e2:updR (zk5 vc vi vo fc b3 ⟨CS,[],y⟩ j) (some .inp) ⟨v,3,1,x.length,zkf x⟩ none=⟨boxV b3,26,3,1,[vc,vi,vo]⟩:=by
  rw[zkh (by simp)];rfl
 have h3:=h1.set none (g:=b3) (by rw[e2];rfl) (o:=1) (by rw[e2];show 1<3;decide) v;rw[e2] at h3;refine Eq.mp (congrArg _ ?_) h3;funext i;rcases i with _|i
 ·rfl
 ·cases i<;>simp[updR,zk5]
theorem zuf {CS:List (List Int)} {y:List Int} (h:Rws W b3 (zk5 vc vi vo fc b3 ⟨CS,y,[]⟩ j)) (ho:W.ownsRow b3 3 1 v x.length (zkf x)) (hd:∀ b,v.ownBlock=some b->∀ i,(zk5 vc vi vo fc b3 ⟨CS,y,[]⟩ j i).v.ownBlock≠some b) :
  Rws (W.setCell ⟨b3,2,none⟩ v) b3 (zk5 vc vi v fc b3 ⟨CS,y,x⟩ j):=by
 have h1:=h.put (some .out) (r:=⟨v,3,1,x.length,zkf x⟩) ho fun b hb k _=>hd b hb k;have e2:updR (zk5 vc vi vo fc b3 ⟨CS,y,[]⟩ j) (some .out) ⟨v,3,1,x.length,zkf x⟩ none=⟨boxV b3,26,3,1,[vc,vi,vo]⟩:=by
  rw[zkh (by simp)];rfl
 have h3:=h1.set none (g:=b3) (by rw[e2];rfl) (o:=2) (by rw[e2];show 2<3;decide) v;rw[e2] at h3;refine Eq.mp (congrArg _ ?_) h3;funext i;rcases i with _|i
 ·rfl
 ·cases i<;>simp[updR,zk5]
end
theorem znV {ops:Array Oper} {rest:List Oper} {o:Oper} {a:Act} {W:World} {Q:Exit->Act->World->Prop} (hgd:o.guard=none) (s x:Operand)
  (ho:o.op=.call { callee:=.builtin .append,args := #[s,x],argTypes := #[23,23] }) (base:Nat) (v:Value) (n:Nat) (xs:List Value) (hs:a.eval s=v) (hrow:W.ownsRow base 24 1 v n xs)
  (ad:Addr) (y:Value) (hy:y.oneCell'=true) (hx:a.eval x=.slice (some ad) 1 1) (hc:W.cell? ad=some y) (hl:n+1<=5864062014805) (hb:base<=W.heap.size)
  (h:∀ v' w',w'.ownsRow base 24 1 v' (n+1) (xs++[y])->W.grownBy w' v.ownBlock->(v'.ownBlock=v.ownBlock\/v'.ownBlock=some W.heap.size)->wpList Tryz.prog ops Q rest (a.put o.dst v') w') :
  wpList Tryz.prog ops Q (o::rest) a W:=by
 obtain⟨i,hi,hz0,hz1,hz2⟩:=info_parts zsf;refine wpList_append_own_at (P:=Tryz.prog) _ hgd s x 23 ho base 24 i _ 1 24 Tryz.underlying23 hi hz0 hz1 hz2 rfl (by decide) v n xs hs hrow ad 1 1 [y] hx (by simp) (fun j u hj=>?_) (fun u hu=>?_) (by unfold maxLen;omega) (by omega) hb (fun v' w' h1 h2 _ h4=>h v' w' h1 h2 h4)
 ·rcases j with _|j
  ·have e:ad.add 0=ad:=by unfold Addr.add;split<;>simp_all
   rw[e,hc];simpa using hj
  ·simp at hj
 ·simp only[List.mem_singleton] at hu;subst hu;exact hy
def lq (m:QM) (c:Int):Option (List Int):=match m c with
 | none=>none
 | some q=>lstQ q
def lqD (m:QM) (c:Int):List Int:=(lq m c).getD []
theorem zqN {m:QM}:∀ {cs:List Int},(∀ c∈cs,∃ x,lq m c=some x)->zpA m cs=some (cs.map (lqD m))
 | [],_=>rfl
 | c::cs,h=>by
  obtain⟨x,hx⟩:=h c (List.mem_cons_self ..);have ih:=zqN fun d hd=>h d (List.mem_cons_of_mem _ hd);have hd:lqD m c=x:=by unfold lqD;rw[hx];rfl
  rw[List.map_cons,hd,zpA];unfold lq at hx
  split at hx
  ·cases hx
  ·rename_i q hq;simp only[hq,hx,ih];rfl
theorem zpz {m:QM} {c:Int} (hn:lq m c=none):∀ {cs:List Int},c∈cs->zpA m cs=none
 | d::cs,h=>by
  rw[zpA];by_cases e:d=c
  ·subst e;unfold lq at hn
   split at hn
   ·rename_i hq;simp only[hq]
   ·rename_i q hq;simp only[hq,hn]
  ·have ih:=zpz hn (cs:=cs) (by
    rcases List.mem_cons.1 h with h|h
    ·exact absurd h.symm e
    ·exact h)
   split
   ·rfl
   ·split
    ·rfl
    ·rw[ih];rfl
theorem zwX {q:SQ} {x:List Int} (h:lstQ q=some x) (hi:∀ y∈q.el,I64 y):(∀ y∈x,I64 y)/\x.length<=q.len.toNat:=by
 unfold lstQ at h
 split at h
 ·injection h with h;subst h;refine⟨fun y hy=>?_,by rw[List.length_take];omega⟩;have:=List.mem_of_mem_take hy;unfold ext at this;rcases List.mem_append.1 this with h1|h1
  ·exact hi y h1
  ·obtain⟨-,rfl⟩:=List.mem_replicate.1 h1;exact⟨by decide,by decide⟩
 ·cases h
theorem zuW {n j:Nat} {c:Int} (h:j<(zkp n).length) (hc:(zkp n)[j]=c):(j<n->c=(j:Int))/\(j=n->c = -1)/\(j=n+1->c = -2):=by
 have h1:(zkp n)[j]?=some c:=by rw[List.getElem?_eq_getElem h,hc]
 unfold zkp at h1;refine⟨fun h2=>?_,fun h2=>?_,fun h2=>?_⟩
 ·rw[List.getElem?_append_left (by simpa using h2)] at h1;simp[h2] at h1;exact h1.symm
 ·rw[List.getElem?_append_right (by simp[h2])] at h1;simp[h2] at h1;exact h1.symm
 ·rw[List.getElem?_append_right (by simp[h2])] at h1;simp[h2] at h1;exact h1.symm
theorem ztb {n j:Nat} {c:Int} (h:j<(zkp n).length) (hc:(zkp n)[j]=c):c ∉ (zkp n).take j:=fun h1=>by
 obtain⟨i,hi,e⟩:=List.getElem_of_mem h1;rw[List.length_take] at hi;rw[List.getElem_take] at e;exact List.pairwise_iff_getElem.1 (zoj n) i j (by omega) h (by omega) (e.trans hc.symm)
theorem zrO {s:SS} {l:List CH} {m:QM} {n:Nat} (hn:s.cells.length=n) (ha:zll (QM.of s) l=(0,m)) (h:∀ c∈zkp n,∃ x,lq m c=some x):zl6 s l=(0,⟨(List.range n).map (fun i:Nat=>lqD m (i:Int)),(lqD m (-1)).reverse,lqD m (-2)⟩):=by
 unfold zl6;rw[ha,if_neg (by simp)];simp only[hn,zqN h];have e:(zkp n).map (lqD m)=(List.range n).map (fun i:Nat=>lqD m (i:Int))++[lqD m (-1),lqD m (-2)]:=by
  unfold zkp;rw[List.map_append,List.map_map];rfl
 rw[e];have hl:((List.range n).map (fun i:Nat=>lqD m (i:Int))).length=n:=by simp
 congr 2
 ·rw[List.take_append_of_le_length (by omega),List.take_of_length_le (by omega)]
 ·simp[List.getD_eq_getElem?_getD,List.getElem?_append_right,hl]
 ·simp[List.getD_eq_getElem?_getD,List.getElem?_append_right,hl]
theorem zrN {s:SS} {l:List CH} {m:QM} {n:Nat} {c:Int} (hn:s.cells.length=n) (ha:zll (QM.of s) l=(0,m)) (hc:c∈zkp n) (h:lq m c=none):zl6 s l=(20,⟨[],[],[]⟩):=by
 unfold zl6;rw[ha,if_neg (by simp)];simp only[hn,zpz h hc]
end Go.Proofs.YtckhofdinldhpaaGreat
