/-
  Texts of the proof, put together without their remarks: Fw, Ig, Eqv, Wfp, Rxp, Pvl, Sfa, Ssm, Nap, Sve, Altb, Sfd.
-/
import Derived.Test.YtembgnhbpmfhpaaGreatV10
import Derived.Laws.StructEq
set_option linter.unusedSimpArgs false
set_option linter.unusedVariables false
set_option maxHeartbeats 8000000
set_option maxRecDepth 100000
namespace Go.Proofs.YtembgnhbpmfhpaaGreat
open Tryz
section
open Go Go.RowKit
def FwP(W:World)(R:SS×Nat×Int×List Nat)(e:Ending)(W':World):Prop:=∃v1 v2 v3,e=.returned (.agg #[v1,v2,v3,.int .i64 (R.2.1:Int),.int .i64 R.2.2.1]) /\
 OwnS W' W.heap.size R.1 (.agg #[v1,v2,v3])/\Below W.heap.size W W'/\LimR R
theorem zrC(p:PG)(s:SS)(F:Int)(g:Nat)(v sv:Value)(W:World)(hp:PV W Any p v)(hs:SV W Any s sv)(hcl:s.cells.length<=5864062014800)(hF:I64 F)(eF:F<=1000000)(hg:F.toNat*2000+2000<=g)(hfam:Fam p) :
  Calls prog 21 #[v,sv,.int .i64 F] W (FwP W (resO p s F g false)):=by
 have mY:=zh hp;have HSX:=zh hs;obtain⟨A1,c1,A2,c2,A3,c3,rfl,dJ⟩:=hp;obtain⟨A,c,B,d,D,e,rfl,hr1,hr2,hr3,hc1,hc2,hc3,hl1,hl2,hl3,hl4⟩:=hs;have HST:=zh (fun w' (hb:Below W.heap.size W w')=>ztO p s F g false _ _ w' (mY.out.later hb) (HSX.out.later hb) hcl hF eF hg hfam);have hb3:=zkb (zkb (zkb (zs W) (.cells #[.slice A1 p.vs.length c1,.slice A2 p.prs.length c2,.int .u8 p.m.k,.int .i64 p.m.n,.string p.m.s,.slice A3 p.m.ks.length c3] 43)) (.cells #[.slice A s.cells.length c,.slice B s.tin.length d,.slice D s.tout.length e] 32)) (.cells #[.slice none 0 0,.slice none 0 0,.slice none 0 0,.int .i64 0,.int .i64 0] 59)
 have k2:=heap_alloc_new ((W.alloc (.cells #[.slice A1 p.vs.length c1,.slice A2 p.prs.length c2,.int .u8 p.m.k,.int .i64 p.m.n,.string p.m.s,.slice A3 p.m.ks.length c3] 43)).alloc (.cells #[.slice A s.cells.length c,.slice B s.tin.length d,.slice D s.tout.length e] 32)) (.cells #[.slice none 0 0,.slice none 0 0,.slice none 0 0,.int .i64 0,.int .i64 0] 59);simp only[World.size_alloc]at k2;obtain⟨Re,hRe⟩:=zX (resO p s F g false);rw[hRe]at HST;have HR:=zh hRe;have HB3:=zh hb3;have aR:=zh k2;have hz3:W.heap.size+3<=(((W.alloc (.cells #[.slice A1 p.vs.length c1,.slice A2 p.prs.length c2,.int .u8 p.m.k,.int .i64 p.m.n,.string p.m.s,.slice A3 p.m.ks.length c3] 43)).alloc (.cells #[.slice A s.cells.length c,.slice B s.tin.length d,.slice D s.tout.length e] 32)).alloc (.cells #[.slice none 0 0,.slice none 0 0,.slice none 0 0,.int .i64 0,.int .i64 0] 59)).heap.size:=by simp
 rw[hRe];clear dJ hr1 hr2 hr3 hRe hb3 k2 hl1 hl2 hl3 hl4 hc1 hc2 hc3;clear hfam;go_enter func21,ntmps21;go_wp2_with fail;refine(HST.out _ HB3.out).mono ?_;rintro e9 w9 ⟨A9,c9,v1,v2,v3,rfl,dP,-,-,aZ,hlm9⟩;have nD:=zh hlm9;clear hlm9;obtain⟨A4,c4,B5,d5,D6,e6,h6⟩:=dP.slices;injection h6 with h6;injection h6 with h6;injection h6 with h6 h7;injection h7 with h7 h8;injection h8 with h8 _;subst h6 h7 h8;have fP:=zh dP;have aH:=zh aZ;have aI:=zkc aR.out aZ;have x0:w9.cell? ⟨W.heap.size+1+1,0,none⟩=some (.slice none 0 0):=zc aI rfl;have x1:w9.cell? ⟨W.heap.size+1+1,1,none⟩=some (.slice none 0 0):=zc aI rfl;have x2:w9.cell? ⟨W.heap.size+1+1,2,none⟩=some (.slice none 0 0):=zc aI rfl;have x3:w9.cell? ⟨W.heap.size+1+1,3,none⟩=some (.int .i64 0):=zc aI rfl;have x4:w9.cell? ⟨W.heap.size+1+1,4,none⟩=some (.int .i64 0):=zc aI rfl
 have xf:∀o,w9.frozen? ⟨W.heap.size+1+1,o,none⟩=false:=fun _=>zf aI;have y0:=fun o=>zku x0 o;have y1:=fun o=>zku x1 o;have y2:=fun o=>zku x2 o;have y3:=fun o=>zku x3 o;have y4:=fun o=>zku x4 o;have hlt9:W.heap.size+1+1<w9.heap.size:=zko aI;have iq:=zh aI;clear dP aZ aI;go_wp2_with fail;obtain⟨hh,hch⟩:=set5 (u0:=.slice A4 Re.1.cells.length c4) (u1:=.slice B5 Re.1.tin.length d5) (u2:=.slice D6 Re.1.tout.length e6) (u3:=.int .i64 (Re.2.1:Int)) (u4:=.int .i64 Re.2.2.1) iq.out;obtain⟨aT,bY⟩:=zX ((((((w9.setCell ⟨W.heap.size+1+1,0,none⟩ (.slice A4 Re.1.cells.length c4)).setCell ⟨W.heap.size+1+1,1,none⟩ (.slice B5 Re.1.tin.length d5)).setCell ⟨W.heap.size+1+1,2,none⟩ (.slice D6 Re.1.tout.length e6)).setCell ⟨W.heap.size+1+1,3,none⟩ (.int .i64 (Re.2.1:Int))).setCell ⟨W.heap.size+1+1,4,none⟩ (.int .i64 Re.2.2.1)));rw[bY]at hh hch ⊢
 obtain⟨aQ,gp⟩:=zX (aT.alloc (.cells #[.slice A4 Re.1.cells.length c4,.slice B5 Re.1.tin.length d5,.slice D6 Re.1.tout.length e6,.int .i64 (Re.2.1:Int),.int .i64 Re.2.2.1] 59));rw[gp];have t0:aQ.cell? ⟨W.heap.size+1+1,0,none⟩=some (.slice A4 Re.1.cells.length c4):=gp▸zku (zc hh rfl) _;have t1:aQ.cell? ⟨W.heap.size+1+1,1,none⟩=some (.slice B5 Re.1.tin.length d5):=gp▸zku (zc hh rfl) _;have t2:aQ.cell? ⟨W.heap.size+1+1,2,none⟩=some (.slice D6 Re.1.tout.length e6):=gp▸zku (zc hh rfl) _;have t3:aQ.cell? ⟨W.heap.size+1+1,3,none⟩=some (.int .i64 (Re.2.1:Int)):=gp▸zku (zc hh rfl) _;have t4:aQ.cell? ⟨W.heap.size+1+1,4,none⟩=some (.int .i64 Re.2.2.1):=gp▸zku (zc hh rfl) _
 refine bodyPost_ret (v:=.agg #[.slice A4 Re.1.cells.length c4,.slice B5 Re.1.tin.length d5,.slice D6 Re.1.tout.length e6,.int .i64 (Re.2.1:Int),.int .i64 Re.2.2.1]) (by simp[results,results21,go_sem,t0,t1,t2,t3,t4]) rfl ?_;have hz33:=hz3;have hb39:Below W.heap.size W w9:=zka HB3.out aH.out;have dQ:Chg (fun b=>b=W.heap.size+1+1) w9 aQ:=gp▸hch.alloc _;have o8:=fP.out.chg dQ fun b hb=>by omega
 have pU:=hb39.trans (dQ.below hb39.size fun b hb=>by omega);exact⟨_,_,_,rfl,o8.lower (by omega),pU,nD.out⟩
theorem zlY(p:PG)(s:SS)(F:Int)(g:Nat)(v sv:Value)(W:World)(hp:PV W Any p v)(hs:SV W Any s sv)(hcl:s.cells.length<=5864062014800)(hF:I64 F)(eF:F<=1000000)(hg:F.toNat*2000+2000<=g) :
  Calls prog 21 #[v,sv,.int .i64 F] W (FwP W (resO p s F g false)):=zrC p s F g v sv W hp hs hcl hF eF hg (zza p)
def OpS(E:Prop)(Q:ST->ST->Prop)(R R':Int×ST):Prop:=(R.1=0->R'.1=0/\Q R.2 R'.2)/\(E->R.1≠0->R'.1=R.1)
structure SimR(E:Prop)(F:Int)(Rl:Nat->ST->ST->Prop):Prop where
 look:∀(n:Nat) S S',Rl n S S'->S'.look=S.look
 tick:∀(n:Nat) S S',Rl n S S'->Rl (n+1) S S'
 do_:∀(n:Nat) S S' t,(n:Int)<F->Rl n S S'->OpS E (Rl (n+1)) (doE S t) (doE S' t)
 undo:∀(n:Nat) S S' t,(n:Int)<F->Rl n S S'->OpS E (Rl (n+1)) (zmf S t) (zmf S' t)
 open_:∀(n:Nat) S S' v x,(n:Int)<F->Rl n S S'->OpS E (Rl (n+1)) (zk4 S v x) (zk4 S' v x)
 close:∀(n:Nat) S S' s x,(n:Int)<F->Rl n S S'->OpS E (Rl (n+1)) (zkG S s x) (zkG S' s x)
 enter:∀(n:Nat) S S' ps ss,(n:Int)<F->Rl n S S'->OpS E (Rl (n+1)) (zk1 S ps ss) (zk1 S' ps ss)
 leave:∀(n:Nat) S S',(n:Int)<F->Rl n S S'->OpS E (Rl (n+1)) (zk2 S) (zk2 S')
structure SimS(Rl:Nat->ST->ST->Prop)(k:Int)(r r':RS):Prop where
 rl:Rl r.n r.S r'.S
 n:(r'.n:Int)=r.n+k
def SimO(E:Prop)(Rl:Nat->ST->ST->Prop)(F F' k:Int)(o o':Out):Prop:=(o'=.err 18/\F'<F+k)\/match o with
 | .gas=>True
 | .err e=>E->o'=.err e
 | .ok r=>∃r',o'=.ok r'/\SimS Rl k r r'
section
variable {E:Prop} {Rl:Nat->ST->ST->Prop} {F F' k:Int} {o o':Out}
theorem SimO.bind{f f':RS->Out}(h:SimO E Rl F F' k o o')(hf:∀r r',SimS Rl k r r'->SimO E Rl F F' k (f r) (f' r')):SimO E Rl F F' k (o.bind f) (o'.bind f'):=by
 rcases h with⟨rfl,h⟩|h
 ·exact .inl ⟨rfl,h⟩
 ·cases o with
  | gas=>exact .inr trivial
  | err e=>exact .inr fun he=>by rw[h he];rfl
  | ok r =>
   obtain⟨r',rfl,hs⟩:=h;exact hf r r' hs
theorem SimO.same{r r':RS}(h:SimS Rl k r r'):SimO E Rl F F' k (.ok r) (.ok r'):=.inr ⟨r',rfl,h⟩
theorem SimO.err{e:Int}:SimO E Rl F F' k (.err e) (.err e):=.inr fun _=>rfl
theorem SimO.step{r r':RS}{f f':RS->Out}(hF:F'<=F+k)(h:SimS Rl k r r')(hf:(r.n:Int)<F->SimO E Rl F F' k (f { r with n:=r.n+1 }) (f' { r' with n:=r'.n+1 })):SimO E Rl F F' k ((zkB F r).bind f) ((zkB F' r').bind f'):=by
 have hn:=h.n;unfold zkB;by_cases h1:F<=r.n
 ·rw[if_pos h1,if_pos (by omega)];exact SimO.err
 ·rw[if_neg h1];by_cases h2:F'<=r'.n
  ·rw[if_pos h2];exact .inl ⟨rfl,by omega⟩
  ·rw[if_neg h2];exact hf (by omega)
theorem SimO.store{r r':RS}{R R':Int×ST}(hn:(r'.n:Int)=r.n+k)(h:OpS E (Rl r.n) R R'):SimO E Rl F F' k (zkj r R) (zkj r' R'):=by
 unfold zkj;by_cases h0:R.1=0
 ·obtain⟨h1,h2⟩:=h.1 h0;rw[if_neg (by simp[h0]),if_neg (by simp[h1])];exact SimO.same ⟨h2,hn⟩
 ·rw[if_pos h0];refine .inr fun he=>?_;have:=h.2 he h0;rw[if_pos (by rw[this];exact h0),this]
theorem SimO.val{r r':RS}{t:T}{f f':Int->RS->Out}(hl:r'.S.look=r.S.look)(h:∀x,SimO E Rl F F' k (f x r) (f' x r')):SimO E Rl F F' k (valO t r f) (valO t r' f'):=by
 unfold valO;rw[hl]
 split
 ·exact SimO.err
 ·exact h _
theorem SimO.holds(hR:SimR E F Rl)(hF:F'<=F+k){r r':RS}{t:T}{f f':Bool->RS->Out}(h:SimS Rl k r r')(hf:∀b r1 r1',SimS Rl k r1 r1'->SimO E Rl F F' k (f b r1) (f' b r1')):SimO E Rl F F' k (zk0 F t r f) (zk0 F' t r' f'):=by
 unfold zk0;refine SimO.step hF h fun _=>?_;refine SimO.val (by exact hR.look _ _ _ h.rl) fun x=>?_;exact hf _ _ _ ⟨hR.tick _ _ _ h.rl,by have:=h.n;simp only;omega⟩
theorem SimO.assert(hR:SimR E F Rl)(hF:F'<=F+k){r r':RS}{t:T}{b:Bool}(h:SimS Rl k r r'):SimO E Rl F F' k (zks F t b r) (zks F' t b r'):=by
 unfold zks;refine SimO.holds hR hF h fun b1 r1 r1' h1=>?_
 split
 ·exact SimO.same h1
 ·exact SimO.err
theorem SimO.body{f f':T->RS->Out}:∀(l:List T) (r r':RS),SimS Rl k r r'->(∀t∈l,∀r r',SimS Rl k r r'->SimO E Rl F F' k (f t r) (f' t r'))->SimO E Rl F F' k (zkK f l r) (zkK f' l r')
 | [],_,_,h,_=>SimO.same h
 | t::ts,r,r',h,hf=>by
  rw[zkK,zkK];exact(hf t (List.mem_cons_self ..) r r' h).bind fun r1 r1' h1=>SimO.body ts r1 r1' h1 fun u hu=>hf u (List.mem_cons_of_mem _ hu)
theorem SimO.loop(hR:SimR E F Rl)(hF:F'<=F+k){f f':T->RS->Out}{entry test:T}{l1 l2:List T}(h1:∀t∈l1,∀r r',SimS Rl k r r'->SimO E Rl F F' k (f t r) (f' t r'))(h2:∀t∈l2,∀r r',SimS Rl k r r'->SimO E Rl F F' k (f t r) (f' t r')) :
  ∀(m:Nat) (r r':RS),SimS Rl k r r'->SimO E Rl F F' k (zlJ F f entry test l1 l2 m r) (zlJ F' f' entry test l1 l2 m r')
 | 0,_,_,_=>.inr trivial
 | m+1,r,r',h=>by
  rw[zlJ,zlJ];refine(SimO.body l1 r r' h h1).bind fun r1 r1' g1=>SimO.holds hR hF g1 fun b r2 r2' g2=>?_
  split
  ·exact SimO.same g2
  ·exact(SimO.body l2 r2 r2' g2 h2).bind fun r3 r3' g3=>(SimO.assert hR hF g3).bind fun r4 r4' g4=>SimO.loop hR hF h1 h2 m r4 r4' g4
theorem znk(hR:SimR E F Rl)(hF:F'<=F+k){prs:List PR}:∀(g:Nat) (back:Bool) (t:T) (r r':RS),SimS Rl k r r'->SimO E Rl F F' k (zkt prs F g back t r) (zkt prs F' g back t r')
 | 0,_,_,_,_,_=>.inr trivial
 | g+1,back,t,r,r',h=>by
  have hb:∀back (l:List T) r r',SimS Rl k r r'->SimO E Rl F F' k (zkK (zkt prs F g back) l r) (zkK (zkt prs F' g back) l r'):=fun back l r r' h=>SimO.body l r r' h fun u _ r r' h=>znk hR hF g back u r r' h;have hn:=h.n;rw[zkt,zkt]
  split
  ·exact SimO.holds hR hF h fun yes r1 r1' h1=>(hb _ _ r1 r1' h1).bind fun r2 r2' h2=>SimO.assert hR hF h2
  ·split
   ·exact(SimO.assert hR hF h).bind fun r1 r1' h1=>SimO.loop hR hF (fun u _ r r' h=>znk hR hF g back u r r' h) (fun u _ r r' h=>znk hR hF g back u r r' h) g r1 r1' h1
   ·split
    ·refine SimO.step hF h fun hlt=>SimO.val (hR.look _ _ _ h.rl) fun x=>(SimO.store (by simp only;omega) (hR.open_ _ _ _ _ _ hlt h.rl)).bind fun r2 r2' h2=>(hb _ _ r2 r2' h2).bind fun r3 r3' h3=>?_;have bV:=h3.n;exact SimO.step hF h3 fun hlt=>SimO.val (hR.look _ _ _ h3.rl) fun x=>SimO.store (by simp only;omega) (hR.close _ _ _ _ _ hlt h3.rl)
    ·split
     ·refine SimO.step hF h fun hlt=>(SimO.store (by simp only;omega) (hR.open_ _ _ _ _ _ hlt h.rl)).bind fun r2 r2' h2=>(hb _ _ r2 r2' h2).bind fun r3 r3' h3=>?_;have bV:=h3.n;exact SimO.step hF h3 fun hlt=>SimO.store (by simp only;omega) (hR.close _ _ _ _ _ hlt h3.rl)
     ·split
      ·split
       ·exact SimO.err
       ·refine SimO.step hF h fun hlt=>(SimO.store (by simp only;omega) (hR.enter _ _ _ _ _ hlt h.rl)).bind fun r2 r2' h2=>SimO.bind (hb _ _ { r2 with ent:=r2.ent.set _ (r2.ent.getD _ 0+1) } { r2' with ent:=r2'.ent.set _ (r2'.ent.getD _ 0+1) } ⟨h2.rl,h2.n⟩) fun r3 r3' h3=>?_;have bV:=h3.n;exact SimO.step hF h3 fun hlt=>SimO.store (by simp only;omega) (hR.leave _ _ _ hlt h3.rl)
      ·refine SimO.step hF h fun hlt=>SimO.store (by simp only;omega) ?_
       cases back
       ·exact hR.do_ _ _ _ _ hlt h.rl
       ·exact hR.undo _ _ _ _ hlt h.rl
theorem zwg(hR:SimR E F Rl)(hF:F'<=F+k){prs:List PR}(g:Nat)(back:Bool)(b:T)(r r':RS)(h:SimS Rl k r r'):SimO E Rl F F' k (runO prs F g back b r) (runO prs F' g back b r') :=
 SimO.body _ r r' h fun u _ r r' h=>znk hR hF g back u r r' h
end
theorem zst{f:FR}:∀(l:List (VD×ByteArray)) (acc:FR) (e:Int),entL f acc l=.error e->e≠0
 | [],acc,e,h=>by rw[entL]at h;cases h
 | (v,a)::r,acc,e,h=>by
  rw[entL]at h
  split at h
  ·injection h with h;omega
  ·split at h
   ·exact zst r _ _ h
   ·injection h with h;omega
section
variable {S:ST} {l:List Int}
end
structure FrR(ρ:Nat->Nat->Prop)(f g:FR):Prop where
 vs:f.vs=g.vs
 loc:f.loc=g.loc
 len:f.cs.length=g.cs.length
 full:f.cs.length=f.vs.length/\f.loc<=f.vs.length
 cs:∀(i a b:Nat),f.cs[i]?=some a->g.cs[i]?=some b->ρ a b
structure EqR(ρ:Nat->Nat->Prop)(S S':ST):Prop where
 fn:∀a b b',ρ a b->ρ a b'->b=b'
 inj:∀a a' b,ρ a b->ρ a' b->a=a'
 lt:∀a b,ρ a b->a<S.nc/\b<S'.nc
 cell:∀a b,ρ a b->S'.cell b=S.cell a
 base:FrR ρ S.base S'.base
 ncalls:S.calls.length=S'.calls.length
 calls:∀(i:Nat) (f g:FR),S.calls[i]?=some f->S'.calls[i]?=some g->FrR ρ f g
 tin:S'.tin=S.tin
 tout:S'.tout=S.tout
def Eqv(S S':ST):Prop:=∃ρ,EqR ρ S S'
def OpE(ρ:Nat->Nat->Prop)(R R':Int×ST):Prop:=R'.1=R.1/\(R.1=0->EqR ρ R.2 R'.2)
section
variable {ρ ρ':Nat->Nat->Prop} {f g:FR} {S S' S'':ST} {a b:Nat}
theorem FrR.mono(h:FrR ρ f g)(hr:∀a b,ρ a b->ρ' a b):FrR ρ' f g:=⟨h.vs,h.loc,h.len,h.full,fun i a b x y=>hr a b (h.cs i a b x y)⟩
theorem FrR.getD(h:FrR ρ f g){i:Nat}(hi:i<f.vs.length):ρ (f.cs.getD i 0) (g.cs.getD i 0):=by
 have h1:i<f.cs.length:=by rw[h.full.1];exact hi
 have h2:i<g.cs.length:=by rw[<-h.len];exact h1
 refine h.cs i _ _ ?_ ?_
 ·rw[List.getD_eq_getElem?_getD,List.getElem?_eq_getElem h1];rfl
 ·rw[List.getD_eq_getElem?_getD,List.getElem?_eq_getElem h2];rfl
theorem FrR.snoc(h:FrR ρ f g)(v:VD)(hab:ρ a b)(l:Nat)(hl:l<=f.vs.length+1):FrR ρ ⟨f.vs++[v],f.cs++[a],l⟩ ⟨g.vs++[v],g.cs++[b],l⟩:=by
 refine⟨by rw[h.vs],rfl,by simp[h.len],⟨by simp[h.full.1],by simpa using hl⟩,fun i x y hx hy=>?_⟩;simp only at hx hy;rcases Nat.lt_or_ge i f.cs.length with h1|h1
 ·rw[List.getElem?_append_left h1]at hx;rw[List.getElem?_append_left (by rw[<-h.len];exact h1)]at hy;exact h.cs i x y hx hy
 ·rw[List.getElem?_append_right h1]at hx;rw[List.getElem?_append_right (by rw[<-h.len];exact h1)]at hy;rw[<-h.len]at hy
  cases hi:i-f.cs.length with
  | zero =>
   rw[hi]at hx hy;simp only[List.getElem?_cons_zero,Option.some.injEq]at hx hy;subst hx hy;exact hab
  | succ j =>
   rw[hi]at hx;simp at hx
theorem FrR.pop(h:FrR ρ f g):FrR ρ f.pop g.pop:=by
 have h1:=h.full;refine⟨by simp only[FR.pop,h.vs],by simp only[FR.pop,h.loc],by simp only[FR.pop,List.length_take,h.len,h.vs],⟨by simp only[FR.pop,List.length_take,h1.1],by simp only[FR.pop,List.length_take];omega⟩,fun i x y hx hy=>?_⟩;simp only[FR.pop]at hx hy;rw[List.getElem?_take]at hx hy
 split at hx
 ·split at hy
  ·exact h.cs i x y hx hy
  ·cases hy
 ·cases hx
theorem EqR.cur(h:EqR ρ S S'):FrR ρ S.cur S'.cur:=by
 rcases Nat.eq_zero_or_pos S.calls.length with h0|h0
 ·rw[zmo h0,zmo (by rw[<-h.ncalls];exact h0)];exact h.base
 ·have h1:0<S'.calls.length:=by rw[<-h.ncalls];exact h0
  rw[zmu h0,zmu h1];refine h.calls (S.calls.length-1) _ _ (List.getElem?_eq_getElem (by omega)) ?_;rw[List.getElem?_eq_getElem (by have:=h.ncalls;omega)];congr 1;congr 1;rw[h.ncalls]
theorem EqR.num(h:EqR ρ S S')(s:ByteArray):(S.num s=none/\S'.num s=none)\/∃a b,S.num s=some a/\S'.num s=some b/\ρ a b:=by
 have hc:=h.cur;unfold ST.num FR.at
 rw[<-hc.vs]
 cases hl:zl6 S.cur.vs s S.cur.vs.length with
 | none=>exact .inl ⟨rfl,rfl⟩
 | some i =>
  simp only[Option.bind_some];have h1:i<S.cur.cs.length:=by rw[hc.full.1];exact zn1 hl
  have h2:i<S'.cur.cs.length:=by rw[<-hc.len];exact h1
  exact .inr ⟨_,_,List.getElem?_eq_getElem h1,List.getElem?_eq_getElem h2,hc.cs i _ _ (List.getElem?_eq_getElem h1) (List.getElem?_eq_getElem h2)⟩
theorem EqR.look(h:EqR ρ S S'):S'.look=S.look:=by
 funext s;unfold ST.look;rcases h.num s with⟨h1,h2⟩|⟨a,b,h1,h2,h3⟩
 ·rw[h1,h2];rfl
 ·rw[h1,h2];simp[h.cell a b h3]
theorem EqR.el(h:EqR ρ S S')(hab:ρ a b)(i:Nat):S'.el b i=S.el a i:=by unfold ST.el;rw[h.cell a b hab]
theorem EqR.setL(h:EqR ρ S S')(hab:ρ a b)(l:List Int):EqR ρ (S.setL a l) (S'.setL b l) :=
 ⟨h.fn,h.inj,h.lt,fun c d hcd=>by
  simp only[ST.setL];by_cases e:c=a
  ·subst e;rw[if_pos rfl,if_pos (h.fn _ _ _ hcd hab)]
  ·rw[if_neg e,if_neg (fun e'=>e (h.inj _ _ _ hcd (by rw[e'];exact hab)))];exact h.cell c d hcd,h.base,h.ncalls,h.calls,h.tin,h.tout⟩
theorem EqR.put(h:EqR ρ S S')(hab:ρ a b)(i:Nat)(x:Int):EqR ρ (S.put a i x) (S'.put b i x):=by
 unfold ST.put;rw[h.cell a b hab];exact h.setL hab _
theorem EqR.tapes(h:EqR ρ S S')(l m:List Int):EqR ρ { S with tin:=l,tout:=m } { S' with tin:=l,tout:=m } :=
 ⟨h.fn,h.inj,h.lt,h.cell,h.base,h.ncalls,h.calls,rfl,rfl⟩
theorem OpE.bad{e:Int}(h:e≠0):OpE ρ (e,S) (e,S'):=⟨rfl,fun h0=>absurd h0 h⟩
theorem OpE.good(h:EqR ρ S S'):OpE ρ (0,S) (0,S'):=⟨rfl,fun _=>h⟩
theorem zuf(h:EqR ρ S S')(k:Int)(hab:ρ a b)(i:Nat){s t:Nat}(hst:ρ s t):OpE ρ (zmr S k a i s) (zmr S' k b i t):=by
 unfold zmr;rw[h.cell s t hst,h.el hab]
 split
 ·split
  ·exact OpE.bad (by decide)
  ·exact OpE.good ((h.setL hst _).put hab _ _)
 ·split
  ·exact OpE.bad (by decide)
  ·split
   ·exact OpE.bad (by decide)
   ·rw[h.el hst];exact OpE.good ((h.put hab _ _).setL hst _)
theorem zsG(h:EqR ρ S S')(k:Int)(hab:ρ a b)(i:Nat):OpE ρ (zk6 S k a i) (zk6 S' k b i):=by
 unfold zk6;rw[h.tin,h.tout,h.el hab]
 split
 ·cases S.tin with
  | nil=>exact OpE.bad (by decide)
  | cons y r =>
   dsimp only
   split
   ·exact OpE.bad (by decide)
   ·have:=(h.tapes r S.tout).put hab i y;exact OpE.good this
 ·split
  ·split
   ·exact OpE.bad (by decide)
   ·split
    ·exact OpE.bad (by decide)
    ·have:=(h.tapes S.tin S.tout.dropLast).put hab i (S.tout.getLast?.getD 0);exact OpE.good this
  ·split
   ·split
    ·exact OpE.bad (by decide)
    ·have:=(h.tapes (S.el a i::S.tin) S.tout).put hab i 0;exact OpE.good this
   ·split
    ·exact OpE.bad (by decide)
    ·have:=(h.tapes S.tin (S.tout++[S.el a i])).put hab i 0;exact OpE.good this
theorem zuP(h:EqR ρ S S')(k:Int)(s qs:ByteArray)(r2:Int)(hab:ρ a b)(i:Nat):OpE ρ (zms S k s qs r2 a i) (zms S' k s qs r2 b i):=by
 unfold zms
 split
 ·rw[h.el hab];exact OpE.good (h.put hab _ _)
 ·split
  ·rcases h.num qs with⟨h1,h2⟩|⟨c,d,h1,h2,h3⟩
   ·rw[h1,h2];exact OpE.good h
   ·rw[h1,h2];dsimp only;rw[h.cell c d h3]
    split
    ·refine OpE.good ?_;unfold ztK;rw[h.el hab,h.el h3];exact(h.put hab _ _).put h3 _ _
    ·exact OpE.bad (by decide)
  ·split
   ·rcases h.num s with⟨h1,h2⟩|⟨c,d,h1,h2,h3⟩
    ·rw[h1,h2];exact OpE.good h
    ·rw[h1,h2];exact zuf h k hab i h3
   ·exact zsG h k hab i
theorem zuZ(h:EqR ρ S S')(t:T):OpE ρ (doE S t) (doE S' t):=by
 unfold doE;rw[<-h.cur.vs]
 split
 ·exact OpE.bad (by decide)
 split
 ·exact OpE.bad (by decide)
 split
 ·exact OpE.bad (by decide)
 split
 ·rename_i hf;exact OpE.bad hf
 obtain⟨k,n,s,ks⟩:=t
 show OpE ρ (zlg S k s (ks.getD 0 nil0) (ks.getD 1 nil0) (indE S.look (ks.getD 0 nil0)) (zlM S k (ks.getD 1 nil0))) (zlg S' k s (ks.getD 0 nil0) (ks.getD 1 nil0) (indE S'.look (ks.getD 0 nil0)) (zlM S' k (ks.getD 1 nil0)))
 have er:zlM S' k (ks.getD 1 nil0)=zlM S k (ks.getD 1 nil0):=by unfold zlM;rw[h.look]
 rw[er,h.look];unfold zlg
 split
 ·rename_i h1;exact OpE.bad h1
 ·unfold zm3
  split
  ·rename_i h1;exact OpE.bad h1
  ·rcases h.num (ks.getD 0 nil0).s with⟨h1,h2⟩|⟨c,d,h1,h2,h3⟩
   ·rw[h1,h2];exact OpE.good h
   ·rw[h1,h2];dsimp only;rw[h.cell c d h3]
    split
    ·exact zuP h _ _ _ _ h3 _
    ·exact OpE.bad (by decide)
theorem ztE(h:EqR ρ S S')(t:T):OpE ρ (zmf S t) (zmf S' t):=by
 obtain⟨k,n,s,ks⟩:=t;exact zuZ h _
theorem EqR.setCur(h:EqR ρ S S'){f g:FR}(hf:FrR ρ f g):EqR ρ (S.setCur f) (S'.setCur g):=by
 unfold ST.setCur;by_cases h0:S.calls.length=0
 ·rw[if_pos h0,if_pos (by rw[<-h.ncalls];exact h0)];exact⟨h.fn,h.inj,h.lt,h.cell,hf,h.ncalls,h.calls,h.tin,h.tout⟩
 ·rw[if_neg h0,if_neg (by rw[<-h.ncalls];exact h0)];refine⟨h.fn,h.inj,h.lt,h.cell,h.base,by simpa using h.ncalls,fun i x y hx hy=>?_,h.tin,h.tout⟩;simp only at hx hy;rw[<-h.ncalls]at hy;by_cases e:S.calls.length-1=i
  ·subst e;rw[List.getElem?_set_self (by omega)]at hx;rw[List.getElem?_set_self (by have:=h.ncalls;omega)]at hy;injection hx with hx;injection hy with hy;subst hx hy;exact hf
  ·rw[List.getElem?_set_ne e]at hx hy;exact h.calls i x y hx hy
theorem EqR.newCell(h:EqR ρ S S')(l:List Int):EqR (fun a b=>ρ a b\/(a=S.nc/\b=S'.nc)) (S.newCell l) (S'.newCell l):=by
 have hm:∀a b,ρ a b->ρ a b\/(a=S.nc/\b=S'.nc):=fun _ _=>.inl;refine⟨fun a b b' h1 h2=>?_,fun a a' b h1 h2=>?_,fun a b h1=>?_,fun a b h1=>?_,h.base.mono hm,h.ncalls,fun i x y hx hy=>(h.calls i x y hx hy).mono hm,h.tin,h.tout⟩
 ·rcases h1 with h1|⟨h1,h1'⟩<;>rcases h2 with h2|⟨h2,h2'⟩
  ·exact h.fn _ _ _ h1 h2
  ·have:=(h.lt _ _ h1).1;omega
  ·have:=(h.lt _ _ h2).1;omega
  ·omega
 ·rcases h1 with h1|⟨h1,h1'⟩<;>rcases h2 with h2|⟨h2,h2'⟩
  ·exact h.inj _ _ _ h1 h2
  ·have:=(h.lt _ _ h1).2;omega
  ·have:=(h.lt _ _ h2).2;omega
  ·omega
 ·simp only[ST.newCell];rcases h1 with h1|⟨h1,h1'⟩
  ·have:=h.lt _ _ h1;omega
  ·omega
 ·simp only[ST.newCell];rcases h1 with h1|⟨rfl,rfl⟩
  ·have:=h.lt _ _ h1;rw[if_neg (by omega),if_neg (by omega)];exact h.cell _ _ h1
  ·simp
theorem zub(h:EqR ρ S S')(v:VD)(x:Int):∃ρ',OpE ρ' (zk4 S v x) (zk4 S' v x):=by
 unfold zk4 FR.at
 rw[<-h.cur.vs]
 split
 ·exact⟨ρ,OpE.bad (by decide)⟩
 ·split
  ·exact⟨ρ,OpE.bad (by decide)⟩
  ·refine⟨_,OpE.good ((h.newCell (if v.k=1 then [x]else [])).setCur ?_)⟩;unfold FR.push;rw[<-h.cur.loc];exact(h.cur.mono fun _ _=>.inl).snoc v (.inr ⟨rfl,rfl⟩) _ (by have:=h.cur.full;omega)
theorem ztd(h:EqR ρ S S')(s:ByteArray)(x:Int):OpE ρ (zkG S s x) (zkG S' s x):=by
 have hc:=h.cur;have e1:zos S'.cur=zos S.cur:=by unfold zos;rw[hc.vs]
 unfold zkG;rw[e1,<-hc.loc]
 split
 ·exact OpE.bad (by decide)
 ·rename_i h1;have h2:S'.cell (zpK S'.cur)=S.cell (zpK S.cur):=by
   refine h.cell _ _ ?_;unfold zpK;rw[<-hc.vs];exact hc.getD (by have:=hc.full;omega)
  rw[h2]
  split
  ·exact OpE.bad (by decide)
  ·exact OpE.good (h.setCur hc.pop)
theorem zsu{f g:FR}(h:FrR ρ f g):∀(l:List (VD×ByteArray)) (x y:FR),FrR ρ x y->x.loc=0->(∃e,e≠0/\entL f x l=.error e/\entL g y l=.error e)\/∃x' y',entL f x l=.ok x'/\entL g y l=.ok y'/\FrR ρ x' y'
 | [],x,y,hxy,h0=>.inr ⟨x,y,rfl,rfl,hxy⟩
 | (v,a)::r,x,y,hxy,h0=>by
  rw[entL,entL];unfold FR.at
  rw[<-h.vs]
  cases hl:zl6 f.vs a f.vs.length with
  | none=>exact .inl ⟨6,by decide,rfl,rfl⟩
  | some i =>
   dsimp only
   split
   ·exact zsu h r _ _ (hxy.snoc v (h.getD (zn1 hl)) 0 (Nat.zero_le _)) rfl
   ·exact .inl ⟨7,by decide,rfl,rfl⟩
theorem ztc(h:EqR ρ S S')(ps:List VD)(ss:List ByteArray):OpE ρ (zk1 S ps ss) (zk1 S' ps ss):=by
 unfold zk1
 split
 ·exact OpE.bad (by decide)
 ·rcases zsu h.cur (ps.zip ss) ⟨[],[],0⟩ ⟨[],[],0⟩ ⟨rfl,rfl,rfl,⟨rfl,zl⟩,fun i a b hx=>by simp at hx⟩ rfl with⟨e,h0,h1,h2⟩|⟨x,y,h1,h2,h3⟩
  ·rw[h1,h2];exact OpE.bad h0
  ·rw[h1,h2];unfold entR;dsimp only;rw[<-h.ncalls]
   split
   ·exact OpE.bad (by decide)
   ·refine OpE.good ⟨h.fn,h.inj,h.lt,h.cell,h.base,by simp[h.ncalls],fun i p q hp hq=>?_,h.tin,h.tout⟩;simp only at hp hq;rcases Nat.lt_or_ge i S.calls.length with hi|hi
    ·rw[List.getElem?_append_left hi]at hp;rw[List.getElem?_append_left (by rw[<-h.ncalls];exact hi)]at hq;exact h.calls i p q hp hq
    ·rw[List.getElem?_append_right hi]at hp;rw[List.getElem?_append_right (by rw[<-h.ncalls];exact hi),<-h.ncalls]at hq
     cases hj:i-S.calls.length with
     | zero =>
      rw[hj]at hp hq;simp only[List.getElem?_cons_zero,Option.some.injEq]at hp hq;subst hp hq;exact h3
     | succ j =>
      rw[hj]at hp;simp at hp
theorem zs0(h:EqR ρ S S'):OpE ρ (zk2 S) (zk2 S'):=by
 unfold zk2;rw[<-h.cur.loc,<-h.ncalls]
 split
 ·exact OpE.bad (by decide)
 ·refine OpE.good ⟨h.fn,h.inj,h.lt,h.cell,h.base,by simp[h.ncalls],fun i p q hp hq=>?_,h.tin,h.tout⟩;simp only at hp hq;rw[List.getElem?_take]at hp hq
  split at hp
  ·rename_i h1;rw[if_pos h1]at hq;exact h.calls i p q hp hq
  ·cases hp
theorem OpE.op{R R':Int×ST}(h:OpE ρ R R'):OpS True Eqv R R':=⟨fun h0=>⟨by rw[h.1];exact h0,ρ,h.2 h0⟩,fun _ _=>h.1⟩
end
theorem zzb(F:Int):SimR True F (fun _=>Eqv) where
 look:=fun n S S' ⟨ρ,h⟩=>h.look
 tick:=fun n S S' h=>h
 do_:=fun n S S' t _ ⟨ρ,h⟩=>(zuZ h t).op
 undo:=fun n S S' t _ ⟨ρ,h⟩=>(ztE h t).op
 open_:=fun n S S' v x _ ⟨ρ,h⟩=>by obtain⟨ρ',h'⟩:=zub h v x;exact h'.op
 close:=fun n S S' s x _ ⟨ρ,h⟩=>(ztd h s x).op
 enter:=fun n S S' ps ss _ ⟨ρ,h⟩=>(ztc h ps ss).op
 leave:=fun n S S' _ ⟨ρ,h⟩=>(zs0 h).op
theorem FrR.symm{ρ:Nat->Nat->Prop}{f g:FR}(h:FrR ρ f g):FrR (fun a b=>ρ b a) g f:=⟨h.vs.symm,h.loc.symm,h.len.symm,by rw[<-h.vs,<-h.len,<-h.loc];exact h.full,fun i a b ha hb=>h.cs i b a hb ha⟩
theorem Eqv.symm{S S':ST}(h:Eqv S S'):Eqv S' S:=by
 obtain⟨ρ,h⟩:=h;exact⟨fun a b=>ρ b a,fun a b b' h1 h2=>h.inj _ _ _ h1 h2,fun a a' b h1 h2=>h.fn _ _ _ h1 h2,fun a b h1=>(h.lt _ _ h1).symm,fun a b h1=>(h.cell _ _ h1).symm,h.base.symm,h.ncalls.symm,fun i f g hf hg=>(h.calls i g f hg hf).symm,h.tin.symm,h.tout.symm⟩
theorem FrR.map{ρ:Nat->Nat->Prop}{S S':ST}(h:EqR ρ S S')(n:Nat):(S'.base.cs.take n).map S'.cell=(S.base.cs.take n).map S.cell:=by
 refine List.ext_getElem? fun i=>?_;rw[List.getElem?_map,List.getElem?_map,List.getElem?_take,List.getElem?_take]
 split
 ·rcases Nat.lt_or_ge i S.base.cs.length with hi|hi
  ·have hi':i<S'.base.cs.length:=by rw[<-h.base.len];exact hi
   rw[List.getElem?_eq_getElem hi,List.getElem?_eq_getElem hi'];simp only[Option.map_some,Option.some.injEq];exact h.cell _ _ (h.base.cs i _ _ (List.getElem?_eq_getElem hi) (List.getElem?_eq_getElem hi'))
  ·rw[List.getElem?_eq_none hi,List.getElem?_eq_none (by rw[<-h.base.len];exact hi)];rfl
 ·rfl
theorem Eqv.state{S S':ST}(h:Eqv S S'):S'.state=S.state:=by
 obtain⟨ρ,h⟩:=h;unfold ST.state;rw[h.tin,h.tout,<-h.base.len,<-h.base.loc,FrR.map h]
def LitB(t:T):Prop:=∀u∈po t,Fld u.k u.n u.s
theorem NV.lit{w:World}{S:Nat->Prop}:∀(t:T) (v:Value),NV w S t v->LitB t:=by
 intro t
 induction t using T.ind with
 | _ k n s ks ih =>
  intro v hv u hu;obtain⟨A,c,-,hf,-,-,hrow⟩:=hv.open_;simp only[po,List.mem_cons]at hu;rcases hu with rfl|hu
  ·exact hf
  ·obtain⟨t,ht,hx⟩:=zmj.1 hu;obtain⟨i,hi,rfl⟩:=List.getElem_of_mem ht;obtain⟨a,u0,u1,u2,u3,-,-,-,hn⟩:=hrow i hi;exact ih _ ht _ hn u hx
theorem LitB.kid{k n:Int}{s:ByteArray}{ks:List T}(h:LitB (.nd k n s ks)){t:T}(ht:t∈ks):LitB t:=fun u hu=>h u (by simp only[po,List.mem_cons];exact .inr (zmj.2 ⟨t,ht,hu⟩))
theorem LitB.own{t:T}(h:LitB t):Fld t.k t.n t.s:=h t (by obtain⟨k,n,s,ks⟩:=t;simp[po])
theorem LitB.ev{look:ByteArray->Option (List Int)}(hl:∀s l,look s=some l->l.length<=100000/\∀x∈l,I64 x):∀t,LitB t->I64 (evE look t).1:=by
 intro t
 induction t using T.ind with
 | _ k n s ks ih =>
  intro h;rw[evE];refine zuQ hl h.own.2.1 ?_;rw[znl,List.getD_eq_getElem?_getD,List.getElem?_map];rcases hk:ks[0]? with _|u
  ·exact zero_I64
  ·exact ih u (List.mem_of_getElem? hk) (h.kid (List.mem_of_getElem? hk))
theorem LitB.expr{S:ST}(h:S.WF){t:T}(ht:LitB t):I64 (zk9 S.look t).1:=by
 unfold zk9
 split
 ·exact LitB.ev (zsf h) _ ht
 ·exact zero_I64
theorem LitB.kidD{t:T}(h:LitB t)(i:Nat):LitB (Go.Proofs.YtembgnhbpmfhpaaGreat.kid t i):=by
 obtain⟨k,n,s,ks⟩:=t;unfold Go.Proofs.YtembgnhbpmfhpaaGreat.kid;rw[List.getD_eq_getElem?_getD];rcases hk:(T.nd k n s ks).ks[i]? with _|u
 ·intro v hv;have:v=nil0:=by simpa[nil0,po,pos]using hv
  subst this;exact⟨⟨by decide,by decide⟩,⟨by decide,by decide⟩,Nat.zero_le _⟩
 ·exact h.kid (List.mem_of_getElem? hk)
theorem LitB.block{t:T}(h:LitB t){u:T}(hu:u∈t.ks):LitB u:=by
 obtain⟨k,n,s,ks⟩:=t;exact h.kid hu
section
variable {S:ST}
theorem zxQ(h:S.WF){s:ByteArray}{id:Nat}(hn:S.num s=some id):id<S.nc:=by
 obtain⟨kd,hw⟩:=h.cur;unfold ST.num at hn;obtain⟨i,-,h2⟩:=Option.bind_eq_some_iff.1 hn;exact hw.num id (List.mem_of_getElem? h2)
theorem zvZ(k x y:Int):I64 (updE k x y):=by
 unfold updE
 repeat' split
 all_goals first|exact zmF _|exact zqX _
theorem zwB(h:S.WF)(k:Int){id:Nat}(i:Nat){aj:Nat}(hid:id<S.nc)(hs:CurK S aj 3):(zmr S k id i aj).2.WF:=by
 have bZ:=hs.lt h;have hc:=h.cells aj bZ;unfold zmr
 split
 ·split
  ·exact h
  ·refine zmX (zvo h aj hs _ (by simp;omega) fun x hx=>?_) hid i 0 zero_I64;rcases List.mem_append.1 hx with hx|hx
   ·exact hc.2 x hx
   ·obtain rfl:=List.mem_singleton.1 hx;exact zmE h hid i
 ·split
  ·exact h
  ·split
   ·exact h
   ·refine zvo (S:=S.put id i _) (zmX h hid i _ (zmE h bZ _)) aj hs _ (by rw[List.length_take];omega) fun x hx=>hc.2 x (List.mem_of_mem_take hx)
theorem zn9(h:S.WF)(l m:List Int)(h1:l.length<=4096/\∀x∈l,I64 x)(h2:m.length<=4096/\∀x∈m,I64 x):({ S with tin:=l,tout:=m }:ST).WF:=⟨h.ex,h.ncalls,h.cells,h1,h2⟩
theorem ztI(h:S.WF)(k:Int){id:Nat}(i:Nat)(hid:id<S.nc):(zk6 S k id i).2.WF:=by
 unfold zk6;have h1:=h.tin;have h2:=h.tout
 split
 ·split
  ·exact h
  ·rename_i y r he
   split
   ·exact h
   ·rw[he]at h1;exact zmX (S:={ S with tin:=r }) (zn9 h r S.tout ⟨by have:=h1.1;simp at this;omega,fun x hx=>h1.2 x (List.mem_cons_of_mem _ hx)⟩ h2) hid i y (h1.2 y (List.mem_cons_self ..))
 ·split
  ·split
   ·exact h
   ·split
    ·exact h
    ·refine zmX (S:={ S with tout:=S.tout.dropLast }) (zn9 h S.tin S.tout.dropLast h1 ⟨by have:=h2.1;simp;omega,fun x hx=>h2.2 x (List.dropLast_subset _ hx)⟩) hid i _ ?_
     cases hl:S.tout.getLast? with
     | none=>exact zero_I64
     | some x=>exact h2.2 x (List.mem_of_getLast? hl)
  ·split
   ·split
    ·exact h
    ·refine zmX (S:={ S with tin:=S.el id i::S.tin }) (zn9 h _ S.tout ⟨by simp;omega,fun x hx=>?_⟩ h2) hid i 0 zero_I64;rcases List.mem_cons.1 hx with rfl|hx
     ·exact zmE h hid i
     ·exact h1.2 x hx
   ·split
    ·exact h
    ·refine zmX (S:={ S with tout:=S.tout++[S.el id i] }) (zn9 h S.tin _ h1 ⟨by simp;omega,fun x hx=>?_⟩) hid i 0 zero_I64;rcases List.mem_append.1 hx with hx|hx
     ·exact h2.2 x hx
     ·obtain rfl:=List.mem_singleton.1 hx;exact zmE h hid i
theorem zys(h:S.WF){k n:Int}{s:ByteArray}{ks:List T}(hf:fltE S.cur.vs (.nd k n s ks)=0)(hk:k=44\/k=45):∃aj,S.num s=some aj/\CurK S aj 3:=by
 have hn:zoN k=3:=by rcases hk with rfl|rfl<;>rfl
 obtain⟨u,h4,h5⟩:=znY (zpP hf).1 (by rw[hn];decide);obtain⟨aj,h6,h7⟩:=zr9 h h4;exact⟨aj,h6,by rw[h5,hn]at h7;exact h7⟩
theorem zx5(h:S.WF)(t:T):(doE S t).2.WF:=by
 unfold doE
 split
 ·exact h
 split
 ·exact h
 split
 ·exact h
 split
 ·exact h
 rename_i h1 h2 h3 h4;have hf:fltE S.cur.vs t=0:=by simpa using h4
 obtain⟨k,n,s,ks⟩:=t
 show(zlg S k s (ks.getD 0 nil0) (ks.getD 1 nil0) (indE S.look (ks.getD 0 nil0)) (zlM S k (ks.getD 1 nil0))).2.WF
 unfold zlg
 split
 ·exact h
 unfold zm3
 split
 ·exact h
 cases h5:S.num (ks.getD 0 nil0).s with
 | none=>exact h
 | some id =>
  have hid:=zxQ h h5;dsimp only
  split
  ·unfold zms
   split
   ·exact zmX h hid _ _ (zvZ _ _ _)
   ·split
    ·cases h6:S.num (ks.getD 1 nil0).s with
     | none=>exact h
     | some jd =>
      have hjd:=zxQ h h6;dsimp only
      split
      ·exact zmX (zmX h hid _ _ (zmE h hjd _)) hjd _ _ (zmE h hid _)
      ·exact h
    ·split
     ·rename_i hk;obtain⟨aj,h6,h7⟩:=zys h hf hk;rw[h6];exact zwB h _ _ hid h7
     ·exact ztI h _ _ hid
  ·exact h
theorem zv4(h:S.WF)(t:T):(zmf S t).2.WF:=by
 obtain⟨k,n,s,ks⟩:=t;exact zx5 h _
theorem zr6(h:S.WF)(v:VD)(hv:FldV v)(x:Int)(hx:I64 x)(hl:S.cur.vs.length+1<=4398046511000):(zk4 S v x).2.WF:=by
 unfold zk4
 split
 ·exact h
 ·rename_i hk;have hk:=Decidable.not_not.1 hk
  split
  ·exact h
  ·refine zrw h v hv _ ?_ ?_ ⟨fun e=>by rw[if_pos e];rfl,fun e=>by omega,by omega⟩ hl
   ·split<;>simp
   ·split
    ·intro y hy;obtain rfl:=List.mem_singleton.1 hy;exact hx
    ·intro y hy;cases hy
theorem zqL(h:S.WF)(s:ByteArray)(x:Int):(zkG S s x).2.WF:=by
 unfold zkG
 split
 ·exact h
 ·split
  ·exact h
  ·exact zqS h _ fun kd hw=>zyc hw
theorem zuV(h:S.WF)(ps:List VD)(ss:List ByteArray)(hf:∀v∈ps,FldV v)(hl:ps.length<=4398046511000):(zk1 S ps ss).2.WF:=by
 unfold zk1
 split
 ·exact h
 ·cases he:entL S.cur ⟨[],[],0⟩ (ps.zip ss)with
  | error e=>exact h
  | ok f =>
   unfold entR;dsimp only
   split
   ·exact h
   ·exact(zsB h ps ss f hf hl he (by omega)).1
theorem zur(h:S.WF):(zk2 S).2.WF:=by
 unfold zk2
 split
 ·exact h
 ·exact zsA h
end
section
variable {o:Out} {f:RS->Out} {r r':RS} {F:Int} {t:T}
theorem zkY(h:o.bind f=.ok r'):∃r1,o=.ok r1/\f r1=.ok r':=by
 cases o with
 | gas=>cases h
 | err e=>cases h
 | ok r1=>exact⟨r1,rfl,h⟩
theorem zlS{R:Int×ST}(h:zkj r R=.ok r'):R.1=0/\r'={ r with S:=R.2 }:=by
 unfold zkj at h
 split at h
 ·cases h
 ·rename_i h0;injection h with h;exact⟨by simpa using h0,h.symm⟩
theorem zq2{f:Int->RS->Out}(h:valO t r f=.ok r'):(zk9 r.S.look t).2=0/\f (zk9 r.S.look t).1 r=.ok r':=by
 unfold valO at h
 split at h
 ·cases h
 ·rename_i h0;exact⟨by simpa using h0,h⟩
theorem zow{f:Bool->RS->Out}(h:zk0 F t r f=.ok r'):(r.n:Int)<F/\(zk9 r.S.look t).2=0/\f (decide ((zk9 r.S.look t).1≠0)) { r with n:=r.n+1 }=.ok r':=by
 unfold zk0 at h;obtain⟨r1,h1,h2⟩:=zkY h;obtain⟨rfl,h3⟩:=zkU h1;obtain⟨h4,h5⟩:=zq2 h2;exact⟨h3,h4,h5⟩
theorem zm5{b:Bool}(h:zks F t b r=.ok r'):(r.n:Int)<F/\(zk9 r.S.look t).2=0/\decide ((zk9 r.S.look t).1≠0)=b/\r'={ r with n:=r.n+1 }:=by
 unfold zks at h;obtain⟨h1,h2,h3⟩:=zow h
 split at h3
 ·rename_i hb;injection h3 with h3;exact⟨h1,h2,hb,h3.symm⟩
 ·cases h3
end
structure RInv(r:RS):Prop where
 wf:r.S.WF
 fb:FB r.n r.S
 n:r.n<=1000000
structure Keep(r r':RS):Prop where
 base:r'.S.base=r.S.base
 calls:r'.S.calls=r.S.calls
 nc:r.S.nc<=r'.S.nc
section
variable {r r1 r':RS} {F:Int}
theorem Keep.refl(r:RS):Keep r r:=⟨rfl,rfl,zl⟩
theorem Keep.trans(h:Keep r r1)(h':Keep r1 r'):Keep r r':=⟨h'.base.trans h.base,h'.calls.trans h.calls,Nat.le_trans h.nc h'.nc⟩
theorem RInv.tick(h:RInv r)(hF:F<=1000000)(hn:(r.n:Int)<F):RInv { r with n:=r.n+1 }:=⟨h.wf,h.fb.mono (Nat.le_succ _),by simp only;omega⟩
theorem zpp{S:ST}(t:T):(doE S t).2.base=S.base/\(doE S t).2.calls=S.calls/\(doE S t).2.nc=S.nc:=by
 obtain⟨h1,h2,h3⟩:=zuY S t;exact⟨h1,h2,h3⟩
theorem zqc{S:ST}(t:T):(zmf S t).2.base=S.base/\(zmf S t).2.calls=S.calls/\(zmf S t).2.nc=S.nc:=by
 obtain⟨k,n,s,ks⟩:=t;exact zpp _
theorem zwj{f:FR}(hf:f.cs.length=f.vs.length)(v:VD)(id:Nat):(f.push v id).pop=f:=by
 obtain⟨vs,cs,loc⟩:=f;simp only at hf;simp[FR.push,FR.pop,hf]
theorem zsO(S:ST)(f:FR):(S.setCur f).cur=f:=by
 unfold ST.setCur;by_cases h0:S.calls.length=0
 ·rw[if_pos h0];exact zmo (S:={ S with base:=f }) h0
 ·rw[if_neg h0,zmu (by simp;omega)];simp
theorem zra(S:ST):S.setCur S.cur=S:=by
 unfold ST.setCur;by_cases h0:S.calls.length=0
 ·rw[if_pos h0,zmo h0]
 ·rw[if_neg h0,zmu (by omega)];simp
theorem zmd{f:T->RS->Out}:∀(l:List T) (r r':RS),(∀t∈l,∀r r',RInv r->f t r=.ok r'->RInv r'/\Keep r r')->RInv r->zkK f l r=.ok r'->RInv r'/\Keep r r'
 | [],r,r',_,hr,h=>by
  injection h with h;subst h;exact⟨hr,Keep.refl _⟩
 | t::ts,r,r',hf,hr,h=>by
  rw[zkK]at h;obtain⟨r1,h1,h2⟩:=zkY h;obtain⟨a1,a2⟩:=hf t (List.mem_cons_self ..) r r1 hr h1;obtain⟨b1,b2⟩:=zmd ts r1 r' (fun u hu=>hf u (List.mem_cons_of_mem _ hu)) a1 h2;exact⟨b1,a2.trans b2⟩
theorem zo6(hF:F<=1000000){f:T->RS->Out}{entry test:T}{l1 l2:List T}(h1:∀t∈l1,∀r r',RInv r->f t r=.ok r'->RInv r'/\Keep r r')(h2:∀t∈l2,∀r r',RInv r->f t r=.ok r'->RInv r'/\Keep r r') :
  ∀(m:Nat) (r r':RS),RInv r->zlJ F f entry test l1 l2 m r=.ok r'->RInv r'/\Keep r r'
 | 0,_,_,_,h=>by cases h
 | m+1,r,r',hr,h=>by
  rw[zlJ]at h;obtain⟨ra,ha,h⟩:=zkY h;obtain⟨a1,a2⟩:=zmd l1 r ra h1 hr ha;obtain⟨hn,-,h⟩:=zow h;have t1:=a1.tick hF hn;have k1:Keep r { ra with n:=ra.n+1 }:=⟨a2.base,a2.calls,a2.nc⟩
  split at h
  ·injection h with h;subst h;exact⟨t1,k1⟩
  ·obtain⟨rb,hb,h⟩:=zkY h;obtain⟨b1,b2⟩:=zmd l2 _ rb h2 t1 hb;obtain⟨rc,hc,h⟩:=zkY h;obtain⟨hn2,-,-,rfl⟩:=zm5 hc;have t2:=b1.tick hF hn2;obtain⟨c1,c2⟩:=zo6 hF h1 h2 m _ r' t2 h;exact⟨c1,(k1.trans b2).trans ⟨c2.base,c2.calls,c2.nc⟩⟩
def PrB(prs:List PR):Prop:=∀q∈prs,LitB q.b/\(∀v∈q.ps,FldV v)/\q.ps.length<=1000
theorem PrB.getD{prs:List PR}(h:PrB prs)(i:Nat):LitB (prs.getD i ⟨⟨#[]⟩,[],nil0⟩).b/\(∀v∈(prs.getD i ⟨⟨#[]⟩,[],nil0⟩).ps,FldV v)/\(prs.getD i ⟨⟨#[]⟩,[],nil0⟩).ps.length<=1000:=by
 rw[List.getD_eq_getElem?_getD];rcases hk:prs[i]? with _|q
 ·refine⟨fun v hv=>?_,by simp,by simp⟩;have:v=nil0:=by simpa[nil0,po,pos]using hv
  subst this;exact⟨⟨by decide,by decide⟩,⟨by decide,by decide⟩,Nat.zero_le _⟩
 ·exact h q (List.mem_of_getElem? hk)
theorem zuH{t:T}(h:LitB t)(k:Int)(hk:k=1\/k=3):FldV ⟨t.s,k,0⟩:=⟨h.own.2.2,by simp only;omega,by simp only;omega⟩
theorem zws{S:ST}{v:VD}{x:Int}(h:(zk4 S v x).1=0):S.cur.at v.s=none/\(v.k=1\/v.k=3)/\(zk4 S v x).2=(S.newCell (if v.k=1 then [x]else [])).setCur (S.cur.push v S.nc):=by
 unfold zk4 at h ⊢
 split at h
 ·cases h
 ·rename_i h1
  split at h
  ·cases h
  ·rename_i h2;rw[if_neg h1,if_neg h2];exact⟨by simpa using h2,(Decidable.not_not.1 h1).1,rfl⟩
theorem zu7{S:ST}{s:ByteArray}{x:Int}(h:(zkG S s x).1=0):0<S.cur.loc/\((zos S.cur).s.toList==s.toList)=true/\((zos S.cur).k=1->(S.cell (zpK S.cur)).getD 0 0=x)/\((zos S.cur).k=3->S.cell (zpK S.cur)=[])/\(zkG S s x).2=S.setCur S.cur.pop:=by
 unfold zkG at h ⊢
 split at h
 ·cases h
 ·rename_i h1
  split at h
  ·cases h
  ·rename_i h2;rw[if_neg h1,if_neg h2];simp only[not_or,not_and,Decidable.not_not,Bool.not_eq_false]at h1 h2;refine⟨by omega,h1.2,h2.1,fun e=>?_,rfl⟩;exact List.length_eq_zero_iff.1 (by have:=h2.2 e;omega)
theorem zuU{S:ST}{ps:List VD}{ss:List ByteArray}(h:(zk1 S ps ss).1=0):∃f,ps.length=ss.length/\entL S.cur ⟨[],[],0⟩ (ps.zip ss)=.ok f/\S.calls.length<100/\(zk1 S ps ss).2={ S with calls:=S.calls++[f] }:=by
 unfold zk1 at h ⊢
 split at h
 ·cases h
 ·rename_i h1;rw[if_neg h1]
  cases he:entL S.cur ⟨[],[],0⟩ (ps.zip ss)with
  | error e=>rw[he]at h;exact absurd h (zst _ _ _ he)
  | ok f =>
   rw[he]at h;unfold entR at h ⊢;dsimp only at h ⊢
   split at h
   ·cases h
   ·rename_i h2;rw[if_neg h2];exact⟨f,Decidable.not_not.1 h1,rfl,by omega,rfl⟩
theorem zuq{S:ST}(h:(zk2 S).1=0):0<S.calls.length/\(zk2 S).2={ S with calls:=S.calls.take (S.calls.length-1) }:=by
 unfold zk2 at h ⊢
 split at h
 ·cases h
 ·rename_i h1;rw[if_neg h1];exact⟨by omega,rfl⟩
theorem RInv.store{R:Int×ST}(h:RInv r)(hF:F<=1000000)(hn:(r.n:Int)<F)(hw:R.2.WF)(hf:FB (r.n+1) R.2):RInv { r with n:=r.n+1,S:=R.2 }:=⟨hw,hf,by simp only;omega⟩
theorem zo9{S S2:ST}{v:VD}{x y:Int}{s:ByteArray}(hc:S.cur.cs.length=S.cur.vs.length)(h1:(zk4 S v x).1=0)(hb:S2.base=(zk4 S v x).2.base)(hcl:S2.calls=(zk4 S v x).2.calls)(hn:(zk4 S v x).2.nc<=S2.nc)(h2:(zkG S2 s y).1=0) :
  (zkG S2 s y).2.base=S.base/\(zkG S2 s y).2.calls=S.calls/\S.nc<=(zkG S2 s y).2.nc:=by
 obtain⟨-,-,e1⟩:=zws h1;obtain⟨-,-,-,-,e2⟩:=zu7 h2;rw[e1]at hb hcl hn;rw[e2];have iE:S2.cur=S.cur.push v S.nc:=by
  obtain⟨S3,vD⟩:=zX ((S.newCell (if v.k=1 then [x]else [])).setCur (S.cur.push v S.nc));rw[vD]at hb hcl;have:S2.cur=S3.cur:=by unfold ST.cur;rw[hb,hcl]
  rw[this,<-vD,zsO]
 rw[iE,zwj hc];have hs:=zra S;unfold ST.setCur at hb hcl hn hs ⊢;by_cases h0:S.calls.length=0
 ·rw[if_pos (show(S.newCell _).calls.length=0 from h0)]at hb hcl hn;rw[if_pos h0]at hs;rw[if_pos (by rw[hcl];exact h0)];exact⟨by rw[zmo h0],hcl,by simp only[ST.newCell]at hn;simp only;omega⟩
 ·rw[if_neg (show ¬ (S.newCell _).calls.length=0 from h0)]at hb hcl hn;rw[if_neg h0]at hs;have hl:S2.calls.length=S.calls.length:=by rw[hcl];simp[ST.newCell]
  rw[if_neg (by omega)];refine⟨hb,?_,by simp only[ST.newCell]at hn;simp only;omega⟩;simp only[hl];rw[hcl];simp only[ST.newCell,List.set_set];have:=congrArg ST.calls hs;exact this
end
theorem zmP{prs:List PR}{F:Int}(hF:F<=1000000)(hp:PrB prs):∀(g:Nat) (back:Bool) (t:T) (r r':RS),LitB t->RInv r->zkt prs F g back t r=.ok r'->RInv r'/\Keep r r'
 | 0,_,_,_,_,_,_,h=>by cases h
 | g+1,back,t,r,r',ht,hr,h=>by
  have hb:∀back (b:T),LitB b->∀r r',RInv r->zkK (zkt prs F g back) (blkL back b) r=.ok r'->RInv r'/\Keep r r':=fun back b hb r r' hr h =>
   zmd _ r r' (fun u hu r r' hr h=>zmP hF hp g back u r r' (hb.block (zlh hu)) hr h) hr h
  have hfst:LitB (fstT back t):=by unfold fstT;split<;>exact ht.kidD _
  rw[zkt]at h
  split at h
  ·obtain⟨hn,-,h⟩:=zow h;obtain⟨r1,h1,h⟩:=zkY h;obtain⟨a1,a2⟩:=hb back _ (by split<;>exact ht.kidD _) _ r1 (hr.tick hF hn) h1;obtain⟨hn2,-,-,rfl⟩:=zm5 h;exact⟨a1.tick hF hn2,⟨a2.base,a2.calls,a2.nc⟩⟩
  split at h
  ·obtain⟨r1,h1,h⟩:=zkY h;obtain⟨hn,-,-,rfl⟩:=zm5 h1;obtain⟨a1,a2⟩:=zo6 hF (fun u hu r r' hr h=>zmP hF hp g back u r r' ((ht.kidD 1).block (zlh hu)) hr h) (fun u hu r r' hr h=>zmP hF hp g back u r r' ((ht.kidD 2).block (zlh hu)) hr h) g _ r' (hr.tick hF hn) h;exact⟨a1,⟨a2.base,a2.calls,a2.nc⟩⟩
  split at h
  ·obtain⟨r1,h1,h⟩:=zkY h;obtain⟨rfl,hn⟩:=zkU h1;obtain⟨-,h⟩:=zq2 h;obtain⟨r2,h2,h⟩:=zkY h;obtain⟨e0,rfl⟩:=zlS h2;obtain⟨r3,h3,h⟩:=zkY h;obtain⟨a1,a2⟩:=hb back _ (ht.kidD 1) _ r3 (RInv.store hr hF hn (zr6 hr.wf _ (zuH ht 1 (.inl rfl)) _ (LitB.expr hr.wf hfst) (by have:=hr.fb.cur;have:=hr.n;omega)) (hr.fb.open_ _ _)) h3;obtain⟨r4,h4,h⟩:=zkY h;obtain⟨rfl,hn2⟩:=zkU h4;obtain⟨-,h⟩:=zq2 h;obtain⟨e1,rfl⟩:=zlS h;obtain⟨kd,hw⟩:=hr.wf.cur;obtain⟨k1,k2,k3⟩:=zo9 hw.len e0 a2.base a2.calls a2.nc e1;exact⟨RInv.store a1 hF hn2 (zqL a1.wf _ _) (a1.fb.close_ _ _),⟨k1,k2,k3⟩⟩
  split at h
  ·obtain⟨r1,h1,h⟩:=zkY h;obtain⟨rfl,hn⟩:=zkU h1;obtain⟨r2,h2,h⟩:=zkY h;obtain⟨e0,rfl⟩:=zlS h2;obtain⟨r3,h3,h⟩:=zkY h;obtain⟨a1,a2⟩:=hb back _ (ht.kidD 0) _ r3 (RInv.store hr hF hn (zr6 hr.wf _ (zuH ht 3 (.inr rfl)) _ zero_I64 (by have:=hr.fb.cur;have:=hr.n;omega)) (hr.fb.open_ _ _)) h3;obtain⟨r4,h4,h⟩:=zkY h;obtain⟨rfl,hn2⟩:=zkU h4;obtain⟨e1,rfl⟩:=zlS h;obtain⟨kd,hw⟩:=hr.wf.cur;obtain⟨k1,k2,k3⟩:=zo9 hw.len e0 a2.base a2.calls a2.nc e1;exact⟨RInv.store a1 hF hn2 (zqL a1.wf _ _) (a1.fb.close_ _ _),⟨k1,k2,k3⟩⟩
  split at h
  ·split at h
   ·cases h
   ·rename_i i hi;obtain⟨q1,q2,q3⟩:=hp.getD i;obtain⟨r1,h1,h⟩:=zkY h;obtain⟨rfl,hn⟩:=zkU h1;obtain⟨r2,h2,h⟩:=zkY h;obtain⟨e0,rfl⟩:=zlS h2;obtain⟨r3,h3,h⟩:=zkY h;have i1:=RInv.store hr hF hn (zuV hr.wf _ (t.ks.map (·.s)) q2 (by omega)) (hr.fb.enter _ _ q3);have h12:=fun hI=>hb _ _ q1 _ r3 hI h3;obtain⟨a1,a2⟩:=h12 ⟨i1.wf,i1.fb,i1.n⟩;obtain⟨r4,h4,h⟩:=zkY h;obtain⟨rfl,hn2⟩:=zkU h4;obtain⟨e1,rfl⟩:=zlS h;obtain⟨f,-,-,-,ef⟩:=zuU e0;obtain⟨-,el⟩:=zuq e1;have hbs:=a2.base;have hcs:=a2.calls;have hnc:=a2.nc;simp only at hbs hcs hnc;rw[ef]at hbs hcs hnc;refine⟨RInv.store a1 hF hn2 (zur a1.wf) a1.fb.leave,⟨?_,?_,?_⟩⟩
    ·simp only;rw[el];exact hbs
    ·simp only;rw[el];simp only;rw[hcs];simp
    ·simp only;rw[el];exact hnc
  ·obtain⟨r1,h1,h⟩:=zkY h;obtain⟨rfl,hn⟩:=zkU h1;obtain⟨e0,rfl⟩:=zlS h
   cases back
   ·obtain⟨k1,k2,k3⟩:=zpp (S:=r.S) t;exact⟨RInv.store hr hF hn (zx5 hr.wf t) (hr.fb.do_ t),⟨k1,k2,Nat.le_of_eq k3.symm⟩⟩
   ·obtain⟨k1,k2,k3⟩:=zqc (S:=r.S) t;exact⟨RInv.store hr hF hn (zv4 hr.wf t) (hr.fb.undo t),⟨k1,k2,Nat.le_of_eq k3.symm⟩⟩
theorem ztT{prs:List PR}{F:Int}(hF:F<=1000000)(hp:PrB prs)(g:Nat)(back:Bool)(b:T)(r r':RS)(hb:LitB b)(hr:RInv r)(h:runO prs F g back b r=.ok r'):RInv r'/\Keep r r' :=
 zmd _ r r' (fun u hu r r' hr h=>zmP hF hp g back u r r' (hb.block (zlh hu)) hr h) hr h
theorem PV.lit{p:PG}{w:World}{S:Nat->Prop}{v:Value}(h:PV w S p v)(hv:zkL p=true):LitB p.m/\PrB p.prs/\∀u∈p.vs,FldV u:=by
 obtain⟨A1,c1,A2,c2,A3,c3,-,dJ⟩:=h;obtain⟨-,-,h3,-⟩:=zlp hv;refine⟨NV.lit _ _ dJ.main,fun q hq=>?_,fun u hu=>?_⟩
 ·have hb:=(h3 q hq).1;obtain⟨i,hi,rfl⟩:=List.getElem_of_mem hq;obtain⟨a,B1,d1,B2,d2,-,-,-,hr⟩:=dJ.procs i hi;refine⟨NV.lit _ _ hr.body,fun v hv=>?_,by omega⟩;obtain⟨j,hj,rfl⟩:=List.getElem_of_mem hv;obtain⟨-,-,-,-,hf⟩:=hr.row j hj;exact hf
 ·obtain⟨j,hj,rfl⟩:=List.getElem_of_mem hu;obtain⟨-,-,-,-,hf⟩:=dJ.vars j hj;exact hf
attribute [local go_sem] Oper.semAt_some
structure FrI(B:Nat)(w1 w:World):Prop where
 size:B<=w.heap.size
 same:∀b,b<B->w.heap[b]?=w1.heap[b]?
theorem FrI.keep{B:Nat}{w1 w w':World}(h:FrI B w1 w)(hs:w.heap.size<=w'.heap.size)(hk:∀b,b<B->w'.heap[b]?=w.heap[b]?):FrI B w1 w':=⟨Nat.le_trans h.size hs,fun b hb=>(hk b hb).trans (h.same b hb)⟩
theorem FrI.below{w1 w:World}{C:Nat->Prop}(h:FrI w1.heap.size w1 w)(hc:Chg C w1 w):Below w1.heap.size w1 w:=⟨hc.os,hc.tape,hc.output,hc.size,h.same⟩
def errE(p:PG)(F:Int)(s:SS):Int:=(resO p s F (F.toNat*2000+2000) false).2.2.1
theorem znq{vs:List VD}{b:BX}(h:(b.ok&&svB vs)=true):∀x∈allS b (lenE vs b),x.Lim/\x.cells.length<=100:=by
 intro x hx;have h1:=(zvj h x hx).sm;have h2:=zmk h;have hn:=(zvj h x hx).n;refine⟨⟨by have:=h1.n;unfold LI;omega,fun l hl=>by have:=(h1.c l hl).1;unfold LI;omega,by have:=h1.i.1;unfold LI;omega,by have:=h1.o.1;unfold LI;omega⟩,by have:=h2.2.1;omega⟩
theorem zsm:IsFn prog 21 Tryz.f21:=⟨func21,by kernel_rfl,by kernel_rfl⟩
theorem zy3:IsFn prog 54 Tryz.f54:=⟨func54,by kernel_rfl,by kernel_rfl⟩
abbrev pgA(p:PG)(A1:Option Addr)(c1:Nat)(A2:Option Addr)(c2:Nat)(A3:Option Addr)(c3:Nat):Array Value := #[.slice A1 p.vs.length c1,.slice A2 p.prs.length c2,.int .u8 p.m.k,.int .i64 p.m.n,.string p.m.s,.slice A3 p.m.ks.length c3]
theorem beqI(a b:Int):(a==b)=decide (a=b):=by by_cases h:a=b<;>simp[h]
abbrev pgS(w':World)(b:Nat)(p:PG)(A1:Option Addr)(c1:Nat)(A2:Option Addr)(c2:Nat)(A3:Option Addr)(c3:Nat):Prop:=w'.cell? ⟨b,0,none⟩=some (.slice A1 p.vs.length c1)/\w'.cell? ⟨b,1,none⟩=some (.slice A2 p.prs.length c2)/\w'.cell? ⟨b,2,none⟩=some (.int .u8 p.m.k)/\w'.cell? ⟨b,3,none⟩=some (.int .i64 p.m.n)/\w'.cell? ⟨b,4,none⟩=some (.string p.m.s)/\w'.cell? ⟨b,5,none⟩=some (.slice A3 p.m.ks.length c3)
theorem zuN{W:World}{p:PG}{s:SS}{F e:Int}{bp bf be c1 c2 c3:Nat}{A1 A2 A3:Option Addr}{sv:Value}(hk:W.heap[bp]?=some (.cells (pgA p A1 c1 A2 c2 A3 c3) 43 (0,0)))(hp:PV W Any p (pv A1 p.vs.length c1 A2 p.prs.length c2 p.m.k p.m.n p.m.s A3 p.m.ks.length c3))(hf:W.heap[bf]?=some (.cells #[.int .i64 F] 3 (0,0)))
  (he:W.heap[be]?=some (.cells #[.int .i64 e] 48 (0,0)))(hs:SV W Any s sv)(hcl:s.cells.length<=100)(hF:I64 F)(eF:F<=1000000) :
  Calls prog 54 #[sv,.pointer (some ⟨bp,0,none⟩),.pointer (some ⟨bf,0,none⟩),.pointer (some ⟨be,0,none⟩)] W fun e' W'=>e'=.returned (.bool (decide (errE p F s=e)))/\Below W.heap.size W W':=by
 obtain⟨A,c,B,d,D,k,rfl⟩:∃A c B d D k,sv=.agg #[.slice A s.cells.length c,.slice B s.tin.length d,.slice D s.tout.length k]:=by
  obtain⟨A,c,B,d,D,k,rfl,-⟩:=hs;exact⟨_,_,_,_,_,_,rfl⟩
 have hkb:=heap_alloc_new W (.cells #[.slice A s.cells.length c,.slice B s.tin.length d,.slice D s.tout.length k] 32);have hb:=zkb (zs W) (.cells #[.slice A s.cells.length c,.slice B s.tin.length d,.slice D s.tout.length k] 32);obtain⟨w1,hw1⟩:=zX (W.alloc (.cells #[.slice A s.cells.length c,.slice B s.tin.length d,.slice D s.tout.length k] 32));obtain⟨N,hN⟩:=zX (W.heap.size);rw[hw1]at hkb hb;rw[hN]at hkb;have HB:=zh hb;have uG:=zh (zkc hk hb);have jG:=zh (zkc hf hb);have oH:=zh (zkc he hb);have nG:=zh hkb;have HP:=zh (hp.later hb);have HS:=zh (hs.later hb);have HL:=zh (And.intro hcl (And.intro hF eF));clear hk hp hf he hs hcl hF eF hb hkb;go_enter func54,ntmps54;go_upto_region 1 with fail
 try rw[hw1]
 try rw[hN]
 clear hw1 hN;have az:=zh (show ∀w',Below w1.heap.size w1 w'->(fun w':World=>pgS w' bp p A1 c1 A2 c2 A3 c3/\stC w' N A s.cells.length c B s.tin.length d D s.tout.length k/\zv w' bf 0 (.int .i64 F)/\zv w' be 0 (.int .i64 e)) w' from fun w' hb=>⟨box6 (zkc uG.out hb),zky (zkc nG.out hb),zc (zkc jG.out hb) rfl,zc (zkc oH.out hb) rfl⟩);have hSS:zW (fun w':World=>pgS w' bp p A1 c1 A2 c2 A3 c3/\stC w' N A s.cells.length c B s.tin.length d D s.tout.length k/\zv w' bf 0 (.int .i64 F)/\zv w' be 0 (.int .i64 e)) zU w1.drew:=⟨az.out _ zr.drew,trivial⟩
 refine wp_region_noPanic ?_;refine zG hSS 8 ?_;refine zT 0 hSS ?_;refine zT 1 hSS ?_;refine zT 2 hSS ?_;refine zT 5 hSS ?_;refine zo 3 fun K hK=>?_;have hcon:=zlY p s F (F.toNat*2000+2000) _ _ w1.drew (HP.out.later zr.drew) (HS.out.later zr.drew) (by have:=HL.out.1;omega) HL.out.2.1 HL.out.2.2 zl;have rF:=zh (show errE p F s=(resO p s F (F.toNat*2000+2000) false).2.2.1 from rfl);generalize resO p s F (F.toNat*2000+2000) false=R at hcon rF;have had:Calls prog 21 [pv A1 p.vs.length c1 A2 p.prs.length c2 p.m.k p.m.n p.m.s A3 p.m.ks.length c3,.agg #[.slice A s.cells.length c,.slice B s.tin.length d,.slice D s.tout.length k],.int .i64 F].toArray w1.drew fun e' W'=>∃z,e'=.returned z/\(∃v1 v2 v3,z=.agg #[v1,v2,v3,.int .i64 (R.2.1:Int),.int .i64 R.2.2.1])/\Below w1.heap.size w1 W' :=
  hcon.mono fun e' W' ⟨v1,v2,v3,h1,h2,h3,h4⟩=>⟨_,h1,⟨v1,v2,v3,rfl⟩,zka (zs w1).drew h3⟩
 refine zkf (by rfl) (.func 21) [.tmp 6,.tmp 7,.tmp 8] _ (by rfl) 21 _ zsm (by rfl) [pv A1 p.vs.length c1 A2 p.prs.length c2 p.m.k p.m.n p.m.s A3 p.m.ks.length c3,.agg #[.slice A s.cells.length c,.slice B s.tin.length d,.slice D s.tout.length k],.int .i64 F] (by rfl) _ had ?_;rintro z w2 ⟨⟨v1,v2,v3,rfl⟩,hb2⟩;have hS2:=zV hSS (az.out _ hb2) trivial;refine hK.out _ _ hS2 ?_;clear hK K had hcon hSS;(try simp only[zQ]);have hfl:∀w,(Instr.field 59 (.agg #[v1,v2,v3,.int .i64 (R.2.1:Int),.int .i64 R.2.2.1]) 2).run prog w=.ok (.int .i64 R.2.2.1) w:=fun w=>by kernel_rfl
 refine zT 4 hS2 ?_;refine zT 6 hS2 ?_;refine zT 7 hS2 ?_;refine zd ?_;refine NoPanic.normal ?_;have rJ:=zh (zka HB.out hb2);clear hS2 hb2;go_wp2_with fail;go_ret;exact⟨by rw[rF.out];rw[beqI];rfl,rJ.out⟩
theorem PV.pg{w:World}{S:Nat->Prop}{p:PG}{A1 A2 A3:Option Addr}{l1 c1 l2 c2 l3 c3:Nat}{k n:Int}{s:ByteArray}(h:PV w S p (pv A1 l1 c1 A2 l2 c2 k n s A3 l3 c3)):PgR w S p A1 c1 A2 c2 A3 c3:=by
 obtain⟨B1,d1,B2,d2,B3,d3,e,h⟩:=h;unfold pv at e;injection e with e;simp only[Array.mk.injEq,List.cons.injEq,and_true,Value.slice.injEq]at e;obtain⟨⟨rfl,-,rfl⟩,⟨rfl,-,rfl⟩,-,-,-,rfl,-,rfl⟩:=e;exact h
def FalP(r:SS×Nat×Bool)(W:World)(e:Ending)(W':World):Prop:=Below W.heap.size W W'/\∃v,e=.returned (.tuple #[v,.bool r.2.2])/\SV W' (fun q=>W.heap.size<=q) r.1 v
theorem zrD{W:World}{p:PG}{b:BX}{e F:Int}{v:Value}(hp:PV W Any p v)(hok:(b.ok&&svB p.vs)=true)(hm:(allS b (lenE p.vs b)).length<=1000000)(hF:I64 F)(eF:F<=1000000) :
  Calls prog 18 #[v,.int .i64 e,.agg #[.int .i64 b.v,.int .i64 b.l,.int .i64 b.i],.int .i64 F] W (FalP (fndE (fun s=>decide (errE p F s=e)) (allS b (lenE p.vs b))) W):=by
 obtain⟨A1,c1,A2,c2,A3,c3,rfl,-⟩:=id hp;obtain⟨bv,bl,bi⟩:=b;obtain⟨N,hN⟩:=zX (W.heap.size);have HN:=zh hN;obtain⟨hb1,hz1,k0,k1,k2,k3,k4⟩:=al5F W (.cells (pgA p A1 c1 A2 c2 A3 c3) 43) (.cells #[.int .i64 e] 48) (.cells #[.int .i64 bv,.int .i64 bl,.int .i64 bi] 24) (.cells #[.int .i64 F] 3) (.cells #[.slice none 0 0,.slice none 0 0,.slice none 0 0] 32);obtain⟨w1,hw1⟩:=zX (((((W.alloc (.cells (pgA p A1 c1 A2 c2 A3 c3) 43)).alloc (.cells #[.int .i64 e] 48)).alloc (.cells #[.int .i64 bv,.int .i64 bl,.int .i64 bi] 24)).alloc (.cells #[.int .i64 F] 3)).alloc (.cells #[.slice none 0 0,.slice none 0 0,.slice none 0 0] 32));rw[hw1]at hb1 hz1 k0 k1 k2 k3 k4;rw[hN]at hz1 k0 k1 k2 k3 k4;have HB1:=zh hb1;have HZ1:=zh hz1;have dM:=zh k4;have gM:=zh ((hp.keep (S':=fun q=>q<N+5) (fun q _ h=>by omega) fun _ _ _=>rfl).keep (w':=w1) (S':=fun q=>q<N+5) (fun _ h _=>h) fun q _ hlt=>hb1.block q hlt)
 have HT:=zh (show zry 54 #[.pointer (some ⟨N,0,none⟩),.pointer (some ⟨N+3,0,none⟩),.pointer (some ⟨N+1,0,none⟩)] (fun _ s=>decide (errE p F s=e)) (allS ⟨bv,bl,bi⟩ (lenE p.vs ⟨bv,bl,bi⟩)) w1.heap.size (fun _=>FrI w1.heap.size w1)from by
  refine⟨fun n W W' h h1 h2=>h.keep h1 h2,fun n W h=>h.size,fun n s v W g hI hg hgs ho hx=>?_⟩;have hx2:=znq hok s (List.mem_of_getElem? hx);have hlt:∀q,q<N+5->W.heap[q]?=w1.heap[q]?:=fun q hq=>hI.same q (by omega);refine(zuN (e:=e) (F:=F) (p:=p) (s:=s) ((hlt N (by omega)).trans k0) (gM.out.keep (fun _ _ _=>trivial) fun q h _=>hlt q h) ((hlt (N+3) (by omega)).trans k3) ((hlt (N+1) (by omega)).trans k1) (ho.sv hx2.1) hx2.2 hF eF).mono ?_;rintro e' W' ⟨rfl,hb⟩;exact⟨rfl,hI.keep hb.size fun q hq=>hb.block q (Nat.lt_of_lt_of_le hq hI.size),Chg.of_below hb⟩)
 have bz:=zh (show Calls _ _ _ _ (FstP (fndE (fun s=>decide (errE p F s=e)) (allS ⟨bv,bl,bi⟩ (lenE p.vs ⟨bv,bl,bi⟩))) (fun _=>FrI w1.heap.size w1) w1)from znw (W:=w1) (A1:=A1) (c1:=c1) (vs:=p.vs) (b:=⟨bv,bl,bi⟩) (gM.out.keep (S':=Any) (fun _ _ _=>trivial) fun _ _ _=>rfl).pg.vars hp.pg.lv hok hm zy3 HT.out ⟨zl,fun _ _=>rfl⟩);clear hp hb1 hz1 k1 k3 k4 hok hm HT;obtain⟨⟨s1,n1,ok1⟩,hr⟩:=zX (fndE (fun s=>decide (errE p F s=e)) (allS ⟨bv,bl,bi⟩ (lenE p.vs ⟨bv,bl,bi⟩)));rw[hr]at bz ⊢;clear hr;obtain⟨p0,p1,p2,p3,p4,p5⟩:=box6 k0;obtain⟨y0,y1,y2⟩:=zky k2;have nZ:∀(fn:Fn) (first cap:Array Value) (w:World),(Instr.makeFunc fn first cap).run prog w=.ok (.func fn first cap) w:=fun _ _ _ _=>rfl
 show Calls prog 18 #[pv A1 p.vs.length c1 A2 p.prs.length c2 p.m.k p.m.n p.m.s A3 p.m.ks.length c3,.int .i64 e,.agg #[.int .i64 bv,.int .i64 bl,.int .i64 bi],.int .i64 F] W _
 go_enter func18,ntmps18;go_wp2_with fail;simp only[Nat.add_assoc,Nat.reduceAdd];refine bz.out.mono ?_;rintro e' w2 ⟨v2,rfl,hs2,hi2,hc2⟩;have Aw:=hs2;obtain⟨B1,d1,B2,d2,B3,d3,rfl,-⟩:=Aw;have hb2:=hi2.below hc2;have hb3:=zkb hb2 (.cells #[.slice B1 s1.cells.length d1,.slice B2 s1.tin.length d2,.slice B3 s1.tout.length d3] 32);have k10:=heap_alloc_new w2 (.cells #[.slice B1 s1.cells.length d1,.slice B2 s1.tin.length d2,.slice B3 s1.tout.length d3] 32);have k8:=zkc (dM.out) hb3;have hs3:=hs2.later (zkb (zs w2) (.cells #[.slice B1 s1.cells.length d1,.slice B2 s1.tin.length d2,.slice B3 s1.tout.length d3] 32));obtain⟨w3,hw3⟩:=zX (w2.alloc (.cells #[.slice B1 s1.cells.length d1,.slice B2 s1.tin.length d2,.slice B3 s1.tout.length d3] 32));rw[hw3]at hb3 k10 k8 hs3;obtain⟨x0,x1,x2⟩:=zky k10;obtain⟨q0,q1,q2⟩:=zky k8;have cf:∀o,w3.frozen? ⟨N+4,o,none⟩=false:=fun o=>zf k8
 obtain⟨w9,bX,bF,fI⟩:=st3 (.slice B1 s1.cells.length d1) (.slice B2 s1.tin.length d2) (.slice B3 s1.tout.length d3) k8;have BO:=zh (hs3.keep (S':=fun q=>W.heap.size<=q) (fun q h _=>by have:=HZ1.out;have:=HN.out;omega) fun q h _=>bF.block q ‹_› (fun e=>by have e:q=N+4:=e;have:=HZ1.out;omega));have xX:=zh fI;have aH:=zh (((HB1.out).trans (hb3.mono HB1.out.size)).trans (bF.below (by have:=HB1.out.size;have:=hb3.size;omega) fun q e=>by have e:q=N+4:=e;have:=HN.out;omega));clear hs2 hi2 hc2 hb2 hb3 k10 k8 hs3 bF fI y0 y1 y2 p0 p1 p2 p3 p4 p5;go_wp2_with fail;obtain⟨t0,t1,t2⟩:=zky xX.out;exact bodyPost_ret (v:=.tuple #[.agg #[.slice B1 s1.cells.length d1,.slice B2 s1.tin.length d2,.slice B3 s1.tout.length d3],.bool ok1]) (by simp[results,results18,go_sem,t0,t1,t2]) rfl ⟨aH.out,_,rfl,BO.out⟩
end
section
open Go Go.RowKit
attribute [local go_sem] Oper.semAt_some
def smF(N0:Nat)(s:SS):Nat->Value->List Value->World->Prop
 | 3,v,_,w|13,v,_,w=>zkq w N0 (fun q=>q<N0) v s.cells
 | 8,v,_,w|18,v,_,w=>zkq w N0 (fun q=>q<N0) v [s.tin,s.tout]
 | 9,v,_,w|19,v,_,w=>zkq w N0 (fun q=>q<N0) v (s.cells++[s.tin,s.tout])
 | 20,v,ds,_|21,v,ds,_=>ds=[v]
 | _,v,_,w=>zkq w N0 (fun q=>q<N0) v []
def smD:Nat->List Nat
 | 3=>[0]|9=>[3,8]|13=>[10]|19=>[13,18]|20=>[9]|21=>[19]|_=>[]
def smC:Nat->List Nat
 | 3=>[0]|9=>[3]|13=>[10]|19=>[13]|_=>[]
def smO:Nat->Value->Option Nat
 | 20,_|21,_=>none
 | _,v=>v.ownBlock
theorem zyu{N0:Nat}{s:SS}(i:Nat)(v:Value)(ds:List Value)(w w':World)(C:Nat->Prop)(h:smF N0 s i v ds w)(hc:Chg C w w')(hC:∀b,C b->N0<=b/\∃i,smC i≠[])(ho:∀b,smO i v=some b->¬ C b):smF N0 s i v ds w':=by
 unfold smF at h ⊢;unfold smO at ho
 split at h<;>first|exact zkq.chg h (fun _ h=>h) hc (fun b hb=>(hC b hb).1) ho|exact h|skip
 rename_i h1 h2 h3 h4 h5 h6 h7 h8
 split at ho
 ·exact absurd rfl h7
 ·exact absurd rfl h8
 ·exact zkq.chg h (fun _ h=>h) hc (fun b hb=>(hC b hb).1) ho
theorem zxM{w:World}{S:Nat->Prop}{B D:Option Addr}{x y:List Int}{l2 l3 d e:Nat}(h2:x.length=l2)(h3:y.length=l3)(r2:RowI w S B x)(r3:RowI w S D y)(c2:x.length<=d)(c3:y.length<=e) :
  ∀k (hk:k<[x,y].length) (hv:k<[Value.slice B l2 d,Value.slice D l3 e].length),∃A c,[Value.slice B l2 d,Value.slice D l3 e][k]=.slice A [x,y][k].length c/\[x,y][k].length<=c/\RowI w S A [x,y][k]:=by
 subst h2 h3;intro k hk hv;rcases k with _|_|k
 ·exact⟨B,d,rfl,c2,r2⟩
 ·exact⟨D,e,rfl,c3,r3⟩
 ·simp at hk;omega
theorem bldR{w:World}{N0 n:Nat}{P:Nat->Prop}{C:Nat->Prop}{ls:List (List Int)}{us:List Value}(hN:N0<=w.heap.size)(hl:us.length=n)(hn:ls.length=n)
  (hs:∀k (hk:k<ls.length) (hv:k<us.length),∃A c,us[k]=.slice A ls[k].length c/\ls[k].length<=c/\RowI w (fun q=>q<N0) A ls[k])(hm:n<=1000000) :
  Chg C w (w.alloc (.cells us.toArray 30))/\(∀b,(Value.slice (some ⟨w.heap.size,0,none⟩) n n).ownBlock=some b->(w.heap.size<=b\/P b)/\b<(w.alloc (.cells us.toArray 30)).heap.size) /\
   zkq (w.alloc (.cells us.toArray 30)) N0 (fun q=>q<N0) (.slice (some ⟨w.heap.size,0,none⟩) n n) ls :=
 ⟨Chg.of_below (zkb zr _),fun b hb=>by
  injection hb with hb;have hb:w.heap.size=b:=hb;rw[World.size_alloc];exact⟨.inl (by omega),by omega⟩,zkq.built hN hl hn (fun q h=>by have:q<N0:=h;omega) hs hm⟩
theorem zKH{w:World}{S:Nat->Prop}{s:SS}{v:Value}(h:SV w S s v):∀l∈s.cells++[s.tin,s.tout],l.length<=17592186044416:=by
 obtain⟨A,c,B,d,D,e,rfl,a1,a2,a3,a4,a5,a6,a7,a8,a9,a10⟩:=h;intro l hl;simp only[List.mem_append,List.mem_cons,List.not_mem_nil,or_false]at hl;rcases hl with hl|rfl|rfl
 ·exact a8 l hl
 ·exact a9
 ·exact a10
theorem zwd{W:World}{s:SS}{v1 v2:Value}(h1:SV W Any s v1)(h2:SV W Any s v2)(hl:s.cells.length<=100000) :
  Calls prog 48 #[v1,v2] W fun e w'=>e=.returned (.bool true)/\Below W.heap.size W w':=by
 have rz:=zh (show ∀l∈s.cells++[s.tin,s.tout],l.length<=17592186044416 from zKH h1);obtain⟨A,c,B,d,D,e,rfl,a1,a2,a3,a4,a5,a6,-⟩:=h1;obtain⟨A',c',B',d',D',e',rfl,b1,b2,b3,b4,b5,b6,-⟩:=h2;have hb2:=zkb (zkb (zs W) (.cells #[.slice A s.cells.length c,.slice B s.tin.length d,.slice D s.tout.length e] 32)) (.cells #[.slice A' s.cells.length c',.slice B' s.tin.length d',.slice D' s.tout.length e'] 32);have k0:=zke (heap_alloc_new W (.cells #[.slice A s.cells.length c,.slice B s.tin.length d,.slice D s.tout.length e] 32)) (.cells #[.slice A' s.cells.length c',.slice B' s.tin.length d',.slice D' s.tout.length e'] 32);have k1:=heap_alloc_new (W.alloc (.cells #[.slice A s.cells.length c,.slice B s.tin.length d,.slice D s.tout.length e] 32)) (.cells #[.slice A' s.cells.length c',.slice B' s.tin.length d',.slice D' s.tout.length e'] 32);rw[World.size_alloc]at k1
 obtain⟨w1,hw1⟩:=zX ((W.alloc (.cells #[.slice A s.cells.length c,.slice B s.tin.length d,.slice D s.tout.length e] 32)).alloc (.cells #[.slice A' s.cells.length c',.slice B' s.tin.length d',.slice D' s.tout.length e'] 32));obtain⟨N,hN⟩:=zX (W.heap.size);rw[hw1]at hb2 k0 k1;have hz1:w1.heap.size=N+2:=by rw[<-hw1,<-hN];simp
 rw[hN]at k0 k1;have hin:∀ {A:Option Addr} {xs:List Int},RowI W Any A xs->RowI w1 (fun q=>q<N+2) A xs:=fun h=>(h.keep (S':=fun q=>q<N+2) (fun q _ h=>by omega) fun _ _ _=>rfl).later hb2;have hin2:∀ {A:Option Addr} {xs:List (List Int)},zlw W Any A xs->zlw w1 (fun q=>q<N+2) A xs:=fun h=>(h.keep (S':=fun q=>q<N+2) (fun q _ h=>by omega) fun _ _ _=>rfl).later hb2;have HB1:=zh hb2;have HZ1:=zh hz1;have aD:=zh k0;have aA:=zh k1;have HA1:=zh (hin2 a1);have HA2:=zh (And.intro (hin a2) a5);have CG:=zh (And.intro (hin a3) a6);have HA4:=zh (hin2 b1);have CE:=zh (And.intro (hin b2) b5);have CB:=zh (And.intro (hin b3) b6);have HL:=zh hl;obtain⟨x0,x1,x2⟩:=zky k0;obtain⟨y0,y1,y2⟩:=zky k1;obtain⟨l1,hl1⟩:=zX (s.cells.length);obtain⟨l2,hl2⟩:=zX (s.tin.length);obtain⟨l3,hl3⟩:=zX (s.tout.length);have bH:=zh (And.intro hl1 (And.intro hl2 hl3))
 simp only[hl1,hl2,hl3]at x0 x1 x2 y0 y1 y2 hw1 aD aA ⊢;clear hb2 k0 k1 hz1 a1 a2 a3 b1 b2 b3 a4 a5 a6 b4 b5 b6 hin hin2 hl hl1 hl2 hl3;go_enter func48,ntmps48;go_upto_region 1 with fail
 try rw[hw1]
 try rw[hN]
 clear hw1;go_upto_region 3 with fail;clear x0 x1 x2 y0 y1 y2;have az:=zh (show ∀w',Below (N+2) w1 w'->(fun w':World=>stC w' N A l1 c B l2 d D l3 e/\stC w' (N+1) A' l1 c' B' l2 d' D' l3 e') w' from fun w' hb=>⟨zky ((hb.block _ (by omega)).trans aD.out),zky ((hb.block _ (by omega)).trans aA.out)⟩);have hSS:zW (fun w':World=>stC w' N A l1 c B l2 d D l3 e/\stC w' (N+1) A' l1 c' B' l2 d' D' l3 e') zU w1.drew:=⟨az.out _ zr.drew,trivial⟩
 refine wp_region_noPanic ?_;refine zG hSS 25 ?_;refine zT 1 hSS ?_;refine zT 2 hSS ?_;refine zT 4 hSS ?_;refine zT 5 hSS ?_;refine zT 6 hSS ?_;refine zT 7 hSS ?_;refine zT 11 hSS ?_;refine zT 12 hSS ?_;refine zT 14 hSS ?_;refine zT 15 hSS ?_;refine zT 16 hSS ?_;refine zT 17 hSS ?_;have hI:(fun w=>Below (N+2) w1 w) w1.drew:=zr.drew;clear hSS;have hsz:∀w,Below (N+2) w1 w->N+2<=w.heap.size:=fun w h=>by have:=h.size;have:=HZ1.out;omega
 have kG:∀w,Below (N+2) w1 w->Below w1.heap.size w1 w:=fun w h=>by rw[HZ1.out];exact h
 refine zob (T:=[(0,16),(3,19),(8,24),(9,25),(10,26),(13,29),(18,34),(19,35),(20,5),(21,6)]) (z:=22) (n:=22) (N+2) smO smD smC 0 (fun w=>Below (N+2) w1 w) (smF (N+2) s) (by kernel_rfl) (by kernel_rfl) (by simp only[putP,Act.put,zD,zE,zF]) (by decide) (by kernel_rfl) (by kernel_rfl) (by decide) hsz (fun w h=>⟨az.out _ h,trivial⟩) (fun w w' C h hc hC=>h.trans (hc.below (hsz w h) fun b hb=>(hC b hb).1)) zyu (fun q hq=>?_) (fun vs w2 hb2 hF _=>?_) w1.drew hI
 ·simp only[List.mem_cons,List.not_mem_nil,or_false]at hq;rcases hq with rfl|rfl|rfl|rfl|rfl|rfl|rfl|rfl|rfl|rfl
  ·intro oi hoi vs K w2 hb2 hd aa;obtain rfl:=Option.some.inj hoi;simp only[putP,Act.put,zA,zB,zC,zD,zE,zF]at aa ⊢;have hK:=zh aa;clear aa hoi;have hbr:=bRA0;go_simp;obtain⟨g1,g2,g3⟩:=bldR (P:=fun _=>False) (C:=fun _=>False) (w:=w2) (N0:=N+2) (us:=[]) (ls:=[]) (hsz _ hb2) rfl rfl (fun k hk _=>absurd hk (Nat.not_lt_zero k)) (by simp);exact hK.out _ _ (g1.mono fun _ _ h=>h.elim) (fun b hb=>⟨.inl ((g2 b hb).1.resolve_right id),(g2 b hb).2⟩) g3
  ·intro oi hoi vs K w2 hb2 hd aa;generalize bu:putP vs [(0,16),(3,19),(8,24),(9,25),(10,26),(13,29),(18,34),(19,35),(20,5),(21,6)] _=AC at aa ⊢;have hK:=zh aa;clear aa;have hd1:zkq w2 (N+2) (fun q=>q<N+2) (vs 0) _:=hd 0 (by decide);have hd2:=(HA1.out.later (kG _ hb2)).oth c;rw[bH.out.1]at hd2;refine zm8 (K:=K) hoi (.tmp 16) (.tmp 18) (by kernel_rfl) (by kernel_rfl) (hsz _ hb2) (fun _ h=>h) (by rw[<-bu];kernel_rfl) hd1 (by rw[<-bu];kernel_rfl) hd2 (by have:=HL.out;simp;try omega) ?_;intro v' w3 g1 g2 g3;exact hK.out _ _ (g1.mono fun b _ hb=>⟨0,by decide,hb⟩) (fun b hb=>⟨(g2 b hb).1.imp id fun h=>⟨0,by decide,h⟩,(g2 b hb).2⟩) (by first|exact g3|(rw[List.nil_append]at g3;exact g3))
  ·intro oi hoi vs K w2 hb2 hd aa;obtain rfl:=Option.some.inj hoi;simp only[putP,Act.put,zA,zB,zC,zD,zE,zF]at aa ⊢;have hK:=zh aa;clear aa hoi;have hbr:=bRA2 B D l2 d l3 e;go_simp;obtain⟨g1,g2,g3⟩:=bldR (P:=fun _=>False) (C:=fun _=>False) (w:=w2) (N0:=N+2) (us:=[.slice B l2 d,.slice D l3 e]) (ls:=[s.tin,s.tout]) (hsz _ hb2) rfl rfl (zxM bH.out.2.1 bH.out.2.2 (HA2.out.1.later (kG _ hb2)) (CG.out.1.later (kG _ hb2)) HA2.out.2 CG.out.2) (by simp);exact hK.out _ _ (g1.mono fun _ _ h=>h.elim) (fun b hb=>⟨.inl ((g2 b hb).1.resolve_right id),(g2 b hb).2⟩) g3
  ·intro oi hoi vs K w2 hb2 hd aa;generalize bu:putP vs [(0,16),(3,19),(8,24),(9,25),(10,26),(13,29),(18,34),(19,35),(20,5),(21,6)] _=AC at aa ⊢;have hK:=zh aa;clear aa;have hd1:zkq w2 (N+2) (fun q=>q<N+2) (vs 3) _:=hd 3 (by decide);have hd2:=zkq.oth (hd 8 (by decide));refine zm8 (K:=K) hoi (.tmp 19) (.tmp 24) (by kernel_rfl) (by kernel_rfl) (hsz _ hb2) (fun _ h=>h) (by rw[<-bu];kernel_rfl) hd1 (by rw[<-bu];kernel_rfl) hd2 (by have:=HL.out;simp;try omega) ?_;intro v' w3 g1 g2 g3;exact hK.out _ _ (g1.mono fun b _ hb=>⟨3,by decide,hb⟩) (fun b hb=>⟨(g2 b hb).1.imp id fun h=>⟨3,by decide,h⟩,(g2 b hb).2⟩) (by first|exact g3|(rw[List.nil_append]at g3;exact g3))
  ·intro oi hoi vs K w2 hb2 hd aa;obtain rfl:=Option.some.inj hoi;simp only[putP,Act.put,zA,zB,zC,zD,zE,zF]at aa ⊢;have hK:=zh aa;clear aa hoi;have hbr:=bRA0;go_simp;obtain⟨g1,g2,g3⟩:=bldR (P:=fun _=>False) (C:=fun _=>False) (w:=w2) (N0:=N+2) (us:=[]) (ls:=[]) (hsz _ hb2) rfl rfl (fun k hk _=>absurd hk (Nat.not_lt_zero k)) (by simp);exact hK.out _ _ (g1.mono fun _ _ h=>h.elim) (fun b hb=>⟨.inl ((g2 b hb).1.resolve_right id),(g2 b hb).2⟩) g3
  ·intro oi hoi vs K w2 hb2 hd aa;generalize bu:putP vs [(0,16),(3,19),(8,24),(9,25),(10,26),(13,29),(18,34),(19,35),(20,5),(21,6)] _=AC at aa ⊢;have hK:=zh aa;clear aa;have hd1:zkq w2 (N+2) (fun q=>q<N+2) (vs 10) _:=hd 10 (by decide);have hd2:=(HA4.out.later (kG _ hb2)).oth c';rw[bH.out.1]at hd2;refine zm8 (K:=K) hoi (.tmp 26) (.tmp 28) (by kernel_rfl) (by kernel_rfl) (hsz _ hb2) (fun _ h=>h) (by rw[<-bu];kernel_rfl) hd1 (by rw[<-bu];kernel_rfl) hd2 (by have:=HL.out;simp;try omega) ?_;intro v' w3 g1 g2 g3;exact hK.out _ _ (g1.mono fun b _ hb=>⟨10,by decide,hb⟩) (fun b hb=>⟨(g2 b hb).1.imp id fun h=>⟨10,by decide,h⟩,(g2 b hb).2⟩) (by first|exact g3|(rw[List.nil_append]at g3;exact g3))
  ·intro oi hoi vs K w2 hb2 hd aa;obtain rfl:=Option.some.inj hoi;simp only[putP,Act.put,zA,zB,zC,zD,zE,zF]at aa ⊢;have hK:=zh aa;clear aa hoi;have hbr:=bRA2 B' D' l2 d' l3 e';go_simp;obtain⟨g1,g2,g3⟩:=bldR (P:=fun _=>False) (C:=fun _=>False) (w:=w2) (N0:=N+2) (us:=[.slice B' l2 d',.slice D' l3 e']) (ls:=[s.tin,s.tout]) (hsz _ hb2) rfl rfl (zxM bH.out.2.1 bH.out.2.2 (CE.out.1.later (kG _ hb2)) (CB.out.1.later (kG _ hb2)) CE.out.2 CB.out.2) (by simp);exact hK.out _ _ (g1.mono fun _ _ h=>h.elim) (fun b hb=>⟨.inl ((g2 b hb).1.resolve_right id),(g2 b hb).2⟩) g3
  ·intro oi hoi vs K w2 hb2 hd aa;generalize bu:putP vs [(0,16),(3,19),(8,24),(9,25),(10,26),(13,29),(18,34),(19,35),(20,5),(21,6)] _=AC at aa ⊢;have hK:=zh aa;clear aa;have hd1:zkq w2 (N+2) (fun q=>q<N+2) (vs 13) _:=hd 13 (by decide);have hd2:=zkq.oth (hd 18 (by decide));refine zm8 (K:=K) hoi (.tmp 29) (.tmp 34) (by kernel_rfl) (by kernel_rfl) (hsz _ hb2) (fun _ h=>h) (by rw[<-bu];kernel_rfl) hd1 (by rw[<-bu];kernel_rfl) hd2 (by have:=HL.out;simp;try omega) ?_;intro v' w3 g1 g2 g3;exact hK.out _ _ (g1.mono fun b _ hb=>⟨13,by decide,hb⟩) (fun b hb=>⟨(g2 b hb).1.imp id fun h=>⟨13,by decide,h⟩,(g2 b hb).2⟩) (by first|exact g3|(rw[List.nil_append]at g3;exact g3))
  ·intro oi hoi vs K w2 hb2 hd aa;obtain rfl:=Option.some.inj hoi;simp only[putP,Act.put,zA,zB,zC,zD,zE,zF]at aa ⊢;have hK:=zh aa;clear aa hoi;go_simp;exact hK.out _ _ (Chg.refl _ _) (fun b hb=>by cases hb) rfl
  ·intro oi hoi vs K w2 hb2 hd aa;obtain rfl:=Option.some.inj hoi;simp only[putP,Act.put,zA,zB,zC,zD,zE,zF]at aa ⊢;have hK:=zh aa;clear aa hoi;go_simp;exact hK.out _ _ (Chg.refl _ _) (fun b hb=>by cases hb) rfl
 ·have f1:zkq w2 (N+2) (fun q=>q<N+2) (vs 9) (s.cells++[s.tin,s.tout]):=hF (9,25) (by decide) (by decide);have f2:zkq w2 (N+2) (fun q=>q<N+2) (vs 19) (s.cells++[s.tin,s.tout]):=hF (19,35) (by decide) (by decide);have e1:[vs 9]=[vs 20]:=hF (20,5) (by decide) (by decide);have e2:[vs 19]=[vs 21]:=hF (21,6) (by decide) (by decide);injection e1 with e1;injection e2 with e2;rw[e1]at f1;rw[e2]at f2;clear hF;obtain⟨A1,c1,q1,-,r1⟩:=(f1.keep (S':=Any) (fun _ _ _=>trivial) fun _ _ _=>rfl).ii fun _ _ _=>trivial;obtain⟨A2,c2,q2,-,r2⟩:=(f2.keep (S':=Any) (fun _ _ _=>trivial) fun _ _ _=>rfl).ii fun _ _ _=>trivial;have hbw:Below W.heap.size W w2:=HB1.out.trans (hb2.mono (by have:=HZ1.out;omega));have fZ:=zh hbw;have nD:=zh (show ∀l∈s.cells++[s.tin,s.tout],l.length<=17592186044416 from rz.out);have bA:=zh (show(s.cells++[s.tin,s.tout]).length<=200000 by have:=HL.out;simp;omega)
  obtain⟨L,hL⟩:=zX (s.cells++[s.tin,s.tout]);rw[hL]at q1 q2 r1 r2 nD bA;obtain⟨n,hn⟩:=zX (L.length);rw[hn]at q1 q2 bA;have HR1:=zh r1;have HR2:=zh r2;have ny:=zh hn;simp only[putP,Act.put,zD,zE,zF];rw[q1,q2];generalize vs 0=v0;generalize vs 3=v3;generalize vs 8=v8;generalize vs 9=v9;generalize vs 10=v10;generalize vs 13=v13;generalize vs 18=v18;generalize vs 19=v19;clear q1 q2 e1 e2 f1 f2 r1 r2 hn hbw hL hb2 hI hsz kG az HA1 HA2 CG HA4 CE CB aD aA HB1 rz;refine zd ?_;refine NoPanic.normal ?_;have AP:n<=200000:=bA.out;go_wp2_with fail
  go_loopw [7] (fun i wr=>∃j:Nat,j<=n/\i=.int .i64 j/\Hid (Below w2.heap.size w2 wr)) (fun i _=>n-(intOf i).toNat)
  case atStart=>exact⟨0,by omega,rfl,zh zr⟩
  case round =>
   obtain⟨j,hj,rfl,HB⟩:=hrel;obtain⟨W0,hW0⟩:∃x,x=wr:=⟨_,rfl⟩
   subst hW0;by_cases hlt:j<n
   ·have hj1:(j:Int)<(n:Int):=by omega
    have hj0:(0:Int)<=(j:Int):=by omega
    obtain⟨a,l,B1,d1,rfl,HE,x0,hx,hr1⟩:=(HR1.out.later HB.out).nd (i:=j) (by rw[ny.out];exact hlt);obtain⟨b,l',B2,d2,rfl,HE',y0,hy,hr2⟩:=(HR2.out.later HB.out).nd (i:=j) (by rw[ny.out];exact hlt);obtain rfl:l=l':=HE.out.symm.trans HE'.out;have hll:l.length<=17592186044416:=nD.out l (by rw[<-HE.out];exact List.getElem_mem _);have HR3:=zh hr1;have HR4:=zh hr2;have HX0:=zh x0;have HY0:=zh y0;obtain⟨m,hm⟩:=zX (l.length);have oF:=zh hm;rw[hm]at x0 y0 hll HX0 HY0;clear hr1 hr2 hx hy hm HE HE';go_upto_region 7 with fail
    go_quiet (fail)
    have aO:=zh (zkm zr nq:Below W0.heap.size W0 _);clear x0 y0;go_wp2_with fail
    go_loopw [8] (fun i wr=>∃k:Nat,k<=m/\i=.int .i64 k/\Hid (Below W0.heap.size W0 wr)) (fun i _=>m-(intOf i).toNat)
    case atStart=>exact⟨0,by omega,rfl,aO⟩
    case round =>
     obtain⟨k,hk,rfl,wK⟩:=hrel;have x0:=zb wK.out HX0.out;have y0:=zb wK.out HY0.out;by_cases hkl:k<m
     ·have hk1:(k:Int)<(m:Int):=by omega
      have hk0:(0:Int)<=(k:Int):=by omega
      obtain⟨a3,rfl,-,x3,-⟩:=(HR3.out.later wK.out) k (by rw[oF.out];exact hkl);obtain⟨b3,rfl,-,y3,-⟩:=(HR4.out.later wK.out) k (by rw[oF.out];exact hkl);obtain⟨z,hz⟩:=zX (l[k]'(by rw[oF.out];exact hkl));rw[hz]at x3 y3;clear hz;go_upto_region 12 with fail
      go_quiet (fail)
      have aU:=zh (zkm wK.out nq);clear x0 y0 x3 y3;go_wp2_with fail
      go_roundw
      case rel=>exact⟨k+1,by omega,by go_num,aU⟩
      case measure=>simp[intOf];omega
     ·obtain rfl:k=m:=by omega
      have hk1:¬ (k:Int)<(k:Int):=by omega
      go_wp2_with fail
      go_roundw
      case rel=>exact⟨j+1,by omega,by go_num,zh (zka HB.out wK.out)⟩
      case measure=>simp[intOf];omega
   ·obtain rfl:j=n:=by omega
    have hj1:¬ (j:Int)<(j:Int):=by omega
    go_wp2_with fail;go_ret;exact⟨rfl,by have h:=zka fZ.out HB.out;rw[hN]at h;exact h⟩
end
section
open Go Go.RowKit
theorem OwnN.chgC{w w':World}{base:Nat}{E:TypeId}{S C:Nat->Prop}{v:Value}{ts:List T}(h:OwnN w base E S v ts)(hc:Chg C w w')(hC:∀b,C b->¬ S b)(ho:∀b,v.ownBlock=some b->¬ C b):OwnN w' base E S v ts:=by
 obtain⟨xs,h1,h2,h3⟩:=h;refine⟨xs,zmi h1 fun b hb=>hc.block b (h1.lt b hb).2 (ho b hb),h2,fun i hi=>?_⟩;obtain⟨u0,u1,u2,u3,g0,g1,g2,g3,hv⟩:=h3 i hi;exact⟨u0,u1,u2,u3,g0,g1,g2,g3,hv.keep (fun _ h _=>h) fun b hb hlt=>hc.block b hlt fun hcb=>hC b hcb hb.1⟩
theorem OwnN.src{w:World}{base:Nat}{E:TypeId}{S:Nat->Prop}{v:Value}{ts:List T}(h:OwnN w base E S v ts):∃A c,v=.slice A ts.length c/\Src w S A ts:=by
 obtain⟨xs,ho,hl,hn⟩:=h;rcases ho.2 with⟨rfl,h0⟩|⟨g,cap,cur,rfl,hb,hg,hc,hm,hz,hx⟩
 ·exact⟨none,0,by rw[h0],fun i hi=>absurd hi (by omega)⟩
 ·refine⟨some ⟨g,0,none⟩,cap,rfl,fun i hi=>?_⟩;obtain⟨u0,u1,u2,u3,h0,h1,h2,h3,hv⟩:=hn i hi;have hcell:∀j u,j<4->xs[i*4+j]?=some u->w.cell? ⟨g,i*4+j,none⟩=some u:=by
   intro j u hj hu;rw[ho.cellAt (i*4+j) (by omega)];exact hu
  refine⟨⟨g,0,none⟩,u0,u1,u2,u3,rfl,?_,hv.mono fun b hb=>hb.1⟩;have ha:(⟨g,0,none⟩:Addr).add (i*4)=⟨g,i*4,none⟩:=by unfold Addr.add;split<;>simp_all
  rw[ha];exact⟨hcell 0 u0 (by omega) h0,hcell 1 u1 (by omega) h1,hcell 2 u2 (by omega) h2,hcell 3 u3 (by omega) h3⟩
theorem OwnN.laid0{w:World}{N0:Nat}{E:TypeId}{S:Nat->Prop}(hN:N0<=w.heap.size):OwnN (w.alloc (.cells #[] E)) N0 E S (.slice (some ⟨w.heap.size,0,none⟩) 0 0) [] :=
 ⟨[],⟨rfl,.inr ⟨w.heap.size,0,#[],rfl,hN,heap_alloc_new w _,zl,Nat.zero_le _,rfl,rfl⟩⟩,Nat.zero_le _,fun i hi=>absurd hi (Nat.not_lt_zero i)⟩
theorem OwnN.laid1{w:World}{N0:Nat}{E:TypeId}{S:Nat->Prop}{t:T}{u0 u1 u2 u3:Value}(hN:N0<=w.heap.size)(hS:∀q,S q->q<w.heap.size)(hn:NV w S t (.agg #[u0,u1,u2,u3])):OwnN (w.alloc (.cells #[u0,u1,u2,u3] E)) N0 E S (.slice (some ⟨w.heap.size,0,none⟩) 1 1) [t] :=
 ⟨[u0,u1,u2,u3],⟨rfl,.inr ⟨w.heap.size,1,#[u0,u1,u2,u3],rfl,hN,heap_alloc_new w _,zl,by unfold maxLen;omega,rfl,rfl⟩⟩,by simp[LK],fun i hi=>by
  obtain rfl:i=0:=by simpa using hi
  exact⟨u0,u1,u2,u3,rfl,rfl,rfl,rfl,(hn.later (zkb (zs w) _)).keep (fun q h _=>⟨h,fun e=>by injection e with e;have e:q=w.heap.size:=e;have:=hS q h;omega⟩) fun _ _ _=>rfl⟩⟩
theorem alC{w:World}{C:Nat->Prop}{o:Obj}:Chg C w (w.alloc o):=Chg.of_below (zkb zr _)
theorem alB{w:World}{P:Nat->Prop}{o:Obj}{n c:Nat}:∀b,(Value.slice (some ⟨w.heap.size,0,none⟩) n c).ownBlock=some b->(w.heap.size<=b\/P b)/\b<(w.alloc o).heap.size:=fun b hb=>by
 injection hb with hb;have hb:w.heap.size=b:=hb;rw[World.size_alloc];exact⟨.inl (by omega),by omega⟩
theorem zwx:(prog.info? 41).map (fun i=>(i.zero,i.size,i.bytes))=some (some (.agg #[.int .u8 0,.int .i64 0,.string ⟨#[]⟩,.slice none 0 0]),4,56):=by kernel_rfl
theorem zoh{ops:Array Oper}{o:Oper}{i:Nat}{a:Act}{W:World}{K:Act->World->Prop}{Q:Exit->Act->World->Prop}{F:Prop}{N0:Nat}{S:Nat->Prop}(hoi:ops[i]?=some o)(s x:Operand)(hgd:(ops[i]?).map (fun o=>o.guard)=some none)
  (ho:(ops[i]?).map (fun o=>o.op)=some (.call { callee:=.builtin .append,args := #[s,x],argTypes := #[39,39] }))(hN:N0<=W.heap.size)(hS:∀q,S q->q<N0){v:Value}{ts us:List T}{A:Option Addr}{m c:Nat}(hs:a.eval s=v)(hr:OwnN W N0 41 S v ts)(hm:us.length=m)(hx:a.eval x=.slice A m c)(hu:Src W S A us)(hl:ts.length+us.length<=LK)
  (h:∀v' w',Chg (fun b=>v.ownBlock=some b) W w'->(∀b,v'.ownBlock=some b->(W.heap.size<=b\/v.ownBlock=some b)/\b<w'.heap.size)->OwnN w' N0 41 S v' (ts++us)->K (a.put o.dst v') w') :
  if Region.wanted o (yielded ops a.tmps)=true then Oper.wp prog o a W K Q else F:=by
 obtain⟨j,hj,hz0,hz1,hz2⟩:=info_parts zwx;have hu2:Src W (fun b=>S b/\some b≠v.ownBlock) A us:=fun i hi =>
  let ⟨a,u0,u1,u2,u3,h1,h2,h3⟩:=hu i hi
  ⟨a,u0,u1,u2,u3,h1,h2,h3.keep (fun q h _=>⟨h,fun e=>by have:=(hr.block q e.symm).1;have:=hS q h;omega⟩) fun _ _ _=>rfl⟩
 refine znC (opF hoi (fun o=>o.guard) hgd) s x 39 (opF hoi (fun o=>o.op) ho) 41 j _ underlying39 hj hz0 hz1 hz2 rfl N0 S v ts hs hr us A m c hm hx hu2 hl hN fun v' w' g1 g2 g3=>h v' w' (Chg.row g2) (fun b hb=>⟨?_,(g1.block b hb).2⟩) g1;rcases g3 with e|e
 ·exact .inr (e▸hb)
 ·rw[e]at hb;injection hb with hb;exact .inl (by omega)
theorem zKG(s1 s2:ByteArray)(k1 k2 n1 n2:Int)(w:World):(Op.equalIn 10000 57 (.agg #[.string s1,.int .u8 k1,.int .i64 n1]) (.agg #[.string s2,.int .u8 k2,.int .i64 n2])).run prog w=.ok (s1.toList==s2.toList&&k1==k2&&n1==n2) w:=by
 have hS:prog.underlying 57=some (.struct (prog.fieldsOf 57)):=by kernel_rfl
 have hp:prog.stoodInHeld 57=false:=by kernel_rfl
 rw[show(10000:Nat)=9999+1 from rfl,run_equalIn_agg w 9999 57 _ _ hS hp];simp only[Program.fieldsOf,underlying57];go_simp;by_cases h1:s1.toList=s2.toList<;>by_cases h2:k1=k2<;>by_cases h3:n1=n2<;>simp[h1,h2,h3]
def eqV(u v:VD):Bool:=decide (u.s=v.s)&&decide (u.k=v.k)&&decide (u.n=v.n)
def eqVs:List VD->List VD->Bool
 | [],[]=>true
 | u::us,v::vs=>eqV u v&&eqVs us vs
 | _,_=>false
theorem zrr{u v:VD}:eqV u v=true↔u=v:=by
 obtain⟨a,b,c⟩:=u;obtain⟨d,e,f⟩:=v;simp[eqV,and_assoc]
theorem zmQ:∀ {us vs:List VD},eqVs us vs=true↔us=vs
 | [],[]=>by simp[eqVs]
 | u::us,v::vs=>by simp[eqVs,zrr,zmQ (us:=us) (vs:=vs)]
 | [],_::_=>by simp[eqVs]
 | _::_,[]=>by simp[eqVs]
theorem zsH(s1 s2:ByteArray):(s1.toList==s2.toList)=decide (s1=s2):=by
 rw[ByteArray.toList_eq,ByteArray.toList_eq];obtain⟨⟨x⟩⟩:=s1;obtain⟨⟨y⟩⟩:=s2;by_cases h:x=y
 ·subst h;simp
 ·simp[h]
theorem zKF(s1 s2:ByteArray)(k1 k2 n1 n2:Int)(w:World):(binOp BinOp.neq 57 (.agg #[.string s1,.int .u8 k1,.int .i64 n1]) (.agg #[.string s2,.int .u8 k2,.int .i64 n2])).run prog w=.ok (.bool (!eqV ⟨s1,k1,n1⟩ ⟨s2,k2,n2⟩)) w:=by
 rw[run_neq_struct,zKG];simp only[Result.andThen_ok,zsH,eqV];congr 3
theorem zyi(x y:Operand)(xs ys:Array Value)(w:World):(eqGuard BinOp.neq 57 x y (.agg xs) (.agg ys)).run prog w=.ok () w:=run_eqGuard_agg w _ _ x y xs ys (by kernel_rfl)
theorem zKD{vs us:List VD}{j:Nat}(h1:j<vs.length)(h2:j<us.length)(h:eqV vs[j] us[j]=false):eqVs vs us=false:=by
 cases e:eqVs vs us with
 | false=>rfl
 | true =>
  have e:=zmQ.1 e;subst e;rw[zrr.2 rfl]at h
  cases h
theorem zzP{vs us:List VD}(h:vs.length≠us.length):eqVs vs us=false:=by
 cases e:eqVs vs us with
 | false=>rfl
 | true=>exact absurd (by rw[zmQ.1 e]) h
theorem zKE{vs us:List VD}(hl:vs.length=us.length)(h:∀k (h1:k<vs.length) (h2:k<us.length),vs[k]=us[k]):eqVs vs us=true:=zmQ.2 (List.ext_getElem hl fun i h1 h2=>h i h1 h2)
theorem zzE{W:World}{vs us:List VD}{A B:Option Addr}{c d:Nat}(h1:RowV W Any A vs)(h2:RowV W Any B us)(hl:vs.length<=LV)(hk:us.length<=LV) :
  Calls prog 58 #[.slice A vs.length c,.slice B us.length d] W fun e W'=>e=.returned (.bool (eqVs vs us))/\Below W.heap.size W W':=by
 have H1:=zh h1;have H2:=zh h2;have hl1:=zlk hl;have hl2:=zlk hk;clear h1 h2 hl hk;have hneq:=zKF;have hgd:=zyi;obtain⟨n,hn⟩:=zX (vs.length);obtain⟨m,hm⟩:=zX (us.length);have HN:=zh (And.intro hn hm);rw[hn]at hl1 ⊢;rw[hm]at hl2 ⊢;clear hn hm;obtain⟨R,hR⟩:=zX (eqVs vs us);have HR:=zh hR;rw[hR];clear hR;go_enter func58,ntmps58;by_cases hnm:n=m;rotate_left 1
 ·have e0:((n:Int) != (m:Int))=true:=by simp;omega
  go_wp2_with fail;go_ret;exact⟨by rw[<-HR.out,zzP (by have:=HN.out;omega)];rfl,zr⟩
 subst hnm;go_wp2_with fail
 go_loopw [13] (fun i wr=>∃j:Nat,j<=n/\i=.int .i64 j/\Hid (Below W.heap.size W wr)/\Hid (∀k (h1:k<vs.length) (h2:k<us.length),k<j->vs[k]=us[k])) (fun i _=>n-(intOf i).toNat)
 case atStart=>exact⟨0,by omega,rfl,zh zr,zh fun k _ _ h=>by omega⟩
 case round =>
  obtain⟨j,hj,rfl,HB,HE⟩:=hrel;by_cases hlt:j<n
  ·have hj1:(j:Int)<(n:Int):=by omega
   have hj0:(0:Int)<=(j:Int):=by omega
   have dw:j<vs.length:=by rw[HN.out.1];exact hlt
   have hju:j<us.length:=by rw[HN.out.2];exact hlt
   obtain⟨a,v,rfl,-,hv,⟨x0,x1,x2⟩,-⟩:=(H1.out.later HB.out).nd dw;obtain⟨b,u,rfl,-,hu,⟨y0,y1,y2⟩,-⟩:=(H2.out.later HB.out).nd hju;obtain⟨v0,v1,v2⟩:=v;obtain⟨u0,u1,u2⟩:=u;simp only at x0 x1 x2 y0 y1 y2;have hvv:=hv.out;have lq:=hu.out;obtain⟨t,ht⟩:=zX (eqV ⟨v0,v1,v2⟩ ⟨u0,u1,u2⟩);have hnn:=fun w=>(hneq v0 u0 v1 u1 v2 u2 w).trans (by rw[ht]);have HT:=zh (show eqV vs[j] us[j]=t by rw[hvv,lq];exact ht);have HJ:=zh (And.intro dw hju);clear ht hneq hv hu hvv lq
   cases t
   ·go_upto_region 6 with fail
    go_quiet (fail)
    have gV:=zh (zkm HB.out nq);go_wp2_with fail;go_ret;exact⟨by rw[<-HR.out,zKD HJ.out.1 HJ.out.2 HT.out];rfl,gV.out⟩
   ·go_upto_region 6 with fail
    go_quiet (fail)
    have gV:=zh (zkm HB.out nq);go_wp2_with fail
    go_roundw
    case rel =>
     refine⟨j+1,by omega,by go_num,gV,zh fun k h1 h2 hk=>?_⟩;by_cases e:k<j
     ·exact HE.out k h1 h2 e
     ·obtain rfl:k=j:=by omega
      exact zrr.1 HT.out
    case measure=>simp[intOf];omega
  ·obtain rfl:j=n:=by omega
   have hj1:¬ (j:Int)<(j:Int):=by omega
   go_wp2_with fail;go_ret;exact⟨by rw[<-HR.out,zKE (by have:=HN.out;omega) fun k h1 h2=>HE.out k h1 h2 (by have:=HN.out;omega)];rfl,HB.out⟩
section
variable {P:Program} {md:Region.Mode} {ops:Array Oper} {Q:Exit->Act->World->Prop} {S1 S2:World->Prop} {k:Nat}
theorem zrI{i j1 j2:Nat}{oi o1 o2:Oper}(si s1 s2:Option Nat)(n:Nat)(L:Bool->Bool->Bool->Array Bool)(a0:Act)(Inv:World->Prop)(J:Bool->Bool->Value->Value->World->Prop)(Fact:Value->World->Prop)
  (hoi:ops[i]?=some oi)(ho1:ops[j1]?=some o1)(ho2:ops[j2]?=some o2)(hdi:oi.dst=si)(hd1:o1.dst=s1)(hd2:o2.dst=s2)
  (h00:Region.ready md ops (L false false false)=[i,j1,j2])(h01:Region.ready md ops (L false false true)=[i,j1])(h10:Region.ready md ops (L false true false)=[i,j2])(h11:Region.ready md ops (L false true true)=[i])
  (hLi:∀la lb,(L false la lb).setIfInBounds i true=L true la lb)(hL1:∀lb,(L false false lb).setIfInBounds j1 true=L false true lb)(hL2:∀la,(L false la false).setIfInBounds j2 true=L false la true)
  (hS:∀w,Inv w->S1 w/\S2 w)(hInv:∀w w',Inv w->Below w.heap.size w w'->Inv w')(hJ:∀la lb u v w w',J la lb u v w->Below w.heap.size w w'->J la lb u v w')
  (hi:∀(u v:Value) (K:Act->World->Prop) (w:World),Inv w->Shut (∀x w',Below w.heap.size w w'->Fact x w'->K (((a0.put s1 u).put s2 v).put si x) w')->if Region.wanted oi (yielded ops ((a0.put s1 u).put s2 v).tmps)=true then Oper.wp P oi ((a0.put s1 u).put s2 v) w K Q else K (((a0.put s1 u).put s2 v).put si undef) w)
  (h1:∀(lb:Bool) (u v:Value) (K:Act->World->Prop) (w:World),Inv w->J false lb u v w->Shut (∀x w',Below w.heap.size w w'->J true lb x v w'->K (((a0.put s1 u).put s2 v).put s1 x) w')->if Region.wanted o1 (yielded ops ((a0.put s1 u).put s2 v).tmps)=true then Oper.wp P o1 ((a0.put s1 u).put s2 v) w K Q else K (((a0.put s1 u).put s2 v).put s1 undef) w)
  (h2:∀(la:Bool) (u v:Value) (K:Act->World->Prop) (w:World),Inv w->J la false u v w->Shut (∀x w',Below w.heap.size w w'->J la true u x w'->K (((a0.put s1 u).put s2 v).put s2 x) w')->if Region.wanted o2 (yielded ops ((a0.put s1 u).put s2 v).tmps)=true then Oper.wp P o2 ((a0.put s1 u).put s2 v) w K Q else K (((a0.put s1 u).put s2 v).put s2 undef) w)
  (hp1:∀u v x,((a0.put s1 u).put s2 v).put s1 x=(a0.put s1 x).put s2 v)(hp2:∀u v x,((a0.put s1 u).put s2 v).put s2 x=(a0.put s1 u).put s2 x)
  (hc:∀(la lb:Bool) (u v x:Value) (w:World),Inv w->Fact x w->J la lb u v w->wpG P md ops Q S1 S2 k (n+(!la).toNat+(!lb).toNat) (L true la lb) (((a0.put s1 u).put s2 v).put si x) w) :
  ∀(la lb:Bool) (u v:Value) (w:World),Inv w->J la lb u v w->(a0.put s1 u).put s2 v=a0->wpG P md ops Q S1 S2 k (n+1+(!la).toNat+(!lb).toNat) (L false la lb) a0 w:=by
 subst hdi hd1 hd2;have hmem:∀la lb q,q∈Region.ready md ops (L false la lb)->q=i\/(q=j1/\la=false)\/(q=j2/\lb=false):=by
  intro la lb q hq
  cases la<;>cases lb
  ·rw[h00]at hq;simp at hq;rcases hq with h|h|h<;>simp[h]
  ·rw[h01]at hq;simp at hq;rcases hq with h|h<;>simp[h]
  ·rw[h10]at hq;simp at hq;rcases hq with h|h<;>simp[h]
  ·rw[h11]at hq;simp at hq;simp[hq]
 have hne:∀la lb,Region.ready md ops (L false la lb)≠[]:=by
  intro la lb
  cases la<;>cases lb
  ·rw[h00];simp
  ·rw[h01];simp
  ·rw[h10];simp
  ·rw[h11];simp
 let Pp:Bool->Bool->Prop:=fun la lb=>∀(u v:Value) (w:World),Inv w->J la lb u v w->wpG P md ops Q S1 S2 k (n+1+(!la).toNat+(!lb).toNat) (L false la lb) ((a0.put o1.dst u).put o2.dst v) w
 have step:∀la lb,(la=false->Pp true lb)->(lb=false->Pp la true)->Pp la lb:=by
  intro la lb ia ib u v w hI hj;rw[show n+1+(!la).toNat+(!lb).toNat=(n+(!la).toNat+(!lb).toNat)+1 by omega];refine⟨(fun h0=>absurd h0 (hne la lb)),fun q hq=>?_⟩;rcases hmem la lb q hq with rfl|⟨rfl,rfl⟩|⟨rfl,rfl⟩
  ·refine wpOp_step hoi fun K' hK=>hi u v K' w hI ?_;intro x w' hbl hF;have hI':=hInv _ _ hI hbl;refine hK _ _ ⟨⟨(hS _ hI').1,fun _=>(hS _ hI').2⟩,?_⟩;rw[hLi];exact hc la lb u v x w' hI' hF (hJ _ _ _ _ _ _ hj hbl)
  ·refine wpOp_step ho1 fun K' hK=>h1 lb u v K' w hI hj ?_;intro x w' hbl hF;have hI':=hInv _ _ hI hbl;refine hK _ _ ⟨⟨(hS _ hI').1,fun _=>(hS _ hI').2⟩,?_⟩;rw[hL1,hp1];have:=ia rfl x v w' hI' hF;simpa using this
  ·refine wpOp_step ho2 fun K' hK=>h2 la u v K' w hI hj ?_;intro x w' hbl hF;have hI':=hInv _ _ hI hbl;refine hK _ _ ⟨⟨(hS _ hI').1,fun _=>(hS _ hI').2⟩,?_⟩;rw[hL2,hp2];have:=ib rfl u x w' hI' hF;have e:n+1+(!la).toNat+(!true).toNat=n+(!la).toNat+(!false).toNat:=by simp;omega
   rw[e]at this;exact this
 have wM:Pp true true:=step _ _ (fun h=>by cases h) (fun h=>by cases h);have zH:Pp true false:=step _ _ (fun h=>by cases h) (fun _=>wM);have zK:Pp false true:=step _ _ (fun _=>wM) (fun h=>by cases h);have pff:Pp false false:=step _ _ (fun _=>zH) (fun _=>zK);intro la lb u v w hI hj he;have:Pp la lb:=by cases la<;>cases lb<;>assumption
 rw[<-he];exact this u v w hI hj
theorem zty{j1 j2:Nat}{o1 o2:Oper}(s1 s2:Option Nat)(n:Nat)(L:Bool->Bool->Array Bool)(a0:Act)(Inv:World->Prop)(J:Bool->Bool->Value->Value->World->Prop)
  (ho1:ops[j1]?=some o1)(ho2:ops[j2]?=some o2)(hd1:o1.dst=s1)(hd2:o2.dst=s2)
  (h00:Region.ready md ops (L false false)=[j1,j2])(h01:Region.ready md ops (L false true)=[j1])(h10:Region.ready md ops (L true false)=[j2])
  (hL1:∀lb,(L false lb).setIfInBounds j1 true=L true lb)(hL2:∀la,(L la false).setIfInBounds j2 true=L la true)
  (hS:∀w,Inv w->S1 w/\S2 w)(hInv:∀w w',Inv w->Below w.heap.size w w'->Inv w')
  (h1:∀(lb:Bool) (u v:Value) (K:Act->World->Prop) (w:World),Inv w->J false lb u v w->Shut (∀x w',Below w.heap.size w w'->J true lb x v w'->K (((a0.put s1 u).put s2 v).put s1 x) w')->if Region.wanted o1 (yielded ops ((a0.put s1 u).put s2 v).tmps)=true then Oper.wp P o1 ((a0.put s1 u).put s2 v) w K Q else K (((a0.put s1 u).put s2 v).put s1 undef) w)
  (h2:∀(la:Bool) (u v:Value) (K:Act->World->Prop) (w:World),Inv w->J la false u v w->Shut (∀x w',Below w.heap.size w w'->J la true u x w'->K (((a0.put s1 u).put s2 v).put s2 x) w')->if Region.wanted o2 (yielded ops ((a0.put s1 u).put s2 v).tmps)=true then Oper.wp P o2 ((a0.put s1 u).put s2 v) w K Q else K (((a0.put s1 u).put s2 v).put s2 undef) w)
  (hp1:∀u v x,((a0.put s1 u).put s2 v).put s1 x=(a0.put s1 x).put s2 v)(hp2:∀u v x,((a0.put s1 u).put s2 v).put s2 x=(a0.put s1 u).put s2 x)
  (hc:∀(u v:Value) (w:World),Inv w->J true true u v w->wpG P md ops Q S1 S2 k n (L true true) ((a0.put s1 u).put s2 v) w) :
  ∀(la lb:Bool) (u v:Value) (w:World),Inv w->J la lb u v w->(a0.put s1 u).put s2 v=a0->wpG P md ops Q S1 S2 k (n+(!la).toNat+(!lb).toNat) (L la lb) a0 w:=by
 subst hd1 hd2
 let Pp:Bool->Bool->Prop:=fun la lb=>∀(u v:Value) (w:World),Inv w->J la lb u v w->wpG P md ops Q S1 S2 k (n+(!la).toNat+(!lb).toNat) (L la lb) ((a0.put o1.dst u).put o2.dst v) w
 have wM:Pp true true:=fun u v w hI hj=>hc u v w hI hj;have s1:∀lb (u v:Value) (w:World),Inv w->J false lb u v w->Pp true lb->wpOp P ops Q j1 (fun a' w'=>(S1 w'/\(((L false lb).setIfInBounds j1 true).getD k true=false->S2 w'))/\wpG P md ops Q S1 S2 k (n+(!lb).toNat) ((L false lb).setIfInBounds j1 true) a' w') ((a0.put o1.dst u).put o2.dst v) w:=by
  intro lb u v w hI hj hP;refine wpOp_step ho1 fun K' hK=>h1 lb u v K' w hI hj ?_;intro x w' hbl hF;have hI':=hInv _ _ hI hbl;refine hK _ _ ⟨⟨(hS _ hI').1,fun _=>(hS _ hI').2⟩,?_⟩;rw[hL1,hp1];have:=hP x v w' hI' hF;simpa using this
 have s2:∀la (u v:Value) (w:World),Inv w->J la false u v w->Pp la true->wpOp P ops Q j2 (fun a' w'=>(S1 w'/\(((L la false).setIfInBounds j2 true).getD k true=false->S2 w'))/\wpG P md ops Q S1 S2 k (n+(!la).toNat) ((L la false).setIfInBounds j2 true) a' w') ((a0.put o1.dst u).put o2.dst v) w:=by
  intro la u v w hI hj hP;refine wpOp_step ho2 fun K' hK=>h2 la u v K' w hI hj ?_;intro x w' hbl hF;have hI':=hInv _ _ hI hbl;refine hK _ _ ⟨⟨(hS _ hI').1,fun _=>(hS _ hI').2⟩,?_⟩;rw[hL2,hp2];have:=hP u x w' hI' hF;simpa using this
 have zK:Pp false true:=fun u v w hI hj=>by
  show wpG P md ops Q S1 S2 k (n+1+0) _ _ w
  refine⟨(fun h0=>by rw[h01]at h0;cases h0),fun q hq=>?_⟩;rw[h01]at hq;simp only[List.mem_singleton]at hq;subst hq;exact s1 true u v w hI hj wM
 have zH:Pp true false:=fun u v w hI hj=>by
  show wpG P md ops Q S1 S2 k (n+0+1) _ _ w
  refine⟨(fun h0=>by rw[h10]at h0;cases h0),fun q hq=>?_⟩;rw[h10]at hq;simp only[List.mem_singleton]at hq;subst hq;exact s2 true u v w hI hj wM
 have pff:Pp false false:=fun u v w hI hj=>by
  show wpG P md ops Q S1 S2 k (n+1+1) _ _ w
  refine⟨(fun h0=>by rw[h00]at h0;cases h0),fun q hq=>?_⟩;rw[h00]at hq;simp only[List.mem_cons,List.not_mem_nil,or_false]at hq;rcases hq with rfl|rfl
  ·exact s1 false u v w hI hj zH
  ·exact s2 false u v w hI hj zK
 intro la lb u v w hI hj he;have:Pp la lb:=by cases la<;>cases lb<;>assumption
 rw[<-he];exact this u v w hI hj
end
def J2(o:Obj)(n:Nat)(la lb:Bool)(u v:Value)(w:World):Prop :=
 (la=true->∃b,u=.pointer (some ⟨b,0,none⟩)/\n<=b/\w.heap[b]?=some o)/\(lb=true->∃b,v=.pointer (some ⟨b,0,none⟩)/\n<=b/\w.heap[b]?=some o)/\(la=true->lb=true->u≠v)
theorem J2.later{o:Obj}{n:Nat}{la lb:Bool}{u v:Value}{w w':World}(h:J2 o n la lb u v w)(hb:Below w.heap.size w w'):J2 o n la lb u v w':=by
 obtain⟨h1,h2,h3⟩:=h;refine⟨fun e=>?_,fun e=>?_,h3⟩
 ·obtain⟨b,e1,e2,e3⟩:=h1 e;exact⟨b,e1,e2,zkc e3 hb⟩
 ·obtain⟨b,e1,e2,e3⟩:=h2 e;exact⟨b,e1,e2,zkc e3 hb⟩
theorem J2.one{o:Obj}{n:Nat}{lb:Bool}{u v:Value}{w:World}(h:J2 o n false lb u v w)(hn:n<=w.heap.size):J2 o n true lb (.pointer (some ⟨w.heap.size,0,none⟩)) v (w.alloc o):=by
 have hl:=h.later (zkb zr o);refine⟨fun _=>⟨_,rfl,hn,heap_alloc_new w o⟩,hl.2.1,fun _ e=>?_⟩;obtain⟨b,rfl,-,e3⟩:=h.2.1 e;intro hh;injection hh with hh;injection hh with hh;injection hh with hh;have:=zko e3;omega
theorem J2.two{o:Obj}{n:Nat}{la:Bool}{u v:Value}{w:World}(h:J2 o n la false u v w)(hn:n<=w.heap.size):J2 o n la true u (.pointer (some ⟨w.heap.size,0,none⟩)) (w.alloc o):=by
 have hl:=h.later (zkb zr o);refine⟨hl.1,fun _=>⟨_,rfl,hn,heap_alloc_new w o⟩,fun e _=>?_⟩;obtain⟨b,rfl,-,e3⟩:=h.1 e;intro hh;injection hh with hh;injection hh with hh;injection hh with hh;have:=zko e3;omega
theorem J2.boxes{o:Obj}{n:Nat}{u v:Value}{w:World}(h:J2 o n true true u v w):∃b c,u=.pointer (some ⟨b,0,none⟩)/\v=.pointer (some ⟨c,0,none⟩)/\n<=b/\n<=c/\b≠c/\w.heap[b]?=some o/\w.heap[c]?=some o:=by
 obtain⟨b,rfl,e2,e3⟩:=h.1 rfl;obtain⟨c,rfl,f2,f3⟩:=h.2.1 rfl;exact⟨b,c,rfl,rfl,e2,f2,fun e=>h.2.2 rfl rfl (by rw[e]),e3,f3⟩
attribute [local go_sem] Oper.semAt_some
theorem OwnS.chgD{W W':World}{n0 ba:Nat}{s:SS}{v:Value}{xs:Array Value}(h:OwnS W n0 s v)(hc:Chg (fun b=>b=ba) W W')(hz:W.heap[ba]?=some (.cells xs 59 (0,0))):OwnS W' n0 s v:=by
 obtain⟨vc,vi,vo,fc,rfl,hr,hi⟩:=h;refine⟨vc,vi,vo,fc,rfl,hr.chg hc fun i b hb hcb=>?_,hi⟩;have hcb:b=ba:=hcb;subst hcb;obtain⟨-,⟨hv,-⟩|⟨g,cap,cur,hv,-,hg,-⟩⟩:=hr.row i
 ·rw[hv]at hb
  cases hb
 ·rw[hv]at hb;injection hb with hb;have hb:g=b:=hb;subst hb;rw[hz]at hg;injection hg with hg;injection hg with _ hE
  cases i with
  | all=>simp[zmU]at hE
  | inp=>simp[zmU]at hE
  | out=>simp[zmU]at hE
  | el i =>
   simp only[zmU]at hE
   split at hE
   ·simp at hE
   ·exact absurd hE (by decide)
def FwV(n0:Nat)(R:SS×Nat×Int×List Nat)(x:Value)(w:World):Prop:=∃A c B d D g,x=.agg #[.slice A R.1.cells.length c,.slice B R.1.tin.length d,.slice D R.1.tout.length g,.int .i64 (R.2.1:Int),.int .i64 R.2.2.1]/\OwnS w n0 R.1 (.agg #[.slice A R.1.cells.length c,.slice B R.1.tin.length d,.slice D R.1.tout.length g])/\R.1.Lim
theorem FwP.v{W W':World}{R:SS×Nat×Int×List Nat}{e:Ending}{n:Nat}(hn:n<=W.heap.size)(h:FwP W R e W'):∃x,e=.returned x/\FwV n R x W'/\Below W.heap.size W W':=by
 obtain⟨v1,v2,v3,rfl,ho,hb,hl⟩:=h;have hsv:=ho.lower hn;obtain⟨A,c,B,d,D,g,hv⟩:=ho.slices;rw[hv]at hsv;injection hv with hv;simp only[Array.mk.injEq,List.cons.injEq,and_true]at hv;obtain⟨rfl,rfl,rfl⟩:=hv;exact⟨_,rfl,⟨A,c,B,d,D,g,rfl,hsv,hl.1⟩,hb⟩
def difE(p q:PG)(F:Int)(s:SS):Bool:=decide (errE p F s≠errE q F s) || !eqS (resO p s F (F.toNat*2000+2000) false).1 (resO q s F (F.toNat*2000+2000) false).1
theorem zy5:IsFn prog 59 f59:=⟨func59,by kernel_rfl,by kernel_rfl⟩
theorem zu0{W:World}{p q:PG}{s:SS}{F:Int}{bp bf bq c1 c2 c3 e1 e2 e3:Nat}{A1 A2 A3 D1 D2 D3:Option Addr}{sv:Value}(hk:W.heap[bp]?=some (.cells (pgA p A1 c1 A2 c2 A3 c3) 43 (0,0)))(hp:PV W Any p (pv A1 p.vs.length c1 A2 p.prs.length c2 p.m.k p.m.n p.m.s A3 p.m.ks.length c3))(hf:W.heap[bf]?=some (.cells #[.int .i64 F] 3 (0,0)))
  (hkq:W.heap[bq]?=some (.cells (pgA q D1 e1 D2 e2 D3 e3) 43 (0,0)))(hq:PV W Any q (pv D1 q.vs.length e1 D2 q.prs.length e2 q.m.k q.m.n q.m.s D3 q.m.ks.length e3))(hs:SV W Any s sv)(hcl:s.cells.length<=100)(hF:I64 F)(eF:F<=1000000) :
  Calls prog 59 #[sv,.pointer (some ⟨bp,0,none⟩),.pointer (some ⟨bf,0,none⟩),.pointer (some ⟨bq,0,none⟩)] W fun e' W'=>e'=.returned (.bool (difE p q F s))/\Below W.heap.size W W':=by
 obtain⟨A,c,B,d,D,k,rfl⟩:∃A c B d D k,sv=.agg #[.slice A s.cells.length c,.slice B s.tin.length d,.slice D s.tout.length k]:=by
  obtain⟨A,c,B,d,D,k,rfl,-⟩:=hs;exact⟨_,_,_,_,_,_,rfl⟩
 have hkb:=heap_alloc_new W (.cells #[.slice A s.cells.length c,.slice B s.tin.length d,.slice D s.tout.length k] 32);have hb:=zkb (zs W) (.cells #[.slice A s.cells.length c,.slice B s.tin.length d,.slice D s.tout.length k] 32);obtain⟨w1,hw1⟩:=zX (W.alloc (.cells #[.slice A s.cells.length c,.slice B s.tin.length d,.slice D s.tout.length k] 32));obtain⟨N,hN⟩:=zX (W.heap.size);rw[hw1]at hkb hb;rw[hN]at hkb;have HB:=zh hb;have uG:=zh (zkc hk hb);have Cj:=zh (zkc hkq hb);have jG:=zh (zkc hf hb);have nG:=zh hkb;have iV:=zh (fun w (h:Below w1.heap.size w1 w)=>zlY p s F (F.toNat*2000+2000) _ _ w ((hp.later hb).later h) ((hs.later hb).later h) (by omega) hF eF zl);have oL:=zh (fun w (h:Below w1.heap.size w1 w)=>zlY q s F (F.toNat*2000+2000) _ _ w ((hq.later hb).later h) ((hs.later hb).later h) (by omega) hF eF zl)
 have uO:=zh (show difE p q F s=(decide ((resO p s F (F.toNat*2000+2000) false).2.2.1≠(resO q s F (F.toNat*2000+2000) false).2.2.1) || !eqS (resO p s F (F.toNat*2000+2000) false).1 (resO q s F (F.toNat*2000+2000) false).1)from rfl);obtain⟨RD,hRD⟩:=zX (difE p q F s);rw[hRD]at uO ⊢;generalize resO p s F (F.toNat*2000+2000) false=R1 at iV uO;generalize resO q s F (F.toNat*2000+2000) false=R2 at oL uO;clear hk hp hf hkq hq hs hcl hF eF hb hkb hRD;go_enter func59,ntmps59;go_upto_region 1 with fail
 try rw[hw1]
 try rw[hN]
 clear hw1 hN;have az:=zh (show ∀w',Below w1.heap.size w1 w'->(fun w':World=>pgS w' bp p A1 c1 A2 c2 A3 c3/\pgS w' bq q D1 e1 D2 e2 D3 e3/\stC w' N A s.cells.length c B s.tin.length d D s.tout.length k/\zv w' bf 0 (.int .i64 F)) w' from fun w' hb=>⟨box6 (zkc uG.out hb),box6 (zkc Cj.out hb),zky (zkc nG.out hb),zc (zkc jG.out hb) rfl⟩);obtain⟨S1,hS1⟩:∃S1:World->Prop,S1=fun w':World=>pgS w' bp p A1 c1 A2 c2 A3 c3/\pgS w' bq q D1 e1 D2 e2 D3 e3/\stC w' N A s.cells.length c B s.tin.length d D s.tout.length k/\w'.cell? ⟨bf,0,none⟩=some (.int .i64 F):=⟨_,rfl⟩
 rw[<-hS1]at az;have hSS:zW S1 zU w1.drew:=⟨az.out _ zr.drew,trivial⟩
 refine wp_region_noPanic ?_;refine zG hSS 10 ?_;subst hS1;refine zT 0 hSS ?_;refine zT 1 hSS ?_;refine zT 2 hSS ?_;refine zT 4 hSS ?_;refine zT 5 hSS ?_;refine zT 6 hSS ?_;have hI:(fun w=>Below w1.heap.size w1 w) w1.drew:=zr.drew;clear hSS
 refine zrI (i:=3) (j1:=8) (j2:=9) (some 11) (some 6) (some 7) 3 (fun li la lb => #[true,true,true,li,true,true,true,false,la,lb,false,false]) _ (fun w=>Below w1.heap.size w1 w) (J2 (.cells #[.slice none 0 0,.slice none 0 0,.slice none 0 0,.int .i64 0,.int .i64 0] 59 (0,0)) w1.heap.size) (FwV w1.heap.size R1) rfl rfl rfl rfl rfl rfl (by kernel_rfl) (by kernel_rfl) (by kernel_rfl) (by kernel_rfl) (fun la lb=>by cases la<;>cases lb<;>rfl) (fun lb=>by cases lb<;>rfl) (fun la=>by cases la<;>rfl) (fun w h=>⟨az.out _ h,trivial⟩) (fun w w' h hb=>?_) (fun la lb u v w w' h hb=>h.later hb) (fun u v K w h aa=>?_) (fun lb u v K w h hj aa=>?_) (fun la u v K w h hj aa=>?_) (fun u v x=>?_) (fun u v x=>?_) (fun la lb u v x wc h hF hj=>?_) false false undef undef w1.drew hI ⟨nofun,nofun,nofun⟩ ?_
 ·have hb0:=h;exact zka hb0 hb
 ·have hb0:=h;have hK:=zh aa;clear aa;refine zkf (by rfl) (.func 21) [.tmp 8,.tmp 9,.tmp 10] _ (by rfl) 21 _ zsm (by rfl) [pv A1 p.vs.length c1 A2 p.prs.length c2 p.m.k p.m.n p.m.s A3 p.m.ks.length c3,.agg #[.slice A s.cells.length c,.slice B s.tin.length d,.slice D s.tout.length k],.int .i64 F] (by rfl) (fun x w'=>FwV w1.heap.size R1 x w'/\Below w.heap.size w w') ((iV.out w hb0).mono fun e w' h=>FwP.v hb0.size h) ?_;rintro x w' ⟨hx,hb⟩;exact hK.out _ _ hb hx
 ·have hb0:=h;have hK:=zh aa;clear aa;(try simp only[zQ]);(try simp only[zA,zB,zC]);go_simp;exact hK.out _ _ (zkb zr _) (hj.one hb0.size)
 ·have hb0:=h;have hK:=zh aa;clear aa;(try simp only[zQ]);(try simp only[zA,zB,zC]);go_simp;exact hK.out _ _ (zkb zr _) (hj.two hb0.size)
 ·simp only[Act.put,zD,zE,zF]
 ·simp only[Act.put,zD,zE,zF]
 rotate_left 1
 ·simp only[Act.put,zD,zE,zF]
 (try simp only[zQ]);obtain⟨fA,fc,fB,fd,fD,fg,rfl,hsa,hl1⟩:=hF;have iP:=zh hl1;clear hI hl1;have hI:(fun w=>Below w1.heap.size w1 w/\OwnS w w1.heap.size R1.1 (.agg #[.slice fA R1.1.cells.length fc,.slice fB R1.1.tin.length fd,.slice fD R1.1.tout.length fg])) wc:=⟨h,hsa⟩
 clear hsa h
 refine zrI (i:=7) (j1:=8) (j2:=9) (some 15) (some 6) (some 7) 2 (fun li la lb => #[true,true,true,true,true,true,true,li,la,lb,false,false]) _ (fun w=>Below w1.heap.size w1 w/\OwnS w w1.heap.size R1.1 (.agg #[.slice fA R1.1.cells.length fc,.slice fB R1.1.tin.length fd,.slice fD R1.1.tout.length fg])) (J2 (.cells #[.slice none 0 0,.slice none 0 0,.slice none 0 0,.int .i64 0,.int .i64 0] 59 (0,0)) w1.heap.size) (FwV w1.heap.size R2) rfl rfl rfl rfl rfl rfl (by kernel_rfl) (by kernel_rfl) (by kernel_rfl) (by kernel_rfl) (fun la lb=>by cases la<;>cases lb<;>rfl) (fun lb=>by cases lb<;>rfl) (fun la=>by cases la<;>rfl) (fun w h=>⟨az.out _ h.1,trivial⟩) (fun w w' h hb=>⟨zka h.1 hb,h.2.later hb⟩) (fun la lb u v w w' h hb=>h.later hb) (fun u v K w h aa=>?_) (fun lb u v K w h hj aa=>?_) (fun la u v K w h hj aa=>?_) (fun u v x=>?_) (fun u v x=>?_) (fun la lb u v x wc h hF hj=>?_) la lb u v wc hI hj ?_
 ·have hb0:=h.1;have hK:=zh aa;clear aa;refine zkf (by rfl) (.func 21) [.tmp 12,.tmp 13,.tmp 14] _ (by rfl) 21 _ zsm (by rfl) [pv D1 q.vs.length e1 D2 q.prs.length e2 q.m.k q.m.n q.m.s D3 q.m.ks.length e3,.agg #[.slice A s.cells.length c,.slice B s.tin.length d,.slice D s.tout.length k],.int .i64 F] (by rfl) (fun x w'=>FwV w1.heap.size R2 x w'/\Below w.heap.size w w') ((oL.out w hb0).mono fun e w' h=>FwP.v hb0.size h) ?_;rintro x w' ⟨hx,hb⟩;exact hK.out _ _ hb hx
 ·have hb0:=h.1;have hK:=zh aa;clear aa;(try simp only[zQ]);(try simp only[zA,zB,zC]);go_simp;exact hK.out _ _ (zkb zr _) (hj.one hb0.size)
 ·have hb0:=h.1;have hK:=zh aa;clear aa;(try simp only[zQ]);(try simp only[zA,zB,zC]);go_simp;exact hK.out _ _ (zkb zr _) (hj.two hb0.size)
 ·simp only[Act.put,zD,zE,zF]
 ·simp only[Act.put,zD,zE,zF]
 rotate_left 1
 ·simp only[Act.put,zD,zE,zF]
 (try simp only[zQ]);obtain⟨gA,gc,gB,gd,gD,gg,rfl,hsb,hl2⟩:=hF;have HL2:=zh hl2;clear hI hl2;have hI:(fun w=>Below w1.heap.size w1 w/\OwnS w w1.heap.size R1.1 (.agg #[.slice fA R1.1.cells.length fc,.slice fB R1.1.tin.length fd,.slice fD R1.1.tout.length fg])/\OwnS w w1.heap.size R2.1 (.agg #[.slice gA R2.1.cells.length gc,.slice gB R2.1.tin.length gd,.slice gD R2.1.tout.length gg])) wc:=⟨h.1,h.2,hsb⟩
 clear hsb h;refine zty (j1:=8) (j2:=9) (some 6) (some 7) 2 (fun la lb => #[true,true,true,true,true,true,true,true,la,lb,false,false]) _ (fun w=>Below w1.heap.size w1 w/\OwnS w w1.heap.size R1.1 (.agg #[.slice fA R1.1.cells.length fc,.slice fB R1.1.tin.length fd,.slice fD R1.1.tout.length fg])/\OwnS w w1.heap.size R2.1 (.agg #[.slice gA R2.1.cells.length gc,.slice gB R2.1.tin.length gd,.slice gD R2.1.tout.length gg])) (J2 (.cells #[.slice none 0 0,.slice none 0 0,.slice none 0 0,.int .i64 0,.int .i64 0] 59 (0,0)) w1.heap.size) rfl rfl rfl rfl (by kernel_rfl) (by kernel_rfl) (by kernel_rfl) (fun lb=>by cases lb<;>rfl) (fun la=>by cases la<;>rfl) (fun w h=>⟨az.out _ h.1,trivial⟩) (fun w w' h hb=>⟨zka h.1 hb,h.2.1.later hb,h.2.2.later hb⟩) (fun lb u v K w h hj aa=>?_) (fun la u v K w h hj aa=>?_) (fun u v x=>?_) (fun u v x=>?_) (fun u v wd h hj=>?_) la lb u v wc hI hj ?_
 ·have hb0:=h.1;have hK:=zh aa;clear aa;(try simp only[zQ]);(try simp only[zA,zB,zC]);go_simp;exact hK.out _ _ (zkb zr _) (hj.one hb0.size)
 ·have hb0:=h.1;have hK:=zh aa;clear aa;(try simp only[zQ]);(try simp only[zA,zB,zC]);go_simp;exact hK.out _ _ (zkb zr _) (hj.two hb0.size)
 ·simp only[Act.put,zD,zE,zF]
 ·simp only[Act.put,zD,zE,zF]
 rotate_left 1
 ·simp only[Act.put,zD,zE,zF]
 (try simp only[zQ]);obtain⟨ba,bb,rfl,rfl,hla,hlb,hne,hza,hzb⟩:=hj.boxes;obtain⟨hb0,hsa,hsb⟩:=h;clear hI hj;have x0:wd.cell? ⟨ba,0,none⟩=some (.slice none 0 0):=zc hza rfl;have x1:wd.cell? ⟨ba,1,none⟩=some (.slice none 0 0):=zc hza rfl;have x2:wd.cell? ⟨ba,2,none⟩=some (.slice none 0 0):=zc hza rfl;have x3:wd.cell? ⟨ba,3,none⟩=some (.int .i64 0):=zc hza rfl;have x4:wd.cell? ⟨ba,4,none⟩=some (.int .i64 0):=zc hza rfl;have xf:∀o,wd.frozen? ⟨ba,o,none⟩=false:=fun _=>zf hza;have ui:=zh hza;have iI:=zh hzb;have HB0:=zh hb0;have xH:=zh hsa;have fO:=zh hsb;clear hza hzb hb0 hsa hsb;refine zo 10 fun K hK=>?_;(try simp only[zA,zB,zC]);go_simp;obtain⟨hh,hch⟩:=set5 (u0:=.slice fA R1.1.cells.length fc) (u1:=.slice fB R1.1.tin.length fd) (u2:=.slice fD R1.1.tout.length fg) (u3:=.int .i64 (R1.2.1:Int)) (u4:=.int .i64 R1.2.2.1) ui.out
 have hb0:=HB0.out.trans (hch.below HB0.out.size fun b e=>by omega);have hsa:=xH.out.chgD hch ui.out;have hsb:=fO.out.chgD hch ui.out;have hzb:=hch.keep iI.out (by show ¬ (bb=ba);omega);obtain⟨we,hwwe⟩:=zX ((((((wd.setCell ⟨ba,0,none⟩ (.slice fA R1.1.cells.length fc)).setCell ⟨ba,1,none⟩ (.slice fB R1.1.tin.length fd)).setCell ⟨ba,2,none⟩ (.slice fD R1.1.tout.length fg)).setCell ⟨ba,3,none⟩ (.int .i64 (R1.2.1:Int))).setCell ⟨ba,4,none⟩ (.int .i64 R1.2.2.1)));rw[hwwe]at hh hch hb0 hsa hsb hzb ⊢;have hza:=hh;refine hK.out _ _ (⟨az.out _ hb0,trivial⟩) ?_;clear hK K x0 x1 x2 x3 x4 xf hwwe hch ui iI HB0 xH fO hh;(try simp only[zQ]);have x0:we.cell? ⟨bb,0,none⟩=some (.slice none 0 0):=zc hzb rfl;have x1:we.cell? ⟨bb,1,none⟩=some (.slice none 0 0):=zc hzb rfl;have x2:we.cell? ⟨bb,2,none⟩=some (.slice none 0 0):=zc hzb rfl;have x3:we.cell? ⟨bb,3,none⟩=some (.int .i64 0):=zc hzb rfl
 have x4:we.cell? ⟨bb,4,none⟩=some (.int .i64 0):=zc hzb rfl;have xf:∀o,we.frozen? ⟨bb,o,none⟩=false:=fun _=>zf hzb;have ui:=zh hza;have iI:=zh hzb;have HB0:=zh hb0;have xH:=zh hsa;have fO:=zh hsb;clear hza hzb hb0 hsa hsb;refine zp 11 fun K hK=>?_;(try simp only[zA,zB,zC]);go_simp;obtain⟨hh,hch⟩:=set5 (u0:=.slice gA R2.1.cells.length gc) (u1:=.slice gB R2.1.tin.length gd) (u2:=.slice gD R2.1.tout.length gg) (u3:=.int .i64 (R2.2.1:Int)) (u4:=.int .i64 R2.2.2.1) iI.out;have hb0:=HB0.out.trans (hch.below HB0.out.size fun b e=>by omega);have hsa:=xH.out.chgD hch iI.out;have hsb:=fO.out.chgD hch iI.out;have hza:=hch.keep ui.out (by show ¬ (ba=bb);omega)
 obtain⟨wf,hwwf⟩:=zX ((((((we.setCell ⟨bb,0,none⟩ (.slice gA R2.1.cells.length gc)).setCell ⟨bb,1,none⟩ (.slice gB R2.1.tin.length gd)).setCell ⟨bb,2,none⟩ (.slice gD R2.1.tout.length gg)).setCell ⟨bb,3,none⟩ (.int .i64 (R2.2.1:Int))).setCell ⟨bb,4,none⟩ (.int .i64 R2.2.2.1)));rw[hwwf]at hh hch hb0 hsa hsb hza ⊢;have hzb:=hh;refine hK.out _ _ ((az.out _ hb0)) ?_;clear hK K x0 x1 x2 x3 x4 xf hwwf hch ui iI HB0 xH fO hh;(try simp only[zQ]);refine zd ?_;refine NoPanic.normal ?_;have x0:wf.cell? ⟨ba,0,none⟩=some (.slice fA R1.1.cells.length fc):=zc hza rfl;have x1:wf.cell? ⟨ba,1,none⟩=some (.slice fB R1.1.tin.length fd):=zc hza rfl;have x2:wf.cell? ⟨ba,2,none⟩=some (.slice fD R1.1.tout.length fg):=zc hza rfl;have x4:wf.cell? ⟨ba,4,none⟩=some (.int .i64 R1.2.2.1):=zc hza rfl;have y0:wf.cell? ⟨bb,0,none⟩=some (.slice gA R2.1.cells.length gc):=zc hzb rfl
 have y1:wf.cell? ⟨bb,1,none⟩=some (.slice gB R2.1.tin.length gd):=zc hzb rfl;have y2:wf.cell? ⟨bb,2,none⟩=some (.slice gD R2.1.tout.length gg):=zc hzb rfl;have y4:wf.cell? ⟨bb,4,none⟩=some (.int .i64 R2.2.2.1):=zc hzb rfl;have nL:=zh (zvs R1.1 R2.1 _ _ wf (hsa.sv iP.out) (hsb.sv HL2.out));have rJ:=zh (zka HB.out hb0);clear hza hzb hb0 hsa hsb;by_cases yH:R1.2.2.1=R2.2.2.1
 ·have he:(R1.2.2.1 != R2.2.2.1)=false:=by simpa using yH
  go_wp2_with fail;refine nL.out.mono ?_;rintro e' w9 ⟨rfl,aZ⟩;go_wp2_with fail;go_ret;exact⟨by rw[uO.out,decide_eq_false (by simpa using yH)];rfl,zka rJ.out aZ⟩
 ·have he:(R1.2.2.1 != R2.2.2.1)=true:=by simpa using yH
  go_wp2_with fail;go_ret;exact⟨by rw[uO.out,decide_eq_true yH];rfl,rJ.out⟩
def dffE(p q:PG)(b:BX)(F:Int):SS×Nat×Bool:=if eqVs p.vs q.vs=true then fndE (difE p q F) (allS b (lenE p.vs b))else(nilS,0,false)
theorem zpu{W:World}{p q:PG}{b:BX}{F:Int}{v u:Value}(hp:PV W Any p v)(hq:PV W Any q u)(hok:(b.ok&&svB p.vs)=true)(hm:(allS b (lenE p.vs b)).length<=1000000)(hF:I64 F)(eF:F<=1000000) :
  Calls prog 22 #[v,u,.agg #[.int .i64 b.v,.int .i64 b.l,.int .i64 b.i],.int .i64 F] W (FalP (dffE p q b F) W):=by
 obtain⟨A1,c1,A2,c2,A3,c3,rfl,-⟩:=id hp;obtain⟨D1,e1,D2,e2,D3,e3,rfl,-⟩:=id hq;obtain⟨bv,bl,bi⟩:=b;obtain⟨N,hN⟩:=zX (W.heap.size);have HN:=zh hN;obtain⟨hb1,hz1,k0,k1,k2,k3,k4⟩:=al5F W (.cells (pgA p A1 c1 A2 c2 A3 c3) 43) (.cells (pgA q D1 e1 D2 e2 D3 e3) 43) (.cells #[.int .i64 bv,.int .i64 bl,.int .i64 bi] 24) (.cells #[.int .i64 F] 3) (.cells #[.slice none 0 0,.slice none 0 0,.slice none 0 0] 32);obtain⟨w1,hw1⟩:=zX (((((W.alloc (.cells (pgA p A1 c1 A2 c2 A3 c3) 43)).alloc (.cells (pgA q D1 e1 D2 e2 D3 e3) 43)).alloc (.cells #[.int .i64 bv,.int .i64 bl,.int .i64 bi] 24)).alloc (.cells #[.int .i64 F] 3)).alloc (.cells #[.slice none 0 0,.slice none 0 0,.slice none 0 0] 32));rw[hw1]at hb1 hz1 k0 k1 k2 k3 k4;rw[hN]at hz1 k0 k1 k2 k3 k4;have HB1:=zh hb1;have HZ1:=zh hz1;have HVE:=zh (zzE (W:=w1) (c:=c1) (d:=e1) (hp.pg.vars.later hb1) (hq.pg.vars.later hb1) hp.pg.lv hq.pg.lv)
 have gM:=zh (((hp.keep (S':=fun q=>q<N+5) (fun q _ h=>by omega) fun _ _ _=>rfl).keep (w':=w1) (S':=fun q=>q<N+5) (fun _ h _=>h) fun q _ hlt=>hb1.block q hlt));have vS:=zh (((hq.keep (S':=fun q=>q<N+5) (fun q _ h=>by omega) fun _ _ _=>rfl).keep (w':=w1) (S':=fun q=>q<N+5) (fun _ h _=>h) fun q _ hlt=>hb1.block q hlt));have qx:=zh hp.pg.lv;have fG:=zh (And.intro hok (And.intro hm (And.intro hF eF)));obtain⟨⟨s9,n9,ok9⟩,lC⟩:=zX (dffE p q ⟨bv,bl,bi⟩ F);have bJ:=zh lC;rw[lC];have aD:=zh k0;have aA:=zh k1;have aR:=zh k2;have gT:=zh k3;have dM:=zh k4;obtain⟨p0,p1,p2,p3,p4,p5⟩:=box6 k0;obtain⟨q0,q1,q2,q3,q4,q5⟩:=box6 k1;clear hp hq hb1 hz1 k0 k1 k2 k3 k4 hok hm hF eF lC;have nZ:∀(fn:Fn) (first cap:Array Value) (w:World),(Instr.makeFunc fn first cap).run prog w=.ok (.func fn first cap) w:=fun _ _ _ _=>rfl
 show Calls prog 22 #[pv A1 p.vs.length c1 A2 p.prs.length c2 p.m.k p.m.n p.m.s A3 p.m.ks.length c3,pv D1 q.vs.length e1 D2 q.prs.length e2 q.m.k q.m.n q.m.s D3 q.m.ks.length e3,.agg #[.int .i64 bv,.int .i64 bl,.int .i64 bi],.int .i64 F] W _
 go_enter func22,ntmps22;go_wp2_with fail;simp only[Nat.add_assoc,Nat.reduceAdd];refine HVE.out.mono ?_;rintro e' w2 ⟨rfl,hb2⟩;have HB2:=zh (zka HB1.out hb2);have qB:=zh (zkc aD.out hb2);have jI:=zh (zkc aA.out hb2);have qA:=zh (zkc aR.out hb2);have qz:=zh (zkc gT.out hb2);have jH:=zh (zkc dM.out hb2);have HZ2:=zh (show N+5<=w2.heap.size by have:=hb2.size;have:=HZ1.out;omega);have mZ:=zh (gM.out.later hb2);have HQV2:=zh (vS.out.later hb2);clear hb2 p0 p1 p2 p3 p4 p5 q0 q1 q2 q3 q4 q5 gM vS aD aA aR gT dM;obtain⟨ev,hev⟩:=zX (eqVs p.vs q.vs);rw[hev];have HEV:=zh hev;clear hev
 cases ev
 ·have hr:dffE p q ⟨bv,bl,bi⟩ F=(nilS,0,false):=by unfold dffE;rw[HEV.out];rfl
  have HRR:=zh (bJ.out.symm.trans hr);clear hr;obtain⟨q0,q1,q2⟩:=zky jH.out;have cf:∀o,w2.frozen? ⟨N+4,o,none⟩=false:=fun o=>zf jH.out;obtain⟨w9,bX,bF,fI⟩:=st3 (.slice none 0 0) (.slice none 0 0) (.slice none 0 0) jH.out;have xX:=zh fI;have aH:=zh (HB2.out.trans (bF.below HB2.out.size fun q e=>by have e:q=N+4:=e;have:=HN.out;omega));clear bF fI;go_wp2_with fail;obtain⟨t0,t1,t2⟩:=zky xX.out;have hx:=HRR.out;injection hx with h1 h2;injection h2 with h2 h3;subst h1 h2 h3;exact bodyPost_ret (v:=.tuple #[.agg #[.slice none 0 0,.slice none 0 0,.slice none 0 0],.bool false]) (by simp[results,results22,go_sem,t0,t1,t2]) rfl ⟨aH.out,_,rfl,SV.nilF _ _⟩
 have HT:=zh (show zry 59 #[.pointer (some ⟨N,0,none⟩),.pointer (some ⟨N+3,0,none⟩),.pointer (some ⟨N+1,0,none⟩)] (fun _ s=>difE p q F s) (allS ⟨bv,bl,bi⟩ (lenE p.vs ⟨bv,bl,bi⟩)) w2.heap.size (fun _=>FrI w2.heap.size w2)from by
  refine⟨fun n W W' h h1 h2=>h.keep h1 h2,fun n W h=>h.size,fun n s v W g hI hg hgs ho hx=>?_⟩;have hx2:=znq fG.out.1 s (List.mem_of_getElem? hx);have hZ:=HZ2.out;have hlt:∀q,q<N+5->W.heap[q]?=w2.heap[q]?:=fun q hq=>hI.same q (by omega);refine(zu0 (F:=F) (p:=p) (q:=q) (s:=s) ((hlt N (by omega)).trans qB.out) (mZ.out.keep (fun _ _ _=>trivial) fun q h _=>hlt q h) ((hlt (N+3) (by omega)).trans qz.out) ((hlt (N+1) (by omega)).trans jI.out) (HQV2.out.keep (fun _ _ _=>trivial) fun q h _=>hlt q h) (ho.sv hx2.1) hx2.2 fG.out.2.2.1 fG.out.2.2.2).mono ?_;rintro e' W' ⟨rfl,hb⟩;exact⟨rfl,hI.keep hb.size fun q hq=>hb.block q (Nat.lt_of_lt_of_le hq hI.size),Chg.of_below hb⟩)
 have hr:dffE p q ⟨bv,bl,bi⟩ F=fndE (difE p q F) (allS ⟨bv,bl,bi⟩ (lenE p.vs ⟨bv,bl,bi⟩)):=by unfold dffE;rw[HEV.out];rfl
 have bz:=zh (show Calls _ _ _ _ (FstP (fndE (difE p q F) (allS ⟨bv,bl,bi⟩ (lenE p.vs ⟨bv,bl,bi⟩))) (fun _=>FrI w2.heap.size w2) w2)from znw (W:=w2) (A1:=A1) (c1:=c1) (vs:=p.vs) (b:=⟨bv,bl,bi⟩) (mZ.out.keep (S':=Any) (fun _ _ _=>trivial) fun _ _ _=>rfl).pg.vars qx.out fG.out.1 fG.out.2.1 zy5 HT.out ⟨zl,fun _ _=>rfl⟩);rw[<-hr,bJ.out]at bz;clear hr HT;obtain⟨p0,p1,p2,p3,p4,p5⟩:=box6 qB.out;obtain⟨y0,y1,y2⟩:=zky qA.out;go_wp2_with fail;refine bz.out.mono ?_;rintro e' w3 ⟨v2,rfl,hs2,hi2,hc2⟩;have Aw:=hs2;obtain⟨B1,d1,B2,d2,B3,d3,rfl,-⟩:=Aw;have hb2:=hi2.below hc2;have hb3:=zkb hb2 (.cells #[.slice B1 s9.cells.length d1,.slice B2 s9.tin.length d2,.slice B3 s9.tout.length d3] 32);have k10:=heap_alloc_new w3 (.cells #[.slice B1 s9.cells.length d1,.slice B2 s9.tin.length d2,.slice B3 s9.tout.length d3] 32);have k8:=zkc (jH.out) hb3
 have hs3:=hs2.later (zkb (zs w3) (.cells #[.slice B1 s9.cells.length d1,.slice B2 s9.tin.length d2,.slice B3 s9.tout.length d3] 32));obtain⟨w4,hw4⟩:=zX (w3.alloc (.cells #[.slice B1 s9.cells.length d1,.slice B2 s9.tin.length d2,.slice B3 s9.tout.length d3] 32));rw[hw4]at hb3 k10 k8 hs3;obtain⟨x0,x1,x2⟩:=zky k10;obtain⟨q0,q1,q2⟩:=zky k8;have cf:∀o,w4.frozen? ⟨N+4,o,none⟩=false:=fun o=>zf k8;obtain⟨w9,bX,bF,fI⟩:=st3 (.slice B1 s9.cells.length d1) (.slice B2 s9.tin.length d2) (.slice B3 s9.tout.length d3) k8;have BO:=zh (hs3.keep (S':=fun q=>W.heap.size<=q) (fun q h _=>by have:=HB2.out.size;omega) fun q h _=>bF.block q ‹_› (fun e=>by have e:q=N+4:=e;have:=HZ2.out;omega));have xX:=zh fI;have aH:=zh (((HB2.out).trans (hb3.mono HB2.out.size)).trans (bF.below (by have:=HB2.out.size;have:=hb3.size;omega) fun q e=>by have e:q=N+4:=e;have:=HN.out;omega))
 clear hs2 hi2 hc2 hb2 hb3 k10 k8 hs3 bF fI y0 y1 y2 p0 p1 p2 p3 p4 p5;go_wp2_with fail;obtain⟨t0,t1,t2⟩:=zky xX.out;exact bodyPost_ret (v:=.tuple #[.agg #[.slice B1 s9.cells.length d1,.slice B2 s9.tin.length d2,.slice B3 s9.tout.length d3],.bool ok9]) (by simp[results,results22,go_sem,t0,t1,t2]) rfl ⟨aH.out,_,rfl,BO.out⟩
end
end Go.Proofs.YtembgnhbpmfhpaaGreat
