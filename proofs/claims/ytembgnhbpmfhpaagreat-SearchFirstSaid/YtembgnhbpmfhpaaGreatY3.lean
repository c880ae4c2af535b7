/-
  Texts of the proof, put together without their remarks: Sn, Sv, Nw, St, In, Tq.
-/
import Derived.Test.YtembgnhbpmfhpaaGreatY2
import Derived.Deep.OwnRows
import Derived.Shelf.Slices.Cells
import Derived.Shelf.Spec.SlicesInsertGrow
set_option linter.unusedSimpArgs false
set_option linter.unusedVariables false
set_option maxHeartbeats 8000000
set_option maxRecDepth 100000
namespace Go.Proofs.YtembgnhbpmfhpaaGreat
open Tryz
section
open Go Go.RowKit
def entL(f:FR)(acc:FR):List (VD×ByteArray)->Except Int FR
 | []=>.ok acc
 | (v,a)::r=>match f.at a with
  | none=>.error 6
  | some i=>if (f.vs.getD i ⟨⟨#[]⟩,0,0⟩).k=v.k/\(f.vs.getD i ⟨⟨#[]⟩,0,0⟩).n=v.n then entL f ⟨acc.vs++[v],acc.cs++[f.cs.getD i 0],0⟩ r else .error 7
def entR(S:ST):Except Int FR->Int×ST
 | .error e=>(e,S)
 | .ok f=>if 100<=S.calls.length then(19,S)else(0,{ S with calls:=S.calls++[f] })
def zlQ(S:ST)(ps:List VD)(ss:List ByteArray):Int×ST :=
 if ps.length≠ss.length then(7,S)else entR S (entL S.cur ⟨[],[],0⟩ (ps.zip ss))
def bldF(cb:Nat->Nat)(nb:Nat)(vv vc:Value)(f:FR):Fin 3->RowD
 | 0=>⟨boxV nb,187,3,1,[vv,vc,.int .i64 f.loc]⟩
 | 1=>⟨vv,57,3,f.vs.length,zkS f.vs⟩
 | 2=>⟨vc,192,1,f.vs.length,ptrs cb f.cs⟩
theorem zw4(cb:Nat->Nat)(w:World):Rws (w.alloc (.cells #[.slice none 0 0,.slice none 0 0,.int .i64 0] 187)) w.heap.size (bldF cb w.heap.size (.slice none 0 0) (.slice none 0 0) ⟨[],[],0⟩):=by
 refine⟨fun i=>?_,fun i j b hij hi hj=>?_⟩
 ·match i with
  | 0=>exact znz (k:=3) w w.heap.size _ [_,_,_] zl rfl
  | 1=>exact World.ownsRow_nil _ _ _ _
  | 2=>exact World.ownsRow_nil _ _ _ _
 ·match i,j with
  | 0,0=>exact hij rfl
  | 0,1=>simp[bldF,Value.ownBlock]at hj
  | 0,2=>simp[bldF,Value.ownBlock]at hj
  | 1,_=>simp[bldF,Value.ownBlock]at hi
  | 2,_=>simp[bldF,Value.ownBlock]at hi
theorem zkU{C:Nat->Prop}{w w':World}(h:Chg C w w'){p:Addr}{u:Value}(hp:w.cell? p=some u)(hc:¬ C p.block):w'.cell? p=some u:=(World.cell?_of_block (a:=p) (h.block _ (World.block_lt_of_cell? w p hp) hc)).trans hp
theorem zzb{cb:Nat->Nat}{W:World}{n1 nb:Nat}{vv vc:Value}{f:FR}(h:Rws W n1 (bldF cb nb vv vc f))(hlim:f.vs.length<=4398046511000)(v:VD)(id:Nat) :
  Calls prog 133 #[.pointer (some ⟨nb,0,none⟩),.agg #[.string v.s,.int .u8 v.k,.int .i64 v.n],.pointer (some ⟨cb id,0,none⟩)] W fun e W'=>(∃u,e=.returned u)/\∃rT iP,Rws W' n1 (bldF cb nb rT iP ⟨f.vs++[v],f.cs++[id],f.loc⟩)/\Chg (OwnB (bldF cb nb vv vc f)) W W':=by
 have hadd:=zrv h (0:Fin 3) 1 2 (by decide) (by decide) (by decide) nb 0 rfl rfl rfl (zkS f.vs) (ptrs cb f.cs) f.vs.length rfl rfl hlim v (some ⟨cb id,0,none⟩);refine hadd.mono ?_;rintro e W' ⟨hu,rT,iP,hst⟩;refine⟨hu,rT,iP,?_,hst.chg⟩;have:=hst.rws;refine(Stp.refl this).cast ?_ |>.rws
 funext i
 match i with
 | 0=>simp[updR,bldF]
 | 1=>simp[updR,bldF,zkS]
 | 2=>simp[updR,bldF,ptrs]
theorem Stp.take2{I:Type}[DecidableEq I]{n0:Nat}{d:I->RowD}{W W':World}(h:Rws W n0 d)(hb:Below W.heap.size W W')(i j:I)(hij:i≠j)(r1 r2:RowD)(o1:W'.ownsRow n0 r1.E r1.sz r1.v r1.n r1.xs)(o2:W'.ownsRow n0 r2.E r2.sz r2.v r2.n r2.xs)
  (n1:∀b,r1.v.ownBlock=some b->W.heap.size<=b)(n2:∀b,r2.v.ownBlock=some b->W.heap.size<=b)(hs:∀b,r1.v.ownBlock=some b->r2.v.ownBlock≠some b):Stp n0 d W (updR (updR d i r1) j r2) W':=by
 have hl:=h.later hb;have key:∀q,(q=j/\updR (updR d i r1) j r2 q=r2)\/(q≠j/\q=i/\updR (updR d i r1) j r2 q=r1)\/(q≠j/\q≠i/\updR (updR d i r1) j r2 q=d q):=fun q=>by
  by_cases e:q=j
  ·subst e;exact .inl ⟨rfl,zkt⟩
  ·by_cases e2:q=i
   ·subst e2;exact .inr (.inl ⟨e,rfl,by rw[zkj e,zkt]⟩)
   ·exact .inr (.inr ⟨e,e2,by rw[zkj e,zkj e2]⟩)
 have hlt:∀q b,(d q).v.ownBlock=some b->b<W.heap.size:=fun q b hq=>(h.lt q b hq).2;refine⟨⟨fun q=>?_,fun p q b hpq h1 h2=>?_⟩,Chg.of_below hb,fun b ⟨q,hq⟩=>?_⟩
 ·rcases key q with⟨_,e⟩|⟨_,_,e⟩|⟨_,_,e⟩
  ·rw[e];exact o2
  ·rw[e];exact o1
  ·rw[e];exact hl.row q
 ·rcases key p with⟨ep,e⟩|⟨_,ep,e⟩|⟨_,_,e⟩<;>rcases key q with⟨eq,e'⟩|⟨_,eq,e'⟩|⟨_,_,e'⟩<;>rw[e]at h1<;>rw[e']at h2
  ·exact hpq (ep.trans eq.symm)
  ·exact hs b h2 h1
  ·have:=n2 b h1;have:=hlt _ b h2;omega
  ·exact hs b h1 h2
  ·exact hpq (ep.trans eq.symm)
  ·have:=n1 b h1;have:=hlt _ b h2;omega
  ·have:=n2 b h2;have:=hlt _ b h1;omega
  ·have:=n1 b h2;have:=hlt _ b h1;omega
  ·exact h.sep p q b hpq h1 h2
 ·rcases key q with⟨_,e⟩|⟨_,_,e⟩|⟨_,_,e⟩<;>rw[e]at hq
  ·exact .inr (n2 b hq)
  ·exact .inr (n1 b hq)
  ·exact .inl ⟨q,hq⟩
theorem zuO{f:FR}{kd:Nat->Int×Int}{nc:Nat}(h:f.WF kd nc):∀(l:List (VD×ByteArray)) (acc g:FR),acc.WF kd nc->acc.loc=0->(∀p∈l,FldV p.1)->acc.vs.length+l.length<=4398046511000->entL f acc l=.ok g->g.WF kd nc/\g.loc=0
 | [],acc,g,ha,h0,_,_,he=>by simp only[entL,Except.ok.injEq]at he;subst he;exact⟨ha,h0⟩
 | (v,a)::r,acc,g,ha,h0,hf,hl,he=>by
  rw[entL]at he
  split at he
  ·cases he
  ·next i hi =>
   have hil:=FR.at_lt hi;have hic:i<f.cs.length:=by rw[h.len];exact hil
   split at he
   ·next hk =>
    simp only[List.getD_eq_getElem?_getD,List.getElem?_eq_getElem hil,List.getElem?_eq_getElem hic,Option.getD_some]at hk he;refine zuO h r _ g ?_ rfl (fun p hp=>hf p (List.mem_cons_of_mem _ hp)) (by simp at hl ⊢;omega) he;refine⟨by simp[ha.len],by simp,by simp at hl ⊢;omega,fun u hu=>?_,fun c hc=>?_,fun q hq hq'=>?_⟩
    ·simp only[List.mem_append,List.mem_singleton]at hu;rcases hu with hu|rfl
     ·exact ha.fld u hu
     ·exact hf _ (List.mem_cons_self ..)
    ·simp only[List.mem_append,List.mem_singleton]at hc;rcases hc with hc|rfl
     ·exact ha.num c hc
     ·exact h.num _ (List.getElem_mem hic)
    ·have hal:=ha.len;dsimp only at hq hq' ⊢;by_cases e:q<acc.vs.length
     ·have e':q<acc.cs.length:=by omega
      simp only[List.getElem_append_left e,List.getElem_append_left e'];exact ha.kind q e e'
     ·have e2:q=acc.vs.length:=by simp at hq;omega
      have e3:(acc.vs++[v])[q]=v:=by simp[e2]
      have e4:(acc.cs++[f.cs[i]])[q]=f.cs[i]:=by simp[e2,<-hal]
      rw[e3,e4,h.kind i hil hic,hk.1,hk.2]
   ·cases he
theorem zxd{S:ST}(h:S.WF)(ps:List VD)(ss:List ByteArray)(g:FR)(hf:∀v∈ps,FldV v)(hl:ps.length<=4398046511000)(he:entL S.cur ⟨[],[],0⟩ (ps.zip ss)=.ok g)(hn:S.calls.length<100):({ S with calls:=S.calls++[g] }:ST).WF/\g.loc=0/\g.cs.length=g.vs.length:=by
 obtain⟨kd,h1,h2,h3⟩:=h.ex;have hc:S.cur.WF kd S.nc:=by
  rcases Nat.eq_zero_or_pos S.calls.length with h0|h0
  ·rw[zni h0];exact h1
  ·rw[znh h0];exact h2 _ (List.getElem_mem _)
 have:=zuO hc (ps.zip ss) ⟨[],[],0⟩ g ⟨rfl,zl,by simp,by simp,by simp,by simp⟩ rfl (fun p hp=>hf _ (List.of_mem_zip hp).1) (by simp;omega) he;refine⟨⟨⟨kd,h1,fun f hf=>?_,h3⟩,by simp;omega,h.cells,h.tin,h.tout⟩,this.2,this.1.len⟩;simp only[List.mem_append,List.mem_singleton]at hf;rcases hf with hf|rfl
 ·exact h2 f hf
 ·exact this.1
theorem zph{P P':Ph}{g:FR}:∀(fs:List FR) (i:Nat),(∀q,q<i+fs.length->P'.fV q=P.fV q/\P'.fC q=P.fC q)->zkR P' i (fs++[g])=zkR P i fs++[P'.fV (i+fs.length),P'.fC (i+fs.length),.int .i64 g.loc]
 | [],i,_=>by simp[zkR]
 | f::fs,i,h=>by
  have:=zph (P:=P) (P':=P') (g:=g) fs (i+1) (fun q hq=>h q (by simp;omega));have h0:=h i (by simp);simp only[List.cons_append,zkR,this,h0.1,h0.2,List.length_cons];rw[show i+1+fs.length=i+(fs.length+1) by omega]
def Ph.enter(P:Ph)(m:Nat)(vf vv vc:Value):Ph:={ P with vF:=vf,fV:=fun i=>if i=m then vv else P.fV i,fC:=fun i=>if i=m then vc else P.fC i }
theorem zsN(P:Ph)(S:ST)(g:FR)(vf vv vc:Value)(hg:g.loc=0)(hgl:g.cs.length=g.vs.length):rows (P.enter S.calls.length vf vv vc) { S with calls:=S.calls++[g] } =
  updR (updR (updR (updR (rows P S) (.fv S.calls.length) ⟨vv,57,3,g.vs.length,zkS g.vs⟩) (.fc S.calls.length) ⟨vc,192,1,g.vs.length,ptrs P.cb g.cs⟩) .calls ⟨vf,187,3,S.calls.length+1,zkR P 0 S.calls++[vv,vc,.int .i64 0]⟩) .sb
   { rows P S .sb with xs:=(rows P S .sb).xs.set 3 vf }:=by
 funext r
 cases r with
 | calls =>
  have:=zph (P:=P) (P':=P.enter S.calls.length vf vv vc) (g:=g) S.calls 0 (fun q hq=>by
   have:q≠S.calls.length:=by omega
   simp[Ph.enter,this])
  simp only[updR,reduceCtorEq,if_false,if_true,rows,this];simp[Ph.enter,hg]
 | fv i =>
  by_cases e:i=S.calls.length
  ·subst e;simp[updR,rows,Ph.enter]
  ·simp only[updR,Res.fv.injEq,e,reduceCtorEq,if_false,rows,Ph.enter];by_cases hi:i<S.calls.length
   ·rw[List.getElem?_append_left hi]
   ·rw[List.getElem?_eq_none (show(S.calls++[g]).length<=i by simp;omega),List.getElem?_eq_none (by omega)]
 | fc i =>
  by_cases e:i=S.calls.length
  ·subst e;simp[updR,rows,Ph.enter,hgl]
  ·simp only[updR,Res.fc.injEq,e,reduceCtorEq,if_false,rows,Ph.enter];by_cases hi:i<S.calls.length
   ·rw[List.getElem?_append_left hi]
   ·rw[List.getElem?_eq_none (show(S.calls++[g]).length<=i by simp;omega),List.getElem?_eq_none (by omega)]
 | sb=>simp[updR,rows,Ph.enter]
 | tb=>simp[updR,rows,Ph.enter]
 | tin=>simp[updR,rows,Ph.enter]
 | tout=>simp[updR,rows,Ph.enter]
 | bv=>simp[updR,rows,Ph.enter]
 | bc=>simp[updR,rows,Ph.enter]
 | cb i=>simp[updR,rows,Ph.enter]
 | ci i=>simp[updR,rows,Ph.enter]
 | x i=>simp[updR,rows]
theorem zln{w:World}{n0 n1:Nat}{E:TypeId}{size:Nat}{v:Value}{n:Nat}{xs:List Value}(h:w.ownsRow n1 E size v n xs)(hn:n0<=n1):w.ownsRow n0 E size v n xs:=by
 obtain⟨x1,x2⟩:=h;refine⟨x1,?_⟩;rcases x2 with x2|⟨g,cap,cur,y1,y2,y3⟩
 ·exact .inl x2
 ·exact .inr ⟨g,cap,cur,y1,by omega,y3⟩
theorem zuL{W W1 W2 w3:World}{n0:Nat}{P:Ph}{S:ST}(h:SR W n0 P S)(hb:Below W.heap.size W W1)(nb:Nat)(vv vc:Value)(g:FR)(hr:Rws W1 W.heap.size (bldF P.cb nb vv vc g))(hg:g.loc=0)(hgl:g.cs.length=g.vs.length)(hwf:({ S with calls:=S.calls++[g] }:ST).WF)
  (hb2:Below W1.heap.size W1 W2)(v':Value)(h2:w3.ownsRow n0 187 3 v' (S.calls.length+1) (zkR P 0 S.calls++[vv,vc,.int .i64 0]))(h3:W2.grownBy w3 P.vF.ownBlock)(h5:v'.ownBlock=P.vF.ownBlock\/v'.ownBlock=some W2.heap.size) :
  w3.cell? ⟨P.sb,3,none⟩=some P.vF/\w3.frozen? ⟨P.sb,3,none⟩=false/\SStp n0 P S W (P.enter S.calls.length v' vv vc) { S with calls:=S.calls++[g] } (w3.setCell ⟨P.sb,3,none⟩ v'):=by
 have hn:n0<=W.heap.size:=by have:=h.rws.lt .sb P.sb rfl;omega
 have s1:=Stp.take2 h.rws hb (.fv S.calls.length) (.fc S.calls.length) (by simp) ⟨vv,57,3,g.vs.length,zkS g.vs⟩ ⟨vc,192,1,g.vs.length,ptrs P.cb g.cs⟩
  (zln (hr.row 1) hn) (zln (hr.row 2) hn) (fun b e=>(hr.lt 1 b e).1) (fun b e=>(hr.lt 2 b e).1) (fun b e=>hr.sep 1 2 b (by decide) e)
 have s2:=s1.below hb2;have hc:updR (updR (rows P S) (.fv S.calls.length) ⟨vv,57,3,g.vs.length,zkS g.vs⟩) (.fc S.calls.length) ⟨vc,192,1,g.vs.length,ptrs P.cb g.cs⟩ .calls=rows P S .calls:=rfl;have s3:=Stp.upd (i:=Res.calls) (r:=⟨v',187,3,S.calls.length+1,zkR P 0 S.calls++[vv,vc,.int .i64 0]⟩) s2.rws ((Chg.row h3).mono fun b _ hb=>hb) h2 (fun b hb=>by
  rcases h5 with h5|h5
  ·exact .inl (h5▸hb)
  ·exact .inr (by rw[h5]at hb;injection hb with hb;omega))
 have s4:=Stp.set (i:=Res.sb) s3.rws (g:=P.sb) rfl (o:=3) (by show 3<5;decide) v';refine⟨s3.rws.cell .sb (g:=P.sb) (o:=3) rfl rfl,s3.rws.frozen .sb (g:=P.sb) rfl 3,⟨?_,hwf⟩⟩;refine((s2.trans s3).trans s4).cast ?_;rw[zsN P S g v' vv vc hg hgl];rfl
theorem zzT:IsFn prog 133 f133:=⟨func133,by kernel_rfl,by kernel_rfl⟩
theorem zzH:(prog.info? 187).map (fun i=>(i.zero,i.size,i.bytes))=some (some (.agg #[.slice none 0 0,.slice none 0 0,.int .i64 0]),3,56):=by kernel_rfl
theorem zw3(A0 A1:Option Addr)(l0 c0 l1 c1:Nat)(x:Int)(w:World):(Instr.buildSlice 188 1 #[(0,.agg #[.slice A0 l0 c0,.slice A1 l1 c1,.int .i64 x])]).run prog w=.ok (.slice (some ⟨w.heap.size,0,none⟩) 1 1) (w.alloc (.cells #[.slice A0 l0 c0,.slice A1 l1 c1,.int .i64 x] 187)):=by kernel_rfl
theorem zvF{W:World}{n0:Nat}{P:Ph}{S:ST}(h:SR W n0 P S)(ps:List VD)(ss:List ByteArray)(A D:Option Addr)(c d:Nat)(hp:RowV W Any A ps)(hs:RowS W D ss)(hlp:ps.length<=4398046511000)(_hls:ss.length<=17592186044416) :
  Calls prog 203 #[.pointer (some ⟨P.sb,0,none⟩),.slice A ps.length c,.slice D ss.length d] W fun e W'=>e=.returned (.int .i64 (zlQ S ps ss).1)/\∃P',SStp n0 P S W P' (zlQ S ps ss).2 W'/\P'.sb=P.sb:=by
 obtain⟨R,hR⟩:=zX (zlQ S ps ss);rw[hR];have HS:=zh h;have HP:=zh hp;have az:=zh hs;have HRR:=zh hR;clear hR hp hs;by_cases hlen:ps.length=ss.length
 ·rw[<-hlen];obtain⟨kd,hw⟩:=h.curWF;obtain⟨A0,c0,hcv,hc,hrow⟩:=h.curVs;obtain⟨h3,h4,h5⟩:=h.cur3;rw[hcv]at h3;obtain⟨B,O,hcp⟩:∃B O,curP P S=⟨B,O,none⟩:=⟨_,_,(zlx h).1⟩
  have dh:=zh (fun W' (hb:Below W.heap.size W W')=>zlf (h.later hb));have aZ:=zh (fun(s:ByteArray) W' (hb:Below W.heap.size W W')=>zn0 S.cur.vs A0 c0 s (curP P S) W' (zb hb h3) (hrow.later hb) hw.lim);rw[hcp]at h3 h4 dh aZ;dsimp only at h3 h4;have af:=zh hrow;have Cg:=zh h.curCs;have eD:=zh hw;have HL:=zh hlen;have H3:=zh h3;have H4:=zh h4;obtain⟨E,hE⟩:=zX (entL S.cur ⟨[],[],0⟩ (ps.zip ss));have HE:=zh (show R=entR S E by rw[<-HRR.out,zlQ,if_neg (by simp[hlen]),hE]);have uM:=zh hE;have hn0:=HS.out.wf.ncalls;clear h hw hcv hrow h3 h4 h5 HRR hlen hE;go_enter func203,ntmps203;go_wp2_with fail;refine(dh.out _ (zka zr _)).mono ?_;rintro e w1 ⟨rfl,rfl⟩;go_wp2_with fail
  go_loopw [23] (fun i wr=>∃j:Nat,j<=ps.length/\i=.int .i64 j/\Hid (Below W.heap.size W wr)/\∃vv vc acc,Hid (Rws wr W.heap.size (bldF P.cb W.heap.size vv vc acc))/\Hid (acc.vs.length=j)/\Hid (acc.loc=0)/\Hid (entL S.cur acc ((ps.zip ss).drop j)=E)) (fun i _=>ps.length-(intOf i).toNat)
  case atStart=>exact⟨0,Nat.zero_le _,rfl,zh (zka zr _),.slice none 0 0,.slice none 0 0,⟨[],[],0⟩,zh (zw4 P.cb W),zh rfl,zh rfl,uM⟩
  case round =>
   obtain⟨j,hj,rfl,ah,vv,vc,acc,HRW,iY,xL,fK⟩:=hrel;by_cases hlt:j<ps.length
   ·have hlt2:j<ss.length:=by rw[<-HL.out];exact hlt
    obtain⟨a,rfl,-,⟨y0,y1,y2⟩,hfv⟩:=(HP.out.later ah.out) j hlt;obtain⟨b,s,rfl,Hs,x0⟩:=(az.out.later ah.out).nd hlt2;obtain⟨v,hv⟩:=zX (ps[j]);rw[hv]at y0 y1 y2 hfv;obtain⟨vm,vk,vn⟩:=v;dsimp only at y0 y1 y2;have hd:(ps.zip ss).drop j=(⟨vm,vk,vn⟩,s)::(ps.zip ss).drop (j+1):=by
     have hz:j<(ps.zip ss).length:=by rw[List.length_zip];omega
     rw[List.drop_eq_getElem_cons hz,List.getElem_zip,hv,Hs.out]
    have HD:=zh (hd▸fK.out);have hj1:(j:Int)<(ps.length:Int):=by omega
    obtain⟨r,hr⟩:=zX (S.cur.at s);have jJ:=zh (aZ.out s);have hr':zmm S.cur.vs s S.cur.vs.length=r:=hr;rw[hr']at jJ;have Hr:=zh hr;clear hr hr' hv hd fK;have z0:=fun o=>zks x0 o;go_wp2_with fail;refine(jJ.out _ (zka ah.out _)).mono ?_;rintro e w2 ⟨rfl,au⟩;have HB2:=zh (zkb (zka ah.out (.cells #[.string vm,.int .u8 vk,.int .i64 vn] 57)) au);have kV:=zh (zkb (zka (zs wr) (.cells #[.string vm,.int .u8 vk,.int .i64 vn] 57)) au);have hvb:=zkc (heap_alloc_new wr (.cells #[.string vm,.int .u8 vk,.int .i64 vn] 57)) au;have q0:w2.cell? ⟨wr.heap.size,0,none⟩=some (.string vm):=zc hvb rfl;have q1:w2.cell? ⟨wr.heap.size,1,none⟩=some (.int .u8 vk):=zc hvb rfl;have q2:w2.cell? ⟨wr.heap.size,2,none⟩=some (.int .i64 vn):=zc hvb rfl;clear au hvb;rcases r with _|i
    ·have HX:=zh (show R=(6,S) by
      have h1:=HD.out;rw[entL,Hr.out]at h1;rw[HE.out,<-h1];rfl)
     simp only[idxZ];go_wp2_with fail;go_ret;exact⟨by rw[HX.out];rfl,P,by rw[HX.out];exact SStp.refl HS.out HB2.out,rfl⟩
    ·have hil:i<S.cur.vs.length:=FR.at_lt Hr.out;have hic:i<S.cur.cs.length:=by rw[eD.out.len];exact hil
     obtain⟨a0,rfl,-,⟨f0,f1,f2⟩,-⟩:=(af.out.later HB2.out) i hil;obtain⟨u,hu⟩:=zX (S.cur.vs[i]);rw[hu]at f0 f1 f2;obtain⟨um,uk,un⟩:=u;dsimp only at f0 f1 f2;obtain⟨id,hid⟩:=zX (S.cur.cs[i]);have g3:=zb HB2.out H3.out;have g4:=zb HB2.out H4.out;obtain⟨gc,c2,hcc,hc2,hm2,hcell⟩:=zkV (zko Cg.out HB2.out) (by omega);have HGC:=zh (show gc<W.heap.size from(Cg.out.lt gc (by rw[hcc];rfl)).2);rw[hcc]at g4;have hz:w2.cell? ⟨gc,i,none⟩=some (.pointer (some ⟨P.cb id,0,none⟩)):=by rw[hcell i (by omega)];simp[ptrs,hic,hid]
     have HD2:=zh (show(if uk=vk/\un=vn then entL S.cur ⟨acc.vs++[⟨vm,vk,vn⟩],acc.cs++[id],0⟩ ((ps.zip ss).drop (j+1))else .error 7)=E by
      have h1:=HD.out;rw[entL,Hr.out]at h1;simp only[List.getD_eq_getElem?_getD,List.getElem?_eq_getElem hil,List.getElem?_eq_getElem hic,Option.getD_some,hu,hid]at h1;exact h1)
     have hi1:(i:Int)<(S.cur.vs.length:Int):=by omega
     have hi2:¬ (i:Int)<0:=by omega
     have hi3:(i:Int)<(S.cur.cs.length:Int):=by omega
     simp only[idxZ];clear hcell hcc hu hid HD y0 y1 y2 x0 z0;obtain⟨nV,hnV⟩:=zX (S.cur.vs.length);obtain⟨nC,hnC⟩:=zX (S.cur.cs.length);rw[hnV]at g3 hi1;rw[hnC]at g4 hi3;clear hnV hnC hil hic;by_cases hk:uk=vk
     ·subst hk;by_cases hn:un=vn
      ·subst hn;have HE2:=zh (show entL S.cur ⟨acc.vs++[⟨vm,uk,un⟩],acc.cs++[id],0⟩ ((ps.zip ss).drop (j+1))=E by have:=HD2.out;simpa using this);clear HD2;go_wp2_with fail
       go_quiet (fail)
       go_wp2_with fail;obtain⟨w3,hw3⟩:=zX (w2.drewN nq);have hb3:Below w2.heap.size w2 w3:=hw3▸zkm zr nq;rw[hw3];have p0:=zb hb3 q0;have p1:=zb hb3 q1;have p2:=zb hb3 q2;have p4:=zb hb3 g4;have p5:=zb hb3 hz;have HB3:=zh (zkb HB2.out hb3);have HW3:=zh (HRW.out.later (zkb kV.out hb3));clear q0 q1 q2 g3 g4 hz hw3 hb3 f0 f1 f2 nq;have hSS:zW (fun w':World=>zv w' wr.heap.size 0 (.string vm)/\zv w' wr.heap.size 1 (.int .u8 uk)/\zv w' wr.heap.size 2 (.int .i64 un)/\zv w' B (O+1) (.slice (some ⟨gc,0,none⟩) nC c2)/\zv w' gc i (.pointer (some ⟨P.cb id,0,none⟩))) zU w3.drew:=⟨⟨p0,p1,p2,p4,p5⟩,trivial⟩
       refine wp_region_noPanic ?_;refine zG hSS 8 ?_;refine zT 0 hSS ?_;refine zT 1 hSS ?_;refine zT 2 hSS ?_;refine zT 3 hSS ?_;refine zT 4 hSS ?_;refine zT 5 hSS ?_;refine zT 6 hSS ?_;refine zT 7 hSS ?_;refine zp 8 fun K hK=>?_;have hne:∀b,OwnB (bldF P.cb W.heap.size vv vc acc) b->W.heap.size<=b/\b<wr.heap.size:=fun b ⟨q,hq⟩=>HRW.out.lt q b hq;have hBs:B<W.heap.size:=World.block_lt_of_cell? W _ H3.out;have hgs:gc<W.heap.size:=HGC.out;have had:Calls prog 133 [.pointer (some ⟨W.heap.size,0,none⟩),.agg #[.string vm,.int .u8 uk,.int .i64 un],.pointer (some ⟨P.cb id,0,none⟩)].toArray w3.drew fun e W'=>∃u,e=.returned u/\∃rT iP,Rws W' W.heap.size (bldF P.cb W.heap.size rT iP ⟨acc.vs++[⟨vm,uk,un⟩],acc.cs++[id],acc.loc⟩)/\Chg (OwnB (bldF P.cb W.heap.size vv vc acc)) w3.drew W' :=
        (zzb (HW3.out.later zr.drew) (by rw[iY.out];omega) ⟨vm,uk,un⟩ id).mono fun e W' hh=>hh.1.elim fun u hu=>⟨u,hu,hh.2⟩
       refine zke (by rfl) (.func 133) [.tmp 7,.tmp 60,.tmp 67] _ (by rfl) 133 _ zzT (by rfl) _ (by rfl) _ had ?_;rintro v4 w4 ⟨rT,iP,hr4,hc4⟩;have HR4:=zh hr4;have aG:=zh (HB3.out.drew.trans (hc4.below (B:=W.heap.size) (by have:=HB3.out.size;simp;omega) fun b hb=>(hne b hb).1));have n1:¬ OwnB (bldF P.cb W.heap.size vv vc acc) wr.heap.size:=fun hb=>by have:=hne _ hb;omega
       have n2:¬ OwnB (bldF P.cb W.heap.size vv vc acc) B:=fun hb=>by have:=hne _ hb;omega
       have n3:¬ OwnB (bldF P.cb W.heap.size vv vc acc) gc:=fun hb=>by have:=hne _ hb;omega
       refine hK.out _ _ ⟨zkU hc4 p0 n1,zkU hc4 p1 n1,zkU hc4 p2 n1,zkU hc4 p4 n2,zkU hc4 p5 n3⟩ ?_;clear hK K hSS hr4 hc4 had;(try simp only[zQ]);refine zd ?_;refine NoPanic.normal ?_;clear p0 p1 p2 p4 p5;go_wp2_with fail
       go_roundw
       case rel=>exact⟨j+1,by omega,by go_num,aG,rT,iP,_,HR4,zh (by simp[iY.out]),xL,by have h0:=xL.out;rw[h0]at HR4 ⊢;exact HE2⟩
       case measure=>simp[intOf];omega
      ·have HX:=zh (show R=(7,S) by
        have h1:=HD2.out;rw[if_neg (by simp[hn])]at h1;rw[HE.out,<-h1];rfl)
       have n1:(un != vn)=true:=by simpa using hn
       clear HD2;go_wp2_with fail
       go_quiet (fail)
       go_wp2_with fail;go_ret;exact⟨by rw[HX.out];rfl,P,by rw[HX.out];exact SStp.refl HS.out (zkm HB2.out nq),rfl⟩
     ·have HX:=zh (show R=(7,S) by
       have h1:=HD2.out;rw[if_neg (by simp[hk])]at h1;rw[HE.out,<-h1];rfl)
      have n1:(uk != vk)=true:=by simpa using hk
      clear HD2;go_wp2_with fail
      go_quiet (fail)
      go_wp2_with fail;go_ret;exact⟨by rw[HX.out];rfl,P,by rw[HX.out];exact SStp.refl HS.out (zkm HB2.out nq),rfl⟩
   ·obtain rfl:j=ps.length:=by omega
    have Cb:=zh (show E=.ok acc by
     have h1:=fK.out;rw[List.drop_eq_nil_of_le (by rw[List.length_zip];omega)]at h1;rw[<-h1];rfl)
    have eF:=zh (HS.out.later ah.out);obtain⟨AF,cF,nS,hcF,-⟩:=eF.out.calls;have x3:wr.cell? ⟨P.sb,3,none⟩=some (.slice AF S.calls.length cF):=by rw[<-nS];exact zc eF.out.box rfl
    have mQ:=zh nS;obtain⟨L,hL⟩:=zX (S.calls.length);rw[hL]at x3 hn0;have bK:=zh hL;have hj2:¬ (ps.length:Int)<(ps.length:Int):=by omega
    clear nS hL hcF fK;by_cases h100:100<=L
    ·have HX:=zh (show R=(19,S) by rw[HE.out,Cb.out,entR,if_pos (by rw[bK.out];exact h100)]);obtain rfl:L=100:=by omega
     go_wp2_with fail;go_ret;exact⟨by rw[HX.out];rfl,P,by rw[HX.out];exact SStp.refl HS.out ah.out,rfl⟩
    ·have HX:=zh (show R=(0,{ S with calls:=S.calls++[acc] }) by rw[HE.out,Cb.out,entR,if_neg (by rw[bK.out];exact h100)]);obtain⟨hwf,hg0,hgl⟩:=zxd HS.out.wf ps ss acc (fun v hv=>by
      obtain⟨q,hq,rfl⟩:=List.mem_iff_getElem.1 hv;obtain⟨_,_,_,_,wG⟩:=HP.out q hq;exact wG) hlp (uM.out.trans Cb.out) (by rw[bK.out];omega)
     have HW:=zh hwf;have yM:=zh hgl;obtain⟨A1,c1,hvv,-,-⟩:=zkd (HRW.out.row 1);obtain⟨A2,c2,bN,-,-⟩:=zkd (HRW.out.row 2);change vv=.slice A1 acc.vs.length c1 at hvv;change vc=.slice A2 acc.vs.length c2 at bN;obtain⟨nv,nW⟩:=zX (acc.vs.length);rw[nW]at hvv bN;subst hvv bN;have b0:wr.cell? ⟨W.heap.size,0,none⟩=some (.slice A1 nv c1):=HRW.out.cell 0 rfl rfl;have b1:wr.cell? ⟨W.heap.size,1,none⟩=some (.slice A2 nv c2):=HRW.out.cell 0 rfl rfl;have b2:wr.cell? ⟨W.heap.size,2,none⟩=some (.int .i64 0):=by
      have:=HRW.out.cell 0 (g:=W.heap.size) (o:=2) (u:=.int .i64 acc.loc) rfl rfl;rw[hg0]at this;exact this
     have hsbl:P.sb<W.heap.size:=(HS.out.rws.lt .sb P.sb rfl).2;have hn00:n0<=W.heap.size:=by have:=HS.out.rws.lt .sb P.sb rfl;omega
     have hL1:¬ (100:Int)<=(L:Int):=by omega
     have aS:=zh (fun W2 w3 hb2 v' h2 h3 h5=>zuL (W2:=W2) (w3:=w3) HS.out ah.out W.heap.size _ _ acc HRW.out hg0 hgl hwf hb2 v' h2 h3 h5);obtain⟨i1,hi1,hz0,hz1,hz2⟩:=info_parts zzH;have hbs:=zw3;clear hwf hgl nW;go_upto_region 19 with fail;have hSS:(fun w':World=>zN3 w' W.heap.size (.slice A1 nv c1) (.slice A2 nv c2) (.int .i64 0)) wr.drew/\(fun w':World=>zv w' P.sb 3 (.slice AF L cF)) wr.drew:=⟨⟨b0,b1,b2⟩,x3⟩
     refine wp_region_noPanic ?_;refine zkk (fun w':World=>zN3 w' W.heap.size (.slice A1 nv c1) (.slice A2 nv c2) (.int .i64 0)) (fun w':World=>zv w' P.sb 3 (.slice AF L cF)) 7 (by kernel_rfl) ?_;refine zT 0 hSS ?_;refine zT 1 hSS ?_;refine zT 2 hSS ?_;refine zT 3 hSS ?_;refine zJ 4 hSS ?_;refine zT 5 hSS ?_;refine zo 6 fun K hK=>?_;(try simp only[zA,zB,zC]);go_simp;refine hK.out _ _ ⟨⟨zks b0 _,zks b1 _,zks b2 _⟩,zks x3 _⟩ ?_;clear hK K hSS;(try simp only[zQ]);obtain⟨W2,hW2⟩:=zX ((wr.alloc (.cells #[.slice A1 nv c1,.slice A2 nv c2,.int .i64 0] 187)).drew);have hb2:Below wr.heap.size wr W2:=hW2▸(zka zr _).drew;have aI:=zh (show ∀j u,[Value.slice A1 nv c1,.slice A2 nv c2,.int .i64 0][j]?=some u->W2.cell? ((⟨wr.heap.size,0,none⟩:Addr).add j)=some u from hW2▸zlD wr 187 [.slice A1 nv c1,.slice A2 nv c2,.int .i64 0])
     have wu:W2.ownsRow n0 187 3 (.slice AF L cF) L (zkR P 0 S.calls):=by
      have:=zko (eF.out.rws.row .calls) hb2;have e1:(rows P S .calls).v=.slice AF L cF:=by show P.vF=_;rw[mQ.out,bK.out]
      rw[e1]at this;rw[<-bK.out]at this ⊢;exact this
     have hs2:=hb2.size;have zq:=ah.out.size;have d0:=zb hb2 b0;have d1:=zb hb2 b1;have d2:=zb hb2 b2;have oH:=zh (fun w3 v'=>aS.out W2 w3 hb2 v');have rZ:P.vF=.slice AF L cF:=by rw[mQ.out,bK.out]
     have aX:=zh (show ∀b,(Value.slice AF L cF).ownBlock=some b->b≠W.heap.size from fun b hb e=>by
      have:=(HS.out.rws.lt .calls b (by show P.vF.ownBlock=_;rw[rZ];exact hb)).2;omega)
     rw[bK.out,rZ]at oH;rw[hW2];clear hW2 b0 b1 b2 x3 hb2 aS rZ;refine zp 7 fun K hK=>?_;refine zkP (by rfl) (.tmp 80) (.tmp 82) 188 (by rfl) n0 187 i1 _ 3 56 underlying188 hi1 hz0 hz1 hz2 rfl (by decide) (.slice AF L cF) L (zkR P 0 S.calls) (by rfl) wu ⟨wr.heap.size,0,none⟩ 1 1 [.slice A1 nv c1,.slice A2 nv c2,.int .i64 0] (by rfl) rfl aI.out (by intro u hu;simp at hu;rcases hu with rfl|rfl|rfl<;>rfl) (by unfold maxLen;omega) (by omega) (by omega) ?_;intro v' w3 h2 h3 h5;obtain⟨g8,aH,rfl⟩:=ownsRow_succ h2;obtain⟨z0,zf,hfin⟩:=oH.out w3 _ h2 h3 h5;have ja:∀i u,W2.cell? ⟨W.heap.size,i,none⟩=some u->w3.cell? ⟨W.heap.size,i,none⟩=some u:=fun i u hu=>(World.cell?_of_block (a:=⟨W.heap.size,i,none⟩) (h3.block _ (World.block_lt_of_cell? W2 _ hu) (fun e=>aX.out _ e.symm rfl))).trans hu
     have HY:=zh (show(fun w':World=>zN3 w' W.heap.size (.slice A1 nv c1) (.slice A2 nv c2) (.int .i64 0)) w3 from⟨ja _ _ d0,ja _ _ d1,ja _ _ d2⟩);have wS:=zh (show(fun w':World=>zN3 w' W.heap.size (.slice A1 nv c1) (.slice A2 nv c2) (.int .i64 0)) (w3.setCell ⟨P.sb,3,none⟩ (.slice (some ⟨g8,0,none⟩) (L+1) aH))from by
      have key:∀i u,w3.cell? ⟨W.heap.size,i,none⟩=some u->(w3.setCell ⟨P.sb,3,none⟩ (.slice (some ⟨g8,0,none⟩) (L+1) aH)).cell? ⟨W.heap.size,i,none⟩=some u:=fun i u hu=>(World.cell?_of_block (a:=⟨W.heap.size,i,none⟩) (Below.heap_setCell _ _ _ _ (show P.sb≠W.heap.size by omega).symm)).trans hu;exact⟨key _ _ (ja _ _ d0),key _ _ (ja _ _ d1),key _ _ (ja _ _ d2)⟩)
     have iL:=zh hfin;refine hK.out _ _ HY.out ?_;clear hK K h2 h3 h5 hfin d0 d1 d2 wu aI oH ja;(try simp only[zQ]);refine zp 8 fun K hK=>?_;(try simp only[zA,zB,zC]);go_simp;refine hK.out _ _ HY.out ?_;clear hK K;(try simp only[zQ]);refine zp 9 fun K hK=>?_;(try simp only[zA,zB,zC]);go_simp;refine hK.out _ _ HY.out ?_;clear hK K;(try simp only[zQ]);refine zp 10 fun K hK=>?_;(try simp only[zA,zB,zC]);go_simp;refine hK.out _ _ wS.out ?_;clear hK K;(try simp only[zQ]);refine zd ?_;refine NoPanic.normal ?_;clear HY wS z0 zf;go_wp2_with fail;go_ret;refine⟨by rw[HX.out];rfl,P.enter L (.slice (some ⟨g8,0,none⟩) (L+1) aH) (.slice A1 nv c1) (.slice A2 nv c2),?_,rfl⟩;rw[HX.out];exact iL.out
 ·have HX:=zh (show R=(7,S) by rw[<-HRR.out,zlQ,if_pos (by simpa using hlen)]);have e1:((ps.length:Int)==(ss.length:Int))=false:=by simp;omega
  have e2:((ps.length:Int) != (ss.length:Int))=true:=by simp;omega
  go_enter func203,ntmps203;go_wp2_with fail;go_ret;exact⟨by rw[HX.out];rfl,P,by rw[HX.out];exact SStp.refl HS.out zr,rfl⟩
theorem znK(xs ys:List Int)(A B:Option Addr)(c d:Nat)(w:World)(hx:RowI w Any A xs)(hy:RowI w Any B ys)(hl:xs.length<=17592186044416)(hm:ys.length<=17592186044416) :
  Calls prog 61 #[.slice A xs.length c,.slice B ys.length d] w fun e w'=>e=.returned (.bool (decide (xs=ys)))/\Below w.heap.size w w':=by
 obtain⟨R,hR⟩:=zX (decide (xs=ys));rw[hR];have HR:=zh hR;have HX:=zh hx;have HY:=zh hy;clear hR hx hy;by_cases hlen:xs.length=ys.length
 ·have HL:=zh hlen;rw[<-hlen];clear hlen;go_enter func61,ntmps61;go_wp2_with fail
  go_loopw [5,13] (fun _ i wr=>∃j:Nat,j<=xs.length/\i=.int .i64 j/\Below w.heap.size w wr/\Hid (xs.take j=ys.take j)) (fun _ i _=>xs.length-(intOf i).toNat)
  case atStart=>exact⟨0,Nat.zero_le _,rfl,zr,zh rfl⟩
  case round =>
   obtain⟨j,hj,rfl,hbl,HJ⟩:=hrel;have ah:=zh hbl;by_cases hlt:j<xs.length
   ·have hlt2:j<ys.length:=by rw[<-HL.out];exact hlt
    obtain⟨a,rfl,h1⟩:=(HX.out.later hbl).nd hlt;obtain⟨b,rfl,h2⟩:=(HY.out.later hbl).nd hlt2;obtain⟨x,hx⟩:=zX (xs.getD j 0);obtain⟨y,hy⟩:=zX (ys.getD j 0);rw[hx]at h1;rw[hy]at h2;have hx':xs[j]=x:=by rw[<-hx];simp[hlt]
    have hy':ys[j]=y:=by rw[<-hy];simp[hlt2]
    have HS:=zh (show(fun w':World=>w'.cell? (a.add j)=some (.int .i64 x)/\w'.cell? (b.add j)=some (.int .i64 y)) wr.drew from⟨h1,h2⟩);have hj1:(j:Int)<(xs.length:Int):=by omega
    have HXJ:=zh hx';have HYJ:=zh hy';clear hbl hx hy hx' hy' h1 h2;go_upto_region 6 with fail
    go_region_held3 (fun w':World=>w'.cell? (a.add j)=some (.int .i64 x)/\w'.cell? (b.add j)=some (.int .i64 y))
     (with_reducible exact HS.out)
     (first|fail)
    by_cases hxy:x=y
    ·subst hxy;have HJ2:Hid (xs.take (j+1)=ys.take (j+1)):=zh (by rw[List.take_succ_eq_append_getElem hlt,List.take_succ_eq_append_getElem hlt2,HJ.out,HXJ.out,HYJ.out]);go_wp2_with fail
     go_roundw
     case rel=>exact⟨j+1,by omega,by go_num,ah.out.drew,HJ2⟩
     case measure=>simp[intOf];omega
    ·have e1:(x==y)=false:=by simpa using hxy
     have e2:(x != y)=true:=by simpa using hxy
     have HF:=zh (show R=false by rw[<-HR.out];exact decide_eq_false fun h=>hxy (by subst h;rw[<-HXJ.out,<-HYJ.out]));clear hxy;go_wp2_with fail;go_ret;exact⟨by rw[HF.out];rfl,ah.out.drew⟩
   ·obtain rfl:j=xs.length:=by omega
    have HF:=zh (show R=true by
     have h1:=HJ.out;rw[List.take_of_length_le zl,List.take_of_length_le (by rw[HL.out];exact zl)]at h1;rw[<-HR.out];exact decide_eq_true h1)
    clear hbl;go_wp2_with fail;go_ret;exact⟨by rw[HF.out];rfl,ah.out⟩
 ·have HF:=zh (show R=false by rw[<-HR.out];exact decide_eq_false fun h=>hlen (by rw[h]));have e1:((xs.length:Int)==(ys.length:Int))=false:=by simp;omega
  have e2:((xs.length:Int) != (ys.length:Int))=true:=by simp;omega
  go_enter func61,ntmps61;go_wp2_with fail;go_ret;exact⟨by rw[HF.out];rfl,zr⟩
def zlo(w:World)(S:Nat->Prop)(A:Option Addr)(ls:List (List Int)):Prop :=
 ∀i (hi:i<ls.length),∃(a:Addr) (A':Option Addr) (c':Nat),A=some a/\S a.block/\w.cell? (a.add i)=some (.slice A' ls[i].length c')/\ls[i].length<=c'/\RowI w S A' ls[i]
structure SS where
 cells:List (List Int)
 tin:List Int
 tout:List Int
def SS.Lim(s:SS):Prop:=s.cells.length<=LI/\(∀l∈s.cells,l.length<=LI)/\s.tin.length<=LI/\s.tout.length<=LI
def SV(w:World)(S:Nat->Prop)(s:SS)(v:Value):Prop :=
 ∃A c B d D e,v=.agg #[.slice A s.cells.length c,.slice B s.tin.length d,.slice D s.tout.length e]/\zlo w S A s.cells/\RowI w S B s.tin/\RowI w S D s.tout/\s.cells.length<=c/\s.tin.length<=d/\s.tout.length<=e/\s.Lim
section
variable {w w':World} {S S':Nat->Prop} {A:Option Addr} {ls:List (List Int)}
theorem zlo.keep(h:zlo w S A ls)(hS:∀b,S b->b<w.heap.size->S' b)(hk:∀b,S b->b<w.heap.size->w'.heap[b]?=w.heap[b]?):zlo w' S' A ls:=fun i hi=>by
 obtain⟨a,A',c',hA,iA,h0,hc,hr⟩:=h i hi;have hlt:a.block<w.heap.size:=by have:=World.block_lt_of_cell? w _ h0;rwa[zkz]at this
 refine⟨a,A',c',hA,hS _ iA hlt,zkK h0 ?_,hc,hr.keep hS hk⟩;simp only[zkz];exact hk _ iA hlt
theorem zlo.later(h:zlo w S A ls)(hb:Below w.heap.size w w'):zlo w' S A ls:=h.keep (fun _ h _=>h) fun b _ hlt=>hb.block b hlt
theorem SV.keep{s:SS}{v:Value}(h:SV w S s v)(hS:∀b,S b->b<w.heap.size->S' b)(hk:∀b,S b->b<w.heap.size->w'.heap[b]?=w.heap[b]?):SV w' S' s v:=by
 obtain⟨A,c,B,d,D,e,rfl,h1,h2,h3,h4⟩:=h;exact⟨A,c,B,d,D,e,rfl,h1.keep hS hk,h2.keep hS hk,h3.keep hS hk,h4⟩
theorem SV.later{s:SS}{v:Value}(h:SV w S s v)(hb:Below w.heap.size w w'):SV w' S s v:=h.keep (fun _ h _=>h) fun b _ hlt=>hb.block b hlt
theorem zlo.nd(h:zlo w Any A ls){i:Nat}(hi:i<ls.length):∃(a:Addr) (l:List Int) (A':Option Addr) (c':Nat),A=some a/\Hid (ls[i]=l)/\w.cell? (a.add i)=some (.slice A' l.length c')/\l.length<=c'/\RowI w Any A' l :=
 let ⟨a,A',c',h1,_,h3,h4,h5⟩:=h i hi;⟨a,ls[i],A',c',h1,rfl,h3,h4,h5⟩
end
theorem zoN(xs ys:List (List Int))(A B:Option Addr)(c d:Nat)(w:World)(hx:zlo w Any A xs)(hy:zlo w Any B ys)(hl:xs.length<=17592186044416)(hm:ys.length<=17592186044416)(hbx:∀l∈xs,l.length<=17592186044416)(hby:∀l∈ys,l.length<=17592186044416) :
  Calls prog 60 #[.slice A xs.length c,.slice B ys.length d,.func (.func 61) #[] #[]] w fun e w'=>e=.returned (.bool (decide (xs=ys)))/\Below w.heap.size w w':=by
 obtain⟨R,hR⟩:=zX (decide (xs=ys));rw[hR];have HR:=zh hR;have HX:=zh hx;have HY:=zh hy;have aX:=zh hbx;have HBY:=zh hby;clear hR hx hy hbx hby;by_cases hlen:xs.length=ys.length
 ·have HL:=zh hlen;rw[<-hlen];clear hlen;go_enter func60,ntmps60;go_wp2_with fail
  go_loopw [17] (fun i wr=>∃j:Nat,j<=xs.length/\i=.int .i64 j/\Below w.heap.size w wr/\Hid (xs.take j=ys.take j)) (fun i _=>xs.length-(intOf i).toNat)
  case atStart=>exact⟨0,Nat.zero_le _,rfl,zr,zh rfl⟩
  case round =>
   obtain⟨j,hj,rfl,hbl,HJ⟩:=hrel;have ah:=zh hbl;by_cases hlt:j<xs.length
   ·have hlt2:j<ys.length:=by rw[<-HL.out];exact hlt
    obtain⟨a,x,A1,c1,rfl,Hx,h1,_,hr1⟩:=(HX.out.later hbl).nd hlt;obtain⟨b,y,B1,d1,rfl,Hy,h2,_,hr2⟩:=(HY.out.later hbl).nd hlt2;have hlx:x.length<=17592186044416:=by rw[<-Hx.out];exact aX.out _ (List.getElem_mem hlt)
    have o9:y.length<=17592186044416:=by rw[<-Hy.out];exact HBY.out _ (List.getElem_mem hlt2)
    obtain⟨b0,hb0⟩:=zX (decide (x=y));have yR:=zh (hb0▸znK x y A1 B1 c1 d1 wr hr1 hr2 hlx o9);have HB0:=zh hb0;have hj1:(j:Int)<(xs.length:Int):=by omega
    clear hbl hr1 hr2 hb0;go_wp2_with fail;refine yR.out.mono ?_;rintro e w2 ⟨rfl,au⟩;have HB2:=zh (zkb ah.out au);clear au h1 h2
    cases b0
    ·have HF:=zh (show R=false by
      rw[<-HR.out];refine decide_eq_false fun h=>of_decide_eq_false HB0.out ?_;subst h;rw[<-Hx.out,<-Hy.out])
     go_wp2_with fail;go_ret;exact⟨by rw[HF.out];rfl,HB2.out⟩
    ·have HJ2:Hid (xs.take (j+1)=ys.take (j+1)):=zh (by rw[List.take_succ_eq_append_getElem hlt,List.take_succ_eq_append_getElem hlt2,HJ.out,Hx.out,Hy.out,of_decide_eq_true HB0.out]);go_wp2_with fail
     go_roundw
     case rel=>exact⟨j+1,by omega,by go_num,HB2.out,HJ2⟩
     case measure=>simp[intOf];omega
   ·obtain rfl:j=xs.length:=by omega
    have HF:=zh (show R=true by
     have h1:=HJ.out;rw[List.take_of_length_le zl,List.take_of_length_le (by rw[HL.out];exact zl)]at h1;rw[<-HR.out];exact decide_eq_true h1)
    clear hbl;go_wp2_with fail;go_ret;exact⟨by rw[HF.out];rfl,ah.out⟩
 ·have HF:=zh (show R=false by rw[<-HR.out];exact decide_eq_false fun h=>hlen (by rw[h]));have e1:((xs.length:Int)==(ys.length:Int))=false:=by simp;omega
  have e2:((xs.length:Int) != (ys.length:Int))=true:=by simp;omega
  go_enter func60,ntmps60;go_wp2_with fail;go_ret;exact⟨by rw[HF.out];rfl,zr⟩
def eqS(s t:SS):Bool:=decide (s.cells=t.cells)&&decide (s.tin=t.tin)&&decide (s.tout=t.tout)
theorem zvi(s t:SS)(v1 v2:Value)(w:World)(h1:SV w Any s v1)(h2:SV w Any t v2):Calls prog 23 #[v1,v2] w fun e w'=>e=.returned (.bool (eqS s t))/\Below w.heap.size w w':=by
 obtain⟨A,c,B,d,D,e,rfl,hr1,hr2,hr3,-,-,-,hs⟩:=h1;obtain⟨A',c',B',d',D',e',rfl,hq1,hq2,hq3,-,-,-,ht⟩:=h2;obtain⟨b1,hb1⟩:=zX (decide (s.cells=t.cells));obtain⟨b2,hb2⟩:=zX (decide (s.tin=t.tin));obtain⟨b3,hb3⟩:=zX (decide (s.tout=t.tout));have hR:eqS s t=(b1&&b2&&b3):=by rw[<-hb1,<-hb2,<-hb3];rfl
 obtain⟨R,hRR⟩:=zX (eqS s t);have HRR:=zh (show R=(b1&&b2&&b3) by rw[<-hRR];exact hR);rw[hRR];have H1:=zh (show ∀w',Below w.heap.size w w'->Calls prog 60 #[.slice A s.cells.length c,.slice A' t.cells.length c',.func (.func 61) #[] #[]] w' fun e w''=>e=.returned (.bool b1)/\Below w'.heap.size w' w'' from fun w' hb=>hb1▸zoN s.cells t.cells A A' c c' w' (hr1.later hb) (hq1.later hb) hs.1 ht.1 hs.2.1 ht.2.1);have H2:=zh (show ∀w',Below w.heap.size w w'->Calls prog 61 #[.slice B s.tin.length d,.slice B' t.tin.length d'] w' fun e w''=>e=.returned (.bool b2)/\Below w'.heap.size w' w'' from fun w' hb=>hb2▸znK s.tin t.tin B B' d d' w' (hr2.later hb) (hq2.later hb) hs.2.2.1 ht.2.2.1)
 have H3:=zh (show ∀w',Below w.heap.size w w'->Calls prog 61 #[.slice D s.tout.length e,.slice D' t.tout.length e'] w' fun e w''=>e=.returned (.bool b3)/\Below w'.heap.size w' w'' from fun w' hb=>hb3▸znK s.tout t.tout D D' e e' w' (hr3.later hb) (hq3.later hb) hs.2.2.2 ht.2.2.2);generalize s.cells.length=l1,s.tin.length=l2,s.tout.length=l3,t.cells.length=m1,t.tin.length=m2,t.tout.length=m3 at *
 clear hr1 hr2 hr3 hq1 hq2 hq3 hs ht hb1 hb2 hb3 hR hRR;go_enter func23,ntmps23;go_wp2_with fail;have q0:Below w.heap.size w ((w.alloc (.cells #[.slice A l1 c,.slice B l2 d,.slice D l3 e] 32)).alloc (.cells #[.slice A' m1 c',.slice B' m2 d',.slice D' m3 e'] 32)):=zka (zka zr _) _;have hP:=zkf (heap_alloc_new w (.cells #[.slice A l1 c,.slice B l2 d,.slice D l3 e] 32)) (.cells #[.slice A' m1 c',.slice B' m2 d',.slice D' m3 e'] 32);have hQ:=heap_alloc_new (w.alloc (.cells #[.slice A l1 c,.slice B l2 d,.slice D l3 e] 32)) (.cells #[.slice A' m1 c',.slice B' m2 d',.slice D' m3 e'] 32);simp only[World.size_alloc]at hQ;refine(H1.out _ q0).mono ?_;rintro e9 w1 ⟨rfl,ae⟩;have q1:=zkb q0 ae;have hP1:=zkc hP ae;have ve:=zkc hQ ae;have x1:w1.cell? ⟨w.heap.size,1,none⟩=some (.slice B l2 d):=zc hP1 rfl;have x2:w1.cell? ⟨w.heap.size,2,none⟩=some (.slice D l3 e):=zc hP1 rfl
 have y1:w1.cell? ⟨w.heap.size+1,1,none⟩=some (.slice B' m2 d'):=zc ve rfl;have y2:w1.cell? ⟨w.heap.size+1,2,none⟩=some (.slice D' m3 e'):=zc ve rfl;clear hP hQ hP1 ve q0 ae
 cases b1
 ·have HX:=zh (show R=false by rw[HRR.out];rfl);go_wp2_with fail;go_ret;exact⟨by rw[HX.out];rfl,q1⟩
 ·go_wp2_with fail;refine(H2.out _ q1).mono ?_;rintro e9 w2 ⟨rfl,au⟩;have q2:=zkb q1 au;have z2:=zb au x2;have u2:=zb au y2;clear au x1 x2 y1 y2
  cases b2
  ·have HX:=zh (show R=false by rw[HRR.out];rfl);go_wp2_with fail;go_ret;exact⟨by rw[HX.out];rfl,q2⟩
  ·go_wp2_with fail;refine(H3.out _ q2).mono ?_;rintro e9 w3 ⟨rfl,bW⟩;have q3:=zkb q2 bW;have HX:=zh (show R=b3 by rw[HRR.out];simp);clear bW z2 u2;go_wp2_with fail;go_ret;exact⟨by rw[HX.out];rfl,q3⟩
def vdB(v:VD):Bool:=if v.k=1\/v.k=3 then v.n==0 else if v.k=2 then decide (1<=v.n/\v.n<=16)else false
def svB(vs:List VD):Bool:=decide (vs.length<=32)&&vs.all vdB
def fixE(v:VD):Int:=if v.k=1 then 1 else v.n
theorem zqF(v:VD)(w:World):Calls prog 56 #[.agg #[.string v.s,.int .u8 v.k,.int .i64 v.n]] w fun e w'=>e=.returned (.int .i64 (fixE v))/\Below w.heap.size w w':=by
 obtain⟨s,k,n⟩:=v;dsimp only;by_cases h:k=1
 ·subst h;go_enter func56,ntmps56;go_wp2_with fail;go_ret;exact⟨rfl,zka zr _⟩
 ·have e1:(k==1)=false:=by simpa using h
  have HX:=zh (show fixE ⟨s,k,n⟩=n by simp[fixE,h]);obtain⟨R,hR⟩:=zX (fixE ⟨s,k,n⟩);rw[hR]at HX ⊢;clear h hR;go_enter func56,ntmps56;go_wp2_with fail;go_ret;exact⟨by rw[HX.out];rfl,zka zr _⟩
theorem zoW(vs:List VD)(A:Option Addr)(c:Nat)(w:World)(hrow:RowV w Any A vs)(hl:vs.length<=LV):Calls prog 55 #[.slice A vs.length c] w fun e w'=>e=.returned (.bool (svB vs))/\Below w.heap.size w w':=by
 have hl':=zlc hl;obtain⟨R,hR⟩:=zX (svB vs);rw[hR];have HR:=zh hR;have af:=zh hrow;clear hR hrow hl;by_cases h32:vs.length<=32
 ·have HN:=zh (show R=vs.all vdB by rw[<-HR.out,svB,decide_eq_true h32];rfl);clear HR;go_enter func55,ntmps55;go_wp2_with fail
  go_loopw [10] (fun i wr=>∃j:Nat,j<=vs.length/\i=.int .i64 j/\Below w.heap.size w wr/\Hid ((vs.take j).all vdB=true)) (fun i _=>vs.length-(intOf i).toNat)
  case atStart=>exact⟨0,Nat.zero_le _,rfl,zr,zh rfl⟩
  case round =>
   obtain⟨j,hj,rfl,hbl,HJ⟩:=hrel;have ah:=zh hbl;by_cases hlt:j<vs.length
   ·obtain⟨a,rfl,-,⟨y0,y1,y2⟩,-⟩:=(af.out.later hbl) j hlt;obtain⟨v,hv⟩:=zX (vs[j]);rw[hv]at y0 y1 y2;obtain⟨vm,vk,vn⟩:=v;have Hv:=zh hv;have jH:=zh (show vdB ⟨vm,vk,vn⟩=true->(vs.take (j+1)).all vdB=true from fun h=>by rw[List.take_succ_eq_append_getElem hlt,List.all_append,HJ.out,hv];simp[h]);have df:=zh (show vdB ⟨vm,vk,vn⟩=false->R=false from fun h=>by
     rw[HN.out];exact Bool.eq_false_iff.2 fun h'=>by
      have:=List.all_eq_true.1 h' _ (List.getElem_mem hlt);rw[hv,h]at this
      cases this)
    dsimp only at y0 y1 y2;clear hbl hv;have hb0:∀b,vdB ⟨vm,vk,vn⟩=b->True:=fun _ _=>trivial;by_cases k13:vk=1\/vk=3
    ·by_cases hn:vn=0
     ·have HJ2:=zh (jH.out (by simp[vdB,k13,hn]));subst hn;clear jH df hb0;rcases k13 with rfl|rfl
      all_goals
       go_wp2_with fail
       go_roundw
       case rel=>exact⟨j+1,by omega,by go_num,zka ah.out _,HJ2⟩
       case measure=>simp[intOf];omega
     ·have HX:=zh (df.out (by simp[vdB,k13,hn]));have e1:(vn==0)=false:=by simpa using hn
      have e2:(vn != 0)=true:=by simpa using hn
      clear jH df hb0 hn;rcases k13 with rfl|rfl
      all_goals
       go_wp2_with fail;go_ret;exact⟨by rw[HX.out];rfl,zka ah.out _⟩
    ·by_cases k2:vk=2
     ·subst k2;by_cases h1:vn<1
      ·have HX:=zh (df.out (by simp[vdB];omega));clear jH df hb0 k13;go_wp2_with fail;go_ret;exact⟨by rw[HX.out];rfl,zka ah.out _⟩
      ·by_cases h16:16<vn
       ·have HX:=zh (df.out (by simp[vdB];omega));clear jH df hb0 k13;go_wp2_with fail;go_ret;exact⟨by rw[HX.out];rfl,zka ah.out _⟩
       ·have HJ2:=zh (jH.out (by simp[vdB];omega));clear jH df hb0 k13;go_wp2_with fail
        go_roundw
        case rel=>exact⟨j+1,by omega,by go_num,zka ah.out _,HJ2⟩
        case measure=>simp[intOf];omega
     ·have HX:=zh (df.out (by simp[vdB,k13,k2]));have x1:(vk==1)=false:=by simp;omega
      have x2:(vk==2)=false:=by simp;omega
      have x3:(vk==3)=false:=by simp;omega
      clear jH df hb0 k13 k2;go_wp2_with fail;go_ret;exact⟨by rw[HX.out];rfl,zka ah.out _⟩
   ·obtain rfl:j=vs.length:=by omega
    have HX:=zh (show R=true by
     have:=HJ.out;rw[List.take_of_length_le zl]at this;rw[HN.out];exact this)
    clear hbl;go_wp2_with fail;go_ret;exact⟨by rw[HX.out];rfl,ah.out⟩
 ·have HX:=zh (show R=false by rw[<-HR.out,svB,decide_eq_false h32];rfl);have h33:(32:Int)<(vs.length:Int):=by omega
  clear h32;go_enter func55,ntmps55;go_wp2_with fail;go_ret;exact⟨by rw[HX.out];rfl,zr⟩
def fit1(v:VD)(l:List Int):Bool:=if v.k=3 then decide (l.length<=1000)else decide ((l.length:Int)=fixE v)
def zmA:List VD->List (List Int)->Bool
 | v::vs,l::ls=>fit1 v l&&zmA vs ls
 | _,_=>true
def fitB(vs:List VD)(s:SS):Bool:=svB vs&&decide (s.cells.length=vs.length)&&decide (s.tin.length<=4096)&&decide (s.tout.length<=4096)&&zmA vs s.cells
theorem zpi:∀ {vs:List VD} {ls:List (List Int)} {j:Nat} (h:j<vs.length) (h':j<ls.length),zmA (vs.take (j+1)) (ls.take (j+1))=(zmA (vs.take j) (ls.take j)&&fit1 vs[j] ls[j])
 | v::vs,l::ls,0,_,_=>by simp[zmA]
 | v::vs,l::ls,j+1,h,h'=>by
  have:=zpi (vs:=vs) (ls:=ls) (j:=j) (by simpa using h) (by simpa using h');simp only[List.take,zmA,List.getElem_cons_succ]at this ⊢;rw[this,Bool.and_assoc]
theorem zsq:∀ {vs:List VD} {ls:List (List Int)} {j:Nat} (h:j<vs.length) (h':j<ls.length),fit1 vs[j] ls[j]=false->zmA vs ls=false
 | v::vs,l::ls,0,_,_,h=>by simp only[zmA,List.getElem_cons_zero]at *;simp[h]
 | v::vs,l::ls,j+1,h,h',h0=>by
  have:=zsq (vs:=vs) (ls:=ls) (j:=j) (by simpa using h) (by simpa using h') (by simpa using h0);simp[zmA,this]
theorem zxv(vs:List VD)(s:SS)(A0:Option Addr)(c0:Nat)(v:Value)(w:World)(hrow:RowV w Any A0 vs)(hl:vs.length<=LV)(hv:SV w Any s v):Calls prog 19 #[.slice A0 vs.length c0,v] w fun e w'=>e=.returned (.bool (fitB vs s))/\Below w.heap.size w w':=by
 obtain⟨A,c,B,d,D,e,rfl,hr1,hr2,hr3,hc1,hc2,hc3,hl1,hl2,hl3,hl4⟩:=hv;have hl':=zlc hl;have sN:=zpr hl1;have hl3':=zpr hl3;have hl4':=zpr hl4;obtain⟨R,hR⟩:=zX (fitB vs s);rw[hR];have HR:=zh hR;have af:=zh hrow;have HR1:=zh hr1;have HL2:=zh hl2;obtain⟨b0,hb0⟩:=zX (svB vs);have HV:=zh (show ∀w',Below w.heap.size w w'->Calls prog 55 #[.slice A0 vs.length c0] w' fun e w''=>e=.returned (.bool b0)/\Below w'.heap.size w' w'' from fun w' hb=>hb0▸zoW vs A0 c0 w' (hrow.later hb) hl);have HB0:=zh hb0;obtain⟨n1,hn1⟩:=zX (s.cells.length);obtain⟨n2,hn2⟩:=zX (s.tin.length);obtain⟨n3,dx⟩:=zX (s.tout.length);have nz:=zh hn1;have HN:=zh (show R=(b0&&decide (n1=vs.length)&&decide (n2<=4096)&&decide (n3<=4096)&&zmA vs s.cells) by rw[<-hR,<-hb0,<-hn1,<-hn2,<-dx];rfl);rw[hn1,hn2,dx];rw[hn1]at sN;rw[hn2]at hl3';rw[dx]at hl4'
 clear hR hrow hr1 hr2 hr3 hc1 hc2 hc3 hl1 hl2 hl3 hl4 hl hb0 hn1 hn2 dx HR;go_enter func19,ntmps19;go_wp2_with fail;refine(HV.out _ (zka zr _)).mono ?_;rintro e9 w1 ⟨rfl,ae⟩;have q1:=zkb (zka (zs w) _) ae;have hP:=zkc (heap_alloc_new w (.cells #[.slice A n1 c,.slice B n2 d,.slice D n3 e] 32)) ae;have x0:w1.cell? ⟨w.heap.size,0,none⟩=some (.slice A n1 c):=zc hP rfl;have x1:w1.cell? ⟨w.heap.size,1,none⟩=some (.slice B n2 d):=zc hP rfl;have x2:w1.cell? ⟨w.heap.size,2,none⟩=some (.slice D n3 e):=zc hP rfl;have HP:=zh hP;have dH:=zh q1;clear hP q1 ae
 cases b0
 ·have HX:=zh (show R=false by rw[HN.out];simp);clear HN;go_wp2_with fail;go_ret;exact⟨by rw[HX.out];rfl,dH.out⟩
 by_cases k1:n1=vs.length
 case neg =>
  have HX:=zh (show R=false by rw[HN.out];simp[k1]);have e1:((n1:Int)==(vs.length:Int))=false:=by simp;omega
  have e2:((n1:Int) != (vs.length:Int))=true:=by simp;omega
  clear HN k1;go_wp2_with fail;go_ret;exact⟨by rw[HX.out];rfl,dH.out⟩
 by_cases k2:n2<=4096
 case neg =>
  have HX:=zh (show R=false by rw[HN.out];simp[k2]);have e1:((n1:Int)==(vs.length:Int))=true:=by simp;omega
  have e2:((n1:Int) != (vs.length:Int))=false:=by simp;omega
  have e3:(4096:Int)<(n2:Int):=by omega
  clear HN k1 k2;go_wp2_with fail;go_ret;exact⟨by rw[HX.out];rfl,dH.out⟩
 by_cases k3:n3<=4096
 case neg =>
  have HX:=zh (show R=false by rw[HN.out];simp[k3]);have e1:((n1:Int)==(vs.length:Int))=true:=by simp;omega
  have e2:((n1:Int) != (vs.length:Int))=false:=by simp;omega
  have e3:¬ (4096:Int)<(n2:Int):=by omega
  have e4:(4096:Int)<(n3:Int):=by omega
  clear HN k1 k2 k3;go_wp2_with fail;go_ret;exact⟨by rw[HX.out];rfl,dH.out⟩
 subst k1;have HX:=zh (show R=zmA vs s.cells by rw[HN.out];simp[k2,k3]);have e3:¬ (4096:Int)<(n2:Int):=by omega
 have e4:¬ (4096:Int)<(n3:Int):=by omega
 clear HN k2 k3 HV;go_wp2_with fail;clear x0 x1 x2
 go_loopw [32] (fun i wr=>∃j:Nat,j<=vs.length/\i=.int .i64 j/\Below w.heap.size w wr/\wr.heap[w.heap.size]?=some (.cells #[.slice A vs.length c,.slice B n2 d,.slice D n3 e] 32 (0,0))/\Hid (zmA (vs.take j) (s.cells.take j)=true)) (fun i _=>vs.length-(intOf i).toNat)
 case atStart=>exact⟨0,Nat.zero_le _,rfl,dH.out,HP.out,zh (by simp[zmA])⟩
 case round =>
  obtain⟨j,hj,rfl,hbl,hbx,HJ⟩:=hrel;have ah:=zh hbl;have aX:=zh hbx;by_cases hlt:j<vs.length
  ·have hlt2:j<s.cells.length:=by rw[nz.out];exact hlt
   obtain⟨a,rfl,-,⟨y0,y1,y2⟩,-⟩:=(af.out.later hbl) j hlt;obtain⟨a',l,A',c',rfl,Hl,z0,_,-⟩:=(HR1.out.later hbl).nd hlt2;have hll:l.length<=LI:=by rw[<-Hl.out];exact HL2.out _ (List.getElem_mem hlt2)
   have hll':=zpr hll;obtain⟨v,hv⟩:=zX (vs[j]);rw[hv]at y0 y1 y2;have x0:wr.cell? ⟨w.heap.size,0,none⟩=some (.slice (some a') vs.length c):=zc hbx rfl;have x0':=fun o=>zks (o:=o) x0;have z0':=fun o=>zks (o:=o) z0;have jH:=zh (show fit1 v l=true->zmA (vs.take (j+1)) (s.cells.take (j+1))=true from fun h=>by rw[zpi hlt hlt2,HJ.out,hv,Hl.out,h];rfl);have df:=zh (show fit1 v l=false->R=false from fun h=>by rw[HX.out];exact zsq hlt hlt2 (by rw[hv,Hl.out];exact h));have jI:=zh (zqF v);have hj1:(j:Int)<(vs.length:Int):=by omega
   obtain⟨vm,vk,vn⟩:=v;dsimp only at y0 y1 y2 jI;clear hbl hbx hv hll;by_cases k3:vk=3
   ·subst k3;by_cases h1:l.length<=1000
    ·have HJ2:=zh (jH.out (by simp[fit1,h1]));have e5:¬ (1000:Int)<(l.length:Int):=by omega
     clear jH df h1;go_wp2_with fail
     go_roundw
     case rel=>exact⟨j+1,by omega,by go_num,zka ah.out _,zkf aX.out _,HJ2⟩
     case measure=>simp[intOf];omega
    ·have bD:=zh (df.out (by simp[fit1];omega));have e5:(1000:Int)<(l.length:Int):=by omega
     clear jH df h1;go_wp2_with fail;go_ret;exact⟨by rw[bD.out];rfl,zka ah.out _⟩
   ·have x3:(vk==3)=false:=by simpa using k3
    obtain⟨fx,hfx⟩:=zX (fixE ⟨vm,vk,vn⟩);rw[hfx]at jI;have gK:=zh k3;have yP:=zh hfx;clear k3 hfx;obtain⟨W6,Ah⟩:=zX (wr.alloc (.cells #[.string vm,.int .u8 vk,.int .i64 vn] 57));have gy:=heap_alloc_new wr (.cells #[.string vm,.int .u8 vk,.int .i64 vn] 57);have hx6:=x0' (.cells #[.string vm,.int .u8 vk,.int .i64 vn] 57);have dK:=z0' (.cells #[.string vm,.int .u8 vk,.int .i64 vn] 57);have q6:Below wr.heap.size wr W6:=Ah▸zka zr _;rw[Ah]at gy hx6 dK;have az:=zh (show ∀w',Below W6.heap.size W6 w'->(fun w':World=>zv w' w.heap.size 0 (.slice (some a') vs.length c)/\w'.cell? (a'.add j)=some (.slice A' l.length c')/\zN3 w' wr.heap.size (.string vm) (.int .u8 vk) (.int .i64 vn)) w' from fun w' hb=>⟨zb hb hx6,zb hb dK,zc (zkc gy hb) rfl,zc (zkc gy hb) rfl,zc (zkc gy hb) rfl⟩);have aJ:=zh (az.out _ zr.drew);have HQ6:=zh (zkb ah.out q6);have HX6:=zh (zkc aX.out q6)
    clear q6 hx6 dK x0 x0' z0 z0';have bT:W6.cell? ⟨wr.heap.size,1,none⟩=some (.int .u8 vk):=zc gy rfl;go_upto_region 9 with fail;clear bT
    go_region_held3 (fun w':World=>zv w' w.heap.size 0 (.slice (some a') vs.length c)/\w'.cell? (a'.add j)=some (.slice A' l.length c')/\zN3 w' wr.heap.size (.string vm) (.int .u8 vk) (.int .i64 vn))
     (first|with_reducible exact aB.out|with_reducible exact aJ.out)
     (first
      | (go_at_call 56;refine(jI.out _).mono ?_;rintro e7 y7 ⟨rfl,by7⟩;have b7:=zkb (zs W6).drew by7;have aB:=zh (az.out _ b7))
      | fail)
    have HQ7:=zh (zkb HQ6.out b7);have wU:=zh (zkc HX6.out b7);clear b7 by7 aB aJ gy y0 y1 y2 Ah;by_cases hf:(l.length:Int)=fx
    ·have HJ2:=zh (jH.out (by rw[fit1,if_neg gK.out,yP.out];exact decide_eq_true hf));have e5:((l.length:Int)==fx)=true:=by simpa using hf
     have e6:((l.length:Int) != fx)=false:=by simpa using hf
     clear jH df hf;go_wp2_with fail
     go_roundw
     case rel=>exact⟨j+1,by omega,by go_num,HQ7.out,wU.out,HJ2⟩
     case measure=>simp[intOf];omega
    ·have bD:=zh (df.out (by rw[fit1,if_neg gK.out,yP.out];exact decide_eq_false hf));have e5:((l.length:Int)==fx)=false:=by simpa using hf
     have e6:((l.length:Int) != fx)=true:=by simpa using hf
     clear jH df hf;go_wp2_with fail;go_ret;exact⟨by rw[bD.out];rfl,HQ7.out⟩
  ·obtain rfl:j=vs.length:=by omega
   have bD:=zh (show R=true by
    have:=HJ.out;rw[List.take_of_length_le zl,List.take_of_length_le (by rw[nz.out];exact zl)]at this;rw[HX.out];exact this)
   clear hbl hbx;go_wp2_with fail;go_ret;exact⟨by rw[bD.out];rfl,ah.out⟩
def newS(vs:List VD)(s:SS):ST:=⟨⟨vs,List.range vs.length,0⟩,[],fun i=>s.cells.getD i [],vs.length,s.tin,s.tout⟩
def FR.snoc(f:FR)(v:VD)(id:Nat):FR:=⟨f.vs++[v],f.cs++[id],f.loc⟩
theorem zt4(vs:List VD)(s:SS)(j:Nat)(hj:j<vs.length)(l:List Int)(hl:s.cells.getD j []=l) :
  ((newS (vs.take j) s).newCell l).setCur ((newS (vs.take j) s).base.snoc vs[j] j)=newS (vs.take (j+1)) s:=by
 have h0:((newS (vs.take j) s).newCell l).calls.length=0:=rfl;have e1:(vs.take j).length=j:=by rw[List.length_take];omega
 have e2:(vs.take (j+1)).length=j+1:=by rw[List.length_take];omega
 have e3:vs.take (j+1)=vs.take j++[vs[j]]:=List.take_succ_eq_append_getElem hj;simp only[ST.setCur,h0,if_true];simp only[newS,ST.newCell,FR.snoc,e1,e3];congr 1
 ·rw[<-e3,e2,List.range_succ]
 ·funext i;by_cases e:i=j
  ·subst e;simp[<-hl]
  ·simp[e]
 ·rw[<-e3,e2]
theorem zqG:∀ {vs:List VD} {ls:List (List Int)} (i:Nat) (h:i<vs.length) (h':i<ls.length),zmA vs ls=true->fit1 vs[i] ls[i]=true
 | v::vs,l::ls,0,_,_,h=>by simp only[zmA,Bool.and_eq_true]at h;exact h.1
 | v::vs,l::ls,i+1,h,h',h0=>by
  simp only[zmA,Bool.and_eq_true]at h0;exact zqG i (by simpa using h) (by simpa using h') h0.2
theorem zsr{vs:List VD}{s:SS}(h:fitB vs s=true):vs.length<=32/\s.cells.length=vs.length/\s.tin.length<=4096/\s.tout.length<=4096/\∀i (hi:i<vs.length) (hi':i<s.cells.length),vdB vs[i]=true/\fit1 vs[i] s.cells[i]=true:=by
 simp only[fitB,svB,Bool.and_eq_true,decide_eq_true_eq]at h;obtain⟨⟨⟨⟨⟨h1,h2⟩,h3⟩,h4⟩,h5⟩,h6⟩:=h;exact⟨h1,h3,h4,h5,fun i hi hi'=>⟨List.all_eq_true.1 h2 _ (List.getElem_mem hi),zqG i hi hi' h6⟩⟩
theorem zt5{vs:List VD}{s:SS}(h:fitB vs s=true)(hf:∀v∈vs,FldV v)(hc:∀l∈s.cells,∀x∈l,I64 x)(hi:∀x∈s.tin,I64 x)(ho:∀x∈s.tout,I64 x)(j:Nat)(hj:j<=vs.length):(newS (vs.take j) s).WF:=by
 obtain⟨h32,hlen,h1,h2,hall⟩:=zsr h;have e1:(vs.take j).length=j:=by rw[List.length_take];omega
 refine⟨⟨fun i=>((vs.getD i ⟨⟨#[]⟩,0,0⟩).k,(vs.getD i ⟨⟨#[]⟩,0,0⟩).n),⟨by simp[newS],by simp[newS],by simp only[newS,e1];omega,fun v hv=>hf v (List.mem_of_mem_take hv),fun c hc=>by simpa[newS]using hc,fun i hi hi'=>?_⟩,by simp[newS],fun i hi=>?_⟩,by simp[newS],fun i hi=>?_,⟨h1,hi⟩,⟨h2,ho⟩⟩
 ·simp only[newS,e1]at hi hi' ⊢;have:i<vs.length:=by omega
  simp[this]
 ·simp only[newS,e1]at hi ⊢;have hv:i<vs.length:=by omega
  have hv':i<s.cells.length:=by omega
  obtain⟨a1,a2⟩:=hall i hv hv';simp only[List.getD_eq_getElem?_getD,List.getElem?_eq_getElem hv,List.getElem?_eq_getElem hv',Option.getD_some];unfold vdB at a1;unfold fit1 at a2;refine⟨fun hk=>?_,fun hk=>?_,?_⟩
  ·rw[if_neg (by omega)]at a2;have:=of_decide_eq_true a2;simp only[fixE,hk,if_true]at this;omega
  ·rw[if_neg (by omega)]at a2;have:=of_decide_eq_true a2;simp only[fixE,hk]at this;simpa using this
  ·split at a1
   ·next h=>rcases h with h|h<;>simp[h]
   ·split at a1
    ·next h=>simp[h]
    ·cases a1
 ·simp only[newS,e1]at hi ⊢;have hv:i<vs.length:=by omega
  have hv':i<s.cells.length:=by omega
  obtain⟨a1,a2⟩:=hall i hv hv';simp only[List.getD_eq_getElem?_getD,List.getElem?_eq_getElem hv',Option.getD_some];refine⟨?_,hc _ (List.getElem_mem hv')⟩;unfold vdB at a1;unfold fit1 at a2
  split at a2
  ·exact of_decide_eq_true a2
  ·have:=of_decide_eq_true a2;unfold fixE at this
   split at this
   ·omega
   ·next hk hk1 =>
    rw[if_neg (by omega)]at a1
    split at a1
    ·have:=of_decide_eq_true a1;omega
    ·cases a1
theorem zrc{W w2:World}{n0:Nat}{P:Ph}{S:ST}(h:SR W n0 P S)(hb:Below W.heap.size W w2)(v:Value)(l:List Int)(ho:w2.ownsRow W.heap.size 3 1 v l.length (zkg l)) :
  Stp n0 (rows P S) W (rows (P.newCell S w2.heap.size v) (S.newCell l)) (w2.alloc (.cells #[v] 194)):=by
 have hn:n0<=W.heap.size:=by have:=h.rws.lt .sb P.sb rfl;omega
 have hs:=hb.size;have s1:=Stp.take2 (W':=w2.alloc (.cells #[v] 194)) h.rws (zka hb _) (.cb S.nc) (.ci S.nc) (by simp) ⟨boxV w2.heap.size,194,1,1,[v]⟩ ⟨v,3,1,l.length,zkg l⟩
  (znz w2 n0 _ [_] (by omega) rfl) (zln (ho.alloc _) hn) (fun b e=>by simp[Value.ownBlock]at e;omega) (fun b e=>(ho.lt b e).1) (fun b e e2=>by simp[Value.ownBlock]at e;have:=(ho.lt b e2).2;omega)
 exact s1.cast (zmr h.wf P w2.heap.size v l).symm
theorem zv2{W W':World}{n0:Nat}{P:Ph}{S:ST}(v:VD)(id:Nat)(vv vc:Value)(hlen:S.cur.cs.length=S.cur.vs.length)
  (hst:Stp n0 (rows P S) W (updR (updR (updR (rows P S) (vI S) ⟨vv,57,3,S.cur.vs.length+1,zkS S.cur.vs++[.string v.s,.int .u8 v.k,.int .i64 v.n]⟩) (cI S) ⟨vc,192,1,S.cur.vs.length+1,ptrs P.cb S.cur.cs++[.pointer (some ⟨P.cb id,0,none⟩)]⟩) (hI S) { rows P S (hI S)with xs:=((rows P S (hI S)).xs.set (oI S) vv).set (oI S+1) vc }) W') :
  Stp n0 (rows P S) W (rows (P.setCur S vv vc) (S.setCur (S.cur.snoc v id))) W':=by
 refine hst.cast ?_;rw[zmU];obtain⟨_,_,g3⟩:=zpR P S;have e1:(S.cur.snoc v id).vs.length=S.cur.vs.length+1:=by simp[FR.snoc]
 have e2:(S.cur.snoc v id).cs.length=S.cur.vs.length+1:=by simp[FR.snoc,hlen]
 have e3:zkS (S.cur.snoc v id).vs=zkS S.cur.vs++[.string v.s,.int .u8 v.k,.int .i64 v.n]:=zpf _ _;have e4:ptrs P.cb (S.cur.snoc v id).cs=ptrs P.cb S.cur.cs++[.pointer (some ⟨P.cb id,0,none⟩)]:=by simp[FR.snoc,ptrs]
 rw[e1,e2,e3,e4];have e5:(((rows P S (hI S)).xs.set (oI S) vv).set (oI S+1) vc).set (oI S+2) (.int .i64 (S.cur.snoc v id).loc)=((rows P S (hI S)).xs.set (oI S) vv).set (oI S+1) vc:=by
  have hl:oI S+2<(rows P S (hI S)).xs.length:=(List.getElem?_eq_some_iff.1 g3).1;refine List.ext_getElem? fun q=>?_;by_cases e:q=oI S+2
  ·subst e;rw[List.getElem?_set_self (by simpa using hl),List.getElem?_set_ne (by omega),List.getElem?_set_ne (by omega),g3];rfl
  ·rw[List.getElem?_set_ne (by omega)]
 rw[e5]
theorem zsU{W w2 w3:World}{vI vO:Value}{tb:Nat}{s:SS}(hwf:(newS [] s).WF)(hb:Below W.heap.size W w2)(h1:w2.heap[tb]?=some (.cells #[vI,vO] 220 (0,0)))(ht:W.heap.size<=tb)
  (o1:w2.ownsRow W.heap.size 3 1 vI s.tin.length (zkg s.tin))(o2:w2.ownsRow W.heap.size 3 1 vO s.tout.length (zkg s.tout))(n1:vI.ownBlock≠some tb)(n2:vO.ownBlock≠some tb)(n3:∀b,vI.ownBlock=some b->vO.ownBlock≠some b)
  (hw:w3=w2.alloc (.cells #[.slice none 0 0,.slice none 0 0,.int .i64 0,.slice none 0 0,.pointer (some ⟨tb,0,none⟩)] 190)) :
  SR w3 W.heap.size ⟨w2.heap.size,tb,vI,vO,.slice none 0 0,.slice none 0 0,.slice none 0 0,fun _=>.slice none 0 0,fun _=>.slice none 0 0,fun _=>0,fun _=>.slice none 0 0⟩ (newS [] s):=by
 subst hw;have hs:=hb.size;have htb:=zkp h1;refine⟨⟨fun i=>?_,?_⟩,hwf⟩
 ·cases i with
  | sb=>exact znz w2 W.heap.size _ [_,_,_,_,_] hs rfl
  | tb=>exact⟨rfl,.inr ⟨tb,1,#[vI,vO],rfl,ht,zkf h1 _,zl,by decide,rfl,rfl⟩⟩
  | tin=>exact o1.alloc _
  | tout=>exact o2.alloc _
  | bv=>exact World.ownsRow_nil _ _ _ _
  | bc=>exact World.ownsRow_nil _ _ _ _
  | calls=>exact World.ownsRow_nil _ _ _ _
  | fv i=>exact World.ownsRow_nil _ _ _ _
  | fc i=>exact World.ownsRow_nil _ _ _ _
  | cb i=>simp only[rows,newS,List.length_nil,Nat.not_lt_zero,if_false];exact World.ownsRow_nil _ _ _ _
  | ci i=>simp only[rows,newS,List.length_nil,Nat.not_lt_zero,if_false];exact World.ownsRow_nil _ _ _ _
  | x i=>exact World.ownsRow_nil _ _ _ _
 ·have key:∀(i:Res) b,(rows ⟨w2.heap.size,tb,vI,vO,.slice none 0 0,.slice none 0 0,.slice none 0 0,fun _=>.slice none 0 0,fun _=>.slice none 0 0,fun _=>0,fun _=>.slice none 0 0⟩ (newS [] s) i).v.ownBlock=some b->(i=.sb/\b=w2.heap.size)\/(i=.tb/\b=tb)\/(i=.tin/\vI.ownBlock=some b)\/(i=.tout/\vO.ownBlock=some b):=fun i b hb=>by
   cases i with
   | sb=>simp[rows,Value.ownBlock]at hb;exact .inl ⟨rfl,hb.symm⟩
   | tb=>simp[rows,Value.ownBlock]at hb;exact .inr (.inl ⟨rfl,hb.symm⟩)
   | tin=>exact .inr (.inr (.inl ⟨rfl,hb⟩))
   | tout=>exact .inr (.inr (.inr ⟨rfl,hb⟩))
   | bv=>simp[rows,Value.ownBlock]at hb
   | bc=>simp[rows,Value.ownBlock]at hb
   | calls=>simp[rows,Value.ownBlock]at hb
   | fv i=>simp[rows,newS,nilR,Value.ownBlock]at hb
   | fc i=>simp[rows,newS,nilR,Value.ownBlock]at hb
   | cb i=>simp[rows,newS,nilR,Value.ownBlock]at hb
   | ci i=>simp[rows,newS,nilR,Value.ownBlock]at hb
   | x i=>simp[rows,nilR,Value.ownBlock]at hb
  intro i j b hij h1 h2;have l1:=fun b (e:vI.ownBlock=some b)=>(o1.lt b e).2;have l2:=fun b (e:vO.ownBlock=some b)=>(o2.lt b e).2;rcases key i b h1 with⟨e1,a1⟩|⟨e1,a1⟩|⟨e1,a1⟩|⟨e1,a1⟩<;>rcases key j b h2 with⟨e2,a2⟩|⟨e2,a2⟩|⟨e2,a2⟩|⟨e2,a2⟩
  ·exact hij (e1.trans e2.symm)
  ·omega
  ·have:=l1 b a2;omega
  ·have:=l2 b a2;omega
  ·omega
  ·exact hij (e1.trans e2.symm)
  ·subst a1;exact n1 a2
  ·subst a1;exact n2 a2
  ·have:=l1 b a1;omega
  ·subst a2;exact n1 a1
  ·exact hij (e1.trans e2.symm)
  ·exact n3 b a1 a2
  ·have:=l2 b a1;omega
  ·subst a2;exact n2 a1
  ·exact n3 b a2 a1
  ·exact hij (e1.trans e2.symm)
theorem Rws.mono{I:Type}{W:World}{n0 n1:Nat}{d:I->RowD}(h:Rws W n1 d)(hn:n0<=n1):Rws W n0 d:=⟨fun i=>zln (h.row i) hn,h.sep⟩
theorem SR.mono{W:World}{n0 n1:Nat}{P:Ph}{S:ST}(h:SR W n1 P S)(hn:n0<=n1):SR W n0 P S:=⟨h.rws.mono hn,h.wf⟩
theorem zy9{vs:List VD}{s:SS}{j:Nat}{hj:j<vs.length}{l:List Int}{hl:s.cells.getD j []=l}{W:World}{n1:Nat}{P:Ph}(h:Rws W n1 (rows P ((newS (vs.take j) s).newCell l)))(hm:j<=1000)(sb b:Nat)(hsb:P.sb=sb)(hb:P.cb j=b)(v:VD)(hv:vs[j]=v) :
  Calls prog 133 [.pointer (some ⟨sb,0,none⟩),.agg #[.string v.s,.int .u8 v.k,.int .i64 v.n],.pointer (some ⟨b,0,none⟩)].toArray W fun e W'=>∃u,e=.returned u/\∃P',Stp n1 (rows P ((newS (vs.take j) s).newCell l)) W (rows P' (newS (vs.take (j+1)) s)) W'/\P'.sb=sb:=by
 subst hsb hb hv;have e1:(vs.take j).length=j:=by rw[List.length_take];omega
 have hadd:=zrv h .sb .bv .bc (by simp) (by simp) (by simp) P.sb 0 rfl rfl rfl (zkS (vs.take j)) (ptrs P.cb (List.range j)) j (by simp[rows,newS,ST.newCell,e1]) (by simp[rows,newS,ST.newCell,e1]) (by omega) vs[j] (some ⟨P.cb j,0,none⟩);refine hadd.mono ?_;rintro e W' ⟨⟨u,hu⟩,vv,vc,hst⟩;refine⟨u,hu,P.setCur ((newS (vs.take j) s).newCell l) vv vc,?_,?_⟩
 ·have:=zv2 (P:=P) (S:=(newS (vs.take j) s).newCell l) (W:=W) (W':=W') (n0:=n1) vs[j] j vv vc (by simp[ST.cur,newS,ST.newCell]) (by
   have e2:((newS (vs.take j) s).newCell l).cur.vs.length=j:=e1;have e3:((newS (vs.take j) s).newCell l).cur.cs=List.range j:=by show List.range (vs.take j).length=_;rw[e1]
   rw[e2,e3];exact hst)
  rw[show((newS (vs.take j) s).newCell l).setCur (((newS (vs.take j) s).newCell l).cur.snoc vs[j] j)=newS (vs.take (j+1)) s from zt4 vs s j hj l hl]at this;exact this
 ·unfold Ph.setCur;split<;>rfl
theorem znd:IsFn prog 70 f70:=⟨func70,by kernel_rfl,by kernel_rfl⟩
theorem zy0(p:Option Addr)(w:World):(Instr.build 190 #[(2,.pointer p)]).run prog w=.ok (.agg #[.slice none 0 0,.slice none 0 0,.int .i64 0,.slice none 0 0,.pointer p]) w:=by kernel_rfl
theorem zy4(A:Option Addr)(l c:Nat)(w:World):(Instr.build 194 #[(0,.slice A l c)]).run prog w=.ok (.agg #[.slice A l c]) w:=by kernel_rfl
def NewP(vs:List VD)(s:SS)(w:World)(e:Ending)(w':World):Prop:=Below w.heap.size w w' /\
 ((fitB vs s=false/\e=.returned (.tuple #[.pointer none,.int .i64 3]))\/(fitB vs s=true/\∃P:Ph,e=.returned (.tuple #[.pointer (some ⟨P.sb,0,none⟩),.int .i64 0])/\SR w' w.heap.size P (newS vs s)))
theorem zzh(vs:List VD)(s:SS)(A:Option Addr)(c:Nat)(v:Value)(w:World)(hrow:RowV w Any A vs)(hl:vs.length<=LV)(hv:SV w Any s v):Calls prog 98 #[.slice A vs.length c,v] w (NewP vs s w):=by
 have lQ:=zh (fun w' (hb:Below w.heap.size w w')=>zxv vs s A c v w' (hrow.later hb) hl (hv.later hb));obtain⟨AC,cC,AI,AZ,AO,cO,rfl,hr1,hr2,hr3,hc1,hc2,hc3,hl1,hl2,hl3,hl4⟩:=hv;have hl':=zlc hl;have HF:=zh (show ∀u∈vs,FldV u from fun u hu=>by
  obtain⟨q,hq,rfl⟩:=List.mem_iff_getElem.1 hu;obtain⟨_,_,_,_,wG⟩:=hrow q hq;exact wG)
 have HCF:=zh (show ∀l∈s.cells,∀x∈l,I64 x from fun l hl=>by
  obtain⟨q,hq,rfl⟩:=List.mem_iff_getElem.1 hl;obtain⟨_,_,_,_,_,_,_,hr⟩:=hr1 q hq;exact hr.fits)
 have HIF:=zh hr2.fits;have HOF:=zh hr3.fits;have af:=zh hrow;have HR1:=zh hr1;have HR2:=zh hr2;have HR3:=zh hr3;have HL2:=zh hl2;obtain⟨R,hR⟩:=zX (fitB vs s);have HR:=zh hR;rw[hR]at lQ;obtain⟨n1,hn1⟩:=zX (s.cells.length);obtain⟨n2,hn2⟩:=zX (s.tin.length);obtain⟨n3,dx⟩:=zX (s.tout.length);have nz:=zh hn1;have aI:=zh hn2;have bR:=zh dx;rw[hn1,hn2,dx]at lQ;rw[hn1,hn2,dx];clear hrow hr1 hr2 hr3 hc1 hc2 hc3 hl1 hl2 hl3 hl4 hl hR hn1 hn2 dx;go_enter func98,ntmps98;go_wp2_with fail;refine(lQ.out _ (zka zr _)).mono ?_;rintro e9 w1 ⟨rfl,ae⟩;have HB1:=zh (zkb (zka (zs w) _) ae);have hP:=zkc (heap_alloc_new w (.cells #[.slice AC n1 cC,.slice AI n2 AZ,.slice AO n3 cO] 32)) ae;clear ae
 cases R
 ·go_wp2_with fail;go_ret2;exact⟨HB1.out,.inl ⟨HR.out,rfl⟩⟩
 ·obtain⟨h32,hlen,h4i,h4o,hall⟩:=zsr HR.out;have kW:=zh hall;have HLEN:=zh hlen;have wY:=zh (zxh s.tin s.tout AI AO AZ cO w1 (HR2.out.later HB1.out) (HR3.out.later HB1.out) h4i h4o);rw[aI.out,bR.out]at wY;have x1:w1.cell? ⟨w.heap.size,1,none⟩=some (.slice AI n2 AZ):=zc hP rfl;have x2:w1.cell? ⟨w.heap.size,2,none⟩=some (.slice AO n3 cO):=zc hP rfl;have HP0:=zh hP;have hbst:=zy0;clear hlen h4i h4o hall hP;go_wp2_with fail;refine wY.out.mono ?_;rintro e9 w2 ⟨tb,vI,vO,rfl,ht,h1,o1,o2,t1,t2,t3,au⟩;rw[<-aI.out]at o1;rw[<-bR.out]at o2;have Bu:=zh (zsU (zt5 HR.out HF.out HCF.out HIF.out HOF.out 0 (Nat.zero_le _)) au h1 ht o1 o2 t1 t2 t3 rfl);have HB2:=zh au;clear ht h1 o1 o2 t1 t2 t3 au x1 x2;go_wp2_with fail
  go_loopw [30] (fun i wr=>∃j:Nat,j<=vs.length/\i=.int .i64 j/\Hid (Below w1.heap.size w1 wr)/\∃P:Ph,Hid (SR wr w1.heap.size P (newS (vs.take j) s))/\Hid (P.sb=w2.heap.size)) (fun i _=>vs.length-(intOf i).toNat)
  case atStart=>exact⟨0,Nat.zero_le _,rfl,zh (zka HB2.out _),_,Bu,zh rfl⟩
  case round =>
   obtain⟨j,hj,rfl,ah,P,HS,kL⟩:=hrel;by_cases hlt:j<vs.length
   ·have hlc:j<s.cells.length:=by rw[HLEN.out];exact hlt
    obtain⟨a,rfl,-,⟨y0,y1,y2⟩,-⟩:=((af.out.later HB1.out).later ah.out) j hlt;obtain⟨b,l,A',c',rfl,Hl,x0,-,bA⟩:=((HR1.out.later HB1.out).later ah.out).nd hlc;have dW:=zh (show b.block<w.heap.size by
     obtain⟨a',_,_,hA,_,hcw,_⟩:=HR1.out j hlc;injection hA with hA;have:=World.block_lt_of_cell? w _ hcw;rw[zkz,<-hA]at this;exact this)
    obtain⟨v,hv⟩:=zX (vs[j]);rw[hv]at y0 y1 y2;have Hv:=zh hv;have hll:l.length<=LI:=by rw[<-Hl.out];exact HL2.out _ (List.getElem_mem hlc)
    have Hgd:=zh (show s.cells.getD j []=l by rw[<-Hl.out];simp[hlc]);obtain⟨vm,vk,vn⟩:=v;dsimp only at y0 y1 y2;have hj1:(j:Int)<(vs.length:Int):=by omega
    have hj2:(j:Int)<(n1:Int):=by have:=nz.out;have:=HLEN.out;omega
    have dC:=zh bA;have z0:wr.cell? ⟨w.heap.size,0,none⟩=some (.slice (some b) n1 cC):=zb ah.out (zc HP0.out rfl);have hbx:=zy4;clear bA hv;go_upto_region 10 with fail;obtain⟨wa,qK⟩:=zX (wr.alloc (.cells #[.string vm,.int .u8 vk,.int .i64 vn] 57));have aW:Below wr.heap.size wr wa:=qK▸zka zr _;have hvb:wa.heap[wr.heap.size]?=some (.cells #[.string vm,.int .u8 vk,.int .i64 vn] 57 (0,0)):=qK▸heap_alloc_new wr _;rw[qK];have q0:wa.cell? ⟨wr.heap.size,0,none⟩=some (.string vm):=zc hvb rfl;have q1:wa.cell? ⟨wr.heap.size,1,none⟩=some (.int .u8 vk):=zc hvb rfl;have q2:wa.cell? ⟨wr.heap.size,2,none⟩=some (.int .i64 vn):=zc hvb rfl;have q3:=zb aW z0;have q4:=zb aW x0;have rQ:=zh aW;clear qK aW hvb y0 y1 y2 x0 z0
    obtain⟨S1,hS1⟩:∃S1:World->Prop,S1=fun w':World=>w'.cell? ⟨wr.heap.size,0,none⟩=some (.string vm)/\w'.cell? ⟨wr.heap.size,1,none⟩=some (.int .u8 vk)/\w'.cell? ⟨wr.heap.size,2,none⟩=some (.int .i64 vn)/\w'.cell? ⟨w.heap.size,0,none⟩=some (.slice (some b) n1 cC)/\w'.cell? (b.add j)=some (.slice A' l.length c'):=⟨_,rfl⟩
    have HSa:=zh (show S1 wa by rw[hS1];exact⟨q0,q1,q2,q3,q4⟩);have HSk:=zh (show ∀W W',S1 W->(∀p u,W.cell? p=some u->(p.block=wr.heap.size\/p.block=w.heap.size\/p.block=b.block)->W'.cell? p=some u)->S1 W' by
     rw[hS1];rintro W W' ⟨a0,a1,a2,a3,a4⟩ hk;exact⟨hk _ _ a0 (.inl rfl),hk _ _ a1 (.inl rfl),hk _ _ a2 (.inl rfl),hk _ _ a3 (.inr (.inl rfl)),hk _ _ a4 (.inr (.inr (zkz b j)))⟩)
    have vE:=zh (show ∀W W',S1 W->Below W.heap.size W W'->S1 W' from fun W W' h hb=>HSk.out W W' h fun p u hp _=>zb hb hp);have hSS:zW S1 zU wa.drew:=⟨vE.out _ _ HSa.out zr.drew,trivial⟩
    refine wp_region_noPanic ?_;refine zG hSS 12 ?_;subst hS1;refine zT 0 hSS ?_;refine zT 1 hSS ?_;refine zT 2 hSS ?_;refine zT 3 hSS ?_;refine zT 4 hSS ?_;refine zT 5 hSS ?_;refine zT 6 hSS ?_;refine zT 7 hSS ?_;refine zT 8 hSS ?_;have had:Calls prog 70 [.slice A' l.length c'].toArray wa.drew fun e w'=>∃u,e=.returned u/\w'.ownsRow wa.drew.heap.size 3 1 u l.length (zkg l)/\Below wa.drew.heap.size wa.drew w' :=
     (zkO l A' c' Any wa.drew ((dC.out.later rQ.out).later zr.drew) hll).mono fun e w' ⟨u,hu,h1,_,h2⟩=>⟨u,hu,h1,h2⟩
    refine zo 9 fun K hK=>?_;refine zke (by rfl) (.func 70) [.tmp 43] _ (by rfl) 70 _ znd (by rfl) _ (by rfl) _ had ?_;rintro v4 w4 ⟨eQ,hb4⟩;obtain⟨A4,c4,rfl,-,-⟩:=zkd eQ;have iV:=zh eQ;have aG:=zh hb4;have kM:=zh (vE.out _ _ hSS.1 hb4);refine hK.out _ _ ⟨kM.out,trivial⟩ ?_;clear hK K hSS had eQ hb4 q0 q1 q2 q3 q4;(try simp only[zQ]);refine zo 10 fun K hK=>?_;(try simp only[zA,zB,zC]);go_simp;refine hK.out _ _ ⟨kM.out,trivial⟩ ?_;clear hK K;(try simp only[zQ]);refine zo 11 fun K hK=>?_;(try simp only[zA,zB,zC]);go_simp;have vG:=zh (vE.out _ _ kM.out (zka zr (.cells #[.slice A4 l.length c4] 194)));refine hK.out _ _ ⟨vG.out,trivial⟩ ?_;clear hK K;(try simp only[zQ]);have e1:(vs.take j).length=j:=by rw[List.length_take];omega
    have s1:=zrc ((HS.out.later rQ.out).later zr.drew) aG.out (.slice A4 l.length c4) l iV.out;have had:=zy9 (hj:=hlt) (hl:=Hgd.out) s1.rws (by omega) w2.heap.size w4.heap.size kL.out (by simp[Ph.newCell,newS,e1]) ⟨vm,vk,vn⟩ Hv.out;dsimp only at had;refine zp 12 fun K hK=>?_;refine zke (by rfl) (.func 133) [.tmp 37,.tmp 38,.tmp 46] _ (by rfl) 133 _ zzT (by rfl) _ (by rfl) _ had ?_;rintro v6 w6 ⟨P',hst,hsb'⟩;have hza:wr.heap.size<wa.drew.heap.size:=World.block_lt_of_cell? _ _ HSa.out.1;have xO:w.heap.size<w1.heap.size:=zkp HP0.out;have hBl:=ah.out.size;have hown:∀b',OwnB (rows (P.newCell (newS (vs.take j) s) w4.heap.size (.slice A4 l.length c4)) ((newS (vs.take j) s).newCell l)) b'->w1.heap.size<=b'/\b'≠wr.heap.size:=fun b' hb'=>by
     rcases s1.own b' hb' with⟨q,hq⟩|hq
     ·have:=HS.out.rws.lt q b' hq;omega
     ·omega
    have wK:=HSk.out _ _ vG.out fun p u hp hpb=>zkU hst.chg hp fun hb'=>by
     have h1:=hown _ hb';have h2:=dW.out;rcases hpb with e|e|e<;>rw[e]at h1<;>omega
    refine hK.out _ _ wK ?_;have HST:=zh (show SR w6 w1.heap.size P' (newS (vs.take (j+1)) s)from⟨hst.rws,zt5 HR.out HF.out HCF.out HIF.out HOF.out (j+1) hlt⟩);have aV:=zh (show Below w1.heap.size w1 w6 by
     have b4:Below w1.heap.size w1 w4:=zkb (zkb ah.out rQ.out).drew aG.out;have b5:Below w1.heap.size w1 (w4.alloc (.cells #[.slice A4 l.length c4] 194)):=zka b4 _;exact b5.trans (hst.chg.below b5.size fun b' hb'=>(hown b' hb').1))
    have HSB':=zh hsb';clear hK K hst had s1 hown hsb' wK;(try simp only[zQ]);refine zd ?_;refine NoPanic.normal ?_;go_wp2_with fail
    go_roundw
    case rel=>exact⟨j+1,by omega,by go_num,aV,P',HST,HSB'⟩
    case measure=>simp[intOf];omega
   ·obtain rfl:j=vs.length:=by omega
    have hj1:¬ (vs.length:Int)<(vs.length:Int):=by omega
    go_wp2_with fail;go_ret2;refine⟨HB1.out.trans (ah.out.mono ?_),.inr ⟨HR.out,P,by rw[kL.out];rfl,?_⟩⟩
    ·have:=HB1.out.size;omega
    ·have h1:=HS.out;rw[List.take_of_length_le zl]at h1;exact h1.mono HB1.out.size
def zlI(vc:Value)(fc:Nat->Value)(ls:List (List Int))(j:Nat):Option Nat->RowD
 | none=>⟨vc,30,1,ls.length,(List.range ls.length).map fun i=>if i<j then fc i else .slice none 0 0⟩
 | some i=>if i<j then⟨fc i,3,1,(ls.getD i []).length,zkg (ls.getD i [])⟩else nilR
inductive SI where
 | all|el (i:Nat)|inp|out
 deriving DecidableEq
def zlm(vc vi vo:Value)(fc:Nat->Value)(s:SS):SI->RowD
 | .all=>⟨vc,30,1,s.cells.length,(List.range s.cells.length).map fc⟩
 | .el i=>if i<s.cells.length then⟨fc i,3,1,(s.cells.getD i []).length,zkg (s.cells.getD i [])⟩else nilR
 | .inp=>⟨vi,3,1,s.tin.length,zkg s.tin⟩
 | .out=>⟨vo,3,1,s.tout.length,zkg s.tout⟩
def SS.I(s:SS):Prop:=(∀l∈s.cells,∀x∈l,I64 x)/\(∀x∈s.tin,I64 x)/\∀x∈s.tout,I64 x
def OwnS(W:World)(n0:Nat)(s:SS)(v:Value):Prop:=∃vc vi vo fc,v=.agg #[vc,vi,vo]/\Rws W n0 (zlm vc vi vo fc s)/\s.I
theorem zm8(z:Value)(n:Nat):madeCells #[z] n=Array.replicate n z:=by
 unfold madeCells;refine Array.ext (by simp) fun i h1 h2=>?_;simp[Nat.mod_one]
theorem ztO(w:World)(fc:Nat->Value)(ls:List (List Int))(n:Nat)(hn:ls.length=n)(hm:n<=maxLen):Rws (w.alloc (.cells (madeCells #[.slice none 0 0] n) 30)) w.heap.size (zlI (.slice (some ⟨w.heap.size,0,none⟩) n n) fc ls 0):=by
 refine⟨fun i=>?_,fun i j b hij hi hj=>?_⟩
 ·cases i with
  | none =>
   refine⟨by simp[zlI],.inr ⟨w.heap.size,n,madeCells #[.slice none 0 0] n,by simp[zlI,hn],zl,heap_alloc_new w _,by simp[zlI,hn],hm,by simp[zlI,size_madeCells],?_⟩⟩;rw[zm8];simp only[zlI,hn,Array.toList_replicate,Nat.mul_one,List.take_replicate,Nat.min_self,Nat.not_lt_zero,if_false];exact List.ext_getElem (by simp) fun i h1 h2=>by simp
  | some i=>simp only[zlI,Nat.not_lt_zero,if_false];exact zlZ _ _
 ·cases i with
  | some i=>simp[zlI,nilR,Value.ownBlock]at hi
  | none =>
   cases j with
   | none=>exact hij rfl
   | some j=>simp[zlI,nilR,Value.ownBlock]at hj
theorem zsP{W W2:World}{n1 g n c j:Nat}{fc:Nat->Value}{ls:List (List Int)}(h:Rws W n1 (zlI (.slice (some ⟨g,0,none⟩) n c) fc ls j))(hb:Below W.heap.size W W2)(hj:j<ls.length)(l:List Int)(hl:ls[j]=l)(v:Value)(ho:W2.ownsRow W.heap.size 3 1 v l.length (zkg l)) :
  Stp n1 (zlI (.slice (some ⟨g,0,none⟩) n c) fc ls j) W (zlI (.slice (some ⟨g,0,none⟩) n c) (fun i=>if i=j then v else fc i) ls (j+1)) (W2.setCell ⟨g,j,none⟩ v):=by
 have hn:n1<=W.heap.size:=by have:=h.lt none g rfl;omega
 have s1:=Stp.upd (i:=some j) (r:=⟨v,3,1,l.length,zkg l⟩) h (Chg.of_below hb) (zln ho hn) (fun b e=>.inr (ho.lt b e).1);have s2:=Stp.set (i:=none) s1.rws (g:=g) (by rw[zkj (by simp)];rfl) (o:=j) (by rw[zkj (by simp)];simpa[zlI]using hj) v;refine(s1.trans s2).cast ?_;funext q
 cases q with
 | none =>
  rw[zkt,zkj (by simp)];simp only[zlI,RowD.mk.injEq,true_and];refine List.ext_getElem (by simp) fun i h1 h2=>?_;simp only[List.getElem_set,List.getElem_map,List.getElem_range];by_cases e:j=i
  ·subst e;simp
  ·rw[if_neg e];have e':i≠j:=fun h=>e h.symm;by_cases h3:i<j
   ·rw[if_pos h3,if_pos (by omega),if_neg e']
   ·rw[if_neg h3,if_neg (by omega)]
 | some i =>
  rw[zkj (by simp)];by_cases e:i=j
  ·subst e;rw[zkt];simp[zlI,hj,hl]
  ·rw[zkj (by simpa using e)];simp only[zlI,e,if_false];by_cases h3:i<j
   ·rw[if_pos h3,if_pos (by omega)]
   ·rw[if_neg h3,if_neg (by omega)]
theorem zv7{W1 W2 W3:World}{n1:Nat}{vc vi vo:Value}{fc:Nat->Value}{s:SS}(h:Rws W1 n1 (zlI vc fc s.cells s.cells.length))(hn:n1<=W1.heap.size)(b2:Below W1.heap.size W1 W2)(o2:W2.ownsRow W1.heap.size 3 1 vi s.tin.length (zkg s.tin))(b3:Below W2.heap.size W2 W3)
  (o3:W3.ownsRow W2.heap.size 3 1 vo s.tout.length (zkg s.tout)):Rws W3 n1 (zlm vc vi vo fc s):=by
 have h3:=(h.later b2).later b3;have hs2:=b2.size;have l1:∀i b,(zlI vc fc s.cells s.cells.length i).v.ownBlock=some b->b<W1.heap.size:=fun i b e=>(h.lt i b e).2;have l2:∀b,vi.ownBlock=some b->W1.heap.size<=b/\b<W2.heap.size:=fun b e=>o2.lt b e;have l3:∀b,vo.ownBlock=some b->W2.heap.size<=b:=fun b e=>(o3.lt b e).1;have eo:zlm vc vi vo fc s .all=zlI vc fc s.cells s.cells.length none:=by
  simp only[zlm,zlI,RowD.mk.injEq,true_and];refine List.map_congr_left fun i hi=>?_;rw[if_pos (by simpa using hi)]
 refine⟨fun i=>?_,fun i j b hij h1 h2=>?_⟩
 ·cases i with
  | all=>rw[eo];exact h3.row none
  | el i=>exact h3.row (some i)
  | inp=>exact zln (zko o2 b3) hn
  | out=>exact zln o3 (by omega)
 ·have key:∀i b,(zlm vc vi vo fc s i).v.ownBlock=some b->(∃q,i=(match q with|none=>SI.all|some k=>SI.el k)/\(zlI vc fc s.cells s.cells.length q).v.ownBlock=some b)\/(i=.inp/\vi.ownBlock=some b)\/(i=.out/\vo.ownBlock=some b):=fun i b e=>by
   cases i with
   | all=>exact .inl ⟨none,rfl,by rw[eo]at e;exact e⟩
   | el i=>exact .inl ⟨some i,rfl,e⟩
   | inp=>exact .inr (.inl ⟨rfl,e⟩)
   | out=>exact .inr (.inr ⟨rfl,e⟩)
  rcases key i b h1 with⟨q,e1,a1⟩|⟨e1,a1⟩|⟨e1,a1⟩<;>rcases key j b h2 with⟨q',e2,a2⟩|⟨e2,a2⟩|⟨e2,a2⟩
  ·exact h.sep q q' b (fun e=>hij (by rw[e1,e2,e])) a1 a2
  ·have:=l1 q b a1;have:=l2 b a2;omega
  ·have:=l1 q b a1;have:=l3 b a2;omega
  ·have:=l2 b a1;have:=l1 q' b a2;omega
  ·exact hij (e1.trans e2.symm)
  ·have:=l2 b a1;have:=l3 b a2;omega
  ·have:=l3 b a1;have:=l1 q' b a2;omega
  ·have:=l3 b a1;have:=l2 b a2;omega
  ·exact hij (e1.trans e2.symm)
theorem OwnS.later{W W':World}{n0:Nat}{s:SS}{v:Value}(h:OwnS W n0 s v)(hb:Below W.heap.size W W'):OwnS W' n0 s v:=by
 obtain⟨vc,vi,vo,fc,h1,h2,h3⟩:=h;exact⟨vc,vi,vo,fc,h1,h2.later hb,h3⟩
theorem OwnS.sv{W:World}{n0:Nat}{s:SS}{v:Value}(h:OwnS W n0 s v)(hl:s.Lim):SV W Any s v:=by
 obtain⟨vc,vi,vo,fc,rfl,hr,h1,h2,h3⟩:=h;obtain⟨AI,cI,e2,k2,r2⟩:=zq8 (hr.row .inp) h2;obtain⟨AO,cO,e3,k3,r3⟩:=zq8 (hr.row .out) h3;change vi=_ at e2;change vo=_ at e3;have key:∃A c,vc=.slice A s.cells.length c/\s.cells.length<=c/\zlo W Any A s.cells:=by
  rcases Nat.eq_zero_or_pos s.cells.length with h0|h0
  ·obtain⟨A,c,e1,hc,_⟩:=zkd (hr.row .all);exact⟨A,c,e1,hc,fun i hi=>by omega⟩
  ·obtain⟨g,c,e1,hc,_,hcell⟩:=zkV (hr.row .all) h0;refine⟨_,c,e1,hc,fun i hi=>?_⟩;have bA:=hr.row (.el i);simp only[zlm,hi,if_true,List.getD_eq_getElem?_getD,List.getElem?_eq_getElem hi,Option.getD_some]at bA;obtain⟨A',c',e4,k4,r4⟩:=zq8 bA (h1 _ (List.getElem_mem hi));have ha:(⟨g,0,none⟩:Addr).add i=⟨g,i,none⟩:=by unfold Addr.add;split<;>simp_all
   refine⟨⟨g,0,none⟩,A',c',rfl,trivial,?_,k4,r4⟩;rw[ha,<-e4,hcell i (by show i<s.cells.length*1;omega)];simp[zlm,hi]
 obtain⟨A,c,e1,k1,r1⟩:=key;exact⟨A,c,AI,cI,AO,cO,by rw[e1,e2,e3],r1,r2,r3,k1,k2,k3,hl⟩
def ST.state(S:ST):SS:=⟨(S.base.cs.take (S.base.cs.length-S.base.loc)).map S.cell,S.tin,S.tout⟩
theorem ztF{S:ST}(h:S.WF):S.state.I/\S.state.Lim/\∀l∈S.state.cells,l.length<=1000:=by
 obtain⟨kd,h1,_,_⟩:=h.ex;have hc:∀l∈S.state.cells,l.length<=1000/\∀x∈l,I64 x:=fun l hl=>by
  simp only[ST.state,List.mem_map]at hl;obtain⟨c,hc,rfl⟩:=hl;exact h.cells c (h1.num c (List.mem_of_mem_take hc))
 have:=h1.len;have:=h1.lim;have:=h.tin.1;have:=h.tout.1;refine⟨⟨fun l hl=>(hc l hl).2,h.tin.2,h.tout.2⟩,⟨?_,fun l hl=>?_,?_,?_⟩,fun l hl=>(hc l hl).1⟩
 ·simp only[ST.state,List.length_map,List.length_take,LI];omega
 ·have:=(hc l hl).1;simp only[LI];omega
 ·simp only[ST.state,LI];omega
 ·simp only[ST.state,LI];omega
theorem zm6:(prog.info? 30).map (fun i=>(i.zero,i.size,i.bytes))=some (some (.slice none 0 0),1,24):=by kernel_rfl
theorem zKE:IsFn prog 138 f138:=⟨func138,by kernel_rfl,by kernel_rfl⟩
theorem zzI:IsFn prog 139 f139:=⟨func139,by kernel_rfl,by kernel_rfl⟩
theorem zy1(A B C:Option Addr)(l c m d n e:Nat)(w:World):(Instr.build 32 #[(0,.slice A l c),(1,.slice B m d),(2,.slice C n e)]).run prog w=.ok (.agg #[.slice A l c,.slice B m d,.slice C n e]) w:=by kernel_rfl
theorem zvh{W:World}{n0:Nat}{P:Ph}{S:ST}(h:SR W n0 P S):Calls prog 102 #[.pointer (some ⟨P.sb,0,none⟩)] W fun e W'=>∃v,e=.returned v/\OwnS W' W.heap.size S.state v/\Below W.heap.size W W':=by
 obtain⟨kd,hw,_,_⟩:=h.wf.ex;obtain⟨m,hm⟩:∃m,S.base.cs.length=m+S.base.loc:=⟨S.base.cs.length-S.base.loc,by have:=hw.len;have:=hw.loc;omega⟩
 have hlim:=hw.lim;have hlen:=hw.len;obtain⟨A,c,xU,-,-⟩:=zkd (h.rws.row .bc);change P.vC=.slice A S.base.cs.length c at xU;obtain⟨hI,hL,hL2⟩:=ztF h.wf;have HI:=zh hI;have HL2:=zh hL2;have nu:=zh hw.num;have hst:S.state.cells.length=m:=by simp[ST.state,hm]
 have HSG:=zh (show ∀j (hj:j<m),∃hj':j<S.base.cs.length,∃h2:j<S.state.cells.length,S.state.cells[j]=S.cell S.base.cs[j]from fun j hj=>⟨by omega,by omega,by simp[ST.state]⟩);have HST:=zh hst;have HS:=zh h;obtain⟨lc,hlc⟩:=zX (S.base.loc);rw[hlc]at hm;have hx:W.cell? ⟨P.sb,1,none⟩=some (.slice A (m+lc) c):=by rw[<-hm,<-xU];exact zc h.box rfl
 have hy:W.cell? ⟨P.sb,2,none⟩=some (.int .i64 lc):=by rw[<-hlc];exact zc h.box rfl
 have HX:=zh hx;have HM:=zh hm;have qZ:=zh xU;have x1:∀o,(W.alloc o).cell? ⟨P.sb,1,none⟩=some (.slice A (m+lc) c):=fun o=>zks hx o;have x2:∀o,(W.alloc o).cell? ⟨P.sb,2,none⟩=some (.int .i64 lc):=fun o=>zks hy o;have hmk:=fun W=>run_make_row' (P:=prog) 29 30 (.slice none 0 0) 24 underlying29 zm6 rfl .i64 .i64 m (by omega) (by omega) W;have lC:m<=4398046511000:=by omega
 clear h hw hm xU hI hL hL2 hst hlim hlen hx hy hlc;go_enter func102,ntmps102;go_wp2_with fail
 go_quiet (fail)
 go_wp2_with fail;obtain⟨W0,hW0⟩:=zX ((W.alloc (.cells #[.slice none 0 0,.slice none 0 0,.slice none 0 0] 32)).drewN nq);have HB0:=zh (show Below W.heap.size W W0 from hW0▸zkm (zka zr _) nq);have yB:=zh (show W0.heap[W.heap.size]?=some (.cells #[.slice none 0 0,.slice none 0 0,.slice none 0 0] 32 (0,0)) by
  rw[<-hW0];exact heap_alloc_new W _)
 have hz0:W0.heap.size=W.heap.size+1:=by rw[<-hW0];show(W.alloc _).heap.size=_;simp
 have HRW0:=zh (ztO W0 (fun _=>.slice none 0 0) S.state.cells m HST.out (by unfold maxLen;omega));rw[hW0];rw[hz0]at HRW0;have HZ0:=zh hz0;clear hW0 x1 x2 hmk nq hz0
 go_loopw [25] (fun i wr=>∃j:Nat,j<=m/\i=.int .i64 j/\Hid (Below W0.heap.size W0 wr)/\∃fc,Hid (Rws wr (W.heap.size+1) (zlI (.slice (some ⟨W.heap.size+1,0,none⟩) m m) fc S.state.cells j))) (fun i _=>m-(intOf i).toNat)
 case atStart=>exact⟨0,Nat.zero_le _,rfl,zh (zka zr _),_,HRW0⟩
 case round =>
  obtain⟨j,hj,rfl,ah,fc,HRW⟩:=hrel;have ui:=zh ((HS.out.later HB0.out).later ah.out);by_cases hlt:j<m
  ·obtain⟨hj',hj2,hjc⟩:=HSG.out j hlt;obtain⟨id,hid⟩:=zX (S.base.cs[j]);have aL:id<S.nc:=by rw[<-hid];exact nu.out _ (List.getElem_mem hj')
   obtain⟨gc,c2,hcc,-,-,hcell⟩:=zkV (ui.out.rws.row .bc) (by show 0<S.base.cs.length;omega);change P.vC=.slice _ S.base.cs.length c2 at hcc;have y0:wr.cell? ⟨P.sb,1,none⟩=some (.slice (some ⟨gc,0,none⟩) (m+lc) c2):=by rw[<-HM.out,<-hcc];exact zc ui.out.box rfl
   have y1:wr.cell? ⟨gc,j,none⟩=some (.pointer (some ⟨P.cb id,0,none⟩)):=by rw[hcell j (by show j<S.base.cs.length*1;omega)];simp[rows,ptrs,hj',hid]
   obtain⟨A3,c3,hci,hc3,bA⟩:=ui.out.items aL;have y2:wr.cell? ⟨P.cb id,0,none⟩=some (.slice A3 (S.cell id).length c3):=by rw[<-hci];exact zc (ui.out.cbox aL) rfl
   obtain⟨l,hl⟩:=zX (S.cell id);rw[hl]at y2 bA;have HL:=zh (show S.state.cells[j]=l by rw[hjc,hid,hl]);have hll:l.length<=1000:=by rw[<-HL.out];exact HL2.out _ (List.getElem_mem hj2)
   have dQ:=zh (zkO l A3 c3 Any wr bA (by unfold LI;omega));have hj1:(j:Int)<(m:Int):=by omega
   have xX:(j:Int)<(m:Int)+(lc:Int):=by omega
   have H2:=zh hj2;clear hcell hcc hci bA hc3 hid hl hjc hj';go_wp2_with fail;refine dQ.out.mono ?_;rintro e9 w2 ⟨v2,rfl,ho2,-,hb2⟩;obtain⟨A4,c4,rfl,-,-⟩:=zkd ho2;have hrl:=HRW.out.later hb2;have u0:w2.cell? ⟨W.heap.size+1,j,none⟩=some (.slice none 0 0):=hrl.cell none rfl (by have:=HST.out;simp[zlI,this,hlt]);have u1:w2.frozen? ⟨W.heap.size+1,j,none⟩=false:=hrl.frozen none rfl j;have s1:=zsP HRW.out hb2 H2.out l HL.out _ ho2;have HR2:=zh s1.rws;have HB2:=zh (show Below W0.heap.size W0 (w2.setCell ⟨W.heap.size+1,j,none⟩ (.slice A4 l.length c4))from ah.out.trans (s1.chg.below ah.out.size fun b ⟨q,hq⟩=>by have:=(HRW.out.lt q b hq).1;have:=HZ0.out;omega));clear ho2 hb2 s1 hrl;go_wp2_with fail
   go_roundw
   case rel=>exact⟨j+1,by omega,by go_num,HB2,_,HR2⟩
   case measure=>simp[intOf];omega
  ·obtain rfl:j=m:=by omega
   have hj1:¬ (j:Int)<(j:Int):=by omega
   have y4:wr.cell? ⟨P.sb,4,none⟩=some (.pointer (some ⟨P.tb,0,none⟩)):=zc ui.out.box rfl;have hbss:=zy1;go_upto_region 10 with fail;obtain⟨S1,hS1⟩:∃S1:World->Prop,S1=fun w':World=>w'.cell? ⟨P.sb,4,none⟩=some (.pointer (some ⟨P.tb,0,none⟩)):=⟨_,rfl⟩
   have vE:=zh (show ∀W W',S1 W->Below W.heap.size W W'->S1 W' by rw[hS1];exact fun W W' h hb=>zb hb h);have hSS:zW S1 zU wr.drew:=⟨by rw[hS1];exact y4,trivial⟩
   refine wp_region_noPanic ?_;refine zG hSS 12 ?_;subst hS1;refine zT 0 hSS ?_;refine zT 1 hSS ?_;refine zT 2 hSS ?_;refine zT 3 hSS ?_;refine zT 4 hSS ?_;refine zT 6 hSS ?_;refine zT 7 hSS ?_;refine zT 8 hSS ?_;refine zT 9 hSS ?_;have had:Calls prog 138 [.pointer (some ⟨P.tb,0,none⟩)].toArray wr.drew fun e w'=>∃u,e=.returned u/\w'.ownsRow wr.drew.heap.size 3 1 u S.tin.length (zkg S.tin)/\Below wr.drew.heap.size wr.drew w' :=
    (zze (ui.out.later zr.drew)).mono fun e w' ⟨u,hu,h1,_,h2⟩=>⟨u,hu,h1,h2⟩
   refine zo 5 fun K hK=>?_;refine zke (by rfl) (.func 138) [.tmp 48] _ (by rfl) 138 _ zKE (by rfl) _ (by rfl) _ had ?_;rintro v4 w4 ⟨eQ,hb4⟩;obtain⟨A4,c4,rfl,-,-⟩:=zkd eQ;have iV:=zh eQ;have aG:=zh hb4;have kM:=zh (vE.out _ _ hSS.1 hb4);refine hK.out _ _ ⟨kM.out,trivial⟩ ?_;clear hK K hSS had eQ hb4;(try simp only[zQ]);have had:Calls prog 139 [.pointer (some ⟨P.tb,0,none⟩)].toArray w4 fun e w'=>∃u,e=.returned u/\w'.ownsRow w4.heap.size 3 1 u S.tout.length (zkg S.tout)/\Below w4.heap.size w4 w' :=
    (zxg ((ui.out.later zr.drew).later aG.out)).mono fun e w' ⟨u,hu,h1,_,h2⟩=>⟨u,hu,h1,h2⟩
   refine zo 10 fun K hK=>?_;refine zke (by rfl) (.func 139) [.tmp 53] _ (by rfl) 139 _ zzI (by rfl) _ (by rfl) _ had ?_;rintro v5 w5 ⟨lu,hb5⟩;obtain⟨A5,c5,rfl,-,-⟩:=zkd lu;have iE:=zh lu;have aQ:=zh hb5;have vG:=zh (vE.out _ _ kM.out hb5);refine hK.out _ _ ⟨vG.out,trivial⟩ ?_;clear hK K had lu hb5;(try simp only[zQ]);refine zo 11 fun K hK=>?_;(try simp only[zA,zB,zC]);go_simp;refine hK.out _ _ ⟨vG.out,trivial⟩ ?_;clear hK K;(try simp only[zQ]);have hb5:Below W0.heap.size W0 w5:=zkb (zkb ah.out.drew aG.out) aQ.out;have jZ:=zkc yB.out hb5;have r0:w5.cell? ⟨W.heap.size,0,none⟩=some (.slice none 0 0):=zc jZ rfl;have r1:w5.cell? ⟨W.heap.size,1,none⟩=some (.slice none 0 0):=zc jZ rfl;have r2:w5.cell? ⟨W.heap.size,2,none⟩=some (.slice none 0 0):=zc jZ rfl;have rf:∀o,w5.frozen? ⟨W.heap.size,o,none⟩=false:=fun o=>zf jZ;refine zp 12 fun K hK=>?_
   (try simp only[zA,zB,zC]);go_simp;have hc6:Chg (fun b=>b=W.heap.size) w5 (((w5.setCell ⟨W.heap.size,0,none⟩ (.slice (some ⟨W.heap.size+1,0,none⟩) j j)).setCell ⟨W.heap.size,1,none⟩ (.slice A4 S.tin.length c4)).setCell ⟨W.heap.size,2,none⟩ (.slice A5 S.tout.length c5)) :=
    (((Chg.refl (fun b=>b=W.heap.size) w5).setCell (p:=⟨W.heap.size,0,none⟩) (.inl rfl) _).setCell (p:=⟨W.heap.size,1,none⟩) (.inl rfl) _).setCell (p:=⟨W.heap.size,2,none⟩) (.inl rfl) _
   have sQ:=heap_setCell_same _ W.heap.size 2 _ _ (.slice A5 S.tout.length c5) (heap_setCell_same _ W.heap.size 1 _ _ (.slice A4 S.tin.length c4) (heap_setCell_same w5 W.heap.size 0 _ _ (.slice (some ⟨W.heap.size+1,0,none⟩) j j) jZ));obtain⟨w6,oO⟩:=zX (((w5.setCell ⟨W.heap.size,0,none⟩ (.slice (some ⟨W.heap.size+1,0,none⟩) j j)).setCell ⟨W.heap.size,1,none⟩ (.slice A4 S.tin.length c4)).setCell ⟨W.heap.size,2,none⟩ (.slice A5 S.tout.length c5));rw[oO]at hc6 sQ ⊢;have hsb:P.sb<W.heap.size:=(HS.out.rws.lt .sb P.sb rfl).2;have z0:w6.cell? ⟨W.heap.size,0,none⟩=some (.slice (some ⟨W.heap.size+1,0,none⟩) j j):=zc sQ rfl;have z1:w6.cell? ⟨W.heap.size,1,none⟩=some (.slice A4 S.tin.length c4):=zc sQ rfl;have z2:w6.cell? ⟨W.heap.size,2,none⟩=some (.slice A5 S.tout.length c5):=zc sQ rfl;have hZ:=HZ0.out
   have dL:Rws w6 (W.heap.size+1) (zlm (.slice (some ⟨W.heap.size+1,0,none⟩) j j) (.slice A4 S.tin.length c4) (.slice A5 S.tout.length c5) fc S.state):=by
    have hrw:Rws wr (W.heap.size+1) (zlI (.slice (some ⟨W.heap.size+1,0,none⟩) j j) fc S.state.cells S.state.cells.length):=by rw[HST.out];exact HRW.out
    have h5:=zv7 (s:=S.state) (vi:=.slice A4 S.tin.length c4) (vo:=.slice A5 S.tout.length c5) (hrw.later zr.drew) (by have:=ah.out.size;simp;omega) aG.out iV.out aQ.out iE.out;exact h5.chg hc6 fun i b hb e=>by have:=(h5.lt i b hb).1;omega
   have aS:=zh (show OwnS w6 W.heap.size S.state (.agg #[.slice (some ⟨W.heap.size+1,0,none⟩) j j,.slice A4 S.tin.length c4,.slice A5 S.tout.length c5])from⟨_,_,_,fc,rfl,dL.mono (Nat.le_succ _),HI.out⟩);have oJ:=zh (show Below W.heap.size W w6 by
    have b5:Below W.heap.size W w5:=HB0.out.trans (hb5.mono (by omega));exact b5.trans (hc6.below b5.size fun b hb=>by omega))
   refine hK.out _ _ (zkU hc6 vG.out fun e=>by have h9:P.sb=W.heap.size:=e;omega) ?_;clear hK K hc6 sQ oO dL jZ r0 r1 r2 rf hb5;(try simp only[zQ]);refine zd ?_;refine NoPanic.normal ?_;go_wp2_with fail;exact bodyPost_ret (v:=.agg #[.slice (some ⟨W.heap.size+1,0,none⟩) j j,.slice A4 S.tin.length c4,.slice A5 S.tout.length c5]) (by simp[results,results102,go_sem,z0,z1,z2]) rfl ⟨_,rfl,aS.out,oJ.out⟩
def zzu:Go.Shelf.Ren:=⟨fun|23=>227|n=>n,fun|22=>30|3=>3|4=>4|0=>0|n=>n,fun|n=>n⟩
theorem zyw:Go.Proofs.Lays2.n23 prog zzu:={
 mixed:=by kernel_rfl
 f23:=func227.trans (congrArg some (by kernel_rfl))
 t0:=underlying0
 a0:=isAgg0
 z0:=sizeOf0
 v0:=zeroValue0
 t3:=underlying3
 a3:=isAgg3
 z3:=sizeOf3
 v3:=zeroValue3
 t4:=underlying4
 a4:=isAgg4
 z4:=sizeOf4
 v4:=zeroValue4
 t22:=underlying30
 a22:=isAgg30
 z22:=sizeOf30
 v22:=zeroValue30
 i3:=by kernel_rfl }
def zqq:Go.Shelf.Ren:=⟨fun|21=>228|27=>229|28=>230|35=>231|39=>232|n=>n,fun|22=>30|3=>3|4=>4|0=>0|n=>n,fun|n=>n⟩
theorem zpO:Go.Proofs.Lays2.n21 prog zqq:={
 mixed:=by kernel_rfl
 f21:=func228.trans (congrArg some (by kernel_rfl))
 f27:=func229.trans (congrArg some (by kernel_rfl))
 f28:=func230.trans (congrArg some (by kernel_rfl))
 f35:=func231.trans (congrArg some (by kernel_rfl))
 f39:=func232.trans (congrArg some (by kernel_rfl))
 t0:=underlying0
 a0:=isAgg0
 z0:=sizeOf0
 v0:=zeroValue0
 t3:=underlying3
 a3:=isAgg3
 z3:=sizeOf3
 v3:=zeroValue3
 t4:=underlying4
 a4:=isAgg4
 z4:=sizeOf4
 v4:=zeroValue4
 t22:=underlying30
 a22:=isAgg30
 z22:=sizeOf30
 v22:=zeroValue30
 i3:=by kernel_rfl }
theorem zk3{g:Nat}{e:TypeId}:∀(vs:List Value) (o:Nat) (w:World) (cur:Array Value),w.heap[g]?=some (.cells cur e (0,0))->∃cur',(w.setCells g o vs).heap[g]?=some (.cells cur' e (0,0))/\cur'.size=cur.size
 | [],_,_,cur,h=>⟨cur,h,rfl⟩
 | v::vs,o,w,cur,h=>by
  obtain⟨cur',h1,h2⟩:=zk3 vs (o+1) (w.setCell ⟨g,o,none⟩ v) _ (heap_setCell_same w g o cur _ v h);exact⟨cur',h1,by rw[h2];simp⟩
theorem zk2(g:Nat):∀(vs:List Value) (o:Nat) (w:World),Chg (fun b=>b=g) w (w.setCells g o vs)
 | [],_,w=>Chg.refl _ w
 | v::vs,o,w=>((Chg.refl (fun b=>b=g) w).setCell (p:=⟨g,o,none⟩) (.inl rfl) v).trans (zk2 g vs (o+1) (w.setCell ⟨g,o,none⟩ v))
theorem zlB{W:World}{base g cap n:Nat}{e:TypeId}{cur:Array Value}{xs:List Value}(hb:base<=g)(hg:W.heap[g]?=some (.cells cur e (0,0)))(hs:cur.size=cap)(hn:n<=cap)(hm:cap<=maxLen)(hx:xs.length=n)(hc:∀j u,xs[j]?=some u->W.cell? ⟨g,j,none⟩=some u) :
  W.ownsRow base e 1 (.slice (some ⟨g,0,none⟩) n cap) n xs:=by
 refine⟨by omega,.inr ⟨g,cap,cur,rfl,hb,hg,hn,hm,by omega,?_⟩⟩;refine List.ext_getElem (by simp;omega) fun j h1 h2=>?_;have:=hc j xs[j] (List.getElem?_eq_getElem h2);simp only[World.cell?,hg]at this;simp at this;rw[List.getElem_take];have h3:j<cur.size:=by omega
 rw[Array.getElem?_eq_getElem h3]at this;simpa using this
theorem zmN{w:World}{g o:Nat}{vs:List Value}(h:∀j,j<vs.length->(w.cell? ⟨g,o+j,none⟩).isSome=true){k:Nat}{u:Value}(hk:o<=k)(hu:vs[k-o]?=some u):(w.setCells g o vs).cell? ⟨g,k,none⟩=some u:=by
 obtain⟨h1,h2⟩:=List.getElem?_eq_some_iff.1 hu;have:=World.cell?_setCells_in g vs o w h (k-o) h1;rw[show o+(k-o)=k by omega]at this;rw[this,h2]
theorem zlR{w:World}{g o:Nat}{vs:List Value}{k:Nat}(hk:k<o\/o+vs.length<=k):(w.setCells g o vs).cell? ⟨g,k,none⟩=w.cell? ⟨g,k,none⟩:=World.cell?_setCells_out g vs o w ⟨g,k,none⟩ fun _ _=>hk
theorem zm5{w:World}{g o:Nat}{vs:List Value}(k:Nat)(hk:(w.cell? ⟨g,k,none⟩).isSome=true):((w.setCells g o vs).cell? ⟨g,k,none⟩).isSome=true:=by
 induction vs generalizing w o with
 | nil=>exact hk
 | cons v vs ih =>
  refine ih ?_;by_cases e:o=k
  ·subst e;obtain⟨u,hu⟩:=Option.isSome_iff_exists.1 hk;rw[World.cell?_setCell_same _ _ _ hu];rfl
  ·rw[World.cell?_setCell_other]
   ·exact hk
   ·intro h;injection h;omega
theorem zsw(w:World)(cs:Array Value)(E:TypeId)(j:Nat):(w.alloc (.cells cs E)).cell? ⟨w.heap.size,j,none⟩=cs[j]?:=by
 have h:=heap_alloc_new w (.cells cs E);simp only[World.cell?,h];simp
def InsP(W:World)(n0:Nat)(v:Value)(ys:List Int)(e:Ending)(W':World):Prop:=∃v',e=.returned v'/\W'.ownsRow n0 3 1 v' ys.length (zkg ys)/\Chg (fun b=>v.ownBlock=some b) W W'/\∀b,v'.ownBlock=some b->v.ownBlock=some b\/W.heap.size<=b
theorem zow(xs:List Int):∀u∈zkg xs,u.oneCell'=true:=fun u hu=>by
 simp only[zkg,List.mem_map]at hu;obtain⟨x,_,rfl⟩:=hu;rfl
theorem zkx(xs:List Int):(zkg xs).length=xs.length:=by simp[zkg]
theorem zmz(xs ys:List Int):zkg (xs++ys)=zkg xs++zkg ys:=by simp[zkg]
theorem zth{W:World}{n0:Nat}{v:Value}{xs:List Int}(h:W.ownsRow n0 3 1 v xs.length (zkg xs))(i:Nat)(hi:i<=xs.length)(hl:xs.length<=4096)(hn0:n0<=W.heap.size)(x:Int)(vb:Nat)(hvb:W.heap[vb]?=some (.cells #[.int .i64 x] 3 (0,0)))(hne:v.ownBlock≠some vb) :
  Calls prog 228 #[v,.int .i64 i,.slice (some ⟨vb,0,none⟩) 1 1] W (InsP W n0 v (xs.take i++x::xs.drop i)):=by
 have hvs:∀j u,[Value.int .i64 x][j]?=some u->W.cell? ⟨vb,0+j,none⟩=some u:=fun j u hj=>by
  rw[Nat.zero_add];simp only[World.cell?,hvb];simpa using hj
 have hv1:∀u∈[Value.int .i64 x],u.oneCell'=true:=fun u hu=>by simp at hu;subst hu;rfl
 have hys:(xs.take i++x::xs.drop i).length=xs.length+1:=by simp;omega
 have hmax:maxLen=9223372036854775807:=rfl;have grow_end:∀(base:Option Addr) (c:Nat),xs.length<=c->c<xs.length+1->(base=none->xs.length=0)->(∀a,base=some a->∀j u,(zkg xs)[j]?=some u->W.cell? (a.add j)=some u)->i=xs.length->v=.slice base xs.length c ->
   Calls prog 228 #[.slice base xs.length c,.int .i64 i,.slice (some ⟨vb,0,none⟩) 1 1] W (InsP W n0 v (xs.take i++x::xs.drop i)):=fun base c h1 h2 h3 h4 hie _=>by
  subst hie;refine(Any2.slices_Insert_int_end_grow zpO base xs.length c vb 0 1 1 (zkg xs) [.int .i64 x] W (by omega) h1 h2 (by omega) (zkx xs) rfl h3 h4 hvs hv1).mono ?_;rintro e W' ⟨rfl,rfl⟩;refine⟨_,rfl,?_,(Chg.refl _ W).drew.alloc _,fun b hb=>.inr ?_⟩
  ·rw[hys];have hge:=grownCap_ge W (xs.length+1) c (zqq.t 3);refine zlB (e:=3) hn0 (heap_alloc_new W.drew _) ?_ hge (grownCap_le_maxLen _ _ _ _ (by omega)) (by rw[zkx,hys]) ?_
   ·rw[Array.size_append,size_zeroCells,List.size_toArray,List.length_append,zkx,show(Value.int .i64 0).cells.size=1 from rfl];simp only[List.length_singleton,Nat.mul_one];omega
   ·intro j u hj;rw[List.take_of_length_le zl,List.drop_eq_nil_of_le zl,zmz]at hj;rw[show W.heap.size=W.drew.heap.size from rfl,zsw];obtain⟨h5,h6⟩:=List.getElem?_eq_some_iff.1 hj;rw[Array.getElem?_append_left (by simpa[zkg]using h5)];simpa[zkg]using hj
  ·simp[Value.ownBlock]at hb;omega
 rcases h.2 with⟨rfl,h0⟩|⟨g,cap,cur,rfl,hb,hg,hnc,hcm,hz,hx⟩
 ·have h0':xs.length=0:=h0;have hi0:i=xs.length:=by omega
  have:=grow_end none 0 (by omega) (by omega) (fun _=>h0') (fun a e=>by cases e) hi0 (by rw[h0']);rw[h0']at this;exact this
 ·have hcs:∀j u,(zkg xs)[j]?=some u->W.cell? ⟨g,j,none⟩=some u:=fun j u hj=>by
   have hj':=(List.getElem?_eq_some_iff.1 hj).1;rw[zkx]at hj';exact(h.cellAt j (by omega)).trans hj
  have hgv:g≠vb:=fun e=>hne (by rw[e];rfl);have hsp:∀j,j<cap->(W.cell? ⟨g,j,none⟩).isSome=true:=fun j hj=>by
   simp only[World.cell?,hg];have:j<cur.size:=by omega
   simp[this]
  have hfz:∀j,W.frozen? ⟨g,j,none⟩=false:=fun j=>zf hg;rcases Nat.lt_or_ge cap (xs.length+1)with hroom|hroom
  ·rcases Nat.lt_or_ge i xs.length with hlt|hge
   ·refine(Any2.slices_Insert_int_grow zpO g 0 xs.length cap i vb 0 1 1 (zkg xs) [.int .i64 x] W hlt (by omega) hnc hroom (by omega) (zkx xs) rfl (fun j u hj=>by rw[Nat.zero_add];exact hcs j u hj) hvs (zow xs) hv1).mono ?_;rintro e W' ⟨rfl,rfl⟩;have hge:=grownCap_ge W (xs.length+1) cap (zqq.t 3);obtain⟨G,hG⟩:=zX (grownCap W (xs.length+1) cap (zqq.t 3));have hGm:G<=maxLen:=hG▸grownCap_le_maxLen W _ _ _ (by omega);rw[hG]at hge ⊢;obtain⟨C,hC⟩:=zX ((((zkg xs).take i).toArray++Builtin.zeroCells (Value.int .i64 0).cells (xs.length+1-i)++Builtin.zeroCells (Value.int .i64 0).cells (G-(xs.length+1))));have hCs:C.size=G:=by
     rw[<-hC,Array.size_append,Array.size_append,size_zeroCells,size_zeroCells,show(Value.int .i64 0).cells.size=1 from rfl,List.size_toArray,List.length_take,zkx];omega
    have hC0:∀j,j<i->C[j]?=(zkg xs)[j]?:=fun j hj=>by
     rw[<-hC,Array.getElem?_append_left (by simp[zkg];omega),Array.getElem?_append_left (by simp[zkg];omega)];simp[List.getElem?_take_of_lt hj]
    rw[hC];obtain⟨W1,hW1⟩:=zX (W.alloc (.cells C 3));have e1:W.alloc (.cells C (zqq.t 3))=W1:=hW1;rw[e1];have hh:W1.heap[W.heap.size]?=some (.cells C 3 (0,0)):=hW1▸heap_alloc_new W _;have hcell:∀j,W1.cell? ⟨W.heap.size,j,none⟩=C[j]?:=fun j=>by rw[<-hW1];exact zsw W C _ j
    have hb1:Below W.heap.size W W1:=hW1▸zka zr _;have hdl:((zkg xs).drop i).length=xs.length-i:=by rw[List.length_drop,zkx]
    obtain⟨mK,k1,k2⟩:=zk3 [.int .i64 x] i W1.drew C hh;obtain⟨cur2,k3,k4⟩:=zk3 ((zkg xs).drop i) (i+1) (W1.drew.setCells W.heap.size i [.int .i64 x]).drew mK k1;have hsp0:∀j,j<G->(W1.drew.cell? ⟨W.heap.size,j,none⟩).isSome=true:=fun j hj=>by
     have h9:W1.drew.cell? ⟨W.heap.size,j,none⟩=C[j]?:=hcell j;rw[h9,Array.getElem?_eq_getElem (by omega)];rfl
    have hsp1:∀j,j<G->((W1.drew.setCells W.heap.size i [.int .i64 x]).drew.cell? ⟨W.heap.size,j,none⟩).isSome=true:=fun j hj=>zm5 j (hsp0 j hj);refine⟨_,rfl,?_,?_,fun b hb=>.inr (by simp[Value.ownBlock]at hb;omega)⟩
    ·rw[hys];refine zlB hn0 k3 (by omega) hge hGm (by rw[zkx,hys]) ?_;intro j u hj;rw[zmz]at hj;have hti:(zkg (xs.take i)).length=i:=by rw[zkx,List.length_take];omega
     rcases Nat.lt_trichotomy j i with hji|hji|hji
     ·rw[zlR (.inl (by omega))]
      show(W1.drew.setCells W.heap.size i [.int .i64 x]).cell? ⟨W.heap.size,j,none⟩=_
      rw[zlR (.inl hji)]
      show W1.cell? ⟨W.heap.size,j,none⟩=_
      rw[hcell j,hC0 j hji];rw[List.getElem?_append_left (by omega)]at hj;rw[zkg,List.map_take,List.getElem?_take_of_lt hji]at hj;exact hj
     ·subst hji;rw[zlR (.inl (by omega))]
      show(W1.drew.setCells W.heap.size j [.int .i64 x]).cell? ⟨W.heap.size,j,none⟩=_
      refine zmN (fun q hq=>hsp0 (j+q) (by simp at hq;omega)) zl ?_;rw[List.getElem?_append_right (by omega),hti]at hj;simpa[zkg]using hj
     ·refine zmN (fun q hq=>hsp1 (i+1+q) (by rw[hdl]at hq;omega)) (by omega) ?_;rw[List.getElem?_append_right (by omega),hti,show j-i=(j-(i+1))+1 by omega]at hj;simpa[zkg]using hj
    ·have c1:Chg (fun b=>b=W.heap.size) W (((W1.drew.setCells W.heap.size i [.int .i64 x]).drew).setCells W.heap.size (i+1) ((zkg xs).drop i)) :=
      (((Chg.of_below hb1).drew.trans (zk2 W.heap.size _ _ _)).drew).trans (zk2 W.heap.size _ _ _)
     exact c1.mono fun b hb e=>by omega
   ·exact grow_end (some ⟨g,0,none⟩) cap hnc hroom (fun e=>by cases e) (fun a e j u hj=>by injection e with e;subst e;rw[Addr.add_lit,Nat.zero_add];exact hcs j u hj) (by omega) rfl
  ·rcases Nat.lt_or_ge i xs.length with hlt|hge
   ·refine(Any2.slices_Insert_int_shift zpO g 0 xs.length cap i vb 0 1 1 (zkg xs) [.int .i64 x] W hlt (by omega) hroom (by omega) (Ne.symm hgv) (zkx xs) rfl (fun j u hj=>by rw[Nat.zero_add];exact hcs j u hj) (fun j hj=>by rw[Nat.zero_add];exact hsp j (by omega)) (fun j _=>hfz _) hvs (zow xs) hv1 3 3 1 cur.size (by simp[World.shape?,hvb]) (by simp[World.shape?,hg]) (by omega) (zf hvb) (zf hvb)).mono ?_;rintro e W' ⟨rfl,rfl⟩;simp only[Nat.zero_add];have hdl:((zkg xs).drop i).length=xs.length-i:=by rw[List.length_drop,zkx]
    obtain⟨mK,k1,k2⟩:=zk3 ((zkg xs).drop i) (i+1) W.drew cur hg;obtain⟨cur2,k3,k4⟩:=zk3 [.int .i64 x] i _ mK k1;have hsp1:∀j,j<cap->((W.drew.setCells g (i+1) ((zkg xs).drop i)).cell? ⟨g,j,none⟩).isSome=true:=fun j hj=>zm5 j (hsp j hj);refine⟨_,rfl,?_,((Chg.of_below (Below.refl _ W).drew).trans ((zk2 g _ _ _).trans (zk2 g _ _ _))).mono fun b _ e=>by rw[e];rfl,fun b hb=>.inl hb⟩;rw[hys];refine zlB hb k3 (by omega) hroom hcm (by rw[zkx,hys]) ?_;intro j u hj;rw[zmz]at hj;have hti:(zkg (xs.take i)).length=i:=by rw[zkx,List.length_take];omega
    rcases Nat.lt_trichotomy j i with hji|hji|hji
    ·rw[zlR (.inl hji),zlR (.inl (by omega))];rw[List.getElem?_append_left (by omega)]at hj;refine hcs j u ?_;rw[zkg,List.map_take,List.getElem?_take_of_lt hji]at hj;exact hj
    ·subst hji;refine zmN (fun q hq=>hsp1 _ (by simp at hq;omega)) zl ?_;rw[List.getElem?_append_right (by omega),hti]at hj;simpa[zkg]using hj
    ·rw[zlR (.inr (by simp;omega))];refine zmN (w:=W.drew) (o:=i+1) (fun q hq=>hsp (i+1+q) (by rw[hdl]at hq;omega)) (by omega) ?_;rw[List.getElem?_append_right (by omega),hti,show j-i=(j-(i+1))+1 by omega]at hj;simpa[zkg]using hj
   ·have hie:i=xs.length:=by omega
    subst hie;refine(Any2.slices_Insert_int_end_room zpO g 0 xs.length cap vb 0 1 1 [.int .i64 x] W (by omega) hroom (by omega) rfl (fun j hj=>by rw[Nat.zero_add];exact hsp _ (by omega)) (fun j _=>hfz _) hvs hv1).mono ?_;rintro e W' ⟨rfl,rfl⟩;simp only[Nat.zero_add];obtain⟨mK,k1,k2⟩:=zk3 [.int .i64 x] xs.length W cur hg;refine⟨_,rfl,?_,(zk2 g _ _ _).mono fun b _ e=>by rw[e];rfl,fun b hb=>.inl hb⟩;rw[hys];refine zlB hb k1 (by omega) hroom hcm (by rw[zkx,hys]) ?_;intro j u hj;rw[List.take_of_length_le zl,List.drop_eq_nil_of_le zl,zmz]at hj;rcases Nat.lt_or_ge j xs.length with hji|hji
    ·rw[zlR (.inl hji)];rw[List.getElem?_append_left (by rw[zkx];exact hji)]at hj;exact hcs j u hj
    ·refine zmN (fun q hq=>hsp _ (by simp at hq;omega)) hji ?_;rw[List.getElem?_append_right (by rw[zkx];exact hji),zkx]at hj;exact hj
theorem ztk{W:World}{n0:Nat}{v:Value}{xs:List Int}(h:W.ownsRow n0 3 1 v xs.length (zkg xs))(i:Nat)(hi:i<xs.length)(hl:xs.length<=4096) :
  Calls prog 227 #[v,.int .i64 i,.int .i64 ((i:Int)+1)] W (InsP W n0 v (xs.take i++xs.drop (i+1))):=by
 rcases h.2 with⟨rfl,h0⟩|⟨g,cap,cur,rfl,hb,hg,hnc,hcm,hz,hx⟩
 ·omega
 ·have hcs:∀j u,(zkg xs)[j]?=some u->W.cell? ⟨g,j,none⟩=some u:=fun j u hj=>by
   have hj':=(List.getElem?_eq_some_iff.1 hj).1;rw[zkx]at hj';exact(h.cellAt j (by omega)).trans hj
  have hsp:∀j,j<cap->(W.cell? ⟨g,j,none⟩).isSome=true:=fun j hj=>by
   simp only[World.cell?,hg];have:j<cur.size:=by omega
   simp[this]
  have hmax:maxLen=9223372036854775807:=rfl;refine(Any.slices_Delete_int_cells zyw g 0 xs.length cap i (i+1) xs W zl hnc (by omega) (by omega) (by omega) (fun j hj=>by rw[Nat.zero_add];exact hcs j _ (by simp[zkg,hj])) (fun j _=>zf hg)).mono ?_;rintro e W' ⟨rfl,q,rfl⟩;have hys:(xs.take i++xs.drop (i+1)).length=xs.length-1:=by simp;omega
  rw[List.take_of_length_le zl];obtain⟨mK,k1,k2⟩:=zk3 ((xs.take i++xs.drop (i+1)++List.replicate (i+1-i) 0).map (Value.int .i64)) 0 (W.drewN q) cur hg;have hlen:((xs.take i++xs.drop (i+1)++List.replicate (i+1-i) (0:Int)).map (Value.int .i64)).length=xs.length:=by simp;omega
  refine⟨_,rfl,?_,((Chg.of_below (zkm (Below.refl _ W) q)).trans (zk2 g _ _ _)).mono fun b _ e=>by rw[e];rfl,fun b hb=>.inl hb⟩;rw[show xs.length-(i+1-i)=xs.length-1 by omega,hys];refine zlB hb k1 (by omega) (by omega) hcm (by rw[zkx,hys]) ?_;intro j u hj;have hj':=(List.getElem?_eq_some_iff.1 hj).1;rw[zkx,hys]at hj';refine zmN (w:=W.drewN q) (o:=0) (fun k hk=>by rw[Nat.zero_add];exact hsp k (by omega)) (Nat.zero_le _) ?_;rw[Nat.sub_zero,List.map_append,List.getElem?_append_left (by rw[List.length_map,hys];exact hj')];exact hj
section
variable {I:Type} [DecidableEq I] {n0:Nat} {d:I->RowD} {W:World}
theorem zof(h:Rws W n0 d)(i0 iv:I)(h01:i0≠iv)(b o:Nat)(hb:(d i0).v.ownBlock=some b)(hov:(d i0).xs[o]?=some (d iv).v)(xs:List Int)(hiv:d iv=⟨(d iv).v,3,1,xs.length,zkg xs⟩)(hl:xs.length<=4096)(i:Nat)(hi:i<=xs.length)(x:Int) :
  Calls prog 226 #[.pointer (some ⟨b,o,none⟩),.int .i64 i,.int .i64 x] W fun e W'=>(4096<=xs.length/\e=.returned (.int .i64 5)/\Below W.heap.size W W') \/
   (xs.length<4096/\e=.returned (.int .i64 0)/\∃vv,Stp n0 d W (updR (updR d iv ⟨vv,3,1,xs.length+1,zkg (xs.take i++x::xs.drop i)⟩) i0 { d i0 with xs:=(d i0).xs.set o vv }) W'):=by
 have fQ:=h.row iv;rw[hiv]at fQ;obtain⟨A1,c1,e1,-⟩:=zkd fQ;dsimp only at e1 fQ;have x0:W.cell? ⟨b,o,none⟩=some (.slice A1 xs.length c1):=by rw[<-e1];exact h.cell i0 hb hov
 have HX0:=zh x0;have HR:=zh h;have hn0:=h.lt i0 b hb;obtain⟨n,hn⟩:=zX (xs.length);have HN:=zh hn;have jW:=zh e1;have xy:=zh fQ;rw[hn]at x0 hl;have hbi:=zpY;clear h fQ hn e1;by_cases hfull:4096<=n
 ·obtain rfl:n=4096:=by omega
  go_enter func226,ntmps226;go_wp2_with fail;go_ret;exact .inl ⟨by rw[HN.out];exact zl,rfl,zr⟩
 ·have hnf:¬ (4096:Int)<=(n:Int):=by omega
  have hbl:Below W.heap.size W (W.alloc (.cells #[.int .i64 x] 3)):=zka zr _;have hnw:∀b',(d iv).v.ownBlock=some b'->b'<W.heap.size:=fun b' e=>(HR.out.lt iv b' e).2;have qE:=zh (zth (zko xy.out hbl) i hi (by rw[HN.out];exact hl) (by simp;omega) x W.heap.size (heap_alloc_new W _) (fun e=>by have:=hnw _ e;omega));rw[jW.out,HN.out]at qE;have hcb:=zb hbl HX0.out;go_enter func226,ntmps226;go_wp2_with fail;refine qE.out.mono ?_;rintro e w2 ⟨v',rfl,ho,hc,aj⟩;have hys:(xs.take i++x::xs.drop i).length=n+1:=by rw[<-HN.out];simp;have:=HN.out;omega
  rw[hys]at ho;obtain⟨g8,aH,rfl⟩:=ownsRow_succ ho;have HR1:=HR.out.later hbl;have st1:Stp n0 d (W.alloc (.cells #[.int .i64 x] 3)) (updR d iv ⟨.slice (some ⟨g8,0,none⟩) (n+1) aH,3,1,n+1,zkg (xs.take i++x::xs.drop i)⟩) w2 :=
   Stp.upd (i:=iv) HR1 (hc.mono fun b' _ hb'=>by rw[jW.out,HN.out];exact hb') ho (fun b' hb'=>by rw[jW.out,HN.out];exact aj b' hb')
  have hd0:updR d iv ⟨.slice (some ⟨g8,0,none⟩) (n+1) aH,3,1,n+1,zkg (xs.take i++x::xs.drop i)⟩ i0=d i0:=zkj h01;have z0:w2.cell? ⟨b,o,none⟩=some (.slice A1 n c1):=by rw[<-HN.out,<-jW.out];exact st1.rws.cell i0 (by rw[hd0];exact hb) (by rw[hd0];exact hov)
  have zf:w2.frozen? ⟨b,o,none⟩=false:=st1.rws.frozen i0 (by rw[hd0];exact hb) o;have st2:=Stp.set (i:=i0) st1.rws (g:=b) (by rw[hd0];exact hb) (o:=o) (by rw[hd0];exact(List.getElem?_eq_some_iff.1 hov).1) (.slice (some ⟨g8,0,none⟩) (n+1) aH);rw[hd0]at st2;have iL:=zh ((st1.trans st2).after hbl HR.out);clear st1 st2 ho hc aj qE hcb;go_wp2_with fail;go_ret;refine .inr ⟨by rw[HN.out];omega,rfl,.slice (some ⟨g8,0,none⟩) (n+1) aH,?_⟩;rw[HN.out];exact iL.out
theorem zoe(h:Rws W n0 d)(i0 iv:I)(h01:i0≠iv)(b o:Nat)(hb:(d i0).v.ownBlock=some b)(hov:(d i0).xs[o]?=some (d iv).v)(xs:List Int)(hiv:d iv=⟨(d iv).v,3,1,xs.length,zkg xs⟩)(hl:xs.length<=4096)(k:Int)(i:Nat)(hi:0<xs.length->k=i/\i<xs.length) :
  Calls prog 225 #[.pointer (some ⟨b,o,none⟩),.int .i64 k] W fun e W'=>(xs.length=0/\e=.returned (.tuple #[.int .i64 0,.int .i64 17])/\Below W.heap.size W W') \/
   (0<xs.length/\e=.returned (.tuple #[.int .i64 (xs.getD i 0),.int .i64 0])/\∃vv,Stp n0 d W (updR (updR d iv ⟨vv,3,1,xs.length-1,zkg (xs.take i++xs.drop (i+1))⟩) i0 { d i0 with xs:=(d i0).xs.set o vv }) W'):=by
 have fQ:=h.row iv;rw[hiv]at fQ;obtain⟨A1,c1,e1,-⟩:=zkd fQ;dsimp only at e1 fQ;have x0:W.cell? ⟨b,o,none⟩=some (.slice A1 xs.length c1):=by rw[<-e1];exact h.cell i0 hb hov
 have HX0:=zh x0;have HR:=zh h;obtain⟨n,hn⟩:=zX (xs.length);have HN:=zh hn;have jW:=zh e1;have xy:=zh fQ;rw[hn]at x0 hl hi;clear h hn e1;rcases Nat.eq_zero_or_pos n with h0|h0
 ·subst h0;clear fQ;go_enter func225,ntmps225;go_wp2_with fail;go_ret2;exact .inl ⟨HN.out,rfl,zr⟩
 ·obtain⟨rfl,hin⟩:=hi h0;obtain⟨g,c2,hv2,-,-,hcell⟩:=zkV fQ (by rw[HN.out];exact h0);rw[jW.out]at hv2;injection hv2 with a1 a2 a3;subst a1 a3;obtain⟨y,hy⟩:=zX (xs.getD i 0);have x1:W.cell? ⟨g,i,none⟩=some (.int .i64 y):=by
   rw[hcell i (by rw[HN.out];omega),<-hy];have:i<xs.length:=by rw[HN.out];exact hin
   simp[zkg,this]
  have hn0:¬ (n:Int)=0:=by omega
  have hn1:((n:Int)==0)=false:=by simpa using hn0
  have hin':(i:Int)<(n:Int):=by omega
  have qE:=zh (ztk xy.out i (by rw[HN.out];exact hin) (by rw[HN.out];exact hl));rw[jW.out,HN.out]at qE;have HY:=zh hy;clear fQ hcell hy hi;go_enter func225,ntmps225;go_wp2_with fail;refine qE.out.mono ?_;rintro e w2 ⟨v',rfl,ho,hc,aj⟩;have hys:(xs.take i++xs.drop (i+1)).length=n-1:=by rw[<-HN.out];simp;have:=HN.out;omega
  rw[hys]at ho;obtain⟨A8,aH,rfl,-,-⟩:=zkd ho;have st1:Stp n0 d W (updR d iv ⟨.slice A8 (n-1) aH,3,1,n-1,zkg (xs.take i++xs.drop (i+1))⟩) w2 :=
   Stp.upd (i:=iv) HR.out (hc.mono fun b' _ hb'=>by rw[jW.out,HN.out];exact hb') ho (fun b' hb'=>by rw[jW.out,HN.out];exact aj b' hb')
  have hd0:updR d iv ⟨.slice A8 (n-1) aH,3,1,n-1,zkg (xs.take i++xs.drop (i+1))⟩ i0=d i0:=zkj h01;have z0:w2.cell? ⟨b,o,none⟩=some (.slice (some ⟨g,0,none⟩) n c1):=by rw[<-HN.out,<-jW.out];exact st1.rws.cell i0 (by rw[hd0];exact hb) (by rw[hd0];exact hov)
  have zf:w2.frozen? ⟨b,o,none⟩=false:=st1.rws.frozen i0 (by rw[hd0];exact hb) o;have st2:=Stp.set (i:=i0) st1.rws (g:=b) (by rw[hd0];exact hb) (o:=o) (by rw[hd0];exact(List.getElem?_eq_some_iff.1 hov).1) (.slice A8 (n-1) aH);rw[hd0]at st2;have iL:=zh (st1.trans st2);clear st1 st2 ho hc aj qE;go_wp2_with fail;go_ret2;refine .inr ⟨by rw[HN.out];omega,by rw[HY.out];rfl,.slice A8 (n-1) aH,?_⟩;rw[HN.out];exact iL.out
end
theorem zrT(P:Ph)(S:ST)(vv:Value)(ys:List Int):rows { P with vI:=vv } { S with tin:=ys }=updR (updR (rows P S) .tin ⟨vv,3,1,ys.length,zkg ys⟩) .tb { rows P S .tb with xs:=(rows P S .tb).xs.set 0 vv }:=by
 funext r
 cases r with
 | calls=>simp only[updR,reduceCtorEq,if_false,rows];rw[zlv (P:=P) (P':={ P with vI:=vv }) rfl rfl]
 | _=>simp[updR,rows]
theorem zqm(P:Ph)(S:ST)(vv:Value)(ys:List Int):rows { P with vO:=vv } { S with tout:=ys }=updR (updR (rows P S) .tout ⟨vv,3,1,ys.length,zkg ys⟩) .tb { rows P S .tb with xs:=(rows P S .tb).xs.set 1 vv }:=by
 funext r
 cases r with
 | calls=>simp only[updR,reduceCtorEq,if_false,rows];rw[zlv (P:=P) (P':={ P with vO:=vv }) rfl rfl]
 | _=>simp[updR,rows]
theorem zxX{S:ST}(h:S.WF)(ys:List Int)(hl:ys.length<=4096)(hy:∀x∈ys,I64 x):({ S with tin:=ys }:ST).WF:=⟨h.ex,h.ncalls,h.cells,⟨hl,hy⟩,h.tout⟩
theorem zvc{S:ST}(h:S.WF)(ys:List Int)(hl:ys.length<=4096)(hy:∀x∈ys,I64 x):({ S with tout:=ys }:ST).WF:=⟨h.ex,h.ncalls,h.cells,h.tin,⟨hl,hy⟩⟩
theorem zxk{W:World}{n0:Nat}{P:Ph}{S:ST}(h:SR W n0 P S):Calls prog 212 #[.pointer (some ⟨P.tb,0,none⟩)] W fun e W' =>
  (S.tin=[]/\e=.returned (.tuple #[.int .i64 0,.int .i64 17])/\Below W.heap.size W W')\/(∃x r,S.tin=x::r/\e=.returned (.tuple #[.int .i64 x,.int .i64 0])/\∃vv,SStp n0 P S W { P with vI:=vv } { S with tin:=r } W'):=by
 have qc:=zh (zoe h.rws .tb .tin (by simp) P.tb 0 rfl rfl S.tin rfl h.wf.tin.1 0 0 (fun h=>⟨rfl,h⟩));have eD:=zh h.wf;clear h;go_enter func212,ntmps212;go_wp2_with fail;refine qc.out.mono ?_;rintro e w1 hh;rcases hh with⟨h0,rfl,hb⟩|⟨h0,rfl,vv,hst⟩
 ·have HH:=zh h0;have HB:=zh hb;clear h0 hb;go_wp2_with fail;go_ret2;exact .inl ⟨List.length_eq_zero_iff.1 HH.out,rfl,HB.out⟩
 ·have HH:=zh h0;have HST:=zh hst;clear h0 hst;go_wp2_with fail;go_ret2;refine .inr ?_;obtain⟨x,r,qJ⟩:∃x r,S.tin=x::r:=by
   cases hc:S.tin with
   | nil=>have:=HH.out;rw[hc]at this;simp at this
   | cons x r=>exact⟨x,r,rfl⟩
  have ht:=eD.out.tin;rw[qJ]at ht;refine⟨x,r,qJ,by rw[qJ];rfl,vv,⟨HST.out.cast ?_,zxX eD.out r (by have:=ht.1;simp at this;omega) fun y hy=>ht.2 y (List.mem_cons_of_mem _ hy)⟩⟩;rw[zrT P S vv r,qJ];simp
theorem zpq{W:World}{n0:Nat}{P:Ph}{S:ST}(h:SR W n0 P S)(x:Int)(hx:I64 x):Calls prog 213 #[.pointer (some ⟨P.tb,0,none⟩),.int .i64 x] W fun e W' =>
  (4096<=S.tin.length/\e=.returned (.int .i64 5)/\Below W.heap.size W W')\/(S.tin.length<4096/\e=.returned (.int .i64 0)/\∃vv,SStp n0 P S W { P with vI:=vv } { S with tin:=x::S.tin } W'):=by
 have qc:=zh (zof h.rws .tb .tin (by simp) P.tb 0 rfl rfl S.tin rfl h.wf.tin.1 0 (Nat.zero_le _) x);have eD:=zh h.wf;clear h;go_enter func213,ntmps213;go_wp2_with fail;refine qc.out.mono ?_;rintro e w1 hh;rcases hh with⟨h0,rfl,hb⟩|⟨h0,rfl,vv,hst⟩
 ·have HH:=zh h0;have HB:=zh hb;clear h0 hb;go_wp2_with fail;go_ret;exact .inl ⟨HH.out,rfl,HB.out⟩
 ·have HH:=zh h0;have HST:=zh hst;clear h0 hst;go_wp2_with fail;go_ret;have ht:=eD.out.tin;refine .inr ⟨HH.out,rfl,vv,⟨HST.out.cast ?_,zxX eD.out _ (by have:=HH.out;simp;omega) fun y hy=>?_⟩⟩
  ·rw[zrT P S vv (x::S.tin)];simp
  ·rcases List.mem_cons.1 hy with rfl|hy
   ·exact hx
   ·exact ht.2 y hy
theorem zuw:IsFn prog 226 f226:=⟨func226,by kernel_rfl,by kernel_rfl⟩
theorem zuv:IsFn prog 225 f225:=⟨func225,by kernel_rfl,by kernel_rfl⟩
theorem zqQ{W:World}{n0:Nat}{P:Ph}{S:ST}(h:SR W n0 P S)(x:Int)(hx:I64 x):Calls prog 215 #[.pointer (some ⟨P.tb,0,none⟩),.int .i64 x] W fun e W' =>
  (4096<=S.tout.length/\e=.returned (.int .i64 5)/\Below W.heap.size W W')\/(S.tout.length<4096/\e=.returned (.int .i64 0)/\∃vv,SStp n0 P S W { P with vO:=vv } { S with tout:=S.tout++[x] } W'):=by
 have qc:=zh (zof (h.later zr.drew).rws .tb .tout (by simp) P.tb 1 rfl rfl S.tout rfl h.wf.tout.1 S.tout.length zl x);have eD:=zh h.wf;have HS:=zh h;obtain⟨A,c,hv,hc,-⟩:=zkd (h.rws.row .tout);change P.vO=.slice A S.tout.length c at hv;have x0:W.cell? ⟨P.tb,1,none⟩=some (.slice A S.tout.length c):=by rw[<-hv];exact zc h.tbox rfl
 obtain⟨n,hn⟩:=zX (S.tout.length);rw[hn]at x0;have HN:=zh hn;have had:Calls prog 226 [.pointer (some ⟨P.tb,1,none⟩),.int .i64 n,.int .i64 x].toArray W.drew fun e W'=>∃u,e=.returned u /\
   ((4096<=n/\u=.int .i64 5/\Below W.heap.size W W')\/(n<4096/\u=.int .i64 0/\∃vv,SStp n0 P S W { P with vO:=vv } { S with tout:=S.tout++[x] } W')):=by
  rw[<-hn];refine qc.out.mono ?_;rintro e W' hh;rcases hh with⟨h0,rfl,hb⟩|⟨h0,rfl,vv,hst⟩
  ·exact⟨_,rfl,.inl ⟨h0,rfl,zkb zr.drew hb⟩⟩
  ·have ht:=eD.out.tout;refine⟨_,rfl,.inr ⟨h0,rfl,vv,⟨((Stp.after hst zr.drew HS.out.rws).cast ?_),zvc eD.out _ (by simp;omega) fun y hy=>?_⟩⟩⟩
   ·rw[zqm P S vv (S.tout++[x]),List.take_of_length_le zl,List.drop_eq_nil_of_le zl];simp
   ·simp only[List.mem_append,List.mem_singleton]at hy;rcases hy with hy|rfl
    ·exact ht.2 y hy
    ·exact hx
 clear h hv hc hn qc;go_enter func215,ntmps215;go_upto_region 3 with fail;have hSS:zU W.drew/\(fun w':World=>zv w' P.tb 1 (.slice A n c)) W.drew:=⟨trivial,x0⟩
 refine wp_region_noPanic ?_;refine zkk zU (fun w':World=>zv w' P.tb 1 (.slice A n c)) 9 (by kernel_rfl) ?_;refine zT 0 hSS ?_;refine zT 1 hSS ?_;refine zT 2 hSS ?_;refine zT 3 hSS ?_;refine zT 4 hSS ?_;refine zT 5 hSS ?_;refine zL 6 [7] hSS ?_;refine zT 7 hSS ?_;refine zT 8 hSS ?_;refine zp 9 fun K hK=>?_;refine zke (by rfl) (.func 226) [.tmp 9,.tmp 14,.tmp 15] _ (by rfl) 226 _ zuw (by rfl) _ (by rfl) _ had ?_;rintro v4 w4 hh;have HH:=zh hh;have hv4:∃y,v4=.int .i64 y:=by rcases hh with⟨_,rfl,_⟩|⟨_,rfl,_⟩<;>exact⟨_,rfl⟩
 obtain⟨y,rfl⟩:=hv4;refine hK.out _ _ trivial ?_;clear hK K hSS had hh;(try simp only[zQ]);refine zp 10 fun K hK=>?_;(try simp only[zA,zB,zC]);go_simp;refine hK.out _ _ trivial ?_;clear hK K;(try simp only[zQ]);refine zd ?_;refine NoPanic.normal ?_;go_wp2_with fail;go_ret;rcases HH.out with⟨h0,h1,h2⟩|⟨h0,h1,h2⟩
 ·exact .inl ⟨by rw[HN.out];exact h0,by rw[<-h1];rfl,h2⟩
 ·exact .inr ⟨by rw[HN.out];exact h0,by rw[<-h1];rfl,h2⟩
theorem zrw{W:World}{n0:Nat}{P:Ph}{S:ST}(h:SR W n0 P S):Calls prog 214 #[.pointer (some ⟨P.tb,0,none⟩)] W fun e W' =>
  (S.tout=[]/\e=.returned (.tuple #[.int .i64 0,.int .i64 17])/\Below W.heap.size W W')\/(∃r x,S.tout=r++[x]/\e=.returned (.tuple #[.int .i64 x,.int .i64 0])/\∃vv,SStp n0 P S W { P with vO:=vv } { S with tout:=r } W'):=by
 have qc:=zh (zoe (h.later zr.drew).rws .tb .tout (by simp) P.tb 1 rfl rfl S.tout rfl h.wf.tout.1 ((S.tout.length:Int)-1) (S.tout.length-1) (fun h=>⟨by omega,by omega⟩));have eD:=zh h.wf;have HS:=zh h;obtain⟨A,c,hv,hc,-⟩:=zkd (h.rws.row .tout);change P.vO=.slice A S.tout.length c at hv;have x0:W.cell? ⟨P.tb,1,none⟩=some (.slice A S.tout.length c):=by rw[<-hv];exact zc h.tbox rfl
 have hlen:=h.wf.tout.1;obtain⟨n,hn⟩:=zX (S.tout.length);rw[hn]at x0 hlen;have had:Calls prog 225 [.pointer (some ⟨P.tb,1,none⟩),.int .i64 ((n:Int)-1)].toArray W.drew fun e W'=>∃u,e=.returned u/\∃a1 a2,u=.tuple #[.int .i64 a1,.int .i64 a2] /\
   ((S.tout=[]/\(a1,a2)=((0:Int),(17:Int))/\Below W.heap.size W W')\/(∃r x,S.tout=r++[x]/\(a1,a2)=(x,0)/\∃vv,SStp n0 P S W { P with vO:=vv } { S with tout:=r } W')):=by
  rw[<-hn];refine qc.out.mono ?_;rintro e W' hh;rcases hh with⟨h0,rfl,hb⟩|⟨h0,rfl,vv,hst⟩
  ·exact⟨_,rfl,_,_,rfl,.inl ⟨List.length_eq_zero_iff.1 h0,rfl,zkb zr.drew hb⟩⟩
  ·have ht:=eD.out.tout;obtain⟨r,x,hrx⟩:∃r x,S.tout=r++[x]:=⟨S.tout.dropLast,S.tout.getLast (by intro e;rw[e]at h0;simp at h0),(List.dropLast_concat_getLast _).symm⟩
   rw[hrx]at ht;refine⟨_,rfl,_,_,rfl,.inr ⟨r,x,hrx,?_,vv,⟨((Stp.after hst zr.drew HS.out.rws).cast ?_),zvc eD.out _ (by have:=ht.1;simp at this;omega) fun y hy=>ht.2 y (List.mem_append_left _ hy)⟩⟩⟩
   ·rw[hrx];simp
   ·rw[zqm P S vv r,hrx];simp
 clear h hv hc hn qc;have hw1:IntKind.i64.wrap ((n:Int)-1)=(n:Int)-1:=IntWalk.i64_in _ (by omega);go_enter func214,ntmps214;go_upto_region 3 with fail;have hSS:zU W.drew/\(fun w':World=>zv w' P.tb 1 (.slice A n c)) W.drew:=⟨trivial,x0⟩
 refine wp_region_noPanic ?_;refine zkk zU (fun w':World=>zv w' P.tb 1 (.slice A n c)) 9 (by kernel_rfl) ?_;refine zT 0 hSS ?_;refine zT 1 hSS ?_;refine zT 2 hSS ?_;refine zT 3 hSS ?_;refine zT 4 hSS ?_;refine zT 5 hSS ?_;refine zL 6 [7,8] hSS ?_;refine zT 7 hSS ?_;refine zT 8 hSS ?_;refine zp 9 fun K hK=>?_;refine zke (by rfl) (.func 225) [.tmp 8,.tmp 14] _ (by rfl) 225 _ zuv (by rfl) _ (by rfl) _ had ?_;rintro v4 w4 ⟨a1,a2,rfl,hh⟩;have HH:=zh hh;refine hK.out _ _ trivial ?_;clear hK K hSS had hh;(try simp only[zQ]);refine zM 10 trivial ?_;refine zM 11 trivial ?_;refine zp 12 fun K hK=>?_;(try simp only[zA,zB,zC]);go_simp;refine hK.out _ _ trivial ?_;clear hK K;(try simp only[zQ]);refine zp 13 fun K hK=>?_;(try simp only[zA,zB,zC]);go_simp;refine hK.out _ _ trivial ?_;clear hK K;(try simp only[zQ]);refine zd ?_;refine NoPanic.normal ?_;go_wp2_with fail;go_ret2
 rcases HH.out with⟨h0,h1,h2⟩|⟨r,x,h0,h1,h2⟩
 ·injection h1 with e1 e2;subst e1 e2;exact .inl ⟨h0,rfl,h2⟩
 ·injection h1 with e1 e2;subst e1 e2;exact .inr ⟨r,a1,h0,rfl,h2⟩
end
end Go.Proofs.YtembgnhbpmfhpaaGreat
