/-
  Texts of the proof, put together without their remarks: Tq, Stf, Si, Sj.
-/
import Derived.Test.YtckhofdinldhpaaGreatS3
set_option linter.unusedSimpArgs false
set_option linter.unusedVariables false
set_option maxHeartbeats 8000000
set_option maxRecDepth 100000
namespace Go.Proofs.YtckhofdinldhpaaGreat
open Go Go.RowKit
theorem zqF (P:Ph) (S:ST) (vv:Value) (ys:List Int):rows { P with vI:=vv } { S with tin:=ys }=updR (updR (rows P S) .tin ⟨vv,3,1,ys.length,zkf ys⟩) .tb { rows P S .tb with xs:=(rows P S .tb).xs.set 0 vv }:=by
 funext r
 cases r with
 | calls=>simp only[updR,reduceCtorEq,if_false,rows];rw[zls (P:=P) (P':={ P with vI:=vv }) rfl rfl]
 | _=>simp[updR,rows]
theorem zpq (P:Ph) (S:ST) (vv:Value) (ys:List Int):rows { P with vO:=vv } { S with tout:=ys }=updR (updR (rows P S) .tout ⟨vv,3,1,ys.length,zkf ys⟩) .tb { rows P S .tb with xs:=(rows P S .tb).xs.set 1 vv }:=by
 funext r
 cases r with
 | calls=>simp only[updR,reduceCtorEq,if_false,rows];rw[zls (P:=P) (P':={ P with vO:=vv }) rfl rfl]
 | _=>simp[updR,rows]
theorem zvN {S:ST} (h:S.WF) (ys:List Int) (hl:ys.length<=4096) (hy:∀ x∈ys,I64 x):({ S with tin:=ys }:ST).WF:=⟨h.ex,h.ncalls,h.cells,⟨hl,hy⟩,h.tout⟩
theorem ztt {S:ST} (h:S.WF) (ys:List Int) (hl:ys.length<=4096) (hy:∀ x∈ys,I64 x):({ S with tout:=ys }:ST).WF:=⟨h.ex,h.ncalls,h.cells,h.tin,⟨hl,hy⟩⟩
theorem zvg {W:World} {n0:Nat} {P:Ph} {S:ST} (h:SR W n0 P S):Calls Tryz.prog 145 #[.pointer (some ⟨P.tb,0,none⟩)] W fun e W' =>
  (S.tin=[]/\e=.returned (.tuple #[.int .i64 0,.int .i64 17])/\Below W.heap.size W W')\/(∃ x r,S.tin=x::r/\e=.returned (.tuple #[.int .i64 x,.int .i64 0])/\∃ vv,SStp n0 P S W { P with vI:=vv } { S with tin:=r } W'):=by
 have o7:=zh (znX h.rws .tb .tin (by simp) P.tb 0 rfl rfl S.tin rfl h.wf.tin.1 0 0 (fun h=>⟨rfl,h⟩));have gq:=zh h.wf;clear h;go_enter Tryz.func145,Tryz.ntmps145;go_wp2_with fail;refine o7.out.mono ?_;rintro e w1 hh;rcases hh with⟨h0,rfl,hb⟩|⟨h0,rfl,vv,hst⟩
 ·have HH:=zh h0;have HB:=zh hb;clear h0 hb;go_wp2_with fail;go_ret2;exact .inl ⟨List.length_eq_zero_iff.1 HH.out,rfl,HB.out⟩
 ·have HH:=zh h0;have HST:=zh hst;clear h0 hst;go_wp2_with fail;go_ret2;refine .inr ?_;obtain⟨x,r,wY⟩:∃ x r,S.tin=x::r:=by
   cases hc:S.tin with
   | nil=>have:=HH.out;rw[hc] at this;simp at this
   | cons x r=>exact⟨x,r,rfl⟩
  have ht:=gq.out.tin;rw[wY] at ht;refine⟨x,r,wY,by rw[wY];rfl,vv,⟨HST.out.cast ?_,zvN gq.out r (by have:=ht.1;simp at this;omega) fun y hy=>ht.2 y (List.mem_cons_of_mem _ hy)⟩⟩;rw[zqF P S vv r,wY];simp
theorem zoV {W:World} {n0:Nat} {P:Ph} {S:ST} (h:SR W n0 P S) (x:Int) (hx:I64 x):Calls Tryz.prog 146 #[.pointer (some ⟨P.tb,0,none⟩),.int .i64 x] W fun e W' =>
  (4096<=S.tin.length/\e=.returned (.int .i64 5)/\Below W.heap.size W W')\/(S.tin.length<4096/\e=.returned (.int .i64 0)/\∃ vv,SStp n0 P S W { P with vI:=vv } { S with tin:=x::S.tin } W'):=by
 have o7:=zh (znY h.rws .tb .tin (by simp) P.tb 0 rfl rfl S.tin rfl h.wf.tin.1 0 (Nat.zero_le _) x);have gq:=zh h.wf;clear h;go_enter Tryz.func146,Tryz.ntmps146;go_wp2_with fail;refine o7.out.mono ?_;rintro e w1 hh;rcases hh with⟨h0,rfl,hb⟩|⟨h0,rfl,vv,hst⟩
 ·have HH:=zh h0;have HB:=zh hb;clear h0 hb;go_wp2_with fail;go_ret;exact .inl ⟨HH.out,rfl,HB.out⟩
 ·have HH:=zh h0;have HST:=zh hst;clear h0 hst;go_wp2_with fail;go_ret;have ht:=gq.out.tin;refine .inr ⟨HH.out,rfl,vv,⟨HST.out.cast ?_,zvN gq.out _ (by have:=HH.out;simp;omega) fun y hy=>?_⟩⟩
  ·rw[zqF P S vv (x::S.tin)];simp
  ·rcases List.mem_cons.1 hy with rfl|hy
   ·exact hx
   ·exact ht.2 y hy
theorem zsO:IsFn Tryz.prog 179 Tryz.f179:=⟨Tryz.func179,by kernel_rfl,by kernel_rfl⟩
theorem zsN:IsFn Tryz.prog 178 Tryz.f178:=⟨Tryz.func178,by kernel_rfl,by kernel_rfl⟩
theorem zpR {W:World} {n0:Nat} {P:Ph} {S:ST} (h:SR W n0 P S) (x:Int) (hx:I64 x):Calls Tryz.prog 148 #[.pointer (some ⟨P.tb,0,none⟩),.int .i64 x] W fun e W' =>
  (4096<=S.tout.length/\e=.returned (.int .i64 5)/\Below W.heap.size W W')\/(S.tout.length<4096/\e=.returned (.int .i64 0)/\∃ vv,SStp n0 P S W { P with vO:=vv } { S with tout:=S.tout++[x] } W'):=by
 have o7:=zh (znY (h.later (Below.refl _ _).drew).rws .tb .tout (by simp) P.tb 1 rfl rfl S.tout rfl h.wf.tout.1 S.tout.length (Nat.le_refl _) x);have gq:=zh h.wf;have HS:=zh h;obtain⟨A,c,hv,hc,-⟩:=zke (h.rws.row .tout);change P.vO=.slice A S.tout.length c at hv;have x0:W.cell? ⟨P.tb,1,none⟩=some (.slice A S.tout.length c):=by rw[<-hv];exact zc h.tbox rfl
 obtain⟨n,hn⟩:∃ n,S.tout.length=n:=⟨_,rfl⟩
 rw[hn] at x0;have HN:=zh hn;have had:Calls Tryz.prog 179 [.pointer (some ⟨P.tb,1,none⟩),.int .i64 n,.int .i64 x].toArray W.drew fun e W'=>∃ u,e=.returned u /\
   ((4096<=n/\u=.int .i64 5/\Below W.heap.size W W')\/(n<4096/\u=.int .i64 0/\∃ vv,SStp n0 P S W { P with vO:=vv } { S with tout:=S.tout++[x] } W')):=by
  rw[<-hn];refine o7.out.mono ?_;rintro e W' hh;rcases hh with⟨h0,rfl,hb⟩|⟨h0,rfl,vv,hst⟩
  ·exact⟨_,rfl,.inl ⟨h0,rfl,zka (Below.refl _ _).drew hb⟩⟩
  ·have ht:=gq.out.tout;refine⟨_,rfl,.inr ⟨h0,rfl,vv,⟨((Stp.after hst (Below.refl _ _).drew HS.out.rws).cast ?_),ztt gq.out _ (by simp;omega) fun y hy=>?_⟩⟩⟩
   ·rw[zpq P S vv (S.tout++[x]),List.take_of_length_le (Nat.le_refl _),List.drop_eq_nil_of_le (Nat.le_refl _)];simp
   ·simp only[List.mem_append,List.mem_singleton] at hy;rcases hy with hy|rfl
    ·exact ht.2 y hy
    ·exact hx
 clear h hv hc hn o7;go_enter Tryz.func148,Tryz.ntmps148;go_upto_region 3 with fail;have hSS:(fun _:World=>True) W.drew/\(fun w':World=>w'.cell? ⟨P.tb,1,none⟩=some (.slice A n c)) W.drew:=⟨trivial,x0⟩
 refine wp_region_noPanic ?_;refine zkc (fun _:World=>True) (fun w':World=>w'.cell? ⟨P.tb,1,none⟩=some (.slice A n c)) 9 (by kernel_rfl) ?_;refine zT 0 hSS ?_;(try simp only[zQ]);refine zT 1 hSS ?_;(try simp only[zQ]);refine zT 2 hSS ?_;(try simp only[zQ]);refine zT 3 hSS ?_;(try simp only[zQ]);refine zT 4 hSS ?_;(try simp only[zQ]);refine zT 5 hSS ?_;(try simp only[zQ]);refine zpk (i:=6) (v:=?_) [7] rfl (by kernel_rfl) (by kernel_rfl) (by kernel_rfl) (by decide) (by kernel_rfl) (by kernel_rfl) (fun _ _ _ h=>h) (Or.inl ⟨by rfl,?_⟩) hSS ?_;rotate_left 1
 ·(intro w hSw;(try dsimp only at hSw);(try simp only[zA,zB,zC]);go_simp;(try with_reducible rfl))
 (try simp only[zQ]);refine zT 7 hSS ?_;(try simp only[zQ]);refine zT 8 hSS ?_;(try simp only[zQ]);refine zp 9 fun K hK=>?_;refine zkg (by rfl) (.func 179) [.tmp 9,.tmp 14,.tmp 15] _ (by rfl) 179 _ zsO (by rfl) _ (by rfl) _ had ?_;rintro v4 w4 hh;have HH:=zh hh;have hv4:∃ y,v4=.int .i64 y:=by rcases hh with⟨_,rfl,_⟩|⟨_,rfl,_⟩<;>exact⟨_,rfl⟩
 obtain⟨y,rfl⟩:=hv4;refine hK.out _ _ trivial ?_;clear hK K hSS had hh;(try simp only[zQ]);refine zp 10 fun K hK=>?_;(try simp only[zA,zB,zC]);go_simp;refine hK.out _ _ trivial ?_;clear hK K;(try simp only[zQ]);refine zd ?_;refine NoPanic.normal ?_;go_wp2_with fail;go_ret;rcases HH.out with⟨h0,h1,h2⟩|⟨h0,h1,h2⟩
 ·exact .inl ⟨by rw[HN.out];exact h0,by rw[<-h1];rfl,h2⟩
 ·exact .inr ⟨by rw[HN.out];exact h0,by rw[<-h1];rfl,h2⟩
theorem zqp {W:World} {n0:Nat} {P:Ph} {S:ST} (h:SR W n0 P S):Calls Tryz.prog 147 #[.pointer (some ⟨P.tb,0,none⟩)] W fun e W' =>
  (S.tout=[]/\e=.returned (.tuple #[.int .i64 0,.int .i64 17])/\Below W.heap.size W W')\/(∃ r x,S.tout=r++[x]/\e=.returned (.tuple #[.int .i64 x,.int .i64 0])/\∃ vv,SStp n0 P S W { P with vO:=vv } { S with tout:=r } W'):=by
 have o7:=zh (znX (h.later (Below.refl _ _).drew).rws .tb .tout (by simp) P.tb 1 rfl rfl S.tout rfl h.wf.tout.1 ((S.tout.length:Int)-1) (S.tout.length-1) (fun h=>⟨by omega,by omega⟩));have gq:=zh h.wf;have HS:=zh h;obtain⟨A,c,hv,hc,-⟩:=zke (h.rws.row .tout);change P.vO=.slice A S.tout.length c at hv;have x0:W.cell? ⟨P.tb,1,none⟩=some (.slice A S.tout.length c):=by rw[<-hv];exact zc h.tbox rfl
 have hlen:=h.wf.tout.1;obtain⟨n,hn⟩:∃ n,S.tout.length=n:=⟨_,rfl⟩
 rw[hn] at x0 hlen;have had:Calls Tryz.prog 178 [.pointer (some ⟨P.tb,1,none⟩),.int .i64 ((n:Int)-1)].toArray W.drew fun e W'=>∃ u,e=.returned u/\∃ a1 a2,u=.tuple #[.int .i64 a1,.int .i64 a2] /\
   ((S.tout=[]/\(a1,a2)=((0:Int),(17:Int))/\Below W.heap.size W W')\/(∃ r x,S.tout=r++[x]/\(a1,a2)=(x,0)/\∃ vv,SStp n0 P S W { P with vO:=vv } { S with tout:=r } W')):=by
  rw[<-hn];refine o7.out.mono ?_;rintro e W' hh;rcases hh with⟨h0,rfl,hb⟩|⟨h0,rfl,vv,hst⟩
  ·exact⟨_,rfl,_,_,rfl,.inl ⟨List.length_eq_zero_iff.1 h0,rfl,zka (Below.refl _ _).drew hb⟩⟩
  ·have ht:=gq.out.tout;obtain⟨r,x,hrx⟩:∃ r x,S.tout=r++[x]:=⟨S.tout.dropLast,S.tout.getLast (by intro e;rw[e] at h0;simp at h0),(List.dropLast_concat_getLast _).symm⟩
   rw[hrx] at ht;refine⟨_,rfl,_,_,rfl,.inr ⟨r,x,hrx,?_,vv,⟨((Stp.after hst (Below.refl _ _).drew HS.out.rws).cast ?_),ztt gq.out _ (by have:=ht.1;simp at this;omega) fun y hy=>ht.2 y (List.mem_append_left _ hy)⟩⟩⟩
   ·rw[hrx];simp
   ·rw[zpq P S vv r,hrx];simp
 clear h hv hc hn o7;have hw1:IntKind.i64.wrap ((n:Int)-1)=(n:Int)-1:=IntWalk.i64_in _ (by omega);go_enter Tryz.func147,Tryz.ntmps147;go_upto_region 3 with fail;have hSS:(fun _:World=>True) W.drew/\(fun w':World=>w'.cell? ⟨P.tb,1,none⟩=some (.slice A n c)) W.drew:=⟨trivial,x0⟩
 refine wp_region_noPanic ?_;refine zkc (fun _:World=>True) (fun w':World=>w'.cell? ⟨P.tb,1,none⟩=some (.slice A n c)) 9 (by kernel_rfl) ?_;refine zT 0 hSS ?_;(try simp only[zQ]);refine zT 1 hSS ?_;(try simp only[zQ]);refine zT 2 hSS ?_;(try simp only[zQ]);refine zT 3 hSS ?_;(try simp only[zQ]);refine zT 4 hSS ?_;(try simp only[zQ]);refine zT 5 hSS ?_;(try simp only[zQ]);refine zpk (i:=6) (v:=?_) [7,8] rfl (by kernel_rfl) (by kernel_rfl) (by kernel_rfl) (by decide) (by kernel_rfl) (by kernel_rfl) (fun _ _ _ h=>h) (Or.inl ⟨by rfl,?_⟩) hSS ?_;rotate_left 1
 ·(intro w hSw;(try dsimp only at hSw);(try simp only[zA,zB,zC]);go_simp;(try with_reducible rfl))
 (try simp only[zQ]);refine zT 7 hSS ?_;(try simp only[zQ]);refine zT 8 hSS ?_;(try simp only[zQ]);refine zp 9 fun K hK=>?_;refine zkg (by rfl) (.func 178) [.tmp 8,.tmp 14] _ (by rfl) 178 _ zsN (by rfl) _ (by rfl) _ had ?_;rintro v4 w4 ⟨a1,a2,rfl,hh⟩;have HH:=zh hh;refine hK.out _ _ trivial ?_;clear hK K hSS had hh;(try simp only[zQ]);refine zl2 (i:=10) (v:=?_) rfl (by kernel_rfl) (by kernel_rfl) (by kernel_rfl) (by decide) (by kernel_rfl) (fun _ _ _ h=>h) (Or.inl ⟨by rfl,?_⟩) trivial ?_;rotate_left 1
 ·(intro w hSw;(try dsimp only at hSw);(try simp only[zA,zB,zC]);go_simp;(try with_reducible rfl))
 (try simp only[zQ]);refine zl2 (i:=11) (v:=?_) rfl (by kernel_rfl) (by kernel_rfl) (by kernel_rfl) (by decide) (by kernel_rfl) (fun _ _ _ h=>h) (Or.inl ⟨by rfl,?_⟩) trivial ?_;rotate_left 1
 ·(intro w hSw;(try dsimp only at hSw);(try simp only[zA,zB,zC]);go_simp;(try with_reducible rfl))
 (try simp only[zQ]);refine zp 12 fun K hK=>?_;(try simp only[zA,zB,zC]);go_simp;refine hK.out _ _ trivial ?_;clear hK K;(try simp only[zQ]);refine zp 13 fun K hK=>?_;(try simp only[zA,zB,zC]);go_simp;refine hK.out _ _ trivial ?_;clear hK K;(try simp only[zQ]);refine zd ?_;refine NoPanic.normal ?_;go_wp2_with fail;go_ret2;rcases HH.out with⟨h0,h1,h2⟩|⟨r,x,h0,h1,h2⟩
 ·injection h1 with e1 e2;subst e1 e2;exact .inl ⟨h0,rfl,h2⟩
 ·injection h1 with e1 e2;subst e1 e2;exact .inr ⟨r,a1,h0,rfl,h2⟩
def ownE (vs:List VD) (k:Int) (s:ByteArray):Int:=if zou k=0 then 0 else match zlt vs s with
 | none=>6
 | some v=>if v.k=zou k then 0 else 7
mutual
/-- frame.fault: the first fault in pre-order. -/
def fltE (vs:List VD):T->Int
 | .nd k _ s ks=>if ownE vs k s≠0 then ownE vs k s else zlF vs ks
def zlF (vs:List VD):List T->Int
 | []=>0
 | t::ts=>if fltE vs t≠0 then fltE vs t else zlF vs ts
end
theorem zmH {vs:List VD}:∀ {ks:List T} {j:Nat} (h:j<ks.length),zlF vs (ks.take j)=0->zlF vs (ks.take (j+1))=fltE vs ks[j]
 | t::ts,0,_,_=>by simp only[List.take,zlF,List.getElem_cons_zero];split<;>simp_all
 | t::ts,j+1,h,h0=>by
  simp only[List.take,zlF,List.getElem_cons_succ] at h0 ⊢
  split at h0
  ·contradiction
  ·rename_i h1;rw[if_neg h1];exact zmH (by simpa using h) h0
theorem zmI {vs:List VD}:∀ {ks:List T} {j:Nat} (h:j<ks.length),zlF vs (ks.take j)=0->fltE vs ks[j]≠0->zlF vs ks=fltE vs ks[j]
 | t::ts,0,_,_,h1=>by simp only[zlF,List.getElem_cons_zero] at *;rw[if_pos h1]
 | t::ts,j+1,h,h0,h1=>by
  simp only[List.take,zlF,List.getElem_cons_succ] at h0 h1 ⊢
  split at h0
  ·contradiction
  ·rename_i h2;rw[if_neg h2];exact zmI (by simpa using h) h0 h1
theorem zrG (vs:List VD) (A:Option Addr) (c:Nat) (fp:Addr) (hl:vs.length<=4398046511000) (t:T):∀ (v:Value) (w:World),NV w Any t v->w.cell? fp=some (.slice A vs.length c)->RowV w Any A vs ->
  Calls Tryz.prog 59 #[.pointer (some fp),v] w fun e w'=>e=.returned (.int .i64 (fltE vs t))/\Below w.heap.size w w':=by
 induction t using T.ind with
 | _ k n s ks ih =>
  intro v w hv hc hrow;obtain⟨B,d,rfl,hf,hlk,hlc,hks⟩:=hv.open_;simp only[T.k_nd,T.n_nd,T.s_nd,T.ks_nd] at *
  have aD:=zkN hlk;have wK:=zh ih;have yZ:=zh hks;have HC:=zh hc;have aa:=zh hrow;obtain⟨R,hR⟩:∃ R,fltE vs (.nd k n s ks)=R:=⟨_,rfl⟩
  rw[hR];rw[fltE] at hR;have HR:=zh hR;obtain⟨nk,hnk⟩:∃ nk,zou k=nk:=⟨_,rfl⟩
  have wH:=zh (hnk▸zsx k);have mZ:=zh hnk;obtain⟨VL,xn⟩:∃ VL,vs.length=VL:=⟨_,rfl⟩
  have bM:=zh (show ∀ w',Below w.heap.size w w'->Calls Tryz.prog 107 #[.slice A VL c,.string s] w' fun e w''=>e=.returned (fdV (zlt vs s))/\Below w'.heap.size w' w'' from fun w' hb=>xn▸znT vs A c s Any w' (hrow.later hb) (by unfold LV;omega));rw[xn] at HC;have hc':=fun o=>zkl (o:=o) HC.out;have yJ:=zh xn;clear ih hv hf hlk hlc hks hc hrow hR hnk xn;go_enter Tryz.func59,Tryz.ntmps59;go_wp2_with fail;refine(wH.out _).mono ?_;rintro e w1 ⟨rfl,rfl⟩;have hbx:=heap_alloc_new w (.cells #[.int .u8 k,.int .i64 n,.string s,.slice B ks.length d] 29);have q1:Below w.heap.size w (w.alloc (.cells #[.int .u8 k,.int .i64 n,.string s,.slice B ks.length d] 29)):=zkd (Below.refl _ _) _;obtain⟨W1,hW1⟩:∃ W1,w.alloc (.cells #[.int .u8 k,.int .i64 n,.string s,.slice B ks.length d] 29)=W1:=⟨_,rfl⟩
  have hcW:=hc' (.cells #[.int .u8 k,.int .i64 n,.string s,.slice B ks.length d] 29);rw[hW1] at hbx q1 hcW ⊢;have aX:=zh hbx;have dL:=zh q1;have HCW:=zh hcW;obtain⟨m0,m1,m2,m3⟩:=box4 hbx;clear hbx q1 hW1 hc';by_cases hn0:nk=0
  ·subst hn0;have HRR:=zh (show zlF vs ks=R by rw[<-HR.out,ownE,if_pos mZ.out];simp);have qx:=dL;have qh:=aX;obtain⟨WX,lu⟩:∃ WX,W1=WX:=⟨_,rfl⟩
   rw[lu] at m0 m1 m2 m3 qx qh hcW ⊢;clear lu HR mZ wH bM;go_wp2_with fail
   go_loopw [10,35] (fun _ i wr=>∃ j:Nat,j<=ks.length/\i=.int .i64 j/\Below w.heap.size w wr/\wr.heap[w.heap.size]?=some (.cells #[.int .u8 k,.int .i64 n,.string s,.slice B ks.length d] 29 (0,0))/\Hid (zlF vs (ks.take j)=0)) (fun _ i _=>ks.length-(intOf i).toNat)
   case atStart=>exact⟨0,Nat.zero_le _,rfl,qx.out,qh.out,zh (by simp[zlF])⟩
   case round =>
    obtain⟨j,hj,rfl,hbl,hbx,HJ⟩:=hrel;have af:=zh hbl;have wu:=zh hbx;by_cases hlt:j<ks.length
    ·obtain⟨a,t,A1,c1,rfl,_,Ht,⟨y0,y1,y2,y3⟩,hn⟩:=(yZ.out.later hbl).nd hlt;obtain⟨re,hre⟩:∃ re,fltE vs t=re:=⟨_,rfl⟩
     have bO:=zh (show ∀ (v:Value) (w:World),NV w Any t v->w.cell? fp=some (.slice A VL c)->RowV w Any A vs->Calls Tryz.prog 59 #[.pointer (some fp),v] w fun e w'=>e=.returned (.int .i64 re)/\Below w.heap.size w w' from by
      have h1:=wK.out t (by rw[<-Ht.out];exact List.getElem_mem hlt);rw[hre,yJ.out] at h1;exact h1)
     have fq:=zh hre;have HN:=zh hn;have hal:=zkd hbl (.cells #[.int .u8 t.k,.int .i64 t.n,.string t.s,.slice A1 t.ks.length c1] 29);have wS:=zh (bO.out _ _ (HN.out.later (zkd (Below.refl _ _) (.cells #[.int .u8 t.k,.int .i64 t.n,.string t.s,.slice A1 t.ks.length c1] 29))) (zb hal HC.out) (aa.out.later hal));clear hn hbl hbx hre hal;go_wp2_with fail;refine wS.out.mono ?_;rintro e w5 ⟨rfl,gT⟩;have aR:=zh (zka (zkd af.out _) gT);have sw:=zh (zkb (zkj wu.out _) gT);clear gT y0 y1 y2 y3;by_cases hr0:re=0
     ·subst hr0;have HJ2:Hid (zlF vs (ks.take (j+1))=0):=zh (by rw[zmH hlt HJ.out,Ht.out];exact fq.out);go_wp2_with fail
      go_roundw
      case rel=>exact⟨j+1,by omega,by go_num,aR.out,sw.out,HJ2⟩
      case measure=>simp[intOf];omega
     ·have e1:(re==0)=false:=by simpa using hr0
      have e2:(re != 0)=true:=by simpa using hr0
      have HF:=zh (show R=re by rw[<-HRR.out,zmI hlt HJ.out (by rw[Ht.out,fq.out];exact hr0),Ht.out,fq.out]);clear hr0;go_wp2_with fail;go_ret;exact⟨by rw[HF.out];rfl,aR.out⟩
    ·obtain rfl:j=ks.length:=by omega
     have HF:=zh (show R=0 by
      have:=HJ.out;rw[List.take_of_length_le (Nat.le_refl _)] at this;rw[<-HRR.out];exact this)
     clear hbl hbx;go_wp2_with fail;go_ret;exact⟨by rw[HF.out];rfl,af.out⟩
  ·have e1:(nk==0)=false:=by simpa using hn0
   have e2:(nk != 0)=true:=by simpa using hn0
   obtain⟨fd,yt⟩:∃ fd,zlt vs s=fd:=⟨_,rfl⟩
   rw[yt] at bM;have wN:=zh yt;have aA:=zh (show ∀ w',Below W1.heap.size W1 w'->w'.cell? fp=some (.slice A VL c)/\w'.cell? ⟨w.heap.size,2,none⟩=some (.string s) from fun w' hb=>⟨zb hb hcW,zb hb m2⟩);have aK:=zh (aA.out _ (Below.refl _ _).drew);clear hcW m0 m1 m2 m3 yt
   cases fd with
   | none =>
    go_upto_region 3 with fail
    go_region_held3 (fun w':World=>w'.cell? fp=some (.slice A VL c)/\w'.cell? ⟨w.heap.size,2,none⟩=some (.string s))
     (first|with_reducible exact aG.out|with_reducible exact aK.out|(exact aA.out _ (zkd (Below.refl _ _) _).drew)|(exact aA.out _ (zkd b1 _))|(exact aA.out _ (((b1.setCell (by simp) _).setCell (by simp) _).setCell (by simp) _)))
     (first
      | (go_at_call 107;refine(bM.out _ (zka dL.out (by first|exact(Below.refl _ _).drew|exact(zkd (Below.refl _ _) _).drew))).mono ?_;rintro e y1 ⟨rfl,eZ⟩;have b1:Below W1.heap.size W1 y1:=zka (by first|exact(Below.refl _ _).drew|exact(zkd (Below.refl _ _) _).drew) eZ;have aG:=zh (aA.out _ b1);(try (have hz:=zkb (show(W1.alloc (.cells #[.string ⟨#[]⟩,.int .u8 0,.int .i64 0] 83)).drew.heap[W1.heap.size]?=some (.cells #[.string ⟨#[]⟩,.int .u8 0,.int .i64 0] 83 (0,0)) from heap_alloc_new W1 _) eZ;have hz0:y1.cell? ⟨W1.heap.size,0,none⟩=some (.string ⟨#[]⟩):=zc hz rfl;have hz1:y1.cell? ⟨W1.heap.size,1,none⟩=some (.int .u8 0):=zc hz rfl;have hz2:y1.cell? ⟨W1.heap.size,2,none⟩=some (.int .i64 0):=zc hz rfl;have vD:∀ i,y1.frozen? ⟨W1.heap.size,i,none⟩=false:=fun i=>zf hz)))
      | fail)
    all_goals
     have HRR:=zh (show R=6 by
      have:ownE vs k s=6:=by rw[ownE,if_neg (by rw[mZ.out];exact hn0),wN.out]
      rw[<-HR.out,this];rfl)
     have HB1:=zh (zka dL.out b1);have iV:=zh (show Below W1.heap.size W1 _ from b1);(try clear hz hz0 hz1 hz2 vD);clear b1 eZ aG HR hn0;go_wp2_with fail;go_ret
     first
      | exact⟨by rw[HRR.out];rfl,zkd HB1.out _⟩
      | exact⟨by rw[HRR.out];rfl,zka dL.out (((iV.out.setCell (by simp) _).setCell (by simp) _).setCell (by simp) _)⟩
   | some vd =>
    obtain⟨vm,vk,vl⟩:=vd;go_upto_region 3 with fail
    go_region_held3 (fun w':World=>w'.cell? fp=some (.slice A VL c)/\w'.cell? ⟨w.heap.size,2,none⟩=some (.string s))
     (first|with_reducible exact aG.out|with_reducible exact aK.out|(exact aA.out _ (zkd (Below.refl _ _) _).drew)|(exact aA.out _ (zkd b1 _))|(exact aA.out _ (((b1.setCell (by simp) _).setCell (by simp) _).setCell (by simp) _)))
     (first
      | (go_at_call 107;refine(bM.out _ (zka dL.out (by first|exact(Below.refl _ _).drew|exact(zkd (Below.refl _ _) _).drew))).mono ?_;rintro e y1 ⟨rfl,eZ⟩;have b1:Below W1.heap.size W1 y1:=zka (by first|exact(Below.refl _ _).drew|exact(zkd (Below.refl _ _) _).drew) eZ;have aG:=zh (aA.out _ b1);(try (have hz:=zkb (show(W1.alloc (.cells #[.string ⟨#[]⟩,.int .u8 0,.int .i64 0] 83)).drew.heap[W1.heap.size]?=some (.cells #[.string ⟨#[]⟩,.int .u8 0,.int .i64 0] 83 (0,0)) from heap_alloc_new W1 _) eZ;have hz0:y1.cell? ⟨W1.heap.size,0,none⟩=some (.string ⟨#[]⟩):=zc hz rfl;have hz1:y1.cell? ⟨W1.heap.size,1,none⟩=some (.int .u8 0):=zc hz rfl;have hz2:y1.cell? ⟨W1.heap.size,2,none⟩=some (.int .i64 0):=zc hz rfl;have vD:∀ i,y1.frozen? ⟨W1.heap.size,i,none⟩=false:=fun i=>zf hz)))
      | fail)
    ·obtain⟨WX,lu⟩:∃ WX,y1.alloc (.cells #[.string vm,.int .u8 vk,.int .i64 vl] 83)=WX:=⟨_,rfl⟩
     have hbX:Below W1.heap.size W1 WX:=lu▸zkd b1 _;have hvk:WX.cell? ⟨y1.heap.size,1,none⟩=some (.int .u8 vk):=by rw[<-lu];simp
     rw[lu];have qx:=zh (zka dL.out hbX);have qh:=zh (zkb aX.out hbX);obtain⟨m0,m1,m2,m3⟩:=box4 qh.out;clear b1 eZ aG hbX lu;by_cases hk:vk=nk
     ·have HRR:=zh (show zlF vs ks=R by
       have:ownE vs k s=0:=by rw[ownE,if_neg (by rw[mZ.out];exact hn0),wN.out];simp[mZ.out,hk]
       rw[<-HR.out,this];simp)
      have e1:(vk==nk)=true:=by simpa using hk
      have e2:(vk != nk)=false:=by simpa using hk
      clear hn0 hk;go_wp2_with fail
      go_loopw [10,35] (fun _ i wr=>∃ j:Nat,j<=ks.length/\i=.int .i64 j/\Below w.heap.size w wr/\wr.heap[w.heap.size]?=some (.cells #[.int .u8 k,.int .i64 n,.string s,.slice B ks.length d] 29 (0,0))/\Hid (zlF vs (ks.take j)=0)) (fun _ i _=>ks.length-(intOf i).toNat)
      case atStart=>exact⟨0,Nat.zero_le _,rfl,qx.out,qh.out,zh (by simp[zlF])⟩
      case round =>
       obtain⟨j,hj,rfl,hbl,hbx,HJ⟩:=hrel;have af:=zh hbl;have wu:=zh hbx;by_cases hlt:j<ks.length
       ·obtain⟨a,t,A1,c1,rfl,_,Ht,⟨y0,y1,y2,y3⟩,hn⟩:=(yZ.out.later hbl).nd hlt;obtain⟨re,hre⟩:∃ re,fltE vs t=re:=⟨_,rfl⟩
        have bO:=zh (show ∀ (v:Value) (w:World),NV w Any t v->w.cell? fp=some (.slice A VL c)->RowV w Any A vs->Calls Tryz.prog 59 #[.pointer (some fp),v] w fun e w'=>e=.returned (.int .i64 re)/\Below w.heap.size w w' from by
         have h1:=wK.out t (by rw[<-Ht.out];exact List.getElem_mem hlt);rw[hre,yJ.out] at h1;exact h1)
        have fq:=zh hre;have HN:=zh hn;have hal:=zkd hbl (.cells #[.int .u8 t.k,.int .i64 t.n,.string t.s,.slice A1 t.ks.length c1] 29);have wS:=zh (bO.out _ _ (HN.out.later (zkd (Below.refl _ _) (.cells #[.int .u8 t.k,.int .i64 t.n,.string t.s,.slice A1 t.ks.length c1] 29))) (zb hal HC.out) (aa.out.later hal));clear hn hbl hbx hre hal;go_wp2_with fail;refine wS.out.mono ?_;rintro e w5 ⟨rfl,gT⟩;have aR:=zh (zka (zkd af.out _) gT);have sw:=zh (zkb (zkj wu.out _) gT);clear gT y0 y1 y2 y3;by_cases hr0:re=0
        ·subst hr0;have HJ2:Hid (zlF vs (ks.take (j+1))=0):=zh (by rw[zmH hlt HJ.out,Ht.out];exact fq.out);go_wp2_with fail
         go_roundw
         case rel=>exact⟨j+1,by omega,by go_num,aR.out,sw.out,HJ2⟩
         case measure=>simp[intOf];omega
        ·have e1:(re==0)=false:=by simpa using hr0
         have e2:(re != 0)=true:=by simpa using hr0
         have HF:=zh (show R=re by rw[<-HRR.out,zmI hlt HJ.out (by rw[Ht.out,fq.out];exact hr0),Ht.out,fq.out]);clear hr0;go_wp2_with fail;go_ret;exact⟨by rw[HF.out];rfl,aR.out⟩
       ·obtain rfl:j=ks.length:=by omega
        have HF:=zh (show R=0 by
         have:=HJ.out;rw[List.take_of_length_le (Nat.le_refl _)] at this;rw[<-HRR.out];exact this)
        clear hbl hbx;go_wp2_with fail;go_ret;exact⟨by rw[HF.out];rfl,af.out⟩
     ·have HRR:=zh (show R=7 by
       have:ownE vs k s=7:=by rw[ownE,if_neg (by rw[mZ.out];exact hn0),wN.out];simp[mZ.out,hk]
       rw[<-HR.out,this];rfl)
      have e1:(vk==nk)=false:=by simpa using hk
      have e2:(vk != nk)=true:=by simpa using hk
      clear hn0 hk;go_wp2_with fail;go_ret;exact⟨by rw[HRR.out];rfl,qx.out⟩
    ·obtain⟨WX,lu⟩:∃ WX,((y1.setCell ⟨W1.heap.size,0,none⟩ (.string vm)).setCell ⟨W1.heap.size,1,none⟩ (.int .u8 vk)).setCell ⟨W1.heap.size,2,none⟩ (.int .i64 vl)=WX:=⟨_,rfl⟩
     have hbX:Below W1.heap.size W1 WX:=lu▸((b1.setCell (by simp) _).setCell (by simp) _).setCell (by simp) _;have hvk:WX.cell? ⟨W1.heap.size,1,none⟩=some (.int .u8 vk):=by rw[<-lu];exact zc (heap_setCell_same _ W1.heap.size 2 _ _ (.int .i64 vl) (heap_setCell_same _ W1.heap.size 1 _ _ (.int .u8 vk) (heap_setCell_same y1 W1.heap.size 0 _ _ (.string vm) hz))) (by simp)
     rw[lu];have qx:=zh (zka dL.out hbX);have qh:=zh (zkb aX.out hbX);obtain⟨m0,m1,m2,m3⟩:=box4 qh.out;clear hz hz0 hz1 hz2 vD;clear b1 eZ aG hbX lu;by_cases hk:vk=nk
     ·have HRR:=zh (show zlF vs ks=R by
       have:ownE vs k s=0:=by rw[ownE,if_neg (by rw[mZ.out];exact hn0),wN.out];simp[mZ.out,hk]
       rw[<-HR.out,this];simp)
      have e1:(vk==nk)=true:=by simpa using hk
      have e2:(vk != nk)=false:=by simpa using hk
      clear hn0 hk;go_wp2_with fail
      go_loopw [10,35] (fun _ i wr=>∃ j:Nat,j<=ks.length/\i=.int .i64 j/\Below w.heap.size w wr/\wr.heap[w.heap.size]?=some (.cells #[.int .u8 k,.int .i64 n,.string s,.slice B ks.length d] 29 (0,0))/\Hid (zlF vs (ks.take j)=0)) (fun _ i _=>ks.length-(intOf i).toNat)
      case atStart=>exact⟨0,Nat.zero_le _,rfl,qx.out,qh.out,zh (by simp[zlF])⟩
      case round =>
       obtain⟨j,hj,rfl,hbl,hbx,HJ⟩:=hrel;have af:=zh hbl;have wu:=zh hbx;by_cases hlt:j<ks.length
       ·obtain⟨a,t,A1,c1,rfl,_,Ht,⟨y0,y1,y2,y3⟩,hn⟩:=(yZ.out.later hbl).nd hlt;obtain⟨re,hre⟩:∃ re,fltE vs t=re:=⟨_,rfl⟩
        have bO:=zh (show ∀ (v:Value) (w:World),NV w Any t v->w.cell? fp=some (.slice A VL c)->RowV w Any A vs->Calls Tryz.prog 59 #[.pointer (some fp),v] w fun e w'=>e=.returned (.int .i64 re)/\Below w.heap.size w w' from by
         have h1:=wK.out t (by rw[<-Ht.out];exact List.getElem_mem hlt);rw[hre,yJ.out] at h1;exact h1)
        have fq:=zh hre;have HN:=zh hn;have hal:=zkd hbl (.cells #[.int .u8 t.k,.int .i64 t.n,.string t.s,.slice A1 t.ks.length c1] 29);have wS:=zh (bO.out _ _ (HN.out.later (zkd (Below.refl _ _) (.cells #[.int .u8 t.k,.int .i64 t.n,.string t.s,.slice A1 t.ks.length c1] 29))) (zb hal HC.out) (aa.out.later hal));clear hn hbl hbx hre hal;go_wp2_with fail;refine wS.out.mono ?_;rintro e w5 ⟨rfl,gT⟩;have aR:=zh (zka (zkd af.out _) gT);have sw:=zh (zkb (zkj wu.out _) gT);clear gT y0 y1 y2 y3;by_cases hr0:re=0
        ·subst hr0;have HJ2:Hid (zlF vs (ks.take (j+1))=0):=zh (by rw[zmH hlt HJ.out,Ht.out];exact fq.out);go_wp2_with fail
         go_roundw
         case rel=>exact⟨j+1,by omega,by go_num,aR.out,sw.out,HJ2⟩
         case measure=>simp[intOf];omega
        ·have e1:(re==0)=false:=by simpa using hr0
         have e2:(re != 0)=true:=by simpa using hr0
         have HF:=zh (show R=re by rw[<-HRR.out,zmI hlt HJ.out (by rw[Ht.out,fq.out];exact hr0),Ht.out,fq.out]);clear hr0;go_wp2_with fail;go_ret;exact⟨by rw[HF.out];rfl,aR.out⟩
       ·obtain rfl:j=ks.length:=by omega
        have HF:=zh (show R=0 by
         have:=HJ.out;rw[List.take_of_length_le (Nat.le_refl _)] at this;rw[<-HRR.out];exact this)
        clear hbl hbx;go_wp2_with fail;go_ret;exact⟨by rw[HF.out];rfl,af.out⟩
     ·have HRR:=zh (show R=7 by
       have:ownE vs k s=7:=by rw[ownE,if_neg (by rw[mZ.out];exact hn0),wN.out];simp[mZ.out,hk]
       rw[<-HR.out,this];rfl)
      have e1:(vk==nk)=false:=by simpa using hk
      have e2:(vk != nk)=true:=by simpa using hk
      clear hn0 hk;go_wp2_with fail;go_ret;exact⟨by rw[HRR.out];rfl,qx.out⟩
def ST.setL (S:ST) (id:Nat) (l:List Int):ST:={ S with cell:=fun j=>if j=id then l else S.cell j }
def ST.el (S:ST) (id i:Nat):Int:=(S.cell id).getD i 0
def ST.put (S:ST) (id i:Nat) (x:Int):ST:=S.setL id ((S.cell id).set i x)
def updE (k x y:Int):Int:=if k=40 then wrap64 (x+y) else if k=41 then wrap64 (x-y) else bits BinOp.xor IntKind.i64 x y
def zm8 (S:ST) (k:Int) (id i ah:Nat):Int×ST :=
 if k=44 then (if 1000<=(S.cell ah).length then (5,S) else (0,(S.setL ah (S.cell ah++[S.el id i])).put id i 0))
 else if (S.cell ah).length=0 then (13,S)
 else if S.el id i≠0 then (14,S)
 else (0,(S.put id i (S.el ah ((S.cell ah).length-1))).setL ah ((S.cell ah).take ((S.cell ah).length-1)))
def zlm (S:ST) (k:Int) (id i:Nat):Int×ST :=
 if k=46 then match S.tin with
  | []=>(17,S)
  | y::r=>if S.el id i≠0 then (14,S) else (0,({ S with tin:=r }:ST).put id i y)
 else if k=49 then (if S.tout=[] then (17,S) else if S.el id i≠0 then (14,S) else (0,({ S with tout:=S.tout.dropLast }:ST).put id i (S.tout.getLast?.getD 0)))
 else if k=47 then (if 4096<=S.tin.length then (5,S) else (0,({ S with tin:=S.el id i::S.tin }:ST).put id i 0))
 else (if 4096<=S.tout.length then (5,S) else (0,({ S with tout:=S.tout++[S.el id i] }:ST).put id i 0))
def CurK (S:ST) (id:Nat) (k:Int):Prop:=∃ (i:Nat) (v:VD),S.cur.vs[i]?=some v/\S.cur.cs[i]?=some id/\v.k=k
theorem CurK.kd {S:ST} {id:Nat} {k:Int} (h:CurK S id k) {kd:Nat->Int×Int} (hw:S.cur.WF kd S.nc):(kd id).1=k/\id<S.nc:=by
 obtain⟨i,v,h1,h2,h3⟩:=h;obtain⟨a1,a2⟩:=List.getElem?_eq_some_iff.1 h1;obtain⟨b1,b2⟩:=List.getElem?_eq_some_iff.1 h2;have:=hw.kind i a1 b1;rw[b2,a2] at this;exact⟨by rw[this];exact h3,b2▸hw.num _ (List.getElem_mem b1)⟩
theorem CurK.lt {S:ST} {id:Nat} {k:Int} (h:CurK S id k) (hw:S.WF):id<S.nc:=by
 obtain⟨kd,h1⟩:=hw.cur;exact(h.kd h1).2
theorem CurK.ne {S:ST} {id id':Nat} {k k':Int} (h:CurK S id k) (h':CurK S id' k') (hw:S.WF) (hk:k≠k'):id≠id':=fun e=>by
 obtain⟨kd,h1⟩:=hw.cur;subst e;exact hk ((h.kd h1).1.symm.trans (h'.kd h1).1)
theorem zwK {S:ST} (h:S.WF) (id:Nat) (l:List Int) (hl:l.length=(S.cell id).length) (hx:∀ x∈l,I64 x):(S.setL id l).WF:=by
 obtain⟨kd,h1,h2,h3⟩:=h.ex;refine⟨⟨kd,h1,h2,fun i hi=>?_⟩,h.ncalls,fun i hi=>?_,h.tin,h.tout⟩
 ·have:=h3 i hi;simp only[ST.setL];by_cases e:i=id
  ·subst e;rw[if_pos rfl,hl];exact this
  ·rw[if_neg e];exact this
 ·have:=h.cells i hi;simp only[ST.setL];by_cases e:i=id
  ·subst e;rw[if_pos rfl,hl];exact⟨this.1,hx⟩
  ·rw[if_neg e];exact this
theorem ztu {S:ST} (h:S.WF) (id:Nat) (hk:CurK S id 3) (l:List Int) (hl:l.length<=1000) (hx:∀ x∈l,I64 x):(S.setL id l).WF:=by
 obtain⟨kd,h1,h2,h3⟩:=h.ex;have hc:S.cur.WF kd S.nc:=by
  rcases Nat.eq_zero_or_pos S.calls.length with h0|h0
  ·rw[zmR h0];exact h1
  ·rw[znf h0];exact h2 _ (List.getElem_mem _)
 have hk3:=(hk.kd hc).1;refine⟨⟨kd,h1,h2,fun i hi=>?_⟩,h.ncalls,fun i hi=>?_,h.tin,h.tout⟩
 ·have:=h3 i hi;simp only[ST.setL];by_cases e:i=id
  ·subst e;rw[if_pos rfl];exact⟨fun e=>by omega,fun e=>by omega,.inr (.inr hk3)⟩
  ·rw[if_neg e];exact this
 ·have:=h.cells i hi;simp only[ST.setL];by_cases e:i=id
  ·subst e;rw[if_pos rfl];exact⟨hl,hx⟩
  ·rw[if_neg e];exact this
theorem zmu {S:ST} (h:S.WF) {id:Nat} (hid:id<S.nc) (i:Nat):I64 (S.el id i):=by
 unfold ST.el;rcases Nat.lt_or_ge i (S.cell id).length with hi|hi
 ·rw[List.getD_eq_getElem?_getD,List.getElem?_eq_getElem hi];exact(h.cells id hid).2 _ (List.getElem_mem hi)
 ·rw[List.getD_eq_getElem?_getD,List.getElem?_eq_none hi];exact⟨by decide,by decide⟩
theorem zmT {S:ST} (h:S.WF) {id:Nat} (hid:id<S.nc) (i:Nat) (x:Int) (hx:I64 x):(S.put id i x).WF :=
 zwK h id _ (by simp) fun y hy=>by
  rcases List.mem_or_eq_of_mem_set hy with hy|rfl
  ·exact(h.cells id hid).2 y hy
  ·exact hx
def Ph.gI (P:Ph) (id:Nat):Nat:=(P.ci id).ownBlock.getD 0
def Ph.setI (P:Ph) (id:Nat) (vv:Value):Ph:={ P with ci:=fun j=>if j=id then vv else P.ci j }
theorem zsZ (l:List Int) (i:Nat) (x:Int):zkf (l.set i x)=(zkf l).set i (.int .i64 x):=by simp[zkf,List.map_set]
theorem zqG (P:Ph) (S:ST) (id i:Nat) (x:Int) (hid:id<S.nc):rows P (S.put id i x)=updR (rows P S) (.ci id) { rows P S (.ci id) with xs:=(rows P S (.ci id)).xs.set i (.int .i64 x) }:=by
 funext r
 cases r with
 | ci j =>
  by_cases e:j=id
  ·subst e;simp[updR,rows,ST.put,ST.setL,hid,zsZ]
  ·simp[updR,rows,ST.put,ST.setL,e]
 | cb j=>rfl
 | _=>simp[updR,rows,ST.put,ST.setL]
theorem zsi (P:Ph) (S:ST) (id:Nat) (vv:Value) (l:List Int) (hid:id<S.nc):rows (P.setI id vv) (S.setL id l)=updR (updR (rows P S) (.ci id) ⟨vv,3,1,l.length,zkf l⟩) (.cb id) { rows P S (.cb id) with xs:=(rows P S (.cb id)).xs.set 0 vv }:=by
 funext r
 cases r with
 | ci j =>
  by_cases e:j=id
  ·subst e;simp[updR,rows,Ph.setI,ST.setL,hid]
  ·simp[updR,rows,Ph.setI,ST.setL,e]
 | cb j =>
  by_cases e:j=id
  ·subst e;simp[updR,rows,Ph.setI,ST.setL,hid]
  ·simp[updR,rows,Ph.setI,ST.setL,e]
 | calls=>simp only[updR,reduceCtorEq,if_false,rows,ST.setL];rw[zls (P:=P) (P':=P.setI id vv) rfl rfl];rfl
 | _=>simp[updR,rows,Ph.setI,ST.setL]
section
variable {W:World} {n0:Nat} {P:Ph} {S:ST}
theorem SR.plc (h:SR W n0 P S) {id i:Nat} (hid:id<S.nc) (hi:i<(S.cell id).length):(∃ c,P.ci id=.slice (some ⟨P.gI id,0,none⟩) (S.cell id).length c/\(S.cell id).length<=c)/\W.cell? ⟨P.gI id,i,none⟩=some (.int .i64 (S.el id i))/\W.frozen? ⟨P.gI id,i,none⟩=false:=by
 have hr:=h.rws.row (.ci id);simp only[rows,hid,if_true] at hr;obtain⟨g,c,hv,hc,_,hcell⟩:=zkZ hr (by omega);have hg:P.gI id=g:=by simp[Ph.gI,hv,Value.ownBlock]
 refine⟨⟨c,by rw[hg];exact hv,hc⟩,?_,?_⟩
 ·rw[hg,hcell i (by omega)];simp[zkf,ST.el,hi]
 ·exact h.rws.frozen (.ci id) (by simp only[rows,hid,if_true];rw[hv,hg];rfl) i
theorem SR.own (h:SR W n0 P S) {id i:Nat} (hid:id<S.nc) (hi:i<(S.cell id).length):(rows P S (.ci id)).v.ownBlock=some (P.gI id):=by
 obtain⟨⟨c,hv,_⟩,_⟩:=h.plc hid hi;simp only[rows,hid,if_true];rw[hv];rfl
theorem SR.put (h:SR W n0 P S) {id i:Nat} (hid:id<S.nc) (hi:i<(S.cell id).length) (x:Int) (hx:I64 x):SStp n0 P S W P (S.put id i x) (W.setCell ⟨P.gI id,i,none⟩ (.int .i64 x)):=by
 refine⟨?_,zmT h.wf hid i x hx⟩;have:=Stp.set (i:=Res.ci id) h.rws (g:=P.gI id) (h.own hid hi) (o:=i) (by simp only[rows,hid,if_true,zkz];exact hi) (.int .i64 x);exact this.cast (zqG P S id i x hid).symm
end
theorem SR.stk {W W2:World} {n0:Nat} {P:Ph} {S:ST} (h:SR W n0 P S) (ah:Nat) (hs:CurK S ah 3) (l:List Int) (vv:Value) (hl:l.length<=1000) (hx:∀ x∈l,I64 x) (hc:Chg (fun b=>(P.ci ah).ownBlock=some b) W W2) (ho:W2.ownsRow n0 3 1 vv l.length (zkf l)) (aH:∀ b,vv.ownBlock=some b->(P.ci ah).ownBlock=some b\/W.heap.size<=b) :
  W2.cell? ⟨P.cb ah,0,none⟩=some (P.ci ah)/\W2.frozen? ⟨P.cb ah,0,none⟩=false/\SStp n0 P S W (P.setI ah vv) (S.setL ah l) (W2.setCell ⟨P.cb ah,0,none⟩ vv):=by
 have hid:=hs.lt h.wf;have ev:(rows P S (.ci ah)).v=P.ci ah:=by simp only[rows,hid,if_true]
 have s1:=Stp.upd (i:=Res.ci ah) (r:=⟨vv,3,1,l.length,zkf l⟩) h.rws (hc.mono fun b _ hb=>by rw[ev];exact hb) ho (fun b hb=>by rw[ev];exact aH b hb);have eb:updR (rows P S) (.ci ah) ⟨vv,3,1,l.length,zkf l⟩ (.cb ah)=rows P S (.cb ah):=zkh (by simp);have vW:rows P S (.cb ah)=⟨boxV (P.cb ah),100,1,1,[P.ci ah]⟩:=by simp only[rows,hid,if_true]
 have s2:=Stp.set (i:=Res.cb ah) s1.rws (g:=P.cb ah) (by rw[eb,vW];rfl) (o:=0) (by rw[eb,vW];exact Nat.one_pos) vv;rw[eb] at s2;refine⟨s1.rws.cell (.cb ah) (g:=P.cb ah) (o:=0) (by rw[eb,vW];rfl) (by rw[eb,vW];rfl),s1.rws.frozen (.cb ah) (g:=P.cb ah) (by rw[eb,vW];rfl) 0,⟨(s1.trans s2).cast (zsi P S ah vv l hid).symm,ztu h.wf ah hs l hl hx⟩⟩
theorem zw2:(Tryz.prog.info? 3).map (fun i=>(i.zero,i.size,i.bytes))=some (some (.int .i64 0),1,8):=zn7
theorem zuq {W:World} {n0:Nat} {P:Ph} {S:ST} (h:SR W n0 P S) (k:Int) (hk:k=44\/k=45) (id i ah:Nat) (hid:id<S.nc) (hi:i<(S.cell id).length) (hs:CurK S ah 3) (hne:id≠ah) :
  Calls Tryz.prog 113 #[.int .u8 k,.pointer (some ⟨P.gI id,i,none⟩),.pointer (some ⟨P.cb ah,0,none⟩)] W fun e W'=>e=.returned (.int .i64 (zm8 S k id i ah).1)/\∃ P',SStp n0 P S W P' (zm8 S k id i ah).2 W'/\P'.sb=P.sb:=by
 have dn:=hs.lt h.wf;obtain⟨R,hR⟩:∃ R,zm8 S k id i ah=R:=⟨_,rfl⟩
 rw[hR];have HRR:=zh hR;have HS:=zh h;have HK:=zh hs;obtain⟨A,c,hci,hc,aY⟩:=h.items dn;have hcs:=h.wf.cells ah dn;have x0:W.cell? ⟨P.cb ah,0,none⟩=some (.slice A (S.cell ah).length c):=by rw[<-hci];exact zc (h.cbox dn) rfl
 obtain⟨-,p0,p1⟩:=h.plc hid hi;obtain⟨x,hx⟩:∃ x,S.el id i=x:=⟨_,rfl⟩
 rw[hx] at p0;have HX:=zh hx;obtain⟨L,hL⟩:∃ L,(S.cell ah).length=L:=⟨_,rfl⟩
 rw[hL] at x0;have HL:=zh hL;have hL1:L<=1000:=by rw[<-hL];exact hcs.1
 have iT:=zh hci;have gV:=zh aY;clear h hs hci aY hx hL hR hc;rcases hk with rfl|rfl
 ·by_cases hf:1000<=L
  ·have HN:=zh (show R=(5,S) by rw[<-HRR.out,zm8,if_pos rfl,if_pos (by rw[HL.out];exact hf)]);obtain rfl:L=1000:=by omega
   go_enter Tryz.func113,Tryz.ntmps113;go_wp2_with fail;go_ret;exact⟨by rw[HN.out];rfl,P,by rw[HN.out];exact SStp.refl HS.out (Below.refl _ _),rfl⟩
  ·have HN:=zh (show R=(0,(S.setL ah (S.cell ah++[x])).put id i 0) by rw[<-HRR.out,zm8,if_pos rfl,if_neg (by rw[HL.out];exact hf),HX.out]);have hf1:¬ (1000:Int)<=(L:Int):=by omega
   obtain⟨i1,hi1,hz0,hz1,hz2⟩:=info_parts zw2;have hbi:=zpf;have wZ:I64 x:=by rw[<-HX.out];exact zmu HS.out.wf hid i
   clear HRR;go_enter Tryz.func113,Tryz.ntmps113;go_upto_region 7 with fail;have hSS:(fun w':World=>w'.cell? ⟨P.gI id,i,none⟩=some (.int .i64 x)) W.drew/\(fun w':World=>w'.cell? ⟨P.cb ah,0,none⟩=some (.slice A L c)) W.drew:=⟨p0,x0⟩
   refine wp_region_noPanic ?_;refine zkc (fun w':World=>w'.cell? ⟨P.gI id,i,none⟩=some (.int .i64 x)) (fun w':World=>w'.cell? ⟨P.cb ah,0,none⟩=some (.slice A L c)) 9 (by kernel_rfl) ?_;refine zT 0 hSS ?_;(try simp only[zQ]);refine zT 1 hSS ?_;(try simp only[zQ]);refine zT 2 hSS ?_;(try simp only[zQ]);refine zT 3 hSS ?_;(try simp only[zQ]);refine zkH (i:=4) (v:=?_) rfl (by kernel_rfl) (by kernel_rfl) (by kernel_rfl) (by decide) rfl (by kernel_rfl) (by kernel_rfl) (fun _ _ _ h=>h) (Or.inl ⟨by rfl,?_⟩) hSS ?_;rotate_left 1
   ·(intro w hSw;(try dsimp only at hSw);(try simp only[zA,zB,zC]);go_simp;(try with_reducible rfl))
   (try simp only[zQ]);refine zT 5 hSS ?_;(try simp only[zQ]);refine zT 6 hSS ?_;(try simp only[zQ]);refine zT 7 hSS ?_;(try simp only[zQ]);refine zo 8 fun K hK=>?_;(try simp only[zA,zB,zC]);go_simp;refine hK.out _ _ ⟨zkl p0 _,zkl x0 _⟩ ?_;clear hK K hSS;(try simp only[zQ]);obtain⟨W2,hW2⟩:∃ W2,(W.alloc (.cells #[.int .i64 x] 3)).drew=W2:=⟨_,rfl⟩
   have hb2:Below W.heap.size W W2:=hW2▸(zkd (Below.refl _ _) _).drew;have aN:=zh (show ∀ j u,[Value.int .i64 x][j]?=some u->W2.cell? ((⟨W.heap.size,0,none⟩:Addr).add j)=some u from hW2▸zlA W 3 [.int .i64 x]);have vH:W2.ownsRow n0 3 1 (.slice A L c) L (zkf (S.cell ah)):=by
    have:=zkB (HS.out.rws.row (.ci ah)) hb2;simp only[rows,dn,if_true] at this;rw[iT.out,HL.out] at this;exact this
   have hs2:=hb2.size;have d0:=zb hb2 p0;have hn0:=(HS.out.rws.lt .sb P.sb rfl)
   have HST:=zh (fun w3 vv=>SR.stk (W2:=w3) (HS.out.later hb2) ah HK.out (S.cell ah++[x]) vv (by rw[List.length_append,HL.out];simp;omega) (fun y hy=>by
    simp only[List.mem_append,List.mem_singleton] at hy;rcases hy with hy|rfl
    ·exact(hcs.2 y hy)
    ·exact wZ))
   rw[hW2];have hnb:∀ b,(P.ci ah).ownBlock=some b->b≠P.gI id:=fun b hb e=>by
    have h1:=HS.out.own hid hi;rw[<-e] at h1;exact HS.out.rws.sep (.ci id) (.ci ah) b (by simpa using hne) h1 (by simp only[rows,dn,if_true];exact hb)
   rw[iT.out] at HST hnb;rw[HL.out] at HST hnb;have oq:=zh hnb;have lQ:=zh hb2;clear hW2 hnb hb2;refine zp 9 fun K hK=>?_;refine zkX (by rfl) (.tmp 47) (.tmp 51) 24 (by rfl) n0 3 i1 _ 1 8 Tryz.underlying24 hi1 hz0 hz1 hz2 rfl (by decide) (.slice A L c) L (zkf (S.cell ah)) (by rfl) vH ⟨W.heap.size,0,none⟩ 1 1 [.int .i64 x] (by rfl) rfl aN.out (by intro u hu;simp at hu;subst hu;rfl) (by unfold maxLen;omega) (by omega) (by omega) ?_;intro v' w3 h2 h3 h5;obtain⟨g8,aO,rfl⟩:=ownsRow_succ h2;have hll:(S.cell ah++[x]).length=L+1:=by rw[List.length_append,HL.out];rfl
   obtain⟨z0,zf,hfin⟩:=HST.out w3 _ (Chg.row h3) (by rw[hll,zlP];exact h2) (fun b hb=>by
    rcases h5 with h5|h5
    ·exact .inl (h5▸hb)
    ·exact .inr (by rw[h5] at hb;injection hb with hb;omega))
   have y0:w3.cell? ⟨P.gI id,i,none⟩=some (.int .i64 x):=zk0 (Chg.row h3) d0 (fun e=>oq.out _ e rfl);have hput:=SR.put (hfin.sr) (id:=id) (i:=i) hid (by show i<((S.setL ah _).cell id).length;simp only[ST.setL,if_neg hne];exact hi) 0 ⟨by decide,by decide⟩;have hgi:(P.setI ah (.slice (some ⟨g8,0,none⟩) (L+1) aO)).gI id=P.gI id:=by simp[Ph.gI,Ph.setI,hne]
   rw[hgi] at hput;have mo:P.cb ah≠P.gI id:=fun e=>by
    have h1:=HS.out.own hid hi;exact HS.out.rws.sep (.ci id) (.cb ah) (P.gI id) (by simp) h1 (by simp only[rows,dn,if_true];rw[e];rfl)
   have y1:(w3.setCell ⟨P.cb ah,0,none⟩ (.slice (some ⟨g8,0,none⟩) (L+1) aO)).cell? ⟨P.gI id,i,none⟩=some (.int .i64 x):=(World.cell?_setCell_far _ _ _ _ mo).trans y0;have bf:=zh (hfin.trans hput);have hfr:=hfin.sr.plc (id:=id) (i:=i) hid (by show i<((S.setL ah _).cell id).length;simp only[ST.setL,if_neg hne];exact hi);rw[hgi] at hfr;have yf:=hfr.2.2;refine hK.out _ _ y0 ?_;clear hK K h2 h3 h5 hfin hput vH aN d0 hfr;(try simp only[zQ]);refine zp 10 fun K hK=>?_;(try simp only[zA,zB,zC]);go_simp;refine hK.out _ _ y0 ?_;clear hK K;(try simp only[zQ]);refine zp 11 fun K hK=>?_;(try simp only[zA,zB,zC]);go_simp;refine hK.out _ _ y0 ?_;clear hK K;(try simp only[zQ]);refine zp 12 fun K hK=>?_;(try simp only[zA,zB,zC]);go_simp;refine hK.out _ _ y1 ?_;clear hK K;(try simp only[zQ]);refine zd ?_;refine NoPanic.normal ?_
   obtain⟨w4,hw4⟩:∃ w4,w3.setCell ⟨P.cb ah,0,none⟩ (.slice (some ⟨g8,0,none⟩) (L+1) aO)=w4:=⟨_,rfl⟩
   rw[hw4] at y1 yf bf ⊢;clear hw4 z0 zf y0;go_wp2_with fail;go_ret;refine⟨by rw[HN.out];rfl,P.setI ah (.slice (some ⟨g8,0,none⟩) (L+1) aO),?_,rfl⟩;rw[HN.out];exact⟨bf.out.st.after lQ.out HS.out.rws,bf.out.wf⟩
 ·rcases Nat.eq_zero_or_pos L with h0|h0
  ·subst h0;have HN:=zh (show R=(13,S) by rw[<-HRR.out,zm8,if_neg (by decide),if_pos HL.out]);go_enter Tryz.func113,Tryz.ntmps113;go_wp2_with fail;go_ret;exact⟨by rw[HN.out];rfl,P,by rw[HN.out];exact SStp.refl HS.out (Below.refl _ _),rfl⟩
  ·obtain⟨m,rfl⟩:∃ m,L=m+1:=⟨L-1,by omega⟩
   have hm0:¬ ((m:Int)+1=0):=by omega
   have hm1:(((m:Int)+1)==0)=false:=by simpa using hm0
   by_cases hx0:x=0
   ·subst hx0;obtain⟨a,rfl,hz⟩:=gV.out.nd (i:=m) (by rw[HL.out];omega);obtain⟨y,hy⟩:∃ y,(S.cell ah).getD m 0=y:=⟨_,rfl⟩
    rw[hy] at hz;have HN:=zh (show R=(0,(S.put id i y).setL ah ((S.cell ah).take m)) by
     rw[<-HRR.out,zm8,if_neg (by decide),if_neg (by rw[HL.out];omega),if_neg (by rw[HX.out];simp),HL.out];rw[show S.el ah (m+1-1)=y from hy];rfl)
    have qI:I64 y:=by rw[<-hy];exact zmu HS.out.wf dn m
    have s1:=HS.out.put hid hi y qI;obtain⟨g,c2,hv2,hc2,hm2,hcell2⟩:=zkZ (HS.out.rws.row (.ci ah)) (by simp only[rows,dn,if_true];rw[HL.out];omega);simp only[rows,dn,if_true] at hv2 hc2;rw[HL.out] at hc2;rw[iT.out] at hv2;injection hv2 with a1 a2 a3;injection a1 with a1;subst a1 a3;rw[Addr.add_lit,Nat.zero_add] at hz;have mo:P.cb ah≠P.gI id:=fun e=>by
     have h1:=HS.out.own hid hi;exact HS.out.rws.sep (.ci id) (.cb ah) (P.gI id) (by simp) h1 (by simp only[rows,dn,if_true];rw[e];rfl)
    have x1:(W.setCell ⟨P.gI id,i,none⟩ (.int .i64 y)).cell? ⟨P.cb ah,0,none⟩=some (.slice (some ⟨g,0,none⟩) (m+1) c):=(World.cell?_setCell_far _ _ _ _ (Ne.symm mo)).trans x0;have jZ:(W.setCell ⟨P.gI id,i,none⟩ (.int .i64 y)).ownsRow n0 3 1 (.slice (some ⟨g,0,none⟩) m c) m (zkf ((S.cell ah).take m)):=by
     have:=s1.st.rws.row (.ci ah);have e1:rows P (S.put id i y) (.ci ah)=⟨.slice (some ⟨g,0,none⟩) (m+1) c,3,1,m+1,zkf (S.cell ah)⟩:=by
      rw[zqG P S id i y hid,zkh (by simpa using Ne.symm hne)];simp only[rows,dn,if_true];rw[iT.out,HL.out]
     rw[e1] at this;have e2:zkf (S.cell ah)=zkf ((S.cell ah).take m)++(zkf (S.cell ah)).drop (m*1):=by rw[Nat.mul_one,zkf,zkf,List.map_take,List.take_append_drop]
     dsimp only at this;rw[e2] at this;exact ownsRow_pop (by rw[zkz,List.length_take,HL.out];omega) this
    have hltm:((S.cell ah).take m).length=m:=by rw[List.length_take,HL.out];omega
    have hcell1:(S.put id i y).cell ah=S.cell ah:=by simp[ST.put,ST.setL,Ne.symm hne]
    obtain⟨z0,zf,hfin⟩:=SR.stk (W2:=W.setCell ⟨P.gI id,i,none⟩ (.int .i64 y)) s1.sr ah HK.out ((S.cell ah).take m) (.slice (some ⟨g,0,none⟩) m c) (by omega) (fun q hq=>hcs.2 q (List.mem_of_mem_take hq)) (Chg.refl _ _) (by rw[hltm];exact jZ) (fun b hb=>.inl (by rw[iT.out];exact hb));have bf:=zh (s1.trans hfin);have hw1:IntKind.i64.wrap (m:Int)=(m:Int):=IntWalk.i64_in _ (by omega);have hmc:(m:Int)<=(c:Int):=by omega
    have hmm:(m:Int)<(m:Int)+1:=by omega
    clear s1 hfin jZ z0 hcell2 HRR;go_enter Tryz.func113,Tryz.ntmps113;go_wp2_with fail;go_ret;refine⟨by rw[HN.out];rfl,P.setI ah (.slice (some ⟨g,0,none⟩) m c),?_,rfl⟩;rw[HN.out];exact bf.out
   ·have HN:=zh (show R=(14,S) by rw[<-HRR.out,zm8,if_neg (by decide),if_neg (by rw[HL.out];omega),if_pos (by rw[HX.out];exact hx0)]);have hx1:(x != 0)=true:=by simpa using hx0
    have hx2:(x==0)=false:=by simpa using hx0
    go_enter Tryz.func113,Tryz.ntmps113;go_wp2_with fail;go_ret;exact⟨by rw[HN.out];rfl,P,by rw[HN.out];exact SStp.refl HS.out (Below.refl _ _),rfl⟩
end Go.Proofs.YtckhofdinldhpaaGreat
namespace Go.Proofs.YtckhofdinldhpaaGreat
open Go Go.RowKit
theorem zsP:IsFn Tryz.prog 146 Tryz.f146:=⟨Tryz.func146,by kernel_rfl,by kernel_rfl⟩
theorem zuF:IsFn Tryz.prog 148 Tryz.f148:=⟨Tryz.func148,by kernel_rfl,by kernel_rfl⟩
theorem SR.tp {W:World} {n0:Nat} {P:Ph} {S:ST} (h:SR W n0 P S):W.cell? ⟨P.sb,4,none⟩=some (.pointer (some ⟨P.tb,0,none⟩)):=zc h.box rfl
theorem zpo {W:World} {n0:Nat} {P:Ph} {S:ST} (h:SR W n0 P S) (k:Int) (hk:k=46\/k=49\/k=47\/k=48) (id i:Nat) (hid:id<S.nc) (hi:i<(S.cell id).length) :
  Calls Tryz.prog 114 #[.pointer (some ⟨P.sb,0,none⟩),.int .u8 k,.pointer (some ⟨P.gI id,i,none⟩)] W fun e W'=>e=.returned (.int .i64 (zlm S k id i).1)/\∃ P',SStp n0 P S W P' (zlm S k id i).2 W'/\P'.sb=P.sb:=by
 obtain⟨R,hR⟩:∃ R,zlm S k id i=R:=⟨_,rfl⟩
 rw[hR];have HRR:=zh hR;have HS:=zh h;have x4:=h.tp;obtain⟨-,p0,p1⟩:=h.plc hid hi;obtain⟨x,hx⟩:∃ x,S.el id i=x:=⟨_,rfl⟩
 rw[hx] at p0;have HX:=zh hx;have wZ:I64 x:=by rw[<-hx];exact zmu h.wf hid i
 clear hR hx h;rcases hk with rfl|rfl|rfl|rfl
 ·have oh:=zh (zvg HS.out);go_enter Tryz.func114,Tryz.ntmps114;go_wp2_with fail;refine oh.out.mono ?_;rintro e w1 hh;rcases hh with⟨h0,rfl,hb⟩|⟨y,r,h0,rfl,vv,hst⟩
  ·have HN:=zh (show R=(17,S) by rw[<-HRR.out,zlm,if_pos rfl,h0]);have HB:=zh hb;clear h0 hb;go_wp2_with fail;go_ret;exact⟨by rw[HN.out];rfl,P,by rw[HN.out];exact SStp.refl HS.out HB.out,rfl⟩
  ·have ht:=HS.out.wf.tin;rw[h0] at ht;have qI:I64 y:=ht.2 y (List.mem_cons_self ..);have y4:w1.cell? ⟨P.sb,4,none⟩=some (.pointer (some ⟨P.tb,0,none⟩)):=hst.sr.tp;obtain⟨-,r0,r1⟩:=hst.sr.plc (id:=id) (i:=i) hid hi;have r0':w1.cell? ⟨P.gI id,i,none⟩=some (.int .i64 x):=by rw[<-HX.out];exact r0
   have r1':w1.frozen? ⟨P.gI id,i,none⟩=false:=r1;by_cases hx0:x=0
   ·subst hx0;have HN:=zh (show R=(0,({ S with tin:=r }:ST).put id i y) by rw[<-HRR.out,zlm,if_pos rfl,h0];dsimp only;rw[HX.out];simp);have iD:=zh (hst.trans (hst.sr.put (id:=id) (i:=i) hid hi y qI));clear h0 hst ht r0 r1;go_wp2_with fail;go_ret;exact⟨by rw[HN.out];rfl,{ P with vI:=vv },by rw[HN.out];exact iD.out,rfl⟩
   ·have HN:=zh (show R=(14,S) by rw[<-HRR.out,zlm,if_pos rfl,h0];dsimp only;rw[HX.out,if_pos hx0]);have hx1:(x != 0)=true:=by simpa using hx0
    have hx2:(x==0)=false:=by simpa using hx0
    have yK:=zh (zoV hst.sr y qI);have hrl:¬ 4096<=r.length:=by have:=ht.1;simp at this;omega
    have HST:=zh hst;have H0:=zh h0;clear h0 hst ht r0 r1;go_wp2_with fail;refine yK.out.mono ?_;rintro e w2 hh;rcases hh with⟨h1,rfl,hb⟩|⟨h1,rfl,xY,lZ⟩
    ·exact absurd h1 hrl
    ·have HS2:=zh lZ;clear h1 lZ;go_wp2_with fail;go_ret;refine⟨by rw[HN.out];rfl,{ P with vI:=xY },?_,rfl⟩;rw[HN.out];have h3:=HST.out.trans HS2.out;have e3:({ { S with tin:=r } with tin:=y::({ S with tin:=r }:ST).tin }:ST)=S:=by
      show({ S with tin:=y::r }:ST)=S
      rw[<-H0.out]
     rw[e3] at h3;exact h3
 ·have oh:=zh (zqp HS.out);go_enter Tryz.func114,Tryz.ntmps114;go_wp2_with fail;refine oh.out.mono ?_;rintro e w1 hh;rcases hh with⟨h0,rfl,hb⟩|⟨r,y,h0,rfl,vv,hst⟩
  ·have HN:=zh (show R=(17,S) by rw[<-HRR.out,zlm,if_neg (by decide),if_pos rfl,if_pos h0]);have HB:=zh hb;clear h0 hb;go_wp2_with fail;go_ret;exact⟨by rw[HN.out];rfl,P,by rw[HN.out];exact SStp.refl HS.out HB.out,rfl⟩
  ·have ht:=HS.out.wf.tout;rw[h0] at ht;have qI:I64 y:=ht.2 y (by simp);have hne:S.tout≠[]:=by rw[h0];simp
   have hdl:S.tout.dropLast=r:=by rw[h0];simp
   have hgl:S.tout.getLast?.getD 0=y:=by rw[h0];simp
   have y4:w1.cell? ⟨P.sb,4,none⟩=some (.pointer (some ⟨P.tb,0,none⟩)):=hst.sr.tp;obtain⟨-,r0,r1⟩:=hst.sr.plc (id:=id) (i:=i) hid hi;have r0':w1.cell? ⟨P.gI id,i,none⟩=some (.int .i64 x):=by rw[<-HX.out];exact r0
   have r1':w1.frozen? ⟨P.gI id,i,none⟩=false:=r1;by_cases hx0:x=0
   ·subst hx0;have HN:=zh (show R=(0,({ S with tout:=r }:ST).put id i y) by rw[<-HRR.out,zlm,if_neg (by decide),if_pos rfl,if_neg hne,hdl,hgl,HX.out];simp);have iD:=zh (hst.trans (hst.sr.put (id:=id) (i:=i) hid hi y qI));clear h0 hst ht r0 r1 hne hdl hgl;go_wp2_with fail;go_ret;exact⟨by rw[HN.out];rfl,{ P with vO:=vv },by rw[HN.out];exact iD.out,rfl⟩
   ·have HN:=zh (show R=(14,S) by rw[<-HRR.out,zlm,if_neg (by decide),if_pos rfl,if_neg hne,HX.out,if_pos hx0]);have hx1:(x != 0)=true:=by simpa using hx0
    have hx2:(x==0)=false:=by simpa using hx0
    have yK:=zh (zpR hst.sr y qI);have hrl:¬ 4096<=r.length:=by have:=ht.1;simp at this;omega
    have HST:=zh hst;have H0:=zh h0;clear h0 hst ht r0 r1 hne hdl hgl;go_wp2_with fail;refine yK.out.mono ?_;rintro e w2 hh;rcases hh with⟨h1,rfl,hb⟩|⟨h1,rfl,xY,lZ⟩
    ·exact absurd h1 hrl
    ·have HS2:=zh lZ;clear h1 lZ;go_wp2_with fail;go_ret;refine⟨by rw[HN.out];rfl,{ P with vO:=xY },?_,rfl⟩;rw[HN.out];have h3:=HST.out.trans HS2.out;have e3:({ { S with tout:=r } with tout:=({ S with tout:=r }:ST).tout++[y] }:ST)=S:=by
      show({ S with tout:=r++[y] }:ST)=S
      rw[<-H0.out]
     rw[e3] at h3;exact h3
 ·skip
  have had:Calls Tryz.prog 146 [.pointer (some ⟨P.tb,0,none⟩),.int .i64 x].toArray W.drew fun e W'=>∃ u,e=.returned u/\∃ y,u=.int .i64 y /\
    ((y=5/\R=(5,S)/\Below W.heap.size W W')\/(y=0/\R=(0,({ S with tin:=x::S.tin }:ST).put id i 0)/\∃ vv,SStp n0 P S W { P with vI:=vv } ({ S with tin:=x::S.tin }:ST) W')):=by
   refine(zoV (HS.out.later (Below.refl _ _).drew) x wZ).mono ?_;rintro e W' hh;rcases hh with⟨h0,rfl,hb⟩|⟨h0,rfl,vv,hst⟩
   ·exact⟨_,rfl,5,rfl,.inl ⟨rfl,by rw[<-HRR.out,zlm,if_neg (by decide),if_neg (by decide),if_pos rfl,if_pos h0],zka (Below.refl _ _).drew hb⟩⟩
   ·exact⟨_,rfl,0,rfl,.inr ⟨rfl,by rw[<-HRR.out,zlm,if_neg (by decide),if_neg (by decide),if_pos rfl,if_neg (by omega),HX.out],vv,⟨hst.st.after (Below.refl _ _).drew HS.out.rws,hst.wf⟩⟩⟩
  go_enter Tryz.func114,Tryz.ntmps114;go_upto_region 17 with fail;have hSS:(fun w':World=>w'.cell? ⟨P.sb,4,none⟩=some (.pointer (some ⟨P.tb,0,none⟩))/\w'.cell? ⟨P.gI id,i,none⟩=some (.int .i64 x)) W.drew/\(fun _:World=>True) W.drew:=⟨⟨x4,p0⟩,trivial⟩
  refine wp_region_noPanic ?_;refine zkc (fun w':World=>w'.cell? ⟨P.sb,4,none⟩=some (.pointer (some ⟨P.tb,0,none⟩))/\w'.cell? ⟨P.gI id,i,none⟩=some (.int .i64 x)) (fun _:World=>True) 7 (by kernel_rfl) ?_;refine zT 0 hSS ?_;(try simp only[zQ]);refine zT 1 hSS ?_;(try simp only[zQ]);refine zT 2 hSS ?_;(try simp only[zQ]);refine zT 3 hSS ?_;(try simp only[zQ]);refine zT 4 hSS ?_;(try simp only[zQ]);refine zT 5 hSS ?_;(try simp only[zQ]);refine zT 6 hSS ?_;(try simp only[zQ]);refine zp 7 fun K hK=>?_;refine zkg (by rfl) (.func 146) [.tmp 72,.tmp 75] _ (by rfl) 146 _ zsP (by rfl) _ (by rfl) _ had ?_;rintro v4 w4 ⟨y,rfl,hh⟩;have HH:=zh hh;have mD:w4.cell? ⟨P.sb,4,none⟩=some (.pointer (some ⟨P.tb,0,none⟩))/\w4.cell? ⟨P.gI id,i,none⟩=some (.int .i64 x)/\w4.frozen? ⟨P.gI id,i,none⟩=false:=by
   rcases hh with⟨_,_,hb⟩|⟨_,_,vv,hst⟩
   ·exact⟨zb hb x4,zb hb p0,((HS.out.later hb).plc hid hi).2.2⟩
   ·have h9:=hst.sr.plc (id:=id) (i:=i) hid hi;exact⟨hst.sr.tp,by rw[<-HX.out];exact h9.2.1,h9.2.2⟩
  obtain⟨b4,b5,b6⟩:=mD;refine hK.out _ _ ⟨b4,b5⟩ ?_;clear hK K hSS had hh;(try simp only[zQ]);refine zp 8 fun K hK=>?_;(try simp only[zA,zB,zC]);go_simp;refine hK.out _ _ ⟨b4,b5⟩ ?_;clear hK K;(try simp only[zQ]);refine zd ?_;refine NoPanic.normal ?_;rcases HH.out with⟨rfl,h1,hb⟩|⟨rfl,h1,vv,hst⟩
  ·have HN:=zh h1;have HB:=zh hb;clear HH h1 hb;go_wp2_with fail;go_ret;exact⟨by rw[HN.out];rfl,P,by rw[HN.out];exact SStp.refl HS.out HB.out,rfl⟩
  ·have HN:=zh h1;have iD:=zh (hst.trans (hst.sr.put (id:=id) (i:=i) hid hi 0 ⟨by decide,by decide⟩));clear HH h1 hst;go_wp2_with fail;go_ret;exact⟨by rw[HN.out];rfl,{ P with vI:=vv },by rw[HN.out];exact iD.out,rfl⟩
 ·skip
  have had:Calls Tryz.prog 148 [.pointer (some ⟨P.tb,0,none⟩),.int .i64 x].toArray W.drew fun e W'=>∃ u,e=.returned u/\∃ y,u=.int .i64 y /\
    ((y=5/\R=(5,S)/\Below W.heap.size W W')\/(y=0/\R=(0,({ S with tout:=S.tout++[x] }:ST).put id i 0)/\∃ vv,SStp n0 P S W { P with vO:=vv } ({ S with tout:=S.tout++[x] }:ST) W')):=by
   refine(zpR (HS.out.later (Below.refl _ _).drew) x wZ).mono ?_;rintro e W' hh;rcases hh with⟨h0,rfl,hb⟩|⟨h0,rfl,vv,hst⟩
   ·exact⟨_,rfl,5,rfl,.inl ⟨rfl,by rw[<-HRR.out,zlm,if_neg (by decide),if_neg (by decide),if_neg (by decide),if_pos h0],zka (Below.refl _ _).drew hb⟩⟩
   ·exact⟨_,rfl,0,rfl,.inr ⟨rfl,by rw[<-HRR.out,zlm,if_neg (by decide),if_neg (by decide),if_neg (by decide),if_neg (by omega),HX.out],vv,⟨hst.st.after (Below.refl _ _).drew HS.out.rws,hst.wf⟩⟩⟩
  go_enter Tryz.func114,Tryz.ntmps114;go_upto_region 19 with fail;have hSS:(fun w':World=>w'.cell? ⟨P.sb,4,none⟩=some (.pointer (some ⟨P.tb,0,none⟩))/\w'.cell? ⟨P.gI id,i,none⟩=some (.int .i64 x)) W.drew/\(fun _:World=>True) W.drew:=⟨⟨x4,p0⟩,trivial⟩
  refine wp_region_noPanic ?_;refine zkc (fun w':World=>w'.cell? ⟨P.sb,4,none⟩=some (.pointer (some ⟨P.tb,0,none⟩))/\w'.cell? ⟨P.gI id,i,none⟩=some (.int .i64 x)) (fun _:World=>True) 7 (by kernel_rfl) ?_;refine zT 0 hSS ?_;(try simp only[zQ]);refine zT 1 hSS ?_;(try simp only[zQ]);refine zT 2 hSS ?_;(try simp only[zQ]);refine zT 3 hSS ?_;(try simp only[zQ]);refine zT 4 hSS ?_;(try simp only[zQ]);refine zT 5 hSS ?_;(try simp only[zQ]);refine zT 6 hSS ?_;(try simp only[zQ]);refine zp 7 fun K hK=>?_;refine zkg (by rfl) (.func 148) [.tmp 82,.tmp 85] _ (by rfl) 148 _ zuF (by rfl) _ (by rfl) _ had ?_;rintro v4 w4 ⟨y,rfl,hh⟩;have HH:=zh hh;have mD:w4.cell? ⟨P.sb,4,none⟩=some (.pointer (some ⟨P.tb,0,none⟩))/\w4.cell? ⟨P.gI id,i,none⟩=some (.int .i64 x)/\w4.frozen? ⟨P.gI id,i,none⟩=false:=by
   rcases hh with⟨_,_,hb⟩|⟨_,_,vv,hst⟩
   ·exact⟨zb hb x4,zb hb p0,((HS.out.later hb).plc hid hi).2.2⟩
   ·have h9:=hst.sr.plc (id:=id) (i:=i) hid hi;exact⟨hst.sr.tp,by rw[<-HX.out];exact h9.2.1,h9.2.2⟩
  obtain⟨b4,b5,b6⟩:=mD;refine hK.out _ _ ⟨b4,b5⟩ ?_;clear hK K hSS had hh;(try simp only[zQ]);refine zp 8 fun K hK=>?_;(try simp only[zA,zB,zC]);go_simp;refine hK.out _ _ ⟨b4,b5⟩ ?_;clear hK K;(try simp only[zQ]);refine zd ?_;refine NoPanic.normal ?_;rcases HH.out with⟨rfl,h1,hb⟩|⟨rfl,h1,vv,hst⟩
  ·have HN:=zh h1;have HB:=zh hb;clear HH h1 hb;go_wp2_with fail;go_ret;exact⟨by rw[HN.out];rfl,P,by rw[HN.out];exact SStp.refl HS.out HB.out,rfl⟩
  ·have HN:=zh h1;have iD:=zh (hst.trans (hst.sr.put (id:=id) (i:=i) hid hi 0 ⟨by decide,by decide⟩));clear HH h1 hst;go_wp2_with fail;go_ret;exact⟨by rw[HN.out];rfl,{ P with vO:=vv },by rw[HN.out];exact iD.out,rfl⟩
theorem zrQ (k x y:Int) (hk:k=40\/k=41\/k=42) (w:World):Calls Tryz.prog 112 #[.int .u8 k,.int .i64 x,.int .i64 y] w fun e w'=>e=.returned (.tuple #[.int .i64 (updE k x y),.int .i64 0])/\w'=w:=by
 rcases hk with rfl|rfl|rfl
 ·rw[show updE 40 x y=wrap64 (x+y) by simp[updE]];go_enter Tryz.func112,Tryz.ntmps112;go_wp2_with fail;go_ret2;exact⟨rfl,rfl⟩
 ·rw[show updE 41 x y=wrap64 (x-y) by simp[updE]];go_enter Tryz.func112,Tryz.ntmps112;go_wp2_with fail;go_ret2;exact⟨rfl,rfl⟩
 ·rw[show updE 42 x y=bits BinOp.xor IntKind.i64 x y by simp[updE]];go_enter Tryz.func112,Tryz.ntmps112;go_wp2_with fail;go_ret2;exact⟨rfl,rfl⟩
theorem zpV (x:Int):I64 (IntKind.i64.wrap x):=by
 rw[IntKind.wrap_i64];unfold I64;omega
theorem zpZ (k x y:Int):I64 (updE k x y):=by
 unfold updE
 split
 ·unfold wrap64 I64;omega
 ·split
  ·unfold wrap64 I64;omega
  ·exact zpV _
theorem zoQ:∀ (vs:List VD) (s:ByteArray) (j:Nat),j<=vs.length->zlt (vs.take j) s=(zmh vs s j).bind fun i=>vs[i]?
 | vs,s,0,_=>by simp[zlt,zmh]
 | vs,s,j+1,h=>by
  rw[zoP (by omega),zoF (by omega),zoQ vs s j (by omega)];by_cases e:vs[j].s.toList=s.toList
  ·have e':(vs[j].s.toList==s.toList)=true:=by simpa using e
   have hj:j<vs.length:=by omega
   rw[if_pos e,if_pos e'];simp[hj]
  ·have e':¬ (vs[j].s.toList==s.toList)=true:=by simpa using e
   rw[if_neg e,if_neg e']
theorem zuN (f:FR) (s:ByteArray):zlt f.vs s=(f.at s).bind fun i=>f.vs[i]?:=by
 have:=zoQ f.vs s f.vs.length (Nat.le_refl _);rw[List.take_of_length_le (Nat.le_refl _)] at this;exact this
theorem zqK {S:ST} (h:S.WF) {s:ByteArray} {v:VD} (hv:zlt S.cur.vs s=some v):∃ id,S.num s=some id/\CurK S id v.k:=by
 rw[zuN,Option.bind_eq_some_iff] at hv;obtain⟨i,h1,h2⟩:=hv;obtain⟨kd,hw⟩:=h.cur;have hi:=FR.at_lt h1;have hc:i<S.cur.cs.length:=by rw[hw.len];exact hi
 refine⟨S.cur.cs[i],by rw[ST.num,h1];simp[hc],i,v,h2,List.getElem?_eq_getElem hc,rfl⟩
theorem zqh {vs:List VD} {k n:Int} {s:ByteArray} {ks:List T} (h:fltE vs (.nd k n s ks)=0):ownE vs k s=0/\zlF vs ks=0:=by
 rw[fltE] at h
 split at h
 ·contradiction
 ·next h1=>exact⟨Classical.not_not.1 h1,h⟩
theorem znd {vs:List VD}:∀ {ks:List T},zlF vs ks=0->∀ t∈ks,fltE vs t=0
 | t::ts,h,u,hu=>by
  rw[zlF] at h
  split at h
  ·contradiction
  ·next h1 =>
   rcases List.mem_cons.1 hu with rfl|hu
   ·exact Classical.not_not.1 h1
   ·exact znd h u hu
theorem znG {vs:List VD} {k:Int} {s:ByteArray} (h:ownE vs k s=0) (hn:zou k≠0):∃ v,zlt vs s=some v/\v.k=zou k:=by
 rw[ownE,if_neg hn] at h
 cases hf:zlt vs s with
 | none=>rw[hf] at h;cases h
 | some v =>
  rw[hf] at h;dsimp only at h
  split at h
  ·next h1=>exact⟨v,rfl,h1⟩
  ·cases h
theorem zoY {S:ST} (h:S.WF) {p:T} (hp:isP p=true) (hf:fltE S.cur.vs p=0):∃ id k,S.num p.s=some id/\CurK S id k/\k≠3:=by
 obtain⟨k,n,s,ks⟩:=p;simp only[isP,T.k_nd,Bool.and_eq_true,Bool.or_eq_true,beq_iff_eq] at hp;obtain⟨h1,_⟩:=zqh hf;rcases hp.1 with rfl|rfl
 ·obtain⟨v,h2,h3⟩:=znG h1 (by decide);obtain⟨id,h4,h5⟩:=zqK h h2;exact⟨id,v.k,h4,h5,by rw[h3];decide⟩
 ·obtain⟨v,h2,h3⟩:=znG h1 (by decide);obtain⟨id,h4,h5⟩:=zqK h h2;exact⟨id,v.k,h4,h5,by rw[h3];decide⟩
def zt7 (S:ST) (id i jd j:Nat):ST:=(S.put id i (S.el jd j)).put jd j (S.el id i)
def zmP (S:ST) (k:Int) (s qs:ByteArray) (r2:Int) (id i:Nat):Int×ST :=
 if k=40\/k=41\/k=42 then (0,S.put id i (updE k (S.el id i) r2))
 else if k=43 then match S.num qs with
  | none=>(0,S)
  | some jd=>if 0<=r2/\r2<(S.cell jd).length then (0,zt7 S id i jd r2.toNat) else (12,S)
 else if k=44\/k=45 then match S.num s with
  | none=>(0,S)
  | some ah=>zm8 S k id i ah
 else zlm S k id i
def znz (S:ST) (k:Int) (q:T):Int×Int:=if k=43 then indE S.look q else if k=40\/k=41\/k=42 then zkt S.look q else (0,0)
def zmQ (S:ST) (k:Int) (s ps qs:ByteArray) (r1:Int) (r2:Int×Int):Int×ST :=
 if r2.2≠0 then (r2.2,S) else match S.num ps with
  | none=>(0,S)
  | some id=>if 0<=r1/\r1<(S.cell id).length then zmP S k s qs r2.1 id r1.toNat else (12,S)
def zln (S:ST) (k:Int) (s:ByteArray) (p q:T) (r1 r2:Int×Int):Int×ST:=if r1.2≠0 then (r1.2,S) else zmQ S k s p.s q.s r1.1 r2
def nil0:T:=.nd 0 0 ⟨#[]⟩ []
def zpI (S:ST):T->Int×ST
 | .nd k _ s ks=>zln S k s (ks.getD 0 nil0) (ks.getD 1 nil0) (indE S.look (ks.getD 0 nil0)) (znz S k (ks.getD 1 nil0))
def doE (S:ST) (t:T):Int×ST :=
 if isS t=false then (3,S) else if t.k=56 then (9,S) else if basB t.k=false then (7,S) else if fltE S.cur.vs t≠0 then (fltE S.cur.vs t,S) else zpI S t
def zlp (S:ST):T->Int×ST
 | .nd k n s ks=>doE S (.nd (zov k) n s ks)
theorem zsR:IsFn Tryz.prog 111 Tryz.f111:=⟨Tryz.func111,by kernel_rfl,by kernel_rfl⟩
theorem zvF:IsFn Tryz.prog 113 Tryz.f113:=⟨Tryz.func113,by kernel_rfl,by kernel_rfl⟩
theorem zuP {W:World} {n0:Nat} {P:Ph} {S:ST} (h:SR W n0 P S) (k n:Int) (s:ByteArray) (p:T) (v:Value) (hv:NV W Any (.nd k n s [p]) v) (hk:44<=k/\k<=49) (id:Nat) (hid:S.num p.s=some id) (kp:Int) (hck:CurK S id kp) (hkp:kp≠3)
  (hst:k=44\/k=45->∃ ah,S.num s=some ah/\CurK S ah 3) :
  Calls Tryz.prog 60 #[.pointer (some ⟨P.sb,0,none⟩),v] W fun e W'=>e=.returned (.int .i64 (zln S k s p nil0 (indE S.look p) (0,0)).1)/\∃ P',SStp n0 P S W P' (zln S k s p nil0 (indE S.look p) (0,0)).2 W'/\P'.sb=P.sb:=by
 obtain⟨A,c,rfl,hf,hlk,hlc,hrow⟩:=hv.open_;simp only[T.k_nd,T.n_nd,T.s_nd,T.ks_nd] at *
 obtain⟨R,hR⟩:∃ R,zln S k s p nil0 (indE S.look p) (0,0)=R:=⟨_,rfl⟩
 rw[hR];have HRR:=zh hR;have HS:=zh h;have HL:=zh (zsA n0 P S h.wf);obtain⟨a,t0,A2,c2,rfl,_,Ht,⟨y0,y1,y2,y3⟩,hn0⟩:=hrow.nd (i:=0) (by simp);simp only[Nat.zero_mul,Addr.add_zero',List.length_cons,List.length_nil,Nat.zero_add] at *
 have ht0:t0=p:=Ht.out.symm;subst ht0;have hbx:=box4 (heap_alloc_new W (.cells #[.int .u8 k,.int .i64 n,.string s,.slice (some a) 1 c] 29));have av:=zh (heap_alloc_new W (.cells #[.int .u8 k,.int .i64 n,.string s,.slice (some a) 1 c] 29));obtain⟨W0,hW0⟩:∃ W0,W.alloc (.cells #[.int .u8 k,.int .i64 n,.string s,.slice (some a) 1 c] 29)=W0:=⟨_,rfl⟩
 have q0:Below W.heap.size W W0:=hW0▸zkd (Below.refl _ _) _;rw[hW0] at hbx av;have iO:=zh q0;have z0:=zb q0 y0;have z1:=zb q0 y1;have z2:=zb q0 y2;have z3:=zb q0 y3;obtain⟨⟨iv,ie⟩,hiv⟩:∃ r,indE S.look t0=r:=⟨_,rfl⟩
 have qC:=zh (znl HL.out t0 _ W0 (hn0.later q0) (h.later q0));rw[hiv] at qC;have qp:=zh (show R=zln S k s t0 nil0 (iv,ie) (0,0) by rw[<-hR,hiv]);have ui:=zh (fun W' (hb:Below W.heap.size W W')=>zmj (h.later hb) t0.s id hid);obtain⟨x0,x1,x2,x3⟩:=hbx;have aF:=hck.lt h.wf;have eu:=zh hck;have qD:=zh hid;clear hR hiv h hv hn0 hrow hlk hlc y0 y1 y2 y3 q0 hf hck hid;have k40:(k==40)=false:=by simp;omega
 have k41:(k==41)=false:=by simp;omega
 have k42:(k==42)=false:=by simp;omega
 have k43:(k==43)=false:=by simp;omega
 go_enter Tryz.func60,Tryz.ntmps60;go_wp2_with fail;refine qC.out.mono ?_;rintro e w1 ⟨rfl,ae⟩;have HB1:=zh (zka iO.out ae);have aG:=zh (zkb av.out ae);have u0:=zb ae z0;have u1:=zb ae z1;have u2:=zb ae z2;have u3:=zb ae z3;have v0:=zb ae x0;have v2:=zb ae x2;have v3:=zb ae x3;clear ae z0 z1 z2 z3 x0 x1 x2 x3;dsimp only;by_cases he:ie=0
 ·subst he;have HR1:=zh (show R=zmQ S k s t0.s nil0.s iv (0,0) by rw[qp.out,zln,if_neg (by simp)]);go_wp2_with fail;refine(ui.out _ HB1.out).mono ?_;rintro e w2 ⟨rfl,aj⟩;have HB2:=zh (zka HB1.out aj);have bW:=zh (zkb aG.out aj);have r0:=zb aj v0;have r2:=zb aj v2;have HS2:=zh (HS.out.later HB2.out);clear u0 u1 u2 u3 v0 v2 v3 aj;have HR2:=zh (show R=if 0<=iv/\iv<(S.cell id).length then zmP S k s nil0.s 0 id iv.toNat else (12,S) by
   rw[HR1.out,zmQ,if_neg (by simp),qD.out])
  by_cases hr:0<=iv/\iv<((S.cell id).length:Int)
  ·obtain⟨i,rfl⟩:∃ i:Nat,iv=i:=⟨iv.toNat,by omega⟩
   have hi:i<(S.cell id).length:=by omega
   have HR3:=zh (show R=zmP S k s nil0.s 0 id i by rw[HR2.out,if_pos hr];rfl);obtain⟨⟨c3,hci,hc3⟩,p0,p1⟩:=HS2.out.plc aF hi;have w0:w2.cell? ⟨P.cb id,0,none⟩=some (.slice (some ⟨P.gI id,0,none⟩) (S.cell id).length c3):=by rw[<-hci];exact zc (HS2.out.cbox aF) rfl
   obtain⟨m,hm⟩:∃ m,(S.cell id).length=m:=⟨_,rfl⟩
   have HM:=zh hm;rw[hm] at w0;have hi1:¬ (i:Int)<0:=by omega
   have hi2:¬ (m:Int)<=(i:Int):=by omega
   have hi3:(i:Int)<(m:Int):=by omega
   clear HR1 HR2 hr hci hc3 hm;by_cases h45:k=44\/k=45
   ·obtain⟨ah,hs1,hs2⟩:=hst h45;have hne:=eu.out.ne hs2 HS.out.wf hkp;have HR4:=zh (show R=zm8 S k id i ah by
     rw[HR3.out,zmP,if_neg (by omega),if_neg (by omega),if_pos h45,hs1])
    have HMV:=zh (fun W' (hb:Below W.heap.size W W')=>zuq (HS.out.later hb) k h45 id i ah aF hi hs2 hne);have HSC:=zh (fun W' (hb:Below W.heap.size W W')=>zmj (HS.out.later hb) s ah hs1);have kk:(k==44||k==45)=true:=by rcases h45 with rfl|rfl<;>rfl
    clear hs1 hs2 HR3 qD;rcases h45 with rfl|rfl
    ·skip
     go_upto_region 34 with fail;have hSS:(fun w':World=>w'.cell? ⟨W.heap.size,0,none⟩=some (.int .u8 44)/\w'.cell? ⟨W.heap.size,2,none⟩=some (.string s)) w2.drew/\(fun _:World=>True) w2.drew:=⟨⟨r0,r2⟩,trivial⟩
     refine wp_region_noPanic ?_;refine zkc (fun w':World=>w'.cell? ⟨W.heap.size,0,none⟩=some (.int .u8 44)/\w'.cell? ⟨W.heap.size,2,none⟩=some (.string s)) (fun _:World=>True) 7 (by kernel_rfl) ?_;refine zT 0 hSS ?_;(try simp only[zQ]);refine zT 1 hSS ?_;(try simp only[zQ]);refine zT 2 hSS ?_;(try simp only[zQ]);refine zT 3 hSS ?_;(try simp only[zQ]);refine zT 4 hSS ?_;(try simp only[zQ]);refine zT 5 hSS ?_;(try simp only[zQ]);have had:Calls Tryz.prog 111 [.pointer (some ⟨P.sb,0,none⟩),.string s].toArray w2.drew fun e W'=>∃ u,e=.returned u/\u=.pointer (some ⟨P.cb ah,0,none⟩)/\Below w2.drew.heap.size w2.drew W' :=
      (HSC.out _ HB2.out.drew).mono fun e W' hh=>⟨_,hh.1,rfl,hh.2⟩
     refine zo 6 fun K hK=>?_;refine zkg (by rfl) (.func 111) [.tmp 138,.tmp 140] _ (by rfl) 111 _ zsR (by rfl) _ (by rfl) _ had ?_;rintro v4 w4 ⟨rfl,hb4⟩;have ax:=zh (zka HB2.out.drew hb4);have t0':=zb hb4 (show w2.drew.cell? _=_ from r0);have t2':=zb hb4 (show w2.drew.cell? _=_ from r2);refine hK.out _ _ ⟨⟨t0',t2'⟩,trivial⟩ ?_;clear hK K hSS had hb4;(try simp only[zQ]);have had:Calls Tryz.prog 113 [.int .u8 44,.pointer (some ⟨P.gI id,i,none⟩),.pointer (some ⟨P.cb ah,0,none⟩)].toArray w4 fun e W'=>∃ u,e=.returned u/\u=.int .i64 R.1/\∃ P',SStp n0 P S w4 P' R.2 W'/\P'.sb=P.sb:=by
      refine(HMV.out _ ax.out).mono ?_;rintro e W' ⟨h1,h2⟩;rw[<-HR4.out] at h1 h2;exact⟨_,h1,rfl,h2⟩
     refine zp 7 fun K hK=>?_;refine zkg (by rfl) (.func 113) [.tmp 136,.tmp 137,.tmp 141] _ (by rfl) 113 _ zvF (by rfl) _ (by rfl) _ had ?_;rintro v5 w5 ⟨rfl,P',hs5,vJ⟩;have hno:¬ OwnB (rows P S) W.heap.size:=fun⟨q,hq⟩=>by have:=(HS.out.rws.lt q _ hq).2;omega
     have HF:=zh hs5;have HP:=zh vJ;have b0:=zk0 hs5.st.chg t0' hno;have b2:=zk0 hs5.st.chg t2' hno;refine hK.out _ _ ⟨b0,b2⟩ ?_;clear hK K had hs5 vJ;(try simp only[zQ]);refine zp 8 fun K hK=>?_;(try simp only[zA,zB,zC]);go_simp;refine hK.out _ _ ⟨b0,b2⟩ ?_;clear hK K;(try simp only[zQ]);refine zd ?_;refine NoPanic.normal ?_;go_wp2_with fail;go_ret;exact⟨rfl,P',⟨HF.out.st.after ax.out HS.out.rws,HF.out.wf⟩,HP.out⟩
    ·skip
     go_upto_region 34 with fail;have hSS:(fun w':World=>w'.cell? ⟨W.heap.size,0,none⟩=some (.int .u8 45)/\w'.cell? ⟨W.heap.size,2,none⟩=some (.string s)) w2.drew/\(fun _:World=>True) w2.drew:=⟨⟨r0,r2⟩,trivial⟩
     refine wp_region_noPanic ?_;refine zkc (fun w':World=>w'.cell? ⟨W.heap.size,0,none⟩=some (.int .u8 45)/\w'.cell? ⟨W.heap.size,2,none⟩=some (.string s)) (fun _:World=>True) 7 (by kernel_rfl) ?_;refine zT 0 hSS ?_;(try simp only[zQ]);refine zT 1 hSS ?_;(try simp only[zQ]);refine zT 2 hSS ?_;(try simp only[zQ]);refine zT 3 hSS ?_;(try simp only[zQ]);refine zT 4 hSS ?_;(try simp only[zQ]);refine zT 5 hSS ?_;(try simp only[zQ]);have had:Calls Tryz.prog 111 [.pointer (some ⟨P.sb,0,none⟩),.string s].toArray w2.drew fun e W'=>∃ u,e=.returned u/\u=.pointer (some ⟨P.cb ah,0,none⟩)/\Below w2.drew.heap.size w2.drew W' :=
      (HSC.out _ HB2.out.drew).mono fun e W' hh=>⟨_,hh.1,rfl,hh.2⟩
     refine zo 6 fun K hK=>?_;refine zkg (by rfl) (.func 111) [.tmp 138,.tmp 140] _ (by rfl) 111 _ zsR (by rfl) _ (by rfl) _ had ?_;rintro v4 w4 ⟨rfl,hb4⟩;have ax:=zh (zka HB2.out.drew hb4);have t0':=zb hb4 (show w2.drew.cell? _=_ from r0);have t2':=zb hb4 (show w2.drew.cell? _=_ from r2);refine hK.out _ _ ⟨⟨t0',t2'⟩,trivial⟩ ?_;clear hK K hSS had hb4;(try simp only[zQ]);have had:Calls Tryz.prog 113 [.int .u8 45,.pointer (some ⟨P.gI id,i,none⟩),.pointer (some ⟨P.cb ah,0,none⟩)].toArray w4 fun e W'=>∃ u,e=.returned u/\u=.int .i64 R.1/\∃ P',SStp n0 P S w4 P' R.2 W'/\P'.sb=P.sb:=by
      refine(HMV.out _ ax.out).mono ?_;rintro e W' ⟨h1,h2⟩;rw[<-HR4.out] at h1 h2;exact⟨_,h1,rfl,h2⟩
     refine zp 7 fun K hK=>?_;refine zkg (by rfl) (.func 113) [.tmp 136,.tmp 137,.tmp 141] _ (by rfl) 113 _ zvF (by rfl) _ (by rfl) _ had ?_;rintro v5 w5 ⟨rfl,P',hs5,vJ⟩;have hno:¬ OwnB (rows P S) W.heap.size:=fun⟨q,hq⟩=>by have:=(HS.out.rws.lt q _ hq).2;omega
     have HF:=zh hs5;have HP:=zh vJ;have b0:=zk0 hs5.st.chg t0' hno;have b2:=zk0 hs5.st.chg t2' hno;refine hK.out _ _ ⟨b0,b2⟩ ?_;clear hK K had hs5 vJ;(try simp only[zQ]);refine zp 8 fun K hK=>?_;(try simp only[zA,zB,zC]);go_simp;refine hK.out _ _ ⟨b0,b2⟩ ?_;clear hK K;(try simp only[zQ]);refine zd ?_;refine NoPanic.normal ?_;go_wp2_with fail;go_ret;exact⟨rfl,P',⟨HF.out.st.after ax.out HS.out.rws,HF.out.wf⟩,HP.out⟩
   ·have xx:k=46\/k=49\/k=47\/k=48:=by omega
    have k44:(k==44)=false:=by simp;omega
    have k45:(k==45)=false:=by simp;omega
    have HR4:=zh (show R=zlm S k id i by rw[HR3.out,zmP,if_neg (by omega),if_neg (by omega),if_neg h45]);have HTR:=zh (zpo HS2.out k xx id i aF hi);rw[<-HR4.out] at HTR;clear HR3 p0 p1;go_wp2_with fail;refine HTR.out.mono ?_;rintro e w3 ⟨rfl,P',hs3,hp3⟩;have HF:=zh hs3;have HP:=zh hp3;clear hs3 hp3;go_wp2_with fail;go_ret;exact⟨rfl,P',⟨HF.out.st.after HB2.out HS.out.rws,HF.out.wf⟩,HP.out⟩
  ·have HN:=zh (show R=(12,S) by rw[HR2.out,if_neg hr]);obtain⟨A3,c3,hci,hc3,aY⟩:=HS2.out.items aF;have w0:w2.cell? ⟨P.cb id,0,none⟩=some (.slice A3 (S.cell id).length c3):=by rw[<-hci];exact zc (HS2.out.cbox aF) rfl
   obtain⟨m,hm⟩:∃ m,(S.cell id).length=m:=⟨_,rfl⟩
   rw[hm] at w0 hr;clear HR1 HR2 hci hc3 aY hm;by_cases hneg:iv<0
   ·go_wp2_with fail;go_ret;exact⟨by rw[HN.out];rfl,P,by rw[HN.out];exact SStp.refl HS.out HB2.out,rfl⟩
   ·have hge:(m:Int)<=iv:=by omega
    go_wp2_with fail;go_ret;exact⟨by rw[HN.out];rfl,P,by rw[HN.out];exact SStp.refl HS.out HB2.out,rfl⟩
 ·have HN:=zh (show R=(ie,S) by rw[qp.out,zln,if_pos he]);have e1:(ie==0)=false:=by simpa using he
  have e2:(ie != 0)=true:=by simpa using he
  clear he;go_wp2_with fail;go_ret;exact⟨by rw[HN.out];rfl,P,by rw[HN.out];exact SStp.refl HS.out HB1.out,rfl⟩
theorem zo8:IsFn Tryz.prog 112 Tryz.f112:=⟨Tryz.func112,by kernel_rfl,by kernel_rfl⟩
theorem zxn (a:Addr):a.add (1*4)=⟨a.block,a.off+4,none⟩:=by unfold Addr.add;split<;>simp_all
theorem zuO {W:World} {n0:Nat} {P:Ph} {S:ST} (h:SR W n0 P S) (k n:Int) (s:ByteArray) (p q:T) (v:Value) (hv:NV W Any (.nd k n s [p,q]) v) (hk:k=40\/k=41\/k=42) (id:Nat) (hid:S.num p.s=some id) (kp:Int) (hck:CurK S id kp) :
  Calls Tryz.prog 60 #[.pointer (some ⟨P.sb,0,none⟩),v] W fun e W'=>e=.returned (.int .i64 (zln S k s p q (indE S.look p) (zkt S.look q)).1)/\∃ P',SStp n0 P S W P' (zln S k s p q (indE S.look p) (zkt S.look q)).2 W'/\P'.sb=P.sb:=by
 obtain⟨A,c,rfl,hf,hlk,hlc,hrow⟩:=hv.open_;simp only[T.k_nd,T.n_nd,T.s_nd,T.ks_nd] at *
 obtain⟨R,hR⟩:∃ R,zln S k s p q (indE S.look p) (zkt S.look q)=R:=⟨_,rfl⟩
 rw[hR];have HRR:=zh hR;have HS:=zh h;have HL:=zh (zsA n0 P S h.wf);obtain⟨a,t0,A2,c2,rfl,_,Ht,h4,hn0⟩:=hrow.nd (i:=0) (by simp);obtain⟨a',t1,A3,c3,ea,_,Hu,h5,hn1⟩:=hrow.nd (i:=1) (by simp);injection ea with ea;subst ea;have ha:a.add (1*4)=⟨a.block,a.off+4,none⟩:=zxn a;rw[ha] at h5;have ht0:t0=p:=Ht.out.symm;subst ht0;have ht1:t1=q:=Hu.out.symm;subst ht1;simp only[Nat.zero_mul,Nat.one_mul,Addr.add_zero',List.length_cons,List.length_nil,Nat.zero_add,Nat.reduceAdd] at *
 have hbx:=box4 (heap_alloc_new W (.cells #[.int .u8 k,.int .i64 n,.string s,.slice (some a) 2 c] 29));have av:=zh (heap_alloc_new W (.cells #[.int .u8 k,.int .i64 n,.string s,.slice (some a) 2 c] 29));obtain⟨W0,hW0⟩:∃ W0,W.alloc (.cells #[.int .u8 k,.int .i64 n,.string s,.slice (some a) 2 c] 29)=W0:=⟨_,rfl⟩
 have q0:Below W.heap.size W W0:=hW0▸zkd (Below.refl _ _) _;rw[hW0] at hbx av;have iO:=zh q0;have H4:=zh h4;have H5:=zh h5;have g4:=zmv q0 h4;obtain⟨z0,z1,z2,z3⟩:=g4;obtain⟨⟨iv,ie⟩,hiv⟩:∃ r,indE S.look t0=r:=⟨_,rfl⟩
 obtain⟨⟨jv,je⟩,hjv⟩:∃ r,zkt S.look t1=r:=⟨_,rfl⟩
 have qC:=zh (znl HL.out t0 _ W0 (hn0.later q0) (h.later q0));rw[hiv] at qC;have wI:=zh (show ∀ W',Below W.heap.size W W'->Calls Tryz.prog 110 #[nv t1.k t1.n t1.s A3 t1.ks.length c3,.func (.func 109) #[.pointer (some ⟨P.sb,0,none⟩)] #[]] W' (NumE (jv,je) W') from fun W' hb=>hjv▸znU HL.out t1 _ W' (hn1.later hb) (h.later hb));have qp:=zh (show R=zln S k s t0 t1 (iv,ie) (jv,je) by rw[<-hR,hiv,hjv]);have ui:=zh (fun W' (hb:Below W.heap.size W W')=>zmj (h.later hb) t0.s id hid);obtain⟨x0,x1,x2,x3⟩:=hbx;have aF:=hck.lt h.wf;have qD:=zh hid;clear hR hiv hjv hv hn0 hn1 hrow hlk hlc q0 hf hck hid h4 h5;clear h;have k43:(k==43)=false:=by simp;omega
 have qo:=zh (fun x w=>zrQ k x jv hk w);go_enter Tryz.func60,Tryz.ntmps60;go_wp2_with fail;refine qC.out.mono ?_;rintro e w1 ⟨rfl,ae⟩;have HB1:=zh (zka iO.out ae);have aG:=zh (zkb av.out ae);have v0:=zb ae x0;have v3:=zb ae x3;obtain⟨y0,y1,y2,y3⟩:=zmv HB1.out H5.out;clear ae z0 z1 z2 z3 x0 x1 x2 x3;dsimp only;by_cases he:ie=0
 ·subst he;have HR1:=zh (show R=zmQ S k s t0.s t1.s iv (jv,je) by rw[qp.out,zln,if_neg (by simp)]);rcases hk with rfl|rfl|rfl
  ·skip
   go_wp2_with fail;refine(wI.out _ HB1.out).mono ?_;rintro e w2 ⟨rfl,aj⟩;have HB2:=zh (zka HB1.out aj);have bW:=zh (zkb aG.out aj);have r0:=zb aj v0;have r3:=zb aj v3;obtain⟨z0,z1,z2,z3⟩:=zmv HB2.out H4.out;clear aj y0 y1 y2 y3 v0 v3;dsimp only;by_cases fG:je=0
   ·subst fG;go_wp2_with fail;refine(ui.out _ HB2.out).mono ?_;rintro e w3 ⟨rfl,bF⟩;have HB3:=zh (zka HB2.out bF);have H40:=zh (zkb bW.out bF);have s0:=zb bF r0;have s3:=zb bF r3;have HS2:=zh (HS.out.later HB3.out);clear r0 r3 bF z0 z1 z2 z3;have HR2:=zh (show R=if 0<=iv/\iv<(S.cell id).length then zmP S 40 s t1.s jv id iv.toNat else (12,S) by
     rw[HR1.out,zmQ,if_neg (by simp),qD.out])
    by_cases hr:0<=iv/\iv<((S.cell id).length:Int)
    ·obtain⟨i,rfl⟩:∃ i:Nat,iv=i:=⟨iv.toNat,by omega⟩
     have hi:i<(S.cell id).length:=by omega
     have HR3:=zh (show R=(0,S.put id i (updE 40 (S.el id i) jv)) by rw[HR2.out,if_pos hr,zmP,if_pos (by omega)];rfl);obtain⟨⟨c4,hci,hc4⟩,p0,p1⟩:=HS2.out.plc aF hi;have w0:w3.cell? ⟨P.cb id,0,none⟩=some (.slice (some ⟨P.gI id,0,none⟩) (S.cell id).length c4):=by rw[<-hci];exact zc (HS2.out.cbox aF) rfl
     have iD:=zh (fun W' (hb:Below W.heap.size W W')=>(HS.out.later hb).put aF hi (updE 40 (S.el id i) jv) (zpZ _ _ _));obtain⟨x,hx⟩:∃ x,S.el id i=x:=⟨_,rfl⟩
     rw[hx] at p0 HR3 iD;obtain⟨m,hm⟩:∃ m,(S.cell id).length=m:=⟨_,rfl⟩
     rw[hm] at w0;have hi1:¬ (i:Int)<0:=by omega
     have hi2:¬ (m:Int)<=(i:Int):=by omega
     have hi3:(i:Int)<(m:Int):=by omega
     clear HR1 HR2 hr hci hc4 hm hx;obtain⟨U,hU⟩:∃ U,updE 40 x jv=U:=⟨_,rfl⟩
     rw[hU] at HR3 iD;have wB:=zh (hU▸qo.out x);clear hU;go_upto_region 22 with fail;have hSS:(fun w':World=>w'.cell? ⟨W.heap.size,0,none⟩=some (.int .u8 40)/\w'.cell? ⟨P.gI id,i,none⟩=some (.int .i64 x)) w3.drew/\(fun _:World=>True) w3.drew:=⟨⟨s0,p0⟩,trivial⟩
     refine wp_region_noPanic ?_;refine zkc (fun w':World=>w'.cell? ⟨W.heap.size,0,none⟩=some (.int .u8 40)/\w'.cell? ⟨P.gI id,i,none⟩=some (.int .i64 x)) (fun _:World=>True) 11 (by kernel_rfl) ?_;refine zT 0 hSS ?_;(try simp only[zQ]);refine zT 1 hSS ?_;(try simp only[zQ]);refine zT 2 hSS ?_;(try simp only[zQ]);refine zT 3 hSS ?_;(try simp only[zQ]);refine zT 4 hSS ?_;(try simp only[zQ]);refine zT 5 hSS ?_;(try simp only[zQ]);have had:Calls Tryz.prog 112 [.int .u8 40,.int .i64 x,.int .i64 jv].toArray w3.drew fun e W'=>∃ u,e=.returned u/\u=.tuple #[.int .i64 U,.int .i64 0]/\W'=w3.drew :=
      (wB.out w3.drew).mono fun e W' hh=>⟨_,hh.1,rfl,hh.2⟩
     refine zo 6 fun K hK=>?_;refine zkg (by rfl) (.func 112) [.tmp 86,.tmp 89,.tmp 90] _ (by rfl) 112 _ zo8 (by rfl) _ (by rfl) _ had ?_;rintro v4 w4 ⟨rfl,rfl⟩;refine hK.out _ _ hSS ?_;clear hK K had;(try simp only[zQ]);refine zT 7 hSS ?_;(try simp only[zQ]);refine zT 8 hSS ?_;(try simp only[zQ]);refine zT 9 hSS ?_;(try simp only[zQ]);refine zT 10 hSS ?_;(try simp only[zQ]);refine zp 11 fun K hK=>?_;(try simp only[zA,zB,zC]);go_simp;refine hK.out _ _ hSS.1 ?_;clear hK K hSS;(try simp only[zQ]);refine zd ?_;refine NoPanic.normal ?_;go_wp2_with fail;go_ret;refine⟨by rw[HR3.out];rfl,P,?_,rfl⟩;rw[HR3.out];have:=iD.out _ HB3.out.drew;exact⟨this.st.after HB3.out.drew HS.out.rws,this.wf⟩
    ·skip
     have HN:=zh (show R=(12,S) by rw[HR2.out,if_neg hr]);obtain⟨A3,c3,hci,hc3,aY⟩:=HS2.out.items aF;have w0:w3.cell? ⟨P.cb id,0,none⟩=some (.slice A3 (S.cell id).length c3):=by rw[<-hci];exact zc (HS2.out.cbox aF) rfl
     obtain⟨m,hm⟩:∃ m,(S.cell id).length=m:=⟨_,rfl⟩
     rw[hm] at w0 hr;clear HR2 hci hc3 aY hm;by_cases hneg:iv<0
     ·go_wp2_with fail;go_ret;exact⟨by rw[HN.out];rfl,P,by rw[HN.out];exact SStp.refl HS.out HB3.out,rfl⟩
     ·have hge:(m:Int)<=iv:=by omega
      go_wp2_with fail;go_ret;exact⟨by rw[HN.out];rfl,P,by rw[HN.out];exact SStp.refl HS.out HB3.out,rfl⟩
   ·skip
    have HN:=zh (show R=(je,S) by rw[HR1.out,zmQ,if_pos fG]);have e1:(je==0)=false:=by simpa using fG
    have e2:(je != 0)=true:=by simpa using fG
    clear fG;go_wp2_with fail;go_ret;exact⟨by rw[HN.out];rfl,P,by rw[HN.out];exact SStp.refl HS.out HB2.out,rfl⟩
  ·skip
   go_wp2_with fail;refine(wI.out _ HB1.out).mono ?_;rintro e w2 ⟨rfl,aj⟩;have HB2:=zh (zka HB1.out aj);have bW:=zh (zkb aG.out aj);have r0:=zb aj v0;have r3:=zb aj v3;obtain⟨z0,z1,z2,z3⟩:=zmv HB2.out H4.out;clear aj y0 y1 y2 y3 v0 v3;dsimp only;by_cases fG:je=0
   ·subst fG;go_wp2_with fail;refine(ui.out _ HB2.out).mono ?_;rintro e w3 ⟨rfl,bF⟩;have HB3:=zh (zka HB2.out bF);have H41:=zh (zkb bW.out bF);have s0:=zb bF r0;have s3:=zb bF r3;have HS2:=zh (HS.out.later HB3.out);clear r0 r3 bF z0 z1 z2 z3;have HR2:=zh (show R=if 0<=iv/\iv<(S.cell id).length then zmP S 41 s t1.s jv id iv.toNat else (12,S) by
     rw[HR1.out,zmQ,if_neg (by simp),qD.out])
    by_cases hr:0<=iv/\iv<((S.cell id).length:Int)
    ·obtain⟨i,rfl⟩:∃ i:Nat,iv=i:=⟨iv.toNat,by omega⟩
     have hi:i<(S.cell id).length:=by omega
     have HR3:=zh (show R=(0,S.put id i (updE 41 (S.el id i) jv)) by rw[HR2.out,if_pos hr,zmP,if_pos (by omega)];rfl);obtain⟨⟨c4,hci,hc4⟩,p0,p1⟩:=HS2.out.plc aF hi;have w0:w3.cell? ⟨P.cb id,0,none⟩=some (.slice (some ⟨P.gI id,0,none⟩) (S.cell id).length c4):=by rw[<-hci];exact zc (HS2.out.cbox aF) rfl
     have iD:=zh (fun W' (hb:Below W.heap.size W W')=>(HS.out.later hb).put aF hi (updE 41 (S.el id i) jv) (zpZ _ _ _));obtain⟨x,hx⟩:∃ x,S.el id i=x:=⟨_,rfl⟩
     rw[hx] at p0 HR3 iD;obtain⟨m,hm⟩:∃ m,(S.cell id).length=m:=⟨_,rfl⟩
     rw[hm] at w0;have hi1:¬ (i:Int)<0:=by omega
     have hi2:¬ (m:Int)<=(i:Int):=by omega
     have hi3:(i:Int)<(m:Int):=by omega
     clear HR1 HR2 hr hci hc4 hm hx;obtain⟨U,hU⟩:∃ U,updE 41 x jv=U:=⟨_,rfl⟩
     rw[hU] at HR3 iD;have wB:=zh (hU▸qo.out x);clear hU;go_upto_region 22 with fail;have hSS:(fun w':World=>w'.cell? ⟨W.heap.size,0,none⟩=some (.int .u8 41)/\w'.cell? ⟨P.gI id,i,none⟩=some (.int .i64 x)) w3.drew/\(fun _:World=>True) w3.drew:=⟨⟨s0,p0⟩,trivial⟩
     refine wp_region_noPanic ?_;refine zkc (fun w':World=>w'.cell? ⟨W.heap.size,0,none⟩=some (.int .u8 41)/\w'.cell? ⟨P.gI id,i,none⟩=some (.int .i64 x)) (fun _:World=>True) 11 (by kernel_rfl) ?_;refine zT 0 hSS ?_;(try simp only[zQ]);refine zT 1 hSS ?_;(try simp only[zQ]);refine zT 2 hSS ?_;(try simp only[zQ]);refine zT 3 hSS ?_;(try simp only[zQ]);refine zT 4 hSS ?_;(try simp only[zQ]);refine zT 5 hSS ?_;(try simp only[zQ]);have had:Calls Tryz.prog 112 [.int .u8 41,.int .i64 x,.int .i64 jv].toArray w3.drew fun e W'=>∃ u,e=.returned u/\u=.tuple #[.int .i64 U,.int .i64 0]/\W'=w3.drew :=
      (wB.out w3.drew).mono fun e W' hh=>⟨_,hh.1,rfl,hh.2⟩
     refine zo 6 fun K hK=>?_;refine zkg (by rfl) (.func 112) [.tmp 86,.tmp 89,.tmp 90] _ (by rfl) 112 _ zo8 (by rfl) _ (by rfl) _ had ?_;rintro v4 w4 ⟨rfl,rfl⟩;refine hK.out _ _ hSS ?_;clear hK K had;(try simp only[zQ]);refine zT 7 hSS ?_;(try simp only[zQ]);refine zT 8 hSS ?_;(try simp only[zQ]);refine zT 9 hSS ?_;(try simp only[zQ]);refine zT 10 hSS ?_;(try simp only[zQ]);refine zp 11 fun K hK=>?_;(try simp only[zA,zB,zC]);go_simp;refine hK.out _ _ hSS.1 ?_;clear hK K hSS;(try simp only[zQ]);refine zd ?_;refine NoPanic.normal ?_;go_wp2_with fail;go_ret;refine⟨by rw[HR3.out];rfl,P,?_,rfl⟩;rw[HR3.out];have:=iD.out _ HB3.out.drew;exact⟨this.st.after HB3.out.drew HS.out.rws,this.wf⟩
    ·skip
     have HN:=zh (show R=(12,S) by rw[HR2.out,if_neg hr]);obtain⟨A3,c3,hci,hc3,aY⟩:=HS2.out.items aF;have w0:w3.cell? ⟨P.cb id,0,none⟩=some (.slice A3 (S.cell id).length c3):=by rw[<-hci];exact zc (HS2.out.cbox aF) rfl
     obtain⟨m,hm⟩:∃ m,(S.cell id).length=m:=⟨_,rfl⟩
     rw[hm] at w0 hr;clear HR2 hci hc3 aY hm;by_cases hneg:iv<0
     ·go_wp2_with fail;go_ret;exact⟨by rw[HN.out];rfl,P,by rw[HN.out];exact SStp.refl HS.out HB3.out,rfl⟩
     ·have hge:(m:Int)<=iv:=by omega
      go_wp2_with fail;go_ret;exact⟨by rw[HN.out];rfl,P,by rw[HN.out];exact SStp.refl HS.out HB3.out,rfl⟩
   ·skip
    have HN:=zh (show R=(je,S) by rw[HR1.out,zmQ,if_pos fG]);have e1:(je==0)=false:=by simpa using fG
    have e2:(je != 0)=true:=by simpa using fG
    clear fG;go_wp2_with fail;go_ret;exact⟨by rw[HN.out];rfl,P,by rw[HN.out];exact SStp.refl HS.out HB2.out,rfl⟩
  ·skip
   go_wp2_with fail;refine(wI.out _ HB1.out).mono ?_;rintro e w2 ⟨rfl,aj⟩;have HB2:=zh (zka HB1.out aj);have bW:=zh (zkb aG.out aj);have r0:=zb aj v0;have r3:=zb aj v3;obtain⟨z0,z1,z2,z3⟩:=zmv HB2.out H4.out;clear aj y0 y1 y2 y3 v0 v3;dsimp only;by_cases fG:je=0
   ·subst fG;go_wp2_with fail;refine(ui.out _ HB2.out).mono ?_;rintro e w3 ⟨rfl,bF⟩;have HB3:=zh (zka HB2.out bF);have H42:=zh (zkb bW.out bF);have s0:=zb bF r0;have s3:=zb bF r3;have HS2:=zh (HS.out.later HB3.out);clear r0 r3 bF z0 z1 z2 z3;have HR2:=zh (show R=if 0<=iv/\iv<(S.cell id).length then zmP S 42 s t1.s jv id iv.toNat else (12,S) by
     rw[HR1.out,zmQ,if_neg (by simp),qD.out])
    by_cases hr:0<=iv/\iv<((S.cell id).length:Int)
    ·obtain⟨i,rfl⟩:∃ i:Nat,iv=i:=⟨iv.toNat,by omega⟩
     have hi:i<(S.cell id).length:=by omega
     have HR3:=zh (show R=(0,S.put id i (updE 42 (S.el id i) jv)) by rw[HR2.out,if_pos hr,zmP,if_pos (by omega)];rfl);obtain⟨⟨c4,hci,hc4⟩,p0,p1⟩:=HS2.out.plc aF hi;have w0:w3.cell? ⟨P.cb id,0,none⟩=some (.slice (some ⟨P.gI id,0,none⟩) (S.cell id).length c4):=by rw[<-hci];exact zc (HS2.out.cbox aF) rfl
     have iD:=zh (fun W' (hb:Below W.heap.size W W')=>(HS.out.later hb).put aF hi (updE 42 (S.el id i) jv) (zpZ _ _ _));obtain⟨x,hx⟩:∃ x,S.el id i=x:=⟨_,rfl⟩
     rw[hx] at p0 HR3 iD;obtain⟨m,hm⟩:∃ m,(S.cell id).length=m:=⟨_,rfl⟩
     rw[hm] at w0;have hi1:¬ (i:Int)<0:=by omega
     have hi2:¬ (m:Int)<=(i:Int):=by omega
     have hi3:(i:Int)<(m:Int):=by omega
     clear HR1 HR2 hr hci hc4 hm hx;obtain⟨U,hU⟩:∃ U,updE 42 x jv=U:=⟨_,rfl⟩
     rw[hU] at HR3 iD;have wB:=zh (hU▸qo.out x);clear hU;go_upto_region 22 with fail;have hSS:(fun w':World=>w'.cell? ⟨W.heap.size,0,none⟩=some (.int .u8 42)/\w'.cell? ⟨P.gI id,i,none⟩=some (.int .i64 x)) w3.drew/\(fun _:World=>True) w3.drew:=⟨⟨s0,p0⟩,trivial⟩
     refine wp_region_noPanic ?_;refine zkc (fun w':World=>w'.cell? ⟨W.heap.size,0,none⟩=some (.int .u8 42)/\w'.cell? ⟨P.gI id,i,none⟩=some (.int .i64 x)) (fun _:World=>True) 11 (by kernel_rfl) ?_;refine zT 0 hSS ?_;(try simp only[zQ]);refine zT 1 hSS ?_;(try simp only[zQ]);refine zT 2 hSS ?_;(try simp only[zQ]);refine zT 3 hSS ?_;(try simp only[zQ]);refine zT 4 hSS ?_;(try simp only[zQ]);refine zT 5 hSS ?_;(try simp only[zQ]);have had:Calls Tryz.prog 112 [.int .u8 42,.int .i64 x,.int .i64 jv].toArray w3.drew fun e W'=>∃ u,e=.returned u/\u=.tuple #[.int .i64 U,.int .i64 0]/\W'=w3.drew :=
      (wB.out w3.drew).mono fun e W' hh=>⟨_,hh.1,rfl,hh.2⟩
     refine zo 6 fun K hK=>?_;refine zkg (by rfl) (.func 112) [.tmp 86,.tmp 89,.tmp 90] _ (by rfl) 112 _ zo8 (by rfl) _ (by rfl) _ had ?_;rintro v4 w4 ⟨rfl,rfl⟩;refine hK.out _ _ hSS ?_;clear hK K had;(try simp only[zQ]);refine zT 7 hSS ?_;(try simp only[zQ]);refine zT 8 hSS ?_;(try simp only[zQ]);refine zT 9 hSS ?_;(try simp only[zQ]);refine zT 10 hSS ?_;(try simp only[zQ]);refine zp 11 fun K hK=>?_;(try simp only[zA,zB,zC]);go_simp;refine hK.out _ _ hSS.1 ?_;clear hK K hSS;(try simp only[zQ]);refine zd ?_;refine NoPanic.normal ?_;go_wp2_with fail;go_ret;refine⟨by rw[HR3.out];rfl,P,?_,rfl⟩;rw[HR3.out];have:=iD.out _ HB3.out.drew;exact⟨this.st.after HB3.out.drew HS.out.rws,this.wf⟩
    ·skip
     have HN:=zh (show R=(12,S) by rw[HR2.out,if_neg hr]);obtain⟨A3,c3,hci,hc3,aY⟩:=HS2.out.items aF;have w0:w3.cell? ⟨P.cb id,0,none⟩=some (.slice A3 (S.cell id).length c3):=by rw[<-hci];exact zc (HS2.out.cbox aF) rfl
     obtain⟨m,hm⟩:∃ m,(S.cell id).length=m:=⟨_,rfl⟩
     rw[hm] at w0 hr;clear HR2 hci hc3 aY hm;by_cases hneg:iv<0
     ·go_wp2_with fail;go_ret;exact⟨by rw[HN.out];rfl,P,by rw[HN.out];exact SStp.refl HS.out HB3.out,rfl⟩
     ·have hge:(m:Int)<=iv:=by omega
      go_wp2_with fail;go_ret;exact⟨by rw[HN.out];rfl,P,by rw[HN.out];exact SStp.refl HS.out HB3.out,rfl⟩
   ·skip
    have HN:=zh (show R=(je,S) by rw[HR1.out,zmQ,if_pos fG]);have e1:(je==0)=false:=by simpa using fG
    have e2:(je != 0)=true:=by simpa using fG
    clear fG;go_wp2_with fail;go_ret;exact⟨by rw[HN.out];rfl,P,by rw[HN.out];exact SStp.refl HS.out HB2.out,rfl⟩
 ·skip
  have HN:=zh (show R=(ie,S) by rw[qp.out,zln,if_pos he]);have e1:(ie==0)=false:=by simpa using he
  have e2:(ie != 0)=true:=by simpa using he
  clear he;go_wp2_with fail;go_ret;exact⟨by rw[HN.out];rfl,P,by rw[HN.out];exact SStp.refl HS.out HB1.out,rfl⟩
theorem zs2 {W:World} {n0:Nat} {P:Ph} {S:ST} (h:SR W n0 P S) (k n:Int) (s:ByteArray) (p q:T) (v:Value) (hv:NV W Any (.nd k n s [p,q]) v) (hk:k=43) (id:Nat) (hid:S.num p.s=some id) (kp:Int) (hck:CurK S id kp) (jd:Nat) (hjd:S.num q.s=some jd) (kq:Int) (hcq:CurK S jd kq) :
  Calls Tryz.prog 60 #[.pointer (some ⟨P.sb,0,none⟩),v] W fun e W'=>e=.returned (.int .i64 (zln S k s p q (indE S.look p) (indE S.look q)).1)/\∃ P',SStp n0 P S W P' (zln S k s p q (indE S.look p) (indE S.look q)).2 W'/\P'.sb=P.sb:=by
 obtain⟨A,c,rfl,hf,hlk,hlc,hrow⟩:=hv.open_;simp only[T.k_nd,T.n_nd,T.s_nd,T.ks_nd] at *
 obtain⟨R,hR⟩:∃ R,zln S k s p q (indE S.look p) (indE S.look q)=R:=⟨_,rfl⟩
 rw[hR];have HRR:=zh hR;have HS:=zh h;have HL:=zh (zsA n0 P S h.wf);obtain⟨a,t0,A2,c2,rfl,_,Ht,h4,hn0⟩:=hrow.nd (i:=0) (by simp);obtain⟨a',t1,A3,c3,ea,_,Hu,h5,hn1⟩:=hrow.nd (i:=1) (by simp);injection ea with ea;subst ea;have ha:a.add (1*4)=⟨a.block,a.off+4,none⟩:=zxn a;rw[ha] at h5;have ht0:t0=p:=Ht.out.symm;subst ht0;have ht1:t1=q:=Hu.out.symm;subst ht1;simp only[Nat.zero_mul,Nat.one_mul,Addr.add_zero',List.length_cons,List.length_nil,Nat.zero_add,Nat.reduceAdd] at *
 have hbx:=box4 (heap_alloc_new W (.cells #[.int .u8 k,.int .i64 n,.string s,.slice (some a) 2 c] 29));have av:=zh (heap_alloc_new W (.cells #[.int .u8 k,.int .i64 n,.string s,.slice (some a) 2 c] 29));obtain⟨W0,hW0⟩:∃ W0,W.alloc (.cells #[.int .u8 k,.int .i64 n,.string s,.slice (some a) 2 c] 29)=W0:=⟨_,rfl⟩
 have q0:Below W.heap.size W W0:=hW0▸zkd (Below.refl _ _) _;rw[hW0] at hbx av;have iO:=zh q0;have H4:=zh h4;have H5:=zh h5;have g4:=zmv q0 h4;obtain⟨z0,z1,z2,z3⟩:=g4;obtain⟨⟨iv,ie⟩,hiv⟩:∃ r,indE S.look t0=r:=⟨_,rfl⟩
 obtain⟨⟨jv,je⟩,hjv⟩:∃ r,indE S.look t1=r:=⟨_,rfl⟩
 have qC:=zh (znl HL.out t0 _ W0 (hn0.later q0) (h.later q0));rw[hiv] at qC;have wI:=zh (show ∀ W',Below W.heap.size W W'->Calls Tryz.prog 108 #[nv t1.k t1.n t1.s A3 t1.ks.length c3,.func (.func 109) #[.pointer (some ⟨P.sb,0,none⟩)] #[]] W' (NumE (jv,je) W') from fun W' hb=>hjv▸znl HL.out t1 _ W' (hn1.later hb) (h.later hb));have qp:=zh (show R=zln S k s t0 t1 (iv,ie) (jv,je) by rw[<-hR,hiv,hjv]);have ui:=zh (fun W' (hb:Below W.heap.size W W')=>zmj (h.later hb) t0.s id hid);obtain⟨x0,x1,x2,x3⟩:=hbx;have aF:=hck.lt h.wf;have qD:=zh hid;clear hR hiv hjv hv hn0 hn1 hrow hlk hlc q0 hf hck hid h4 h5;have jL:=hcq.lt h.wf;have wP:=zh (fun W' (hb:Below W.heap.size W W')=>zmj (h.later hb) t1.s jd hjd);have HJD:=zh hjd;subst hk;clear h hcq hjd;go_enter Tryz.func60,Tryz.ntmps60;go_wp2_with fail;refine qC.out.mono ?_;rintro e w1 ⟨rfl,ae⟩
 have HB1:=zh (zka iO.out ae);have aG:=zh (zkb av.out ae);have v0:=zb ae x0;have v3:=zb ae x3;obtain⟨y0,y1,y2,y3⟩:=zmv HB1.out H5.out;clear ae z0 z1 z2 z3 x0 x1 x2 x3;dsimp only;by_cases he:ie=0
 ·subst he;have HR1:=zh (show R=zmQ S 43 s t0.s t1.s iv (jv,je) by rw[qp.out,zln,if_neg (by simp)]);go_wp2_with fail;refine(wI.out _ HB1.out).mono ?_;rintro e w2 ⟨rfl,aj⟩;have HB2:=zh (zka HB1.out aj);have bW:=zh (zkb aG.out aj);have r0:=zb aj v0;have r3:=zb aj v3;obtain⟨z0,z1,z2,z3⟩:=zmv HB2.out H4.out;clear aj y0 y1 y2 y3 v0 v3;dsimp only;by_cases fG:je=0
  ·subst fG;go_wp2_with fail;refine(ui.out _ HB2.out).mono ?_;rintro e w3 ⟨rfl,bF⟩;have HB3:=zh (zka HB2.out bF);have H43:=zh (zkb bW.out bF);have s0:=zb bF r0;have s3:=zb bF r3;have HS2:=zh (HS.out.later HB3.out);clear r0 r3 bF z0 z1 z2 z3;have HR2:=zh (show R=if 0<=iv/\iv<(S.cell id).length then zmP S 43 s t1.s jv id iv.toNat else (12,S) by
    rw[HR1.out,zmQ,if_neg (by simp),qD.out])
   by_cases hr:0<=iv/\iv<((S.cell id).length:Int)
   ·obtain⟨i,rfl⟩:∃ i:Nat,iv=i:=⟨iv.toNat,by omega⟩
    have hi:i<(S.cell id).length:=by omega
    have HR3:=zh (show R=if 0<=jv/\jv<(S.cell jd).length then (0,zt7 S id i jd jv.toNat) else (12,S) by
     rw[HR2.out,if_pos hr,zmP,if_neg (by decide),if_pos rfl,HJD.out];rfl)
    obtain⟨⟨c4,hci,hc4⟩,p0,p1⟩:=HS2.out.plc aF hi;have w0:w3.cell? ⟨P.cb id,0,none⟩=some (.slice (some ⟨P.gI id,0,none⟩) (S.cell id).length c4):=by rw[<-hci];exact zc (HS2.out.cbox aF) rfl
    obtain⟨m,hm⟩:∃ m,(S.cell id).length=m:=⟨_,rfl⟩
    rw[hm] at w0;have hi1:¬ (i:Int)<0:=by omega
    have hi2:¬ (m:Int)<=(i:Int):=by omega
    have hi3:(i:Int)<(m:Int):=by omega
    obtain⟨y0,y1,y2,y3⟩:=zmv HB3.out H5.out;clear HR1 HR2 hr hci hc4 hm p0 p1;go_wp2_with fail;refine(wP.out _ HB3.out).mono ?_;rintro e w4 ⟨rfl,vX⟩;have ax:=zh (zka HB3.out vX);have kP:=zh (HS.out.later ax.out);clear vX y0 y1 y2 y3 w0;by_cases hr2:0<=jv/\jv<((S.cell jd).length:Int)
    ·obtain⟨j,rfl⟩:∃ j:Nat,jv=j:=⟨jv.toNat,by omega⟩
     have hj:j<(S.cell jd).length:=by omega
     have HR4:=zh (show R=(0,zt7 S id i jd j) by rw[HR3.out,if_pos hr2];rfl);obtain⟨-,p0,p1⟩:=kP.out.plc aF hi;obtain⟨⟨c5,hcj,yx⟩,q0,q1⟩:=kP.out.plc jL hj;have w5:w4.cell? ⟨P.cb jd,0,none⟩=some (.slice (some ⟨P.gI jd,0,none⟩) (S.cell jd).length c5):=by rw[<-hcj];exact zc (kP.out.cbox jL) rfl
     have s1:=(kP.out.later (Below.refl _ _).drew).put aF hi (S.el jd j) (zmu HS.out.wf jL j);have hj':j<((S.put id i (S.el jd j)).cell jd).length:=by
      simp only[ST.put,ST.setL]
      split
      ·next e=>rw[List.length_set,<-e];exact hj
      ·exact hj
     obtain⟨-,g0,g1⟩:=s1.sr.plc (id:=jd) (i:=j) jL hj';have s2:=s1.sr.put (id:=jd) (i:=j) jL hj' (S.el id i) (zmu HS.out.wf aF i);have bf:=zh (s1.trans s2);obtain⟨xi,hxi⟩:∃ x,S.el id i=x:=⟨_,rfl⟩
     obtain⟨xj,hxj⟩:∃ x,S.el jd j=x:=⟨_,rfl⟩
     rw[hxi] at p0 bf;rw[hxj] at q0 g0 g1 bf;have qw:=zh (show R=(0,(S.put id i xj).put jd j xi) by rw[HR4.out,zt7,hxi,hxj]);obtain⟨y,hy⟩:∃ y,(S.put id i xj).el jd j=y:=⟨_,rfl⟩
     rw[hy] at g0;obtain⟨m2,hm2⟩:∃ m,(S.cell jd).length=m:=⟨_,rfl⟩
     rw[hm2] at w5;have hj1:¬ (j:Int)<0:=by omega
     have hj2:¬ (m2:Int)<=(j:Int):=by omega
     have hj3:(j:Int)<(m2:Int):=by omega
     clear HR3 HR4 hr2 hcj yx hm2 s1 s2 hxi hxj hy;go_upto_region 30 with fail;have hSS:(fun _:World=>True) w4.drew/\(fun w':World=>w'.cell? ⟨P.gI id,i,none⟩=some (.int .i64 xi)/\w'.cell? ⟨P.gI jd,j,none⟩=some (.int .i64 xj)) w4.drew:=⟨trivial,p0,q0⟩
     refine wp_region_noPanic ?_;refine zkc (fun _:World=>True) (fun w':World=>w'.cell? ⟨P.gI id,i,none⟩=some (.int .i64 xi)/\w'.cell? ⟨P.gI jd,j,none⟩=some (.int .i64 xj)) 11 (by kernel_rfl) ?_;refine zT 0 hSS ?_;(try simp only[zQ]);refine zT 1 hSS ?_;(try simp only[zQ]);refine zT 2 hSS ?_;(try simp only[zQ]);refine zT 3 hSS ?_;(try simp only[zQ]);refine zT 4 hSS ?_;(try simp only[zQ]);refine zT 5 hSS ?_;(try simp only[zQ]);refine zkH (i:=6) (v:=?_) rfl (by kernel_rfl) (by kernel_rfl) (by kernel_rfl) (by decide) rfl (by kernel_rfl) (by kernel_rfl) (fun _ _ _ h=>h) (Or.inl ⟨by rfl,?_⟩) hSS ?_;rotate_left 1
     ·(intro w hSw;(try dsimp only at hSw);(try simp only[zA,zB,zC]);go_simp;(try with_reducible rfl))
     (try simp only[zQ]);refine zT 7 hSS ?_;(try simp only[zQ]);refine zT 8 hSS ?_;(try simp only[zQ]);refine zkH (i:=9) (v:=?_) rfl (by kernel_rfl) (by kernel_rfl) (by kernel_rfl) (by decide) rfl (by kernel_rfl) (by kernel_rfl) (fun _ _ _ h=>h) (Or.inl ⟨by rfl,?_⟩) hSS ?_;rotate_left 1
     ·(intro w hSw;(try dsimp only at hSw);(try simp only[zA,zB,zC]);go_simp;(try with_reducible rfl))
     (try simp only[zQ]);refine zo 10 fun K hK=>?_;(try simp only[zA,zB,zC]);go_simp;refine hK.out _ _ hSS ?_;clear hK K;(try simp only[zQ]);refine zp 11 fun K hK=>?_;(try simp only[zA,zB,zC]);have vw:w4.drew.frozen? ⟨P.gI id,i,none⟩=false:=p1;have vz:w4.drew.cell? ⟨P.gI id,i,none⟩=some (.int .i64 xi):=p0;go_simp;refine hK.out _ _ trivial ?_;clear hK K hSS;(try simp only[zQ]);have g0':(w4.setCell ⟨P.gI id,i,none⟩ (.int .i64 xj)).cell? ⟨P.gI jd,j,none⟩=some (.int .i64 y):=g0;have g1':(w4.setCell ⟨P.gI id,i,none⟩ (.int .i64 xj)).frozen? ⟨P.gI jd,j,none⟩=false:=g1;refine zp 12 fun K hK=>?_;(try simp only[zA,zB,zC]);go_simp;refine hK.out _ _ trivial ?_;clear hK K;(try simp only[zQ]);refine zp 13 fun K hK=>?_;(try simp only[zA,zB,zC]);go_simp;refine hK.out _ _ trivial ?_;clear hK K;(try simp only[zQ]);refine zd ?_;refine NoPanic.normal ?_;clear p0 p1 vz vw q0 q1 g0 g1 g0' g1'
     go_wp2_with fail;go_ret;refine⟨by rw[qw.out];rfl,P,?_,rfl⟩;rw[qw.out];exact⟨bf.out.st.after ax.out.drew HS.out.rws,bf.out.wf⟩
    ·have HN:=zh (show R=(12,S) by rw[HR3.out,if_neg hr2]);obtain⟨A5,c5,hcj,yx,hrj⟩:=kP.out.items jL;have w5:w4.cell? ⟨P.cb jd,0,none⟩=some (.slice A5 (S.cell jd).length c5):=by rw[<-hcj];exact zc (kP.out.cbox jL) rfl
     obtain⟨m2,hm2⟩:∃ m,(S.cell jd).length=m:=⟨_,rfl⟩
     rw[hm2] at w5 hr2;clear HR3 hcj yx hrj hm2;by_cases hneg:jv<0
     ·go_wp2_with fail;go_ret;exact⟨by rw[HN.out];rfl,P,by rw[HN.out];exact SStp.refl HS.out ax.out,rfl⟩
     ·have hge:(m2:Int)<=jv:=by omega
      go_wp2_with fail;go_ret;exact⟨by rw[HN.out];rfl,P,by rw[HN.out];exact SStp.refl HS.out ax.out,rfl⟩
   ·skip
    have HN:=zh (show R=(12,S) by rw[HR2.out,if_neg hr]);obtain⟨A3,c3,hci,hc3,aY⟩:=HS2.out.items aF;have w0:w3.cell? ⟨P.cb id,0,none⟩=some (.slice A3 (S.cell id).length c3):=by rw[<-hci];exact zc (HS2.out.cbox aF) rfl
    obtain⟨m,hm⟩:∃ m,(S.cell id).length=m:=⟨_,rfl⟩
    rw[hm] at w0 hr;clear HR2 hci hc3 aY hm;by_cases hneg:iv<0
    ·go_wp2_with fail;go_ret;exact⟨by rw[HN.out];rfl,P,by rw[HN.out];exact SStp.refl HS.out HB3.out,rfl⟩
    ·have hge:(m:Int)<=iv:=by omega
     go_wp2_with fail;go_ret;exact⟨by rw[HN.out];rfl,P,by rw[HN.out];exact SStp.refl HS.out HB3.out,rfl⟩
  ·skip
   have HN:=zh (show R=(je,S) by rw[HR1.out,zmQ,if_pos fG]);have e1:(je==0)=false:=by simpa using fG
   have e2:(je != 0)=true:=by simpa using fG
   clear fG;go_wp2_with fail;go_ret;exact⟨by rw[HN.out];rfl,P,by rw[HN.out];exact SStp.refl HS.out HB2.out,rfl⟩
 ·skip
  have HN:=zh (show R=(ie,S) by rw[qp.out,zln,if_pos he]);have e1:(ie==0)=false:=by simpa using he
  have e2:(ie != 0)=true:=by simpa using he
  clear he;go_wp2_with fail;go_ret;exact⟨by rw[HN.out];rfl,P,by rw[HN.out];exact SStp.refl HS.out HB1.out,rfl⟩
end Go.Proofs.YtckhofdinldhpaaGreat
