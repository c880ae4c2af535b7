/-
  Texts of the proof, put together without their remarks: Tq, Stf, Si, Sj, Ast3.
-/
import Derived.Test.YtmbbaccjcekhkaaGreatF3
set_option linter.unusedSimpArgs false
set_option linter.unusedVariables false
set_option maxHeartbeats 8000000
set_option maxRecDepth 100000
namespace Go.Proofs.YtmbbaccjcekhkaaGreat
open Go Go.RowKit
theorem zq5 (P:Ph) (S:ST) (vv:Value) (ys:List Int):rows { P with vI:=vv } { S with tin:=ys }=updR (updR (rows P S) .tin ⟨vv,3,1,ys.length,zke ys⟩) .tb { rows P S .tb with xs:=(rows P S .tb).xs.set 0 vv }:=by
 funext r
 cases r with
 | calls=>simp only[updR,reduceCtorEq,if_false,rows];rw[zlI (P:=P) (P':={ P with vI:=vv }) rfl rfl]
 | _=>simp[updR,rows]
theorem zpJ (P:Ph) (S:ST) (vv:Value) (ys:List Int):rows { P with vO:=vv } { S with tout:=ys }=updR (updR (rows P S) .tout ⟨vv,3,1,ys.length,zke ys⟩) .tb { rows P S .tb with xs:=(rows P S .tb).xs.set 1 vv }:=by
 funext r
 cases r with
 | calls=>simp only[updR,reduceCtorEq,if_false,rows];rw[zlI (P:=P) (P':={ P with vO:=vv }) rfl rfl]
 | _=>simp[updR,rows]
theorem zvW {S:ST} (h:S.WF) (ys:List Int) (hl:ys.length<=4096) (hy:∀ x∈ys,I64 x):({ S with tin:=ys }:ST).WF:=⟨h.ex,h.ncalls,h.cells,⟨hl,hy⟩,h.tout⟩
theorem ztr {S:ST} (h:S.WF) (ys:List Int) (hl:ys.length<=4096) (hy:∀ x∈ys,I64 x):({ S with tout:=ys }:ST).WF:=⟨h.ex,h.ncalls,h.cells,h.tin,⟨hl,hy⟩⟩
theorem zvo {W:World} {n0:Nat} {P:Ph} {S:ST} (h:SR W n0 P S):Calls Tryz.prog 137 #[.pointer (some ⟨P.tb,0,none⟩)] W fun e W' =>
  (S.tin=[]/\e=.returned (.tuple #[.int .i64 0,.int .i64 17])/\Below W.heap.size W W')\/(∃ x r,S.tin=x::r/\e=.returned (.tuple #[.int .i64 x,.int .i64 0])/\∃ vv,SStp n0 P S W { P with vI:=vv } { S with tin:=r } W'):=by
 have og:=zh (zn6 h.rws .tb .tin (by simp) P.tb 0 rfl rfl S.tin rfl h.wf.tin.1 0 0 (fun h=>⟨rfl,h⟩));have dI:=zh h.wf;clear h;go_enter Tryz.func137,Tryz.ntmps137;go_wp2_with fail;refine og.out.mono ?_;rintro e w1 hh;rcases hh with⟨h0,rfl,hb⟩|⟨h0,rfl,vv,hst⟩
 ·have HH:=zh h0;have HB:=zh hb;clear h0 hb;go_wp2_with fail;go_ret2;exact .inl ⟨List.length_eq_zero_iff.1 HH.out,rfl,HB.out⟩
 ·have HH:=zh h0;have HST:=zh hst;clear h0 hst;go_wp2_with fail;go_ret2;refine .inr ?_;obtain⟨x,r,xB⟩:∃ x r,S.tin=x::r:=by
   cases hc:S.tin with
   | nil=>have:=HH.out;rw[hc] at this;simp at this
   | cons x r=>exact⟨x,r,rfl⟩
  have ht:=dI.out.tin;rw[xB] at ht;refine⟨x,r,xB,by rw[xB];rfl,vv,⟨HST.out.cast ?_,zvW dI.out r (by have:=ht.1;simp at this;omega) fun y hy=>ht.2 y (List.mem_cons_of_mem _ hy)⟩⟩;rw[zq5 P S vv r,xB];simp
theorem zo8 {W:World} {n0:Nat} {P:Ph} {S:ST} (h:SR W n0 P S) (x:Int) (hx:I64 x):Calls Tryz.prog 138 #[.pointer (some ⟨P.tb,0,none⟩),.int .i64 x] W fun e W' =>
  (4096<=S.tin.length/\e=.returned (.int .i64 5)/\Below W.heap.size W W')\/(S.tin.length<4096/\e=.returned (.int .i64 0)/\∃ vv,SStp n0 P S W { P with vI:=vv } { S with tin:=x::S.tin } W'):=by
 have og:=zh (zn7 h.rws .tb .tin (by simp) P.tb 0 rfl rfl S.tin rfl h.wf.tin.1 0 (Nat.zero_le _) x);have dI:=zh h.wf;clear h;go_enter Tryz.func138,Tryz.ntmps138;go_wp2_with fail;refine og.out.mono ?_;rintro e w1 hh;rcases hh with⟨h0,rfl,hb⟩|⟨h0,rfl,vv,hst⟩
 ·have HH:=zh h0;have HB:=zh hb;clear h0 hb;go_wp2_with fail;go_ret;exact .inl ⟨HH.out,rfl,HB.out⟩
 ·have HH:=zh h0;have HST:=zh hst;clear h0 hst;go_wp2_with fail;go_ret;have ht:=dI.out.tin;refine .inr ⟨HH.out,rfl,vv,⟨HST.out.cast ?_,zvW dI.out _ (by have:=HH.out;simp;omega) fun y hy=>?_⟩⟩
  ·rw[zq5 P S vv (x::S.tin)];simp
  ·rcases List.mem_cons.1 hy with rfl|hy
   ·exact hx
   ·exact ht.2 y hy
theorem zsQ:IsFn Tryz.prog 146 Tryz.f146:=⟨Tryz.func146,by kernel_rfl,by kernel_rfl⟩
theorem zsP:IsFn Tryz.prog 145 Tryz.f145:=⟨Tryz.func145,by kernel_rfl,by kernel_rfl⟩
theorem zqe {W:World} {n0:Nat} {P:Ph} {S:ST} (h:SR W n0 P S) (x:Int) (hx:I64 x):Calls Tryz.prog 140 #[.pointer (some ⟨P.tb,0,none⟩),.int .i64 x] W fun e W' =>
  (4096<=S.tout.length/\e=.returned (.int .i64 5)/\Below W.heap.size W W')\/(S.tout.length<4096/\e=.returned (.int .i64 0)/\∃ vv,SStp n0 P S W { P with vO:=vv } { S with tout:=S.tout++[x] } W'):=by
 have og:=zh (zn7 (h.later (Below.refl _ _).drew).rws .tb .tout (by simp) P.tb 1 rfl rfl S.tout rfl h.wf.tout.1 S.tout.length (Nat.le_refl _) x);have dI:=zh h.wf;have HS:=zh h;obtain⟨A,c,hv,hc,-⟩:=zkh (h.rws.row .tout);change P.vO=.slice A S.tout.length c at hv;have x0:W.cell? ⟨P.tb,1,none⟩=some (.slice A S.tout.length c):=by rw[<-hv];exact zc h.tbox rfl
 obtain⟨n,hn⟩:∃ n,S.tout.length=n:=⟨_,rfl⟩
 rw[hn] at x0;have HN:=zh hn;have had:Calls Tryz.prog 146 [.pointer (some ⟨P.tb,1,none⟩),.int .i64 n,.int .i64 x].toArray W.drew fun e W'=>∃ u,e=.returned u /\
   ((4096<=n/\u=.int .i64 5/\Below W.heap.size W W')\/(n<4096/\u=.int .i64 0/\∃ vv,SStp n0 P S W { P with vO:=vv } { S with tout:=S.tout++[x] } W')):=by
  rw[<-hn];refine og.out.mono ?_;rintro e W' hh;rcases hh with⟨h0,rfl,hb⟩|⟨h0,rfl,vv,hst⟩
  ·exact⟨_,rfl,.inl ⟨h0,rfl,zka (Below.refl _ _).drew hb⟩⟩
  ·have ht:=dI.out.tout;refine⟨_,rfl,.inr ⟨h0,rfl,vv,⟨((Stp.after hst (Below.refl _ _).drew HS.out.rws).cast ?_),ztr dI.out _ (by simp;omega) fun y hy=>?_⟩⟩⟩
   ·rw[zpJ P S vv (S.tout++[x]),List.take_of_length_le (Nat.le_refl _),List.drop_eq_nil_of_le (Nat.le_refl _)];simp
   ·simp only[List.mem_append,List.mem_singleton] at hy;rcases hy with hy|rfl
    ·exact ht.2 y hy
    ·exact hx
 clear h hv hc hn og;go_enter Tryz.func140,Tryz.ntmps140;go_upto_region 3 with fail;have hSS:(fun _:World=>True) W.drew/\(fun w':World=>w'.cell? ⟨P.tb,1,none⟩=some (.slice A n c)) W.drew:=⟨trivial,x0⟩
 refine wp_region_noPanic ?_;refine zkd (fun _:World=>True) (fun w':World=>w'.cell? ⟨P.tb,1,none⟩=some (.slice A n c)) 9 (by kernel_rfl) ?_;refine zT 0 hSS ?_;(try simp only[zQ]);refine zT 1 hSS ?_;(try simp only[zQ]);refine zT 2 hSS ?_;(try simp only[zQ]);refine zT 3 hSS ?_;(try simp only[zQ]);refine zT 4 hSS ?_;(try simp only[zQ]);refine zT 5 hSS ?_;(try simp only[zQ]);refine zn4 (i:=6) (v:=?_) [7] rfl (by kernel_rfl) (by kernel_rfl) (by kernel_rfl) (by decide) (by kernel_rfl) (by kernel_rfl) (fun _ _ _ h=>h) (Or.inl ⟨by rfl,?_⟩) hSS ?_;rotate_left 1
 ·(intro w hSw;(try dsimp only at hSw);(try simp only[zA,zB,zC]);go_simp;(try with_reducible rfl))
 (try simp only[zQ]);refine zT 7 hSS ?_;(try simp only[zQ]);refine zT 8 hSS ?_;(try simp only[zQ]);refine zp 9 fun K hK=>?_;refine zkj (by rfl) (.func 146) [.tmp 9,.tmp 14,.tmp 15] _ (by rfl) 146 _ zsQ (by rfl) _ (by rfl) _ had ?_;rintro v4 w4 hh;have HH:=zh hh;have hv4:∃ y,v4=.int .i64 y:=by rcases hh with⟨_,rfl,_⟩|⟨_,rfl,_⟩<;>exact⟨_,rfl⟩
 obtain⟨y,rfl⟩:=hv4;refine hK.out _ _ trivial ?_;clear hK K hSS had hh;(try simp only[zQ]);refine zp 10 fun K hK=>?_;(try simp only[zA,zB,zC]);go_simp;refine hK.out _ _ trivial ?_;clear hK K;(try simp only[zQ]);refine zd ?_;refine NoPanic.normal ?_;go_wp2_with fail;go_ret;rcases HH.out with⟨h0,h1,h2⟩|⟨h0,h1,h2⟩
 ·exact .inl ⟨by rw[HN.out];exact h0,by rw[<-h1];rfl,h2⟩
 ·exact .inr ⟨by rw[HN.out];exact h0,by rw[<-h1];rfl,h2⟩
theorem zqN {W:World} {n0:Nat} {P:Ph} {S:ST} (h:SR W n0 P S):Calls Tryz.prog 139 #[.pointer (some ⟨P.tb,0,none⟩)] W fun e W' =>
  (S.tout=[]/\e=.returned (.tuple #[.int .i64 0,.int .i64 17])/\Below W.heap.size W W')\/(∃ r x,S.tout=r++[x]/\e=.returned (.tuple #[.int .i64 x,.int .i64 0])/\∃ vv,SStp n0 P S W { P with vO:=vv } { S with tout:=r } W'):=by
 have og:=zh (zn6 (h.later (Below.refl _ _).drew).rws .tb .tout (by simp) P.tb 1 rfl rfl S.tout rfl h.wf.tout.1 ((S.tout.length:Int)-1) (S.tout.length-1) (fun h=>⟨by omega,by omega⟩));have dI:=zh h.wf;have HS:=zh h;obtain⟨A,c,hv,hc,-⟩:=zkh (h.rws.row .tout);change P.vO=.slice A S.tout.length c at hv;have x0:W.cell? ⟨P.tb,1,none⟩=some (.slice A S.tout.length c):=by rw[<-hv];exact zc h.tbox rfl
 have hlen:=h.wf.tout.1;obtain⟨n,hn⟩:∃ n,S.tout.length=n:=⟨_,rfl⟩
 rw[hn] at x0 hlen;have had:Calls Tryz.prog 145 [.pointer (some ⟨P.tb,1,none⟩),.int .i64 ((n:Int)-1)].toArray W.drew fun e W'=>∃ u,e=.returned u/\∃ a1 a2,u=.tuple #[.int .i64 a1,.int .i64 a2] /\
   ((S.tout=[]/\(a1,a2)=((0:Int),(17:Int))/\Below W.heap.size W W')\/(∃ r x,S.tout=r++[x]/\(a1,a2)=(x,0)/\∃ vv,SStp n0 P S W { P with vO:=vv } { S with tout:=r } W')):=by
  rw[<-hn];refine og.out.mono ?_;rintro e W' hh;rcases hh with⟨h0,rfl,hb⟩|⟨h0,rfl,vv,hst⟩
  ·exact⟨_,rfl,_,_,rfl,.inl ⟨List.length_eq_zero_iff.1 h0,rfl,zka (Below.refl _ _).drew hb⟩⟩
  ·have ht:=dI.out.tout;obtain⟨r,x,hrx⟩:∃ r x,S.tout=r++[x]:=⟨S.tout.dropLast,S.tout.getLast (by intro e;rw[e] at h0;simp at h0),(List.dropLast_concat_getLast _).symm⟩
   rw[hrx] at ht;refine⟨_,rfl,_,_,rfl,.inr ⟨r,x,hrx,?_,vv,⟨((Stp.after hst (Below.refl _ _).drew HS.out.rws).cast ?_),ztr dI.out _ (by have:=ht.1;simp at this;omega) fun y hy=>ht.2 y (List.mem_append_left _ hy)⟩⟩⟩
   ·rw[hrx];simp
   ·rw[zpJ P S vv r,hrx];simp
 clear h hv hc hn og;have hw1:IntKind.i64.wrap ((n:Int)-1)=(n:Int)-1:=IntWalk.i64_in _ (by omega);go_enter Tryz.func139,Tryz.ntmps139;go_upto_region 3 with fail;have hSS:(fun _:World=>True) W.drew/\(fun w':World=>w'.cell? ⟨P.tb,1,none⟩=some (.slice A n c)) W.drew:=⟨trivial,x0⟩
 refine wp_region_noPanic ?_;refine zkd (fun _:World=>True) (fun w':World=>w'.cell? ⟨P.tb,1,none⟩=some (.slice A n c)) 9 (by kernel_rfl) ?_;refine zT 0 hSS ?_;(try simp only[zQ]);refine zT 1 hSS ?_;(try simp only[zQ]);refine zT 2 hSS ?_;(try simp only[zQ]);refine zT 3 hSS ?_;(try simp only[zQ]);refine zT 4 hSS ?_;(try simp only[zQ]);refine zT 5 hSS ?_;(try simp only[zQ]);refine zn4 (i:=6) (v:=?_) [7,8] rfl (by kernel_rfl) (by kernel_rfl) (by kernel_rfl) (by decide) (by kernel_rfl) (by kernel_rfl) (fun _ _ _ h=>h) (Or.inl ⟨by rfl,?_⟩) hSS ?_;rotate_left 1
 ·(intro w hSw;(try dsimp only at hSw);(try simp only[zA,zB,zC]);go_simp;(try with_reducible rfl))
 (try simp only[zQ]);refine zT 7 hSS ?_;(try simp only[zQ]);refine zT 8 hSS ?_;(try simp only[zQ]);refine zp 9 fun K hK=>?_;refine zkj (by rfl) (.func 145) [.tmp 8,.tmp 14] _ (by rfl) 145 _ zsP (by rfl) _ (by rfl) _ had ?_;rintro v4 w4 ⟨a1,a2,rfl,hh⟩;have HH:=zh hh;refine hK.out _ _ trivial ?_;clear hK K hSS had hh;(try simp only[zQ]);refine zlM (i:=10) (v:=?_) rfl (by kernel_rfl) (by kernel_rfl) (by kernel_rfl) (by decide) (by kernel_rfl) (fun _ _ _ h=>h) (Or.inl ⟨by rfl,?_⟩) trivial ?_;rotate_left 1
 ·(intro w hSw;(try dsimp only at hSw);(try simp only[zA,zB,zC]);go_simp;(try with_reducible rfl))
 (try simp only[zQ]);refine zlM (i:=11) (v:=?_) rfl (by kernel_rfl) (by kernel_rfl) (by kernel_rfl) (by decide) (by kernel_rfl) (fun _ _ _ h=>h) (Or.inl ⟨by rfl,?_⟩) trivial ?_;rotate_left 1
 ·(intro w hSw;(try dsimp only at hSw);(try simp only[zA,zB,zC]);go_simp;(try with_reducible rfl))
 (try simp only[zQ]);refine zp 12 fun K hK=>?_;(try simp only[zA,zB,zC]);go_simp;refine hK.out _ _ trivial ?_;clear hK K;(try simp only[zQ]);refine zp 13 fun K hK=>?_;(try simp only[zA,zB,zC]);go_simp;refine hK.out _ _ trivial ?_;clear hK K;(try simp only[zQ]);refine zd ?_;refine NoPanic.normal ?_;go_wp2_with fail;go_ret2;rcases HH.out with⟨h0,h1,h2⟩|⟨r,x,h0,h1,h2⟩
 ·injection h1 with e1 e2;subst e1 e2;exact .inl ⟨h0,rfl,h2⟩
 ·injection h1 with e1 e2;subst e1 e2;exact .inr ⟨r,a1,h0,rfl,h2⟩
def ownE (vs:List VD) (k:Int) (s:ByteArray):Int:=if zna k=0 then 0 else match zkA vs s with
 | none=>6
 | some v=>if v.k=zna k then 0 else 7
mutual
/-- frame.fault: the first fault in pre-order. -/
def fltE (vs:List VD):T->Int
 | .nd k _ s ks=>if ownE vs k s≠0 then ownE vs k s else zlH vs ks
def zlH (vs:List VD):List T->Int
 | []=>0
 | t::ts=>if fltE vs t≠0 then fltE vs t else zlH vs ts
end
theorem zmY {vs:List VD}:∀ {ks:List T} {j:Nat} (h:j<ks.length),zlH vs (ks.take j)=0->zlH vs (ks.take (j+1))=fltE vs ks[j]
 | t::ts,0,_,_=>by simp only[List.take,zlH,List.getElem_cons_zero];split<;>simp_all
 | t::ts,j+1,h,h0=>by
  simp only[List.take,zlH,List.getElem_cons_succ] at h0 ⊢
  split at h0
  ·contradiction
  ·rename_i h1;rw[if_neg h1];exact zmY (by simpa using h) h0
theorem zmZ {vs:List VD}:∀ {ks:List T} {j:Nat} (h:j<ks.length),zlH vs (ks.take j)=0->fltE vs ks[j]≠0->zlH vs ks=fltE vs ks[j]
 | t::ts,0,_,_,h1=>by simp only[zlH,List.getElem_cons_zero] at *;rw[if_pos h1]
 | t::ts,j+1,h,h0,h1=>by
  simp only[List.take,zlH,List.getElem_cons_succ] at h0 h1 ⊢
  split at h0
  ·contradiction
  ·rename_i h2;rw[if_neg h2];exact zmZ (by simpa using h) h0 h1
theorem zrW (vs:List VD) (A:Option Addr) (c:Nat) (fp:Addr) (hl:vs.length<=4398046511000) (t:T):∀ (v:Value) (w:World),NV w Any t v->w.cell? fp=some (.slice A vs.length c)->RowV w Any A vs ->
  Calls Tryz.prog 115 #[.pointer (some fp),v] w fun e w'=>e=.returned (.int .i64 (fltE vs t))/\Below w.heap.size w w':=by
 induction t using T.ind with
 | _ k n s ks ih =>
  intro v w hv hc hrow;obtain⟨B,d,rfl,hf,hlk,hlc,hks⟩:=hv.open_;simp only[T.k_nd,T.n_nd,T.s_nd,T.ks_nd] at *
  have aF:=zkS hlk;have iM:=zh ih;have vN:=zh hks;have HC:=zh hc;have ah:=zh hrow;obtain⟨R,hR⟩:∃ R,fltE vs (.nd k n s ks)=R:=⟨_,rfl⟩
  rw[hR];rw[fltE] at hR;have HR:=zh hR;obtain⟨nk,hnk⟩:∃ nk,zna k=nk:=⟨_,rfl⟩
  have jB:=zh (hnk▸zsv k);have ou:=zh hnk;obtain⟨VL,xN⟩:∃ VL,vs.length=VL:=⟨_,rfl⟩
  have fI:=zh (show ∀ w',Below w.heap.size w w'->Calls Tryz.prog 58 #[.slice A VL c,.string s] w' fun e w''=>e=.returned (fdV (zkA vs s))/\Below w'.heap.size w' w'' from fun w' hb=>xN▸zn3 vs A c s Any w' (hrow.later hb) (by unfold LV;omega));rw[xN] at HC;have hc':=fun o=>zkm (o:=o) HC.out;have zZ:=zh xN;clear ih hv hf hlk hlc hks hc hrow hR hnk xN;go_enter Tryz.func115,Tryz.ntmps115;go_wp2_with fail;refine(jB.out _).mono ?_;rintro e w1 ⟨rfl,rfl⟩;have hbx:=heap_alloc_new w (.cells #[.int .u8 k,.int .i64 n,.string s,.slice B ks.length d] 26);have q1:Below w.heap.size w (w.alloc (.cells #[.int .u8 k,.int .i64 n,.string s,.slice B ks.length d] 26)):=zkc (Below.refl _ _) _;obtain⟨W1,hW1⟩:∃ W1,w.alloc (.cells #[.int .u8 k,.int .i64 n,.string s,.slice B ks.length d] 26)=W1:=⟨_,rfl⟩
  have hcW:=hc' (.cells #[.int .u8 k,.int .i64 n,.string s,.slice B ks.length d] 26);rw[hW1] at hbx q1 hcW ⊢;have ax:=zh hbx;have dY:=zh q1;have HCW:=zh hcW;obtain⟨m0,m1,m2,m3⟩:=box4 hbx;clear hbx q1 hW1 hc';by_cases hn0:nk=0
  ·subst hn0;have HRR:=zh (show zlH vs ks=R by rw[<-HR.out,ownE,if_pos ou.out];simp);have ru:=dY;have qV:=ax;obtain⟨WX,mg⟩:∃ WX,W1=WX:=⟨_,rfl⟩
   rw[mg] at m0 m1 m2 m3 ru qV hcW ⊢;clear mg HR ou jB fI;go_wp2_with fail
   go_loopw [10,35] (fun _ i wr=>∃ j:Nat,j<=ks.length/\i=.int .i64 j/\Below w.heap.size w wr/\wr.heap[w.heap.size]?=some (.cells #[.int .u8 k,.int .i64 n,.string s,.slice B ks.length d] 26 (0,0))/\Hid (zlH vs (ks.take j)=0)) (fun _ i _=>ks.length-(intOf i).toNat)
   case atStart=>exact⟨0,Nat.zero_le _,rfl,ru.out,qV.out,zh (by simp[zlH])⟩
   case round =>
    obtain⟨j,hj,rfl,hbl,hbx,HJ⟩:=hrel;have af:=zh hbl;have wL:=zh hbx;by_cases hlt:j<ks.length
    ·obtain⟨a,t,A1,c1,rfl,_,Ht,⟨y0,y1,y2,y3⟩,hn⟩:=(vN.out.later hbl).nd hlt;obtain⟨re,hre⟩:∃ re,fltE vs t=re:=⟨_,rfl⟩
     have fK:=zh (show ∀ (v:Value) (w:World),NV w Any t v->w.cell? fp=some (.slice A VL c)->RowV w Any A vs->Calls Tryz.prog 115 #[.pointer (some fp),v] w fun e w'=>e=.returned (.int .i64 re)/\Below w.heap.size w w' from by
      have h1:=iM.out t (by rw[<-Ht.out];exact List.getElem_mem hlt);rw[hre,zZ.out] at h1;exact h1)
     have bZ:=zh hre;have HN:=zh hn;have hal:=zkc hbl (.cells #[.int .u8 t.k,.int .i64 t.n,.string t.s,.slice A1 t.ks.length c1] 26);have xk:=zh (fK.out _ _ (HN.out.later (zkc (Below.refl _ _) (.cells #[.int .u8 t.k,.int .i64 t.n,.string t.s,.slice A1 t.ks.length c1] 26))) (zb hal HC.out) (ah.out.later hal));clear hn hbl hbx hre hal;go_wp2_with fail;refine xk.out.mono ?_;rintro e w5 ⟨rfl,iq⟩;have bP:=zh (zka (zkc af.out _) iq);have uh:=zh (zkf (zkn wL.out _) iq);clear iq y0 y1 y2 y3;by_cases hr0:re=0
     ·subst hr0;have HJ2:Hid (zlH vs (ks.take (j+1))=0):=zh (by rw[zmY hlt HJ.out,Ht.out];exact bZ.out);go_wp2_with fail
      go_roundw
      case rel=>exact⟨j+1,by omega,by go_num,bP.out,uh.out,HJ2⟩
      case measure=>simp[intOf];omega
     ·have e1:(re==0)=false:=by simpa using hr0
      have e2:(re != 0)=true:=by simpa using hr0
      have HF:=zh (show R=re by rw[<-HRR.out,zmZ hlt HJ.out (by rw[Ht.out,bZ.out];exact hr0),Ht.out,bZ.out]);clear hr0;go_wp2_with fail;go_ret;exact⟨by rw[HF.out];rfl,bP.out⟩
    ·obtain rfl:j=ks.length:=by omega
     have HF:=zh (show R=0 by
      have:=HJ.out;rw[List.take_of_length_le (Nat.le_refl _)] at this;rw[<-HRR.out];exact this)
     clear hbl hbx;go_wp2_with fail;go_ret;exact⟨by rw[HF.out];rfl,af.out⟩
  ·have e1:(nk==0)=false:=by simpa using hn0
   have e2:(nk != 0)=true:=by simpa using hn0
   obtain⟨fd,j6⟩:∃ fd,zkA vs s=fd:=⟨_,rfl⟩
   rw[j6] at fI;have iN:=zh j6;have aG:=zh (show ∀ w',Below W1.heap.size W1 w'->w'.cell? fp=some (.slice A VL c)/\w'.cell? ⟨w.heap.size,2,none⟩=some (.string s) from fun w' hb=>⟨zb hb hcW,zb hb m2⟩);have aQ:=zh (aG.out _ (Below.refl _ _).drew);clear hcW m0 m1 m2 m3 j6
   cases fd with
   | none =>
    go_upto_region 3 with fail
    go_region_held3 (fun w':World=>w'.cell? fp=some (.slice A VL c)/\w'.cell? ⟨w.heap.size,2,none⟩=some (.string s))
     (first|with_reducible exact aH.out|with_reducible exact aQ.out|(exact aG.out _ (zkc (Below.refl _ _) _).drew)|(exact aG.out _ (zkc b1 _))|(exact aG.out _ (((b1.setCell (by simp) _).setCell (by simp) _).setCell (by simp) _)))
     (first
      | (go_at_call 58;refine(fI.out _ (zka dY.out (by first|exact(Below.refl _ _).drew|exact(zkc (Below.refl _ _) _).drew))).mono ?_;rintro e y1 ⟨rfl,fF⟩;have b1:Below W1.heap.size W1 y1:=zka (by first|exact(Below.refl _ _).drew|exact(zkc (Below.refl _ _) _).drew) fF;have aH:=zh (aG.out _ b1);(try (have hz:=zkf (show(W1.alloc (.cells #[.string ⟨#[]⟩,.int .u8 0,.int .i64 0] 48)).drew.heap[W1.heap.size]?=some (.cells #[.string ⟨#[]⟩,.int .u8 0,.int .i64 0] 48 (0,0)) from heap_alloc_new W1 _) fF;have hz0:y1.cell? ⟨W1.heap.size,0,none⟩=some (.string ⟨#[]⟩):=zc hz rfl;have hz1:y1.cell? ⟨W1.heap.size,1,none⟩=some (.int .u8 0):=zc hz rfl;have hz2:y1.cell? ⟨W1.heap.size,2,none⟩=some (.int .i64 0):=zc hz rfl;have vZ:∀ i,y1.frozen? ⟨W1.heap.size,i,none⟩=false:=fun i=>zf hz)))
      | fail)
    all_goals
     have HRR:=zh (show R=6 by
      have:ownE vs k s=6:=by rw[ownE,if_neg (by rw[ou.out];exact hn0),iN.out]
      rw[<-HR.out,this];rfl)
     have HB1:=zh (zka dY.out b1);have Bo:=zh (show Below W1.heap.size W1 _ from b1);(try clear hz hz0 hz1 hz2 vZ);clear b1 fF aH HR hn0;go_wp2_with fail;go_ret
     first
      | exact⟨by rw[HRR.out];rfl,zkc HB1.out _⟩
      | exact⟨by rw[HRR.out];rfl,zka dY.out (((Bo.out.setCell (by simp) _).setCell (by simp) _).setCell (by simp) _)⟩
   | some vd =>
    obtain⟨vm,vk,vl⟩:=vd;go_upto_region 3 with fail
    go_region_held3 (fun w':World=>w'.cell? fp=some (.slice A VL c)/\w'.cell? ⟨w.heap.size,2,none⟩=some (.string s))
     (first|with_reducible exact aH.out|with_reducible exact aQ.out|(exact aG.out _ (zkc (Below.refl _ _) _).drew)|(exact aG.out _ (zkc b1 _))|(exact aG.out _ (((b1.setCell (by simp) _).setCell (by simp) _).setCell (by simp) _)))
     (first
      | (go_at_call 58;refine(fI.out _ (zka dY.out (by first|exact(Below.refl _ _).drew|exact(zkc (Below.refl _ _) _).drew))).mono ?_;rintro e y1 ⟨rfl,fF⟩;have b1:Below W1.heap.size W1 y1:=zka (by first|exact(Below.refl _ _).drew|exact(zkc (Below.refl _ _) _).drew) fF;have aH:=zh (aG.out _ b1);(try (have hz:=zkf (show(W1.alloc (.cells #[.string ⟨#[]⟩,.int .u8 0,.int .i64 0] 48)).drew.heap[W1.heap.size]?=some (.cells #[.string ⟨#[]⟩,.int .u8 0,.int .i64 0] 48 (0,0)) from heap_alloc_new W1 _) fF;have hz0:y1.cell? ⟨W1.heap.size,0,none⟩=some (.string ⟨#[]⟩):=zc hz rfl;have hz1:y1.cell? ⟨W1.heap.size,1,none⟩=some (.int .u8 0):=zc hz rfl;have hz2:y1.cell? ⟨W1.heap.size,2,none⟩=some (.int .i64 0):=zc hz rfl;have vZ:∀ i,y1.frozen? ⟨W1.heap.size,i,none⟩=false:=fun i=>zf hz)))
      | fail)
    ·obtain⟨WX,mg⟩:∃ WX,y1.alloc (.cells #[.string vm,.int .u8 vk,.int .i64 vl] 48)=WX:=⟨_,rfl⟩
     have hbX:Below W1.heap.size W1 WX:=mg▸zkc b1 _;have hvk:WX.cell? ⟨y1.heap.size,1,none⟩=some (.int .u8 vk):=by rw[<-mg];simp
     rw[mg];have ru:=zh (zka dY.out hbX);have qV:=zh (zkf ax.out hbX);obtain⟨m0,m1,m2,m3⟩:=box4 qV.out;clear b1 fF aH hbX mg;by_cases hk:vk=nk
     ·have HRR:=zh (show zlH vs ks=R by
       have:ownE vs k s=0:=by rw[ownE,if_neg (by rw[ou.out];exact hn0),iN.out];simp[ou.out,hk]
       rw[<-HR.out,this];simp)
      have e1:(vk==nk)=true:=by simpa using hk
      have e2:(vk != nk)=false:=by simpa using hk
      clear hn0 hk;go_wp2_with fail
      go_loopw [10,35] (fun _ i wr=>∃ j:Nat,j<=ks.length/\i=.int .i64 j/\Below w.heap.size w wr/\wr.heap[w.heap.size]?=some (.cells #[.int .u8 k,.int .i64 n,.string s,.slice B ks.length d] 26 (0,0))/\Hid (zlH vs (ks.take j)=0)) (fun _ i _=>ks.length-(intOf i).toNat)
      case atStart=>exact⟨0,Nat.zero_le _,rfl,ru.out,qV.out,zh (by simp[zlH])⟩
      case round =>
       obtain⟨j,hj,rfl,hbl,hbx,HJ⟩:=hrel;have af:=zh hbl;have wL:=zh hbx;by_cases hlt:j<ks.length
       ·obtain⟨a,t,A1,c1,rfl,_,Ht,⟨y0,y1,y2,y3⟩,hn⟩:=(vN.out.later hbl).nd hlt;obtain⟨re,hre⟩:∃ re,fltE vs t=re:=⟨_,rfl⟩
        have fK:=zh (show ∀ (v:Value) (w:World),NV w Any t v->w.cell? fp=some (.slice A VL c)->RowV w Any A vs->Calls Tryz.prog 115 #[.pointer (some fp),v] w fun e w'=>e=.returned (.int .i64 re)/\Below w.heap.size w w' from by
         have h1:=iM.out t (by rw[<-Ht.out];exact List.getElem_mem hlt);rw[hre,zZ.out] at h1;exact h1)
        have bZ:=zh hre;have HN:=zh hn;have hal:=zkc hbl (.cells #[.int .u8 t.k,.int .i64 t.n,.string t.s,.slice A1 t.ks.length c1] 26);have xk:=zh (fK.out _ _ (HN.out.later (zkc (Below.refl _ _) (.cells #[.int .u8 t.k,.int .i64 t.n,.string t.s,.slice A1 t.ks.length c1] 26))) (zb hal HC.out) (ah.out.later hal));clear hn hbl hbx hre hal;go_wp2_with fail;refine xk.out.mono ?_;rintro e w5 ⟨rfl,iq⟩;have bP:=zh (zka (zkc af.out _) iq);have uh:=zh (zkf (zkn wL.out _) iq);clear iq y0 y1 y2 y3;by_cases hr0:re=0
        ·subst hr0;have HJ2:Hid (zlH vs (ks.take (j+1))=0):=zh (by rw[zmY hlt HJ.out,Ht.out];exact bZ.out);go_wp2_with fail
         go_roundw
         case rel=>exact⟨j+1,by omega,by go_num,bP.out,uh.out,HJ2⟩
         case measure=>simp[intOf];omega
        ·have e1:(re==0)=false:=by simpa using hr0
         have e2:(re != 0)=true:=by simpa using hr0
         have HF:=zh (show R=re by rw[<-HRR.out,zmZ hlt HJ.out (by rw[Ht.out,bZ.out];exact hr0),Ht.out,bZ.out]);clear hr0;go_wp2_with fail;go_ret;exact⟨by rw[HF.out];rfl,bP.out⟩
       ·obtain rfl:j=ks.length:=by omega
        have HF:=zh (show R=0 by
         have:=HJ.out;rw[List.take_of_length_le (Nat.le_refl _)] at this;rw[<-HRR.out];exact this)
        clear hbl hbx;go_wp2_with fail;go_ret;exact⟨by rw[HF.out];rfl,af.out⟩
     ·have HRR:=zh (show R=7 by
       have:ownE vs k s=7:=by rw[ownE,if_neg (by rw[ou.out];exact hn0),iN.out];simp[ou.out,hk]
       rw[<-HR.out,this];rfl)
      have e1:(vk==nk)=false:=by simpa using hk
      have e2:(vk != nk)=true:=by simpa using hk
      clear hn0 hk;go_wp2_with fail;go_ret;exact⟨by rw[HRR.out];rfl,ru.out⟩
    ·obtain⟨WX,mg⟩:∃ WX,((y1.setCell ⟨W1.heap.size,0,none⟩ (.string vm)).setCell ⟨W1.heap.size,1,none⟩ (.int .u8 vk)).setCell ⟨W1.heap.size,2,none⟩ (.int .i64 vl)=WX:=⟨_,rfl⟩
     have hbX:Below W1.heap.size W1 WX:=mg▸((b1.setCell (by simp) _).setCell (by simp) _).setCell (by simp) _;have hvk:WX.cell? ⟨W1.heap.size,1,none⟩=some (.int .u8 vk):=by rw[<-mg];exact zc (heap_setCell_same _ W1.heap.size 2 _ _ (.int .i64 vl) (heap_setCell_same _ W1.heap.size 1 _ _ (.int .u8 vk) (heap_setCell_same y1 W1.heap.size 0 _ _ (.string vm) hz))) (by simp)
     rw[mg];have ru:=zh (zka dY.out hbX);have qV:=zh (zkf ax.out hbX);obtain⟨m0,m1,m2,m3⟩:=box4 qV.out;clear hz hz0 hz1 hz2 vZ;clear b1 fF aH hbX mg;by_cases hk:vk=nk
     ·have HRR:=zh (show zlH vs ks=R by
       have:ownE vs k s=0:=by rw[ownE,if_neg (by rw[ou.out];exact hn0),iN.out];simp[ou.out,hk]
       rw[<-HR.out,this];simp)
      have e1:(vk==nk)=true:=by simpa using hk
      have e2:(vk != nk)=false:=by simpa using hk
      clear hn0 hk;go_wp2_with fail
      go_loopw [10,35] (fun _ i wr=>∃ j:Nat,j<=ks.length/\i=.int .i64 j/\Below w.heap.size w wr/\wr.heap[w.heap.size]?=some (.cells #[.int .u8 k,.int .i64 n,.string s,.slice B ks.length d] 26 (0,0))/\Hid (zlH vs (ks.take j)=0)) (fun _ i _=>ks.length-(intOf i).toNat)
      case atStart=>exact⟨0,Nat.zero_le _,rfl,ru.out,qV.out,zh (by simp[zlH])⟩
      case round =>
       obtain⟨j,hj,rfl,hbl,hbx,HJ⟩:=hrel;have af:=zh hbl;have wL:=zh hbx;by_cases hlt:j<ks.length
       ·obtain⟨a,t,A1,c1,rfl,_,Ht,⟨y0,y1,y2,y3⟩,hn⟩:=(vN.out.later hbl).nd hlt;obtain⟨re,hre⟩:∃ re,fltE vs t=re:=⟨_,rfl⟩
        have fK:=zh (show ∀ (v:Value) (w:World),NV w Any t v->w.cell? fp=some (.slice A VL c)->RowV w Any A vs->Calls Tryz.prog 115 #[.pointer (some fp),v] w fun e w'=>e=.returned (.int .i64 re)/\Below w.heap.size w w' from by
         have h1:=iM.out t (by rw[<-Ht.out];exact List.getElem_mem hlt);rw[hre,zZ.out] at h1;exact h1)
        have bZ:=zh hre;have HN:=zh hn;have hal:=zkc hbl (.cells #[.int .u8 t.k,.int .i64 t.n,.string t.s,.slice A1 t.ks.length c1] 26);have xk:=zh (fK.out _ _ (HN.out.later (zkc (Below.refl _ _) (.cells #[.int .u8 t.k,.int .i64 t.n,.string t.s,.slice A1 t.ks.length c1] 26))) (zb hal HC.out) (ah.out.later hal));clear hn hbl hbx hre hal;go_wp2_with fail;refine xk.out.mono ?_;rintro e w5 ⟨rfl,iq⟩;have bP:=zh (zka (zkc af.out _) iq);have uh:=zh (zkf (zkn wL.out _) iq);clear iq y0 y1 y2 y3;by_cases hr0:re=0
        ·subst hr0;have HJ2:Hid (zlH vs (ks.take (j+1))=0):=zh (by rw[zmY hlt HJ.out,Ht.out];exact bZ.out);go_wp2_with fail
         go_roundw
         case rel=>exact⟨j+1,by omega,by go_num,bP.out,uh.out,HJ2⟩
         case measure=>simp[intOf];omega
        ·have e1:(re==0)=false:=by simpa using hr0
         have e2:(re != 0)=true:=by simpa using hr0
         have HF:=zh (show R=re by rw[<-HRR.out,zmZ hlt HJ.out (by rw[Ht.out,bZ.out];exact hr0),Ht.out,bZ.out]);clear hr0;go_wp2_with fail;go_ret;exact⟨by rw[HF.out];rfl,bP.out⟩
       ·obtain rfl:j=ks.length:=by omega
        have HF:=zh (show R=0 by
         have:=HJ.out;rw[List.take_of_length_le (Nat.le_refl _)] at this;rw[<-HRR.out];exact this)
        clear hbl hbx;go_wp2_with fail;go_ret;exact⟨by rw[HF.out];rfl,af.out⟩
     ·have HRR:=zh (show R=7 by
       have:ownE vs k s=7:=by rw[ownE,if_neg (by rw[ou.out];exact hn0),iN.out];simp[ou.out,hk]
       rw[<-HR.out,this];rfl)
      have e1:(vk==nk)=false:=by simpa using hk
      have e2:(vk != nk)=true:=by simpa using hk
      clear hn0 hk;go_wp2_with fail;go_ret;exact⟨by rw[HRR.out];rfl,ru.out⟩
def ST.setL (S:ST) (id:Nat) (l:List Int):ST:={ S with cell:=fun j=>if j=id then l else S.cell j }
def ST.el (S:ST) (id i:Nat):Int:=(S.cell id).getD i 0
def ST.put (S:ST) (id i:Nat) (x:Int):ST:=S.setL id ((S.cell id).set i x)
def updE (k x y:Int):Int:=if k=40 then wrap64 (x+y) else if k=41 then wrap64 (x-y) else bits BinOp.xor IntKind.i64 x y
def zmE (S:ST) (k:Int) (id i sid:Nat):Int×ST :=
 if k=44 then (if 1000<=(S.cell sid).length then (5,S) else (0,(S.setL sid (S.cell sid++[S.el id i])).put id i 0))
 else if (S.cell sid).length=0 then (13,S)
 else if S.el id i≠0 then (14,S)
 else (0,(S.put id i (S.el sid ((S.cell sid).length-1))).setL sid ((S.cell sid).take ((S.cell sid).length-1)))
def zlf (S:ST) (k:Int) (id i:Nat):Int×ST :=
 if k=46 then match S.tin with
  | []=>(17,S)
  | y::r=>if S.el id i≠0 then (14,S) else (0,({ S with tin:=r }:ST).put id i y)
 else if k=49 then (if S.tout=[] then (17,S) else if S.el id i≠0 then (14,S) else (0,({ S with tout:=S.tout.dropLast }:ST).put id i (S.tout.getLast?.getD 0)))
 else if k=47 then (if 4096<=S.tin.length then (5,S) else (0,({ S with tin:=S.el id i::S.tin }:ST).put id i 0))
 else (if 4096<=S.tout.length then (5,S) else (0,({ S with tout:=S.tout++[S.el id i] }:ST).put id i 0))
def CurK (S:ST) (id:Nat) (k:Int):Prop:=∃ (i:Nat) (v:VD),S.cur.vs[i]?=some v/\S.cur.cs[i]?=some id/\v.k=k
theorem CurK.kd {S:ST} {id:Nat} {k:Int} (h:CurK S id k) {kd:Nat->Int×Int} (hw:S.cur.WF kd S.nc):(kd id).1=k/\id<S.nc:=by
 obtain⟨i,v,h1,h2,h3⟩:=h;obtain⟨a1,a2⟩:=List.getElem?_eq_some_iff.1 h1;obtain⟨b1,b2⟩:=List.getElem?_eq_some_iff.1 h2;have:=hw.kind i a1 b1;rw[b2,a2] at this;exact⟨by rw[this];exact h3,b2▸hw.num _ (List.getElem_mem b1)⟩
theorem CurK.lt {S:ST} {id:Nat} {k:Int} (h:CurK S id k) (hw:S.WF):id<S.nc:=by
 obtain⟨kd,h1⟩:=hw.cur;exact(h.kd h1).2
theorem CurK.ne {S:ST} {id id':Nat} {k k':Int} (h:CurK S id k) (h':CurK S id' k') (hw:S.WF) (hk:k≠k'):id≠id':=fun e=>by
 obtain⟨kd,h1⟩:=hw.cur;subst e;exact hk ((h.kd h1).1.symm.trans (h'.kd h1).1)
theorem zwR {S:ST} (h:S.WF) (id:Nat) (l:List Int) (hl:l.length=(S.cell id).length) (hx:∀ x∈l,I64 x):(S.setL id l).WF:=by
 obtain⟨kd,h1,h2,h3⟩:=h.ex;refine⟨⟨kd,h1,h2,fun i hi=>?_⟩,h.ncalls,fun i hi=>?_,h.tin,h.tout⟩
 ·have:=h3 i hi;simp only[ST.setL];by_cases e:i=id
  ·subst e;rw[if_pos rfl,hl];exact this
  ·rw[if_neg e];exact this
 ·have:=h.cells i hi;simp only[ST.setL];by_cases e:i=id
  ·subst e;rw[if_pos rfl,hl];exact⟨this.1,hx⟩
  ·rw[if_neg e];exact this
theorem zts {S:ST} (h:S.WF) (id:Nat) (hk:CurK S id 3) (l:List Int) (hl:l.length<=1000) (hx:∀ x∈l,I64 x):(S.setL id l).WF:=by
 obtain⟨kd,h1,h2,h3⟩:=h.ex;have hc:S.cur.WF kd S.nc:=by
  rcases Nat.eq_zero_or_pos S.calls.length with h0|h0
  ·rw[zmQ h0];exact h1
  ·rw[zm3 h0];exact h2 _ (List.getElem_mem _)
 have hk3:=(hk.kd hc).1;refine⟨⟨kd,h1,h2,fun i hi=>?_⟩,h.ncalls,fun i hi=>?_,h.tin,h.tout⟩
 ·have:=h3 i hi;simp only[ST.setL];by_cases e:i=id
  ·subst e;rw[if_pos rfl];exact⟨fun e=>by omega,fun e=>by omega,.inr (.inr hk3)⟩
  ·rw[if_neg e];exact this
 ·have:=h.cells i hi;simp only[ST.setL];by_cases e:i=id
  ·subst e;rw[if_pos rfl];exact⟨hl,hx⟩
  ·rw[if_neg e];exact this
theorem zmP {S:ST} (h:S.WF) {id:Nat} (hid:id<S.nc) (i:Nat):I64 (S.el id i):=by
 unfold ST.el;rcases Nat.lt_or_ge i (S.cell id).length with hi|hi
 ·rw[List.getD_eq_getElem?_getD,List.getElem?_eq_getElem hi];exact(h.cells id hid).2 _ (List.getElem_mem hi)
 ·rw[List.getD_eq_getElem?_getD,List.getElem?_eq_none hi];exact⟨by decide,by decide⟩
theorem zm5 {S:ST} (h:S.WF) {id:Nat} (hid:id<S.nc) (i:Nat) (x:Int) (hx:I64 x):(S.put id i x).WF :=
 zwR h id _ (by simp) fun y hy=>by
  rcases List.mem_or_eq_of_mem_set hy with hy|rfl
  ·exact(h.cells id hid).2 y hy
  ·exact hx
def Ph.gI (P:Ph) (id:Nat):Nat:=(P.ci id).ownBlock.getD 0
def Ph.setI (P:Ph) (id:Nat) (vv:Value):Ph:={ P with ci:=fun j=>if j=id then vv else P.ci j }
theorem zsY (l:List Int) (i:Nat) (x:Int):zke (l.set i x)=(zke l).set i (.int .i64 x):=by simp[zke,List.map_set]
theorem zq6 (P:Ph) (S:ST) (id i:Nat) (x:Int) (hid:id<S.nc):rows P (S.put id i x)=updR (rows P S) (.ci id) { rows P S (.ci id) with xs:=(rows P S (.ci id)).xs.set i (.int .i64 x) }:=by
 funext r
 cases r with
 | ci j =>
  by_cases e:j=id
  ·subst e;simp[updR,rows,ST.put,ST.setL,hid,zsY]
  ·simp[updR,rows,ST.put,ST.setL,e]
 | cb j=>rfl
 | _=>simp[updR,rows,ST.put,ST.setL]
theorem zsh (P:Ph) (S:ST) (id:Nat) (vv:Value) (l:List Int) (hid:id<S.nc):rows (P.setI id vv) (S.setL id l)=updR (updR (rows P S) (.ci id) ⟨vv,3,1,l.length,zke l⟩) (.cb id) { rows P S (.cb id) with xs:=(rows P S (.cb id)).xs.set 0 vv }:=by
 funext r
 cases r with
 | ci j =>
  by_cases e:j=id
  ·subst e;simp[updR,rows,Ph.setI,ST.setL,hid]
  ·simp[updR,rows,Ph.setI,ST.setL,e]
 | cb j =>
  by_cases e:j=id
  ·subst e;simp[updR,rows,Ph.setI,ST.setL,hid]
  ·simp[updR,rows,Ph.setI,ST.setL,e]
 | calls=>simp only[updR,reduceCtorEq,if_false,rows,ST.setL];rw[zlI (P:=P) (P':=P.setI id vv) rfl rfl];rfl
 | _=>simp[updR,rows,Ph.setI,ST.setL]
section
variable {W:World} {n0:Nat} {P:Ph} {S:ST}
theorem SR.plc (h:SR W n0 P S) {id i:Nat} (hid:id<S.nc) (hi:i<(S.cell id).length):(∃ c,P.ci id=.slice (some ⟨P.gI id,0,none⟩) (S.cell id).length c/\(S.cell id).length<=c)/\W.cell? ⟨P.gI id,i,none⟩=some (.int .i64 (S.el id i))/\W.frozen? ⟨P.gI id,i,none⟩=false:=by
 have hr:=h.rws.row (.ci id);simp only[rows,hid,if_true] at hr;obtain⟨g,c,hv,hc,_,hcell⟩:=zkZ hr (by omega);have hg:P.gI id=g:=by simp[Ph.gI,hv,Value.ownBlock]
 refine⟨⟨c,by rw[hg];exact hv,hc⟩,?_,?_⟩
 ·rw[hg,hcell i (by omega)];simp[zke,ST.el,hi]
 ·exact h.rws.frozen (.ci id) (by simp only[rows,hid,if_true];rw[hv,hg];rfl) i
theorem SR.own (h:SR W n0 P S) {id i:Nat} (hid:id<S.nc) (hi:i<(S.cell id).length):(rows P S (.ci id)).v.ownBlock=some (P.gI id):=by
 obtain⟨⟨c,hv,_⟩,_⟩:=h.plc hid hi;simp only[rows,hid,if_true];rw[hv];rfl
theorem SR.put (h:SR W n0 P S) {id i:Nat} (hid:id<S.nc) (hi:i<(S.cell id).length) (x:Int) (hx:I64 x):SStp n0 P S W P (S.put id i x) (W.setCell ⟨P.gI id,i,none⟩ (.int .i64 x)):=by
 refine⟨?_,zm5 h.wf hid i x hx⟩;have:=Stp.set (i:=Res.ci id) h.rws (g:=P.gI id) (h.own hid hi) (o:=i) (by simp only[rows,hid,if_true,zkC];exact hi) (.int .i64 x);exact this.cast (zq6 P S id i x hid).symm
end
theorem SR.stk {W W2:World} {n0:Nat} {P:Ph} {S:ST} (h:SR W n0 P S) (sid:Nat) (hs:CurK S sid 3) (l:List Int) (vv:Value) (hl:l.length<=1000) (hx:∀ x∈l,I64 x) (hc:Chg (fun b=>(P.ci sid).ownBlock=some b) W W2) (ho:W2.ownsRow n0 3 1 vv l.length (zke l)) (aL:∀ b,vv.ownBlock=some b->(P.ci sid).ownBlock=some b\/W.heap.size<=b) :
  W2.cell? ⟨P.cb sid,0,none⟩=some (P.ci sid)/\W2.frozen? ⟨P.cb sid,0,none⟩=false/\SStp n0 P S W (P.setI sid vv) (S.setL sid l) (W2.setCell ⟨P.cb sid,0,none⟩ vv):=by
 have hid:=hs.lt h.wf;have ev:(rows P S (.ci sid)).v=P.ci sid:=by simp only[rows,hid,if_true]
 have s1:=Stp.upd (i:=Res.ci sid) (r:=⟨vv,3,1,l.length,zke l⟩) h.rws (hc.mono fun b _ hb=>by rw[ev];exact hb) ho (fun b hb=>by rw[ev];exact aL b hb);have eb:updR (rows P S) (.ci sid) ⟨vv,3,1,l.length,zke l⟩ (.cb sid)=rows P S (.cb sid):=zkb (by simp);have vw:rows P S (.cb sid)=⟨boxV (P.cb sid),108,1,1,[P.ci sid]⟩:=by simp only[rows,hid,if_true]
 have s2:=Stp.set (i:=Res.cb sid) s1.rws (g:=P.cb sid) (by rw[eb,vw];rfl) (o:=0) (by rw[eb,vw];exact Nat.one_pos) vv;rw[eb] at s2;refine⟨s1.rws.cell (.cb sid) (g:=P.cb sid) (o:=0) (by rw[eb,vw];rfl) (by rw[eb,vw];rfl),s1.rws.frozen (.cb sid) (g:=P.cb sid) (by rw[eb,vw];rfl) 0,⟨(s1.trans s2).cast (zsh P S sid vv l hid).symm,zts h.wf sid hs l hl hx⟩⟩
theorem zxe:(Tryz.prog.info? 3).map (fun i=>(i.zero,i.size,i.bytes))=some (some (.int .i64 0),1,8):=znb
theorem zuv {W:World} {n0:Nat} {P:Ph} {S:ST} (h:SR W n0 P S) (k:Int) (hk:k=44\/k=45) (id i sid:Nat) (hid:id<S.nc) (hi:i<(S.cell id).length) (hs:CurK S sid 3) (hne:id≠sid) :
  Calls Tryz.prog 132 #[.int .u8 k,.pointer (some ⟨P.gI id,i,none⟩),.pointer (some ⟨P.cb sid,0,none⟩)] W fun e W'=>e=.returned (.int .i64 (zmE S k id i sid).1)/\∃ P',SStp n0 P S W P' (zmE S k id i sid).2 W'/\P'.sb=P.sb:=by
 have bI:=hs.lt h.wf;obtain⟨R,hR⟩:∃ R,zmE S k id i sid=R:=⟨_,rfl⟩
 rw[hR];have HRR:=zh hR;have HS:=zh h;have HK:=zh hs;obtain⟨A,c,hci,hc,bM⟩:=h.items bI;have hcs:=h.wf.cells sid bI;have x0:W.cell? ⟨P.cb sid,0,none⟩=some (.slice A (S.cell sid).length c):=by rw[<-hci];exact zc (h.cbox bI) rfl
 obtain⟨-,p0,p1⟩:=h.plc hid hi;obtain⟨x,hx⟩:∃ x,S.el id i=x:=⟨_,rfl⟩
 rw[hx] at p0;have HX:=zh hx;obtain⟨L,hL⟩:∃ L,(S.cell sid).length=L:=⟨_,rfl⟩
 rw[hL] at x0;have HL:=zh hL;have hL1:L<=1000:=by rw[<-hL];exact hcs.1
 have gJ:=zh hci;have gG:=zh bM;clear h hs hci bM hx hL hR hc;rcases hk with rfl|rfl
 ·by_cases hf:1000<=L
  ·have HN:=zh (show R=(5,S) by rw[<-HRR.out,zmE,if_pos rfl,if_pos (by rw[HL.out];exact hf)]);obtain rfl:L=1000:=by omega
   go_enter Tryz.func132,Tryz.ntmps132;go_wp2_with fail;go_ret;exact⟨by rw[HN.out];rfl,P,by rw[HN.out];exact SStp.refl HS.out (Below.refl _ _),rfl⟩
  ·have HN:=zh (show R=(0,(S.setL sid (S.cell sid++[x])).put id i 0) by rw[<-HRR.out,zmE,if_pos rfl,if_neg (by rw[HL.out];exact hf),HX.out]);have hf1:¬ (1000:Int)<=(L:Int):=by omega
   obtain⟨i1,hi1,hz0,hz1,hz2⟩:=info_parts zxe;have hbi:=zmR;have xC:I64 x:=by rw[<-HX.out];exact zmP HS.out.wf hid i
   clear HRR;go_enter Tryz.func132,Tryz.ntmps132;go_upto_region 7 with fail;have hSS:(fun w':World=>w'.cell? ⟨P.gI id,i,none⟩=some (.int .i64 x)) W.drew/\(fun w':World=>w'.cell? ⟨P.cb sid,0,none⟩=some (.slice A L c)) W.drew:=⟨p0,x0⟩
   refine wp_region_noPanic ?_;refine zkd (fun w':World=>w'.cell? ⟨P.gI id,i,none⟩=some (.int .i64 x)) (fun w':World=>w'.cell? ⟨P.cb sid,0,none⟩=some (.slice A L c)) 9 (by kernel_rfl) ?_;refine zT 0 hSS ?_;(try simp only[zQ]);refine zT 1 hSS ?_;(try simp only[zQ]);refine zT 2 hSS ?_;(try simp only[zQ]);refine zT 3 hSS ?_;(try simp only[zQ]);refine zko (i:=4) (v:=?_) rfl (by kernel_rfl) (by kernel_rfl) (by kernel_rfl) (by decide) rfl (by kernel_rfl) (by kernel_rfl) (fun _ _ _ h=>h) (Or.inl ⟨by rfl,?_⟩) hSS ?_;rotate_left 1
   ·(intro w hSw;(try dsimp only at hSw);(try simp only[zA,zB,zC]);go_simp;(try with_reducible rfl))
   (try simp only[zQ]);refine zT 5 hSS ?_;(try simp only[zQ]);refine zT 6 hSS ?_;(try simp only[zQ]);refine zT 7 hSS ?_;(try simp only[zQ]);refine zo 8 fun K hK=>?_;(try simp only[zA,zB,zC]);go_simp;refine hK.out _ _ ⟨zkm p0 _,zkm x0 _⟩ ?_;clear hK K hSS;(try simp only[zQ]);obtain⟨W2,hW2⟩:∃ W2,(W.alloc (.cells #[.int .i64 x] 3)).drew=W2:=⟨_,rfl⟩
   have hb2:Below W.heap.size W W2:=hW2▸(zkc (Below.refl _ _) _).drew;have aT:=zh (show ∀ j u,[Value.int .i64 x][j]?=some u->W2.cell? ((⟨W.heap.size,0,none⟩:Addr).add j)=some u from hW2▸zlR W 3 [.int .i64 x]);have wo:W2.ownsRow n0 3 1 (.slice A L c) L (zke (S.cell sid)):=by
    have:=zkJ (HS.out.rws.row (.ci sid)) hb2;simp only[rows,bI,if_true] at this;rw[gJ.out,HL.out] at this;exact this
   have hs2:=hb2.size;have d0:=zb hb2 p0;have hn0:=(HS.out.rws.lt .sb P.sb rfl)
   have HST:=zh (fun w3 vv=>SR.stk (W2:=w3) (HS.out.later hb2) sid HK.out (S.cell sid++[x]) vv (by rw[List.length_append,HL.out];simp;omega) (fun y hy=>by
    simp only[List.mem_append,List.mem_singleton] at hy;rcases hy with hy|rfl
    ·exact(hcs.2 y hy)
    ·exact xC))
   rw[hW2];have hnb:∀ b,(P.ci sid).ownBlock=some b->b≠P.gI id:=fun b hb e=>by
    have h1:=HS.out.own hid hi;rw[<-e] at h1;exact HS.out.rws.sep (.ci id) (.ci sid) b (by simpa using hne) h1 (by simp only[rows,bI,if_true];exact hb)
   rw[gJ.out] at HST hnb;rw[HL.out] at HST hnb;have fG:=zh hnb;have iA:=zh hb2;clear hW2 hnb hb2;refine zp 9 fun K hK=>?_;refine zkI (by rfl) (.tmp 47) (.tmp 51) 30 (by rfl) n0 3 i1 _ 1 8 Tryz.underlying30 hi1 hz0 hz1 hz2 rfl (by decide) (.slice A L c) L (zke (S.cell sid)) (by rfl) wo ⟨W.heap.size,0,none⟩ 1 1 [.int .i64 x] (by rfl) rfl aT.out (by intro u hu;simp at hu;subst hu;rfl) (by unfold maxLen;omega) (by omega) (by omega) ?_;intro v' w3 h2 h3 h5;obtain⟨g8,aP,rfl⟩:=ownsRow_succ h2;have hll:(S.cell sid++[x]).length=L+1:=by rw[List.length_append,HL.out];rfl
   obtain⟨z0,zf,hfin⟩:=HST.out w3 _ (Chg.row h3) (by rw[hll,zmN];exact h2) (fun b hb=>by
    rcases h5 with h5|h5
    ·exact .inl (h5▸hb)
    ·exact .inr (by rw[h5] at hb;injection hb with hb;omega))
   have y0:w3.cell? ⟨P.gI id,i,none⟩=some (.int .i64 x):=zkX (Chg.row h3) d0 (fun e=>fG.out _ e rfl);have hput:=SR.put (hfin.sr) (id:=id) (i:=i) hid (by show i<((S.setL sid _).cell id).length;simp only[ST.setL,if_neg hne];exact hi) 0 ⟨by decide,by decide⟩;have hgi:(P.setI sid (.slice (some ⟨g8,0,none⟩) (L+1) aP)).gI id=P.gI id:=by simp[Ph.gI,Ph.setI,hne]
   rw[hgi] at hput;have nH:P.cb sid≠P.gI id:=fun e=>by
    have h1:=HS.out.own hid hi;exact HS.out.rws.sep (.ci id) (.cb sid) (P.gI id) (by simp) h1 (by simp only[rows,bI,if_true];rw[e];rfl)
   have y1:(w3.setCell ⟨P.cb sid,0,none⟩ (.slice (some ⟨g8,0,none⟩) (L+1) aP)).cell? ⟨P.gI id,i,none⟩=some (.int .i64 x):=(World.cell?_setCell_far _ _ _ _ nH).trans y0;have aa:=zh (hfin.trans hput);have hfr:=hfin.sr.plc (id:=id) (i:=i) hid (by show i<((S.setL sid _).cell id).length;simp only[ST.setL,if_neg hne];exact hi);rw[hgi] at hfr;have yf:=hfr.2.2;refine hK.out _ _ y0 ?_;clear hK K h2 h3 h5 hfin hput wo aT d0 hfr;(try simp only[zQ]);refine zp 10 fun K hK=>?_;(try simp only[zA,zB,zC]);go_simp;refine hK.out _ _ y0 ?_;clear hK K;(try simp only[zQ]);refine zp 11 fun K hK=>?_;(try simp only[zA,zB,zC]);go_simp;refine hK.out _ _ y0 ?_;clear hK K;(try simp only[zQ]);refine zp 12 fun K hK=>?_;(try simp only[zA,zB,zC]);go_simp;refine hK.out _ _ y1 ?_;clear hK K;(try simp only[zQ]);refine zd ?_;refine NoPanic.normal ?_
   obtain⟨w4,hw4⟩:∃ w4,w3.setCell ⟨P.cb sid,0,none⟩ (.slice (some ⟨g8,0,none⟩) (L+1) aP)=w4:=⟨_,rfl⟩
   rw[hw4] at y1 yf aa ⊢;clear hw4 z0 zf y0;go_wp2_with fail;go_ret;refine⟨by rw[HN.out];rfl,P.setI sid (.slice (some ⟨g8,0,none⟩) (L+1) aP),?_,rfl⟩;rw[HN.out];exact⟨aa.out.st.after iA.out HS.out.rws,aa.out.wf⟩
 ·rcases Nat.eq_zero_or_pos L with h0|h0
  ·subst h0;have HN:=zh (show R=(13,S) by rw[<-HRR.out,zmE,if_neg (by decide),if_pos HL.out]);go_enter Tryz.func132,Tryz.ntmps132;go_wp2_with fail;go_ret;exact⟨by rw[HN.out];rfl,P,by rw[HN.out];exact SStp.refl HS.out (Below.refl _ _),rfl⟩
  ·obtain⟨m,rfl⟩:∃ m,L=m+1:=⟨L-1,by omega⟩
   have hm0:¬ ((m:Int)+1=0):=by omega
   have hm1:(((m:Int)+1)==0)=false:=by simpa using hm0
   by_cases hx0:x=0
   ·subst hx0;obtain⟨a,rfl,hz⟩:=gG.out.nd (i:=m) (by rw[HL.out];omega);obtain⟨y,hy⟩:∃ y,(S.cell sid).getD m 0=y:=⟨_,rfl⟩
    rw[hy] at hz;have HN:=zh (show R=(0,(S.put id i y).setL sid ((S.cell sid).take m)) by
     rw[<-HRR.out,zmE,if_neg (by decide),if_neg (by rw[HL.out];omega),if_neg (by rw[HX.out];simp),HL.out];rw[show S.el sid (m+1-1)=y from hy];rfl)
    have rQ:I64 y:=by rw[<-hy];exact zmP HS.out.wf bI m
    have s1:=HS.out.put hid hi y rQ;obtain⟨g,c2,hv2,hc2,hm2,hcell2⟩:=zkZ (HS.out.rws.row (.ci sid)) (by simp only[rows,bI,if_true];rw[HL.out];omega);simp only[rows,bI,if_true] at hv2 hc2;rw[HL.out] at hc2;rw[gJ.out] at hv2;injection hv2 with a1 a2 a3;injection a1 with a1;subst a1 a3;rw[Addr.add_lit,Nat.zero_add] at hz;have nH:P.cb sid≠P.gI id:=fun e=>by
     have h1:=HS.out.own hid hi;exact HS.out.rws.sep (.ci id) (.cb sid) (P.gI id) (by simp) h1 (by simp only[rows,bI,if_true];rw[e];rfl)
    have x1:(W.setCell ⟨P.gI id,i,none⟩ (.int .i64 y)).cell? ⟨P.cb sid,0,none⟩=some (.slice (some ⟨g,0,none⟩) (m+1) c):=(World.cell?_setCell_far _ _ _ _ (Ne.symm nH)).trans x0;have hrow1:(W.setCell ⟨P.gI id,i,none⟩ (.int .i64 y)).ownsRow n0 3 1 (.slice (some ⟨g,0,none⟩) m c) m (zke ((S.cell sid).take m)):=by
     have:=s1.st.rws.row (.ci sid);have e1:rows P (S.put id i y) (.ci sid)=⟨.slice (some ⟨g,0,none⟩) (m+1) c,3,1,m+1,zke (S.cell sid)⟩:=by
      rw[zq6 P S id i y hid,zkb (by simpa using Ne.symm hne)];simp only[rows,bI,if_true];rw[gJ.out,HL.out]
     rw[e1] at this;have e2:zke (S.cell sid)=zke ((S.cell sid).take m)++(zke (S.cell sid)).drop (m*1):=by rw[Nat.mul_one,zke,zke,List.map_take,List.take_append_drop]
     dsimp only at this;rw[e2] at this;exact ownsRow_pop (by rw[zkC,List.length_take,HL.out];omega) this
    have hltm:((S.cell sid).take m).length=m:=by rw[List.length_take,HL.out];omega
    have hcell1:(S.put id i y).cell sid=S.cell sid:=by simp[ST.put,ST.setL,Ne.symm hne]
    obtain⟨z0,zf,hfin⟩:=SR.stk (W2:=W.setCell ⟨P.gI id,i,none⟩ (.int .i64 y)) s1.sr sid HK.out ((S.cell sid).take m) (.slice (some ⟨g,0,none⟩) m c) (by omega) (fun q hq=>hcs.2 q (List.mem_of_mem_take hq)) (Chg.refl _ _) (by rw[hltm];exact hrow1) (fun b hb=>.inl (by rw[gJ.out];exact hb));have aa:=zh (s1.trans hfin);have hw1:IntKind.i64.wrap (m:Int)=(m:Int):=IntWalk.i64_in _ (by omega);have hmc:(m:Int)<=(c:Int):=by omega
    have hmm:(m:Int)<(m:Int)+1:=by omega
    clear s1 hfin hrow1 z0 hcell2 HRR;go_enter Tryz.func132,Tryz.ntmps132;go_wp2_with fail;go_ret;refine⟨by rw[HN.out];rfl,P.setI sid (.slice (some ⟨g,0,none⟩) m c),?_,rfl⟩;rw[HN.out];exact aa.out
   ·have HN:=zh (show R=(14,S) by rw[<-HRR.out,zmE,if_neg (by decide),if_neg (by rw[HL.out];omega),if_pos (by rw[HX.out];exact hx0)]);have hx1:(x != 0)=true:=by simpa using hx0
    have hx2:(x==0)=false:=by simpa using hx0
    go_enter Tryz.func132,Tryz.ntmps132;go_wp2_with fail;go_ret;exact⟨by rw[HN.out];rfl,P,by rw[HN.out];exact SStp.refl HS.out (Below.refl _ _),rfl⟩
end Go.Proofs.YtmbbaccjcekhkaaGreat
namespace Go.Proofs.YtmbbaccjcekhkaaGreat
open Go Go.RowKit
theorem zsR:IsFn Tryz.prog 138 Tryz.f138:=⟨Tryz.func138,by kernel_rfl,by kernel_rfl⟩
theorem zuH:IsFn Tryz.prog 140 Tryz.f140:=⟨Tryz.func140,by kernel_rfl,by kernel_rfl⟩
theorem SR.tp {W:World} {n0:Nat} {P:Ph} {S:ST} (h:SR W n0 P S):W.cell? ⟨P.sb,4,none⟩=some (.pointer (some ⟨P.tb,0,none⟩)):=zc h.box rfl
theorem zpH {W:World} {n0:Nat} {P:Ph} {S:ST} (h:SR W n0 P S) (k:Int) (hk:k=46\/k=49\/k=47\/k=48) (id i:Nat) (hid:id<S.nc) (hi:i<(S.cell id).length) :
  Calls Tryz.prog 133 #[.pointer (some ⟨P.sb,0,none⟩),.int .u8 k,.pointer (some ⟨P.gI id,i,none⟩)] W fun e W'=>e=.returned (.int .i64 (zlf S k id i).1)/\∃ P',SStp n0 P S W P' (zlf S k id i).2 W'/\P'.sb=P.sb:=by
 obtain⟨R,hR⟩:∃ R,zlf S k id i=R:=⟨_,rfl⟩
 rw[hR];have HRR:=zh hR;have HS:=zh h;have x4:=h.tp;obtain⟨-,p0,p1⟩:=h.plc hid hi;obtain⟨x,hx⟩:∃ x,S.el id i=x:=⟨_,rfl⟩
 rw[hx] at p0;have HX:=zh hx;have xC:I64 x:=by rw[<-hx];exact zmP h.wf hid i
 clear hR hx h;rcases hk with rfl|rfl|rfl|rfl
 ·have o7:=zh (zvo HS.out);go_enter Tryz.func133,Tryz.ntmps133;go_wp2_with fail;refine o7.out.mono ?_;rintro e w1 hh;rcases hh with⟨h0,rfl,hb⟩|⟨y,r,h0,rfl,vv,hst⟩
  ·have HN:=zh (show R=(17,S) by rw[<-HRR.out,zlf,if_pos rfl,h0]);have HB:=zh hb;clear h0 hb;go_wp2_with fail;go_ret;exact⟨by rw[HN.out];rfl,P,by rw[HN.out];exact SStp.refl HS.out HB.out,rfl⟩
  ·have ht:=HS.out.wf.tin;rw[h0] at ht;have rQ:I64 y:=ht.2 y (List.mem_cons_self ..);have y4:w1.cell? ⟨P.sb,4,none⟩=some (.pointer (some ⟨P.tb,0,none⟩)):=hst.sr.tp;obtain⟨-,r0,r1⟩:=hst.sr.plc (id:=id) (i:=i) hid hi;have r0':w1.cell? ⟨P.gI id,i,none⟩=some (.int .i64 x):=by rw[<-HX.out];exact r0
   have r1':w1.frozen? ⟨P.gI id,i,none⟩=false:=r1;by_cases hx0:x=0
   ·subst hx0;have HN:=zh (show R=(0,({ S with tin:=r }:ST).put id i y) by rw[<-HRR.out,zlf,if_pos rfl,h0];dsimp only;rw[HX.out];simp);have oq:=zh (hst.trans (hst.sr.put (id:=id) (i:=i) hid hi y rQ));clear h0 hst ht r0 r1;go_wp2_with fail;go_ret;exact⟨by rw[HN.out];rfl,{ P with vI:=vv },by rw[HN.out];exact oq.out,rfl⟩
   ·have HN:=zh (show R=(14,S) by rw[<-HRR.out,zlf,if_pos rfl,h0];dsimp only;rw[HX.out,if_pos hx0]);have hx1:(x != 0)=true:=by simpa using hx0
    have hx2:(x==0)=false:=by simpa using hx0
    have Ah:=zh (zo8 hst.sr y rQ);have hrl:¬ 4096<=r.length:=by have:=ht.1;simp at this;omega
    have HST:=zh hst;have H0:=zh h0;clear h0 hst ht r0 r1;go_wp2_with fail;refine Ah.out.mono ?_;rintro e w2 hh;rcases hh with⟨h1,rfl,hb⟩|⟨h1,rfl,yI,mX⟩
    ·exact absurd h1 hrl
    ·have HS2:=zh mX;clear h1 mX;go_wp2_with fail;go_ret;refine⟨by rw[HN.out];rfl,{ P with vI:=yI },?_,rfl⟩;rw[HN.out];have h3:=HST.out.trans HS2.out;have e3:({ { S with tin:=r } with tin:=y::({ S with tin:=r }:ST).tin }:ST)=S:=by
      show({ S with tin:=y::r }:ST)=S
      rw[<-H0.out]
     rw[e3] at h3;exact h3
 ·have o7:=zh (zqN HS.out);go_enter Tryz.func133,Tryz.ntmps133;go_wp2_with fail;refine o7.out.mono ?_;rintro e w1 hh;rcases hh with⟨h0,rfl,hb⟩|⟨r,y,h0,rfl,vv,hst⟩
  ·have HN:=zh (show R=(17,S) by rw[<-HRR.out,zlf,if_neg (by decide),if_pos rfl,if_pos h0]);have HB:=zh hb;clear h0 hb;go_wp2_with fail;go_ret;exact⟨by rw[HN.out];rfl,P,by rw[HN.out];exact SStp.refl HS.out HB.out,rfl⟩
  ·have ht:=HS.out.wf.tout;rw[h0] at ht;have rQ:I64 y:=ht.2 y (by simp);have hne:S.tout≠[]:=by rw[h0];simp
   have hdl:S.tout.dropLast=r:=by rw[h0];simp
   have hgl:S.tout.getLast?.getD 0=y:=by rw[h0];simp
   have y4:w1.cell? ⟨P.sb,4,none⟩=some (.pointer (some ⟨P.tb,0,none⟩)):=hst.sr.tp;obtain⟨-,r0,r1⟩:=hst.sr.plc (id:=id) (i:=i) hid hi;have r0':w1.cell? ⟨P.gI id,i,none⟩=some (.int .i64 x):=by rw[<-HX.out];exact r0
   have r1':w1.frozen? ⟨P.gI id,i,none⟩=false:=r1;by_cases hx0:x=0
   ·subst hx0;have HN:=zh (show R=(0,({ S with tout:=r }:ST).put id i y) by rw[<-HRR.out,zlf,if_neg (by decide),if_pos rfl,if_neg hne,hdl,hgl,HX.out];simp);have oq:=zh (hst.trans (hst.sr.put (id:=id) (i:=i) hid hi y rQ));clear h0 hst ht r0 r1 hne hdl hgl;go_wp2_with fail;go_ret;exact⟨by rw[HN.out];rfl,{ P with vO:=vv },by rw[HN.out];exact oq.out,rfl⟩
   ·have HN:=zh (show R=(14,S) by rw[<-HRR.out,zlf,if_neg (by decide),if_pos rfl,if_neg hne,HX.out,if_pos hx0]);have hx1:(x != 0)=true:=by simpa using hx0
    have hx2:(x==0)=false:=by simpa using hx0
    have Ah:=zh (zqe hst.sr y rQ);have hrl:¬ 4096<=r.length:=by have:=ht.1;simp at this;omega
    have HST:=zh hst;have H0:=zh h0;clear h0 hst ht r0 r1 hne hdl hgl;go_wp2_with fail;refine Ah.out.mono ?_;rintro e w2 hh;rcases hh with⟨h1,rfl,hb⟩|⟨h1,rfl,yI,mX⟩
    ·exact absurd h1 hrl
    ·have HS2:=zh mX;clear h1 mX;go_wp2_with fail;go_ret;refine⟨by rw[HN.out];rfl,{ P with vO:=yI },?_,rfl⟩;rw[HN.out];have h3:=HST.out.trans HS2.out;have e3:({ { S with tout:=r } with tout:=({ S with tout:=r }:ST).tout++[y] }:ST)=S:=by
      show({ S with tout:=r++[y] }:ST)=S
      rw[<-H0.out]
     rw[e3] at h3;exact h3
 ·skip
  have had:Calls Tryz.prog 138 [.pointer (some ⟨P.tb,0,none⟩),.int .i64 x].toArray W.drew fun e W'=>∃ u,e=.returned u/\∃ y,u=.int .i64 y /\
    ((y=5/\R=(5,S)/\Below W.heap.size W W')\/(y=0/\R=(0,({ S with tin:=x::S.tin }:ST).put id i 0)/\∃ vv,SStp n0 P S W { P with vI:=vv } ({ S with tin:=x::S.tin }:ST) W')):=by
   refine(zo8 (HS.out.later (Below.refl _ _).drew) x xC).mono ?_;rintro e W' hh;rcases hh with⟨h0,rfl,hb⟩|⟨h0,rfl,vv,hst⟩
   ·exact⟨_,rfl,5,rfl,.inl ⟨rfl,by rw[<-HRR.out,zlf,if_neg (by decide),if_neg (by decide),if_pos rfl,if_pos h0],zka (Below.refl _ _).drew hb⟩⟩
   ·exact⟨_,rfl,0,rfl,.inr ⟨rfl,by rw[<-HRR.out,zlf,if_neg (by decide),if_neg (by decide),if_pos rfl,if_neg (by omega),HX.out],vv,⟨hst.st.after (Below.refl _ _).drew HS.out.rws,hst.wf⟩⟩⟩
  go_enter Tryz.func133,Tryz.ntmps133;go_upto_region 17 with fail;have hSS:(fun w':World=>w'.cell? ⟨P.sb,4,none⟩=some (.pointer (some ⟨P.tb,0,none⟩))/\w'.cell? ⟨P.gI id,i,none⟩=some (.int .i64 x)) W.drew/\(fun _:World=>True) W.drew:=⟨⟨x4,p0⟩,trivial⟩
  refine wp_region_noPanic ?_;refine zkd (fun w':World=>w'.cell? ⟨P.sb,4,none⟩=some (.pointer (some ⟨P.tb,0,none⟩))/\w'.cell? ⟨P.gI id,i,none⟩=some (.int .i64 x)) (fun _:World=>True) 7 (by kernel_rfl) ?_;refine zT 0 hSS ?_;(try simp only[zQ]);refine zT 1 hSS ?_;(try simp only[zQ]);refine zT 2 hSS ?_;(try simp only[zQ]);refine zT 3 hSS ?_;(try simp only[zQ]);refine zT 4 hSS ?_;(try simp only[zQ]);refine zT 5 hSS ?_;(try simp only[zQ]);refine zT 6 hSS ?_;(try simp only[zQ]);refine zp 7 fun K hK=>?_;refine zkj (by rfl) (.func 138) [.tmp 72,.tmp 75] _ (by rfl) 138 _ zsR (by rfl) _ (by rfl) _ had ?_;rintro v4 w4 ⟨y,rfl,hh⟩;have HH:=zh hh;have qo:w4.cell? ⟨P.sb,4,none⟩=some (.pointer (some ⟨P.tb,0,none⟩))/\w4.cell? ⟨P.gI id,i,none⟩=some (.int .i64 x)/\w4.frozen? ⟨P.gI id,i,none⟩=false:=by
   rcases hh with⟨_,_,hb⟩|⟨_,_,vv,hst⟩
   ·exact⟨zb hb x4,zb hb p0,((HS.out.later hb).plc hid hi).2.2⟩
   ·have h9:=hst.sr.plc (id:=id) (i:=i) hid hi;exact⟨hst.sr.tp,by rw[<-HX.out];exact h9.2.1,h9.2.2⟩
  obtain⟨b4,b5,b6⟩:=qo;refine hK.out _ _ ⟨b4,b5⟩ ?_;clear hK K hSS had hh;(try simp only[zQ]);refine zp 8 fun K hK=>?_;(try simp only[zA,zB,zC]);go_simp;refine hK.out _ _ ⟨b4,b5⟩ ?_;clear hK K;(try simp only[zQ]);refine zd ?_;refine NoPanic.normal ?_;rcases HH.out with⟨rfl,h1,hb⟩|⟨rfl,h1,vv,hst⟩
  ·have HN:=zh h1;have HB:=zh hb;clear HH h1 hb;go_wp2_with fail;go_ret;exact⟨by rw[HN.out];rfl,P,by rw[HN.out];exact SStp.refl HS.out HB.out,rfl⟩
  ·have HN:=zh h1;have oq:=zh (hst.trans (hst.sr.put (id:=id) (i:=i) hid hi 0 ⟨by decide,by decide⟩));clear HH h1 hst;go_wp2_with fail;go_ret;exact⟨by rw[HN.out];rfl,{ P with vI:=vv },by rw[HN.out];exact oq.out,rfl⟩
 ·skip
  have had:Calls Tryz.prog 140 [.pointer (some ⟨P.tb,0,none⟩),.int .i64 x].toArray W.drew fun e W'=>∃ u,e=.returned u/\∃ y,u=.int .i64 y /\
    ((y=5/\R=(5,S)/\Below W.heap.size W W')\/(y=0/\R=(0,({ S with tout:=S.tout++[x] }:ST).put id i 0)/\∃ vv,SStp n0 P S W { P with vO:=vv } ({ S with tout:=S.tout++[x] }:ST) W')):=by
   refine(zqe (HS.out.later (Below.refl _ _).drew) x xC).mono ?_;rintro e W' hh;rcases hh with⟨h0,rfl,hb⟩|⟨h0,rfl,vv,hst⟩
   ·exact⟨_,rfl,5,rfl,.inl ⟨rfl,by rw[<-HRR.out,zlf,if_neg (by decide),if_neg (by decide),if_neg (by decide),if_pos h0],zka (Below.refl _ _).drew hb⟩⟩
   ·exact⟨_,rfl,0,rfl,.inr ⟨rfl,by rw[<-HRR.out,zlf,if_neg (by decide),if_neg (by decide),if_neg (by decide),if_neg (by omega),HX.out],vv,⟨hst.st.after (Below.refl _ _).drew HS.out.rws,hst.wf⟩⟩⟩
  go_enter Tryz.func133,Tryz.ntmps133;go_upto_region 19 with fail;have hSS:(fun w':World=>w'.cell? ⟨P.sb,4,none⟩=some (.pointer (some ⟨P.tb,0,none⟩))/\w'.cell? ⟨P.gI id,i,none⟩=some (.int .i64 x)) W.drew/\(fun _:World=>True) W.drew:=⟨⟨x4,p0⟩,trivial⟩
  refine wp_region_noPanic ?_;refine zkd (fun w':World=>w'.cell? ⟨P.sb,4,none⟩=some (.pointer (some ⟨P.tb,0,none⟩))/\w'.cell? ⟨P.gI id,i,none⟩=some (.int .i64 x)) (fun _:World=>True) 7 (by kernel_rfl) ?_;refine zT 0 hSS ?_;(try simp only[zQ]);refine zT 1 hSS ?_;(try simp only[zQ]);refine zT 2 hSS ?_;(try simp only[zQ]);refine zT 3 hSS ?_;(try simp only[zQ]);refine zT 4 hSS ?_;(try simp only[zQ]);refine zT 5 hSS ?_;(try simp only[zQ]);refine zT 6 hSS ?_;(try simp only[zQ]);refine zp 7 fun K hK=>?_;refine zkj (by rfl) (.func 140) [.tmp 82,.tmp 85] _ (by rfl) 140 _ zuH (by rfl) _ (by rfl) _ had ?_;rintro v4 w4 ⟨y,rfl,hh⟩;have HH:=zh hh;have qo:w4.cell? ⟨P.sb,4,none⟩=some (.pointer (some ⟨P.tb,0,none⟩))/\w4.cell? ⟨P.gI id,i,none⟩=some (.int .i64 x)/\w4.frozen? ⟨P.gI id,i,none⟩=false:=by
   rcases hh with⟨_,_,hb⟩|⟨_,_,vv,hst⟩
   ·exact⟨zb hb x4,zb hb p0,((HS.out.later hb).plc hid hi).2.2⟩
   ·have h9:=hst.sr.plc (id:=id) (i:=i) hid hi;exact⟨hst.sr.tp,by rw[<-HX.out];exact h9.2.1,h9.2.2⟩
  obtain⟨b4,b5,b6⟩:=qo;refine hK.out _ _ ⟨b4,b5⟩ ?_;clear hK K hSS had hh;(try simp only[zQ]);refine zp 8 fun K hK=>?_;(try simp only[zA,zB,zC]);go_simp;refine hK.out _ _ ⟨b4,b5⟩ ?_;clear hK K;(try simp only[zQ]);refine zd ?_;refine NoPanic.normal ?_;rcases HH.out with⟨rfl,h1,hb⟩|⟨rfl,h1,vv,hst⟩
  ·have HN:=zh h1;have HB:=zh hb;clear HH h1 hb;go_wp2_with fail;go_ret;exact⟨by rw[HN.out];rfl,P,by rw[HN.out];exact SStp.refl HS.out HB.out,rfl⟩
  ·have HN:=zh h1;have oq:=zh (hst.trans (hst.sr.put (id:=id) (i:=i) hid hi 0 ⟨by decide,by decide⟩));clear HH h1 hst;go_wp2_with fail;go_ret;exact⟨by rw[HN.out];rfl,{ P with vO:=vv },by rw[HN.out];exact oq.out,rfl⟩
theorem zr0 (k x y:Int) (hk:k=40\/k=41\/k=42) (w:World):Calls Tryz.prog 131 #[.int .u8 k,.int .i64 x,.int .i64 y] w fun e w'=>e=.returned (.tuple #[.int .i64 (updE k x y),.int .i64 0])/\w'=w:=by
 rcases hk with rfl|rfl|rfl
 ·rw[show updE 40 x y=wrap64 (x+y) by simp[updE]];go_enter Tryz.func131,Tryz.ntmps131;go_wp2_with fail;go_ret2;exact⟨rfl,rfl⟩
 ·rw[show updE 41 x y=wrap64 (x-y) by simp[updE]];go_enter Tryz.func131,Tryz.ntmps131;go_wp2_with fail;go_ret2;exact⟨rfl,rfl⟩
 ·rw[show updE 42 x y=bits BinOp.xor IntKind.i64 x y by simp[updE]];go_enter Tryz.func131,Tryz.ntmps131;go_wp2_with fail;go_ret2;exact⟨rfl,rfl⟩
theorem zql (x:Int):I64 (IntKind.i64.wrap x):=by
 rw[IntKind.wrap_i64];unfold I64;omega
theorem zv3 (k x y:Int):I64 (updE k x y):=by
 unfold updE
 split
 ·unfold wrap64 I64;omega
 ·split
  ·unfold wrap64 I64;omega
  ·exact zql _
theorem zo3:∀ (vs:List VD) (s:ByteArray) (j:Nat),j<=vs.length->zkA (vs.take j) s=(zlB vs s j).bind fun i=>vs[i]?
 | vs,s,0,_=>by simp[zkA,zlB]
 | vs,s,j+1,h=>by
  rw[zo2 (by omega),znE (by omega),zo3 vs s j (by omega)];by_cases e:vs[j].s.toList=s.toList
  ·have e':(vs[j].s.toList==s.toList)=true:=by simpa using e
   have hj:j<vs.length:=by omega
   rw[if_pos e,if_pos e'];simp[hj]
  ·have e':¬ (vs[j].s.toList==s.toList)=true:=by simpa using e
   rw[if_neg e,if_neg e']
theorem zno (f:FR) (s:ByteArray):zkA f.vs s=(f.at s).bind fun i=>f.vs[i]?:=by
 have:=zo3 f.vs s f.vs.length (Nat.le_refl _);rw[List.take_of_length_le (Nat.le_refl _)] at this;exact this
theorem zpR {S:ST} (h:S.WF) {s:ByteArray} {v:VD} (hv:zkA S.cur.vs s=some v):∃ id,S.num s=some id/\CurK S id v.k:=by
 rw[zno,Option.bind_eq_some_iff] at hv;obtain⟨i,h1,h2⟩:=hv;obtain⟨kd,hw⟩:=h.cur;have hi:=FR.at_lt h1;have hc:i<S.cur.cs.length:=by rw[hw.len];exact hi
 refine⟨S.cur.cs[i],by rw[ST.num,h1];simp[hc],i,v,h2,List.getElem?_eq_getElem hc,rfl⟩
theorem zlk {vs:List VD} {k n:Int} {s:ByteArray} {ks:List T} (h:fltE vs (.nd k n s ks)=0):ownE vs k s=0/\zlH vs ks=0:=by
 rw[fltE] at h
 split at h
 ·contradiction
 ·next h1=>exact⟨Classical.not_not.1 h1,h⟩
theorem zk4 {vs:List VD}:∀ {ks:List T},zlH vs ks=0->∀ t∈ks,fltE vs t=0
 | t::ts,h,u,hu=>by
  rw[zlH] at h
  split at h
  ·contradiction
  ·next h1 =>
   rcases List.mem_cons.1 hu with rfl|hu
   ·exact Classical.not_not.1 h1
   ·exact zk4 h u hu
theorem zk6 {vs:List VD} {k:Int} {s:ByteArray} (h:ownE vs k s=0) (hn:zna k≠0):∃ v,zkA vs s=some v/\v.k=zna k:=by
 rw[ownE,if_neg hn] at h
 cases hf:zkA vs s with
 | none=>rw[hf] at h;cases h
 | some v =>
  rw[hf] at h;dsimp only at h
  split at h
  ·next h1=>exact⟨v,rfl,h1⟩
  ·cases h
theorem zpf {S:ST} (h:S.WF) {p:T} (hp:isP p=true) (hf:fltE S.cur.vs p=0):∃ id k,S.num p.s=some id/\CurK S id k/\k≠3:=by
 obtain⟨k,n,s,ks⟩:=p;simp only[isP,T.k_nd,Bool.and_eq_true,Bool.or_eq_true,beq_iff_eq] at hp;obtain⟨h1,_⟩:=zlk hf;rcases hp.1 with rfl|rfl
 ·obtain⟨v,h2,h3⟩:=zk6 h1 (by decide);obtain⟨id,h4,h5⟩:=zpR h h2;exact⟨id,v.k,h4,h5,by rw[h3];decide⟩
 ·obtain⟨v,h2,h3⟩:=zk6 h1 (by decide);obtain⟨id,h4,h5⟩:=zpR h h2;exact⟨id,v.k,h4,h5,by rw[h3];decide⟩
def zrD (S:ST) (id i jd j:Nat):ST:=(S.put id i (S.el jd j)).put jd j (S.el id i)
def zlC (S:ST) (k:Int) (s qs:ByteArray) (r2:Int) (id i:Nat):Int×ST :=
 if k=40\/k=41\/k=42 then (0,S.put id i (updE k (S.el id i) r2))
 else if k=43 then match S.num qs with
  | none=>(0,S)
  | some jd=>if 0<=r2/\r2<(S.cell jd).length then (0,zrD S id i jd r2.toNat) else (12,S)
 else if k=44\/k=45 then match S.num s with
  | none=>(0,S)
  | some sid=>zmE S k id i sid
 else zlf S k id i
def zlO (S:ST) (k:Int) (q:T):Int×Int:=if k=43 then indE S.look q else if k=40\/k=41\/k=42 then zlb S.look q else (0,0)
def zlU (S:ST) (k:Int) (s ps qs:ByteArray) (r1:Int) (r2:Int×Int):Int×ST :=
 if r2.2≠0 then (r2.2,S) else match S.num ps with
  | none=>(0,S)
  | some id=>if 0<=r1/\r1<(S.cell id).length then zlC S k s qs r2.1 id r1.toNat else (12,S)
def zkQ (S:ST) (k:Int) (s:ByteArray) (p q:T) (r1 r2:Int×Int):Int×ST:=if r1.2≠0 then (r1.2,S) else zlU S k s p.s q.s r1.1 r2
def nil0:T:=.nd 0 0 ⟨#[]⟩ []
def zp3 (S:ST):T->Int×ST
 | .nd k _ s ks=>zkQ S k s (ks.getD 0 nil0) (ks.getD 1 nil0) (indE S.look (ks.getD 0 nil0)) (zlO S k (ks.getD 1 nil0))
def doE (S:ST) (t:T):Int×ST :=
 if isS t=false then (3,S) else if t.k=56 then (9,S) else if basB t.k=false then (7,S) else if fltE S.cur.vs t≠0 then (fltE S.cur.vs t,S) else zp3 S t
def zng (S:ST):T->Int×ST
 | .nd k n s ks=>doE S (.nd (zmF k) n s ks)
theorem zsS:IsFn Tryz.prog 130 Tryz.f130:=⟨Tryz.func130,by kernel_rfl,by kernel_rfl⟩
theorem zvN:IsFn Tryz.prog 132 Tryz.f132:=⟨Tryz.func132,by kernel_rfl,by kernel_rfl⟩
theorem zuV {W:World} {n0:Nat} {P:Ph} {S:ST} (h:SR W n0 P S) (k n:Int) (s:ByteArray) (p:T) (v:Value) (hv:NV W Any (.nd k n s [p]) v) (hk:44<=k/\k<=49) (id:Nat) (hid:S.num p.s=some id) (kp:Int) (hck:CurK S id kp) (hkp:kp≠3)
  (hst:k=44\/k=45->∃ sid,S.num s=some sid/\CurK S sid 3) :
  Calls Tryz.prog 116 #[.pointer (some ⟨P.sb,0,none⟩),v] W fun e W'=>e=.returned (.int .i64 (zkQ S k s p nil0 (indE S.look p) (0,0)).1)/\∃ P',SStp n0 P S W P' (zkQ S k s p nil0 (indE S.look p) (0,0)).2 W'/\P'.sb=P.sb:=by
 obtain⟨A,c,rfl,hf,hlk,hlc,hrow⟩:=hv.open_;simp only[T.k_nd,T.n_nd,T.s_nd,T.ks_nd] at *
 obtain⟨R,hR⟩:∃ R,zkQ S k s p nil0 (indE S.look p) (0,0)=R:=⟨_,rfl⟩
 rw[hR];have HRR:=zh hR;have HS:=zh h;have HL:=zh (zsz n0 P S h.wf);obtain⟨a,t0,A2,c2,rfl,_,Ht,⟨y0,y1,y2,y3⟩,hn0⟩:=hrow.nd (i:=0) (by simp);simp only[Nat.zero_mul,Addr.add_zero',List.length_cons,List.length_nil,Nat.zero_add] at *
 have ht0:t0=p:=Ht.out.symm;subst ht0;have hbx:=box4 (heap_alloc_new W (.cells #[.int .u8 k,.int .i64 n,.string s,.slice (some a) 1 c] 26));have az:=zh (heap_alloc_new W (.cells #[.int .u8 k,.int .i64 n,.string s,.slice (some a) 1 c] 26));obtain⟨W0,hW0⟩:∃ W0,W.alloc (.cells #[.int .u8 k,.int .i64 n,.string s,.slice (some a) 1 c] 26)=W0:=⟨_,rfl⟩
 have q0:Below W.heap.size W W0:=hW0▸zkc (Below.refl _ _) _;rw[hW0] at hbx az;have iU:=zh q0;have z0:=zb q0 y0;have z1:=zb q0 y1;have z2:=zb q0 y2;have z3:=zb q0 y3;obtain⟨⟨iv,ie⟩,aV⟩:∃ r,indE S.look t0=r:=⟨_,rfl⟩
 have iy:=zh (znw HL.out t0 _ W0 (hn0.later q0) (h.later q0));rw[aV] at iy;have o6:=zh (show R=zkQ S k s t0 nil0 (iv,ie) (0,0) by rw[<-hR,aV]);have xh:=zh (fun W' (hb:Below W.heap.size W W')=>zmJ (h.later hb) t0.s id hid);obtain⟨x0,x1,x2,x3⟩:=hbx;have aS:=hck.lt h.wf;have cB:=zh hck;have bV:=zh hid;clear hR aV h hv hn0 hrow hlk hlc y0 y1 y2 y3 q0 hf hck hid;have k40:(k==40)=false:=by simp;omega
 have k41:(k==41)=false:=by simp;omega
 have k42:(k==42)=false:=by simp;omega
 have xx:(k==43)=false:=by simp;omega
 go_enter Tryz.func116,Tryz.ntmps116;go_wp2_with fail;refine iy.out.mono ?_;rintro e w1 ⟨rfl,aj⟩;have HB1:=zh (zka iU.out aj);have aH:=zh (zkf az.out aj);have u0:=zb aj z0;have u1:=zb aj z1;have u2:=zb aj z2;have u3:=zb aj z3;have v0:=zb aj x0;have v2:=zb aj x2;have v3:=zb aj x3;clear aj z0 z1 z2 z3 x0 x1 x2 x3;dsimp only;by_cases he:ie=0
 ·subst he;have HR1:=zh (show R=zlU S k s t0.s nil0.s iv (0,0) by rw[o6.out,zkQ,if_neg (by simp)]);go_wp2_with fail;refine(xh.out _ HB1.out).mono ?_;rintro e w2 ⟨rfl,aB⟩;have HB2:=zh (zka HB1.out aB);have df:=zh (zkf aH.out aB);have r0:=zb aB v0;have r2:=zb aB v2;have HS2:=zh (HS.out.later HB2.out);clear u0 u1 u2 u3 v0 v2 v3 aB;have HR2:=zh (show R=if 0<=iv/\iv<(S.cell id).length then zlC S k s nil0.s 0 id iv.toNat else (12,S) by
   rw[HR1.out,zlU,if_neg (by simp),bV.out])
  by_cases hr:0<=iv/\iv<((S.cell id).length:Int)
  ·obtain⟨i,rfl⟩:∃ i:Nat,iv=i:=⟨iv.toNat,by omega⟩
   have hi:i<(S.cell id).length:=by omega
   have HR3:=zh (show R=zlC S k s nil0.s 0 id i by rw[HR2.out,if_pos hr];rfl);obtain⟨⟨c3,hci,hc3⟩,p0,p1⟩:=HS2.out.plc aS hi;have w0:w2.cell? ⟨P.cb id,0,none⟩=some (.slice (some ⟨P.gI id,0,none⟩) (S.cell id).length c3):=by rw[<-hci];exact zc (HS2.out.cbox aS) rfl
   obtain⟨m,hm⟩:∃ m,(S.cell id).length=m:=⟨_,rfl⟩
   have HM:=zh hm;rw[hm] at w0;have hi1:¬ (i:Int)<0:=by omega
   have hi2:¬ (m:Int)<=(i:Int):=by omega
   have hi3:(i:Int)<(m:Int):=by omega
   clear HR1 HR2 hr hci hc3 hm;by_cases h45:k=44\/k=45
   ·obtain⟨sid,hs1,hs2⟩:=hst h45;have hne:=cB.out.ne hs2 HS.out.wf hkp;have HR4:=zh (show R=zmE S k id i sid by
     rw[HR3.out,zlC,if_neg (by omega),if_neg (by omega),if_pos h45,hs1])
    have HMV:=zh (fun W' (hb:Below W.heap.size W W')=>zuv (HS.out.later hb) k h45 id i sid aS hi hs2 hne);have HSC:=zh (fun W' (hb:Below W.heap.size W W')=>zmJ (HS.out.later hb) s sid hs1);have kk:(k==44||k==45)=true:=by rcases h45 with rfl|rfl<;>rfl
    clear hs1 hs2 HR3 bV;rcases h45 with rfl|rfl
    ·skip
     go_upto_region 34 with fail;have hSS:(fun w':World=>w'.cell? ⟨W.heap.size,0,none⟩=some (.int .u8 44)/\w'.cell? ⟨W.heap.size,2,none⟩=some (.string s)) w2.drew/\(fun _:World=>True) w2.drew:=⟨⟨r0,r2⟩,trivial⟩
     refine wp_region_noPanic ?_;refine zkd (fun w':World=>w'.cell? ⟨W.heap.size,0,none⟩=some (.int .u8 44)/\w'.cell? ⟨W.heap.size,2,none⟩=some (.string s)) (fun _:World=>True) 7 (by kernel_rfl) ?_;refine zT 0 hSS ?_;(try simp only[zQ]);refine zT 1 hSS ?_;(try simp only[zQ]);refine zT 2 hSS ?_;(try simp only[zQ]);refine zT 3 hSS ?_;(try simp only[zQ]);refine zT 4 hSS ?_;(try simp only[zQ]);refine zT 5 hSS ?_;(try simp only[zQ]);have had:Calls Tryz.prog 130 [.pointer (some ⟨P.sb,0,none⟩),.string s].toArray w2.drew fun e W'=>∃ u,e=.returned u/\u=.pointer (some ⟨P.cb sid,0,none⟩)/\Below w2.drew.heap.size w2.drew W' :=
      (HSC.out _ HB2.out.drew).mono fun e W' hh=>⟨_,hh.1,rfl,hh.2⟩
     refine zo 6 fun K hK=>?_;refine zkj (by rfl) (.func 130) [.tmp 138,.tmp 140] _ (by rfl) 130 _ zsS (by rfl) _ (by rfl) _ had ?_;rintro v4 w4 ⟨rfl,hb4⟩;have aK:=zh (zka HB2.out.drew hb4);have t0':=zb hb4 (show w2.drew.cell? _=_ from r0);have t2':=zb hb4 (show w2.drew.cell? _=_ from r2);refine hK.out _ _ ⟨⟨t0',t2'⟩,trivial⟩ ?_;clear hK K hSS had hb4;(try simp only[zQ]);have had:Calls Tryz.prog 132 [.int .u8 44,.pointer (some ⟨P.gI id,i,none⟩),.pointer (some ⟨P.cb sid,0,none⟩)].toArray w4 fun e W'=>∃ u,e=.returned u/\u=.int .i64 R.1/\∃ P',SStp n0 P S w4 P' R.2 W'/\P'.sb=P.sb:=by
      refine(HMV.out _ aK.out).mono ?_;rintro e W' ⟨h1,h2⟩;rw[<-HR4.out] at h1 h2;exact⟨_,h1,rfl,h2⟩
     refine zp 7 fun K hK=>?_;refine zkj (by rfl) (.func 132) [.tmp 136,.tmp 137,.tmp 141] _ (by rfl) 132 _ zvN (by rfl) _ (by rfl) _ had ?_;rintro v5 w5 ⟨rfl,P',hs5,wz⟩;have hno:¬ OwnB (rows P S) W.heap.size:=fun⟨q,hq⟩=>by have:=(HS.out.rws.lt q _ hq).2;omega
     have HF:=zh hs5;have HP:=zh wz;have b0:=zkX hs5.st.chg t0' hno;have b2:=zkX hs5.st.chg t2' hno;refine hK.out _ _ ⟨b0,b2⟩ ?_;clear hK K had hs5 wz;(try simp only[zQ]);refine zp 8 fun K hK=>?_;(try simp only[zA,zB,zC]);go_simp;refine hK.out _ _ ⟨b0,b2⟩ ?_;clear hK K;(try simp only[zQ]);refine zd ?_;refine NoPanic.normal ?_;go_wp2_with fail;go_ret;exact⟨rfl,P',⟨HF.out.st.after aK.out HS.out.rws,HF.out.wf⟩,HP.out⟩
    ·skip
     go_upto_region 34 with fail;have hSS:(fun w':World=>w'.cell? ⟨W.heap.size,0,none⟩=some (.int .u8 45)/\w'.cell? ⟨W.heap.size,2,none⟩=some (.string s)) w2.drew/\(fun _:World=>True) w2.drew:=⟨⟨r0,r2⟩,trivial⟩
     refine wp_region_noPanic ?_;refine zkd (fun w':World=>w'.cell? ⟨W.heap.size,0,none⟩=some (.int .u8 45)/\w'.cell? ⟨W.heap.size,2,none⟩=some (.string s)) (fun _:World=>True) 7 (by kernel_rfl) ?_;refine zT 0 hSS ?_;(try simp only[zQ]);refine zT 1 hSS ?_;(try simp only[zQ]);refine zT 2 hSS ?_;(try simp only[zQ]);refine zT 3 hSS ?_;(try simp only[zQ]);refine zT 4 hSS ?_;(try simp only[zQ]);refine zT 5 hSS ?_;(try simp only[zQ]);have had:Calls Tryz.prog 130 [.pointer (some ⟨P.sb,0,none⟩),.string s].toArray w2.drew fun e W'=>∃ u,e=.returned u/\u=.pointer (some ⟨P.cb sid,0,none⟩)/\Below w2.drew.heap.size w2.drew W' :=
      (HSC.out _ HB2.out.drew).mono fun e W' hh=>⟨_,hh.1,rfl,hh.2⟩
     refine zo 6 fun K hK=>?_;refine zkj (by rfl) (.func 130) [.tmp 138,.tmp 140] _ (by rfl) 130 _ zsS (by rfl) _ (by rfl) _ had ?_;rintro v4 w4 ⟨rfl,hb4⟩;have aK:=zh (zka HB2.out.drew hb4);have t0':=zb hb4 (show w2.drew.cell? _=_ from r0);have t2':=zb hb4 (show w2.drew.cell? _=_ from r2);refine hK.out _ _ ⟨⟨t0',t2'⟩,trivial⟩ ?_;clear hK K hSS had hb4;(try simp only[zQ]);have had:Calls Tryz.prog 132 [.int .u8 45,.pointer (some ⟨P.gI id,i,none⟩),.pointer (some ⟨P.cb sid,0,none⟩)].toArray w4 fun e W'=>∃ u,e=.returned u/\u=.int .i64 R.1/\∃ P',SStp n0 P S w4 P' R.2 W'/\P'.sb=P.sb:=by
      refine(HMV.out _ aK.out).mono ?_;rintro e W' ⟨h1,h2⟩;rw[<-HR4.out] at h1 h2;exact⟨_,h1,rfl,h2⟩
     refine zp 7 fun K hK=>?_;refine zkj (by rfl) (.func 132) [.tmp 136,.tmp 137,.tmp 141] _ (by rfl) 132 _ zvN (by rfl) _ (by rfl) _ had ?_;rintro v5 w5 ⟨rfl,P',hs5,wz⟩;have hno:¬ OwnB (rows P S) W.heap.size:=fun⟨q,hq⟩=>by have:=(HS.out.rws.lt q _ hq).2;omega
     have HF:=zh hs5;have HP:=zh wz;have b0:=zkX hs5.st.chg t0' hno;have b2:=zkX hs5.st.chg t2' hno;refine hK.out _ _ ⟨b0,b2⟩ ?_;clear hK K had hs5 wz;(try simp only[zQ]);refine zp 8 fun K hK=>?_;(try simp only[zA,zB,zC]);go_simp;refine hK.out _ _ ⟨b0,b2⟩ ?_;clear hK K;(try simp only[zQ]);refine zd ?_;refine NoPanic.normal ?_;go_wp2_with fail;go_ret;exact⟨rfl,P',⟨HF.out.st.after aK.out HS.out.rws,HF.out.wf⟩,HP.out⟩
   ·have xS:k=46\/k=49\/k=47\/k=48:=by omega
    have k44:(k==44)=false:=by simp;omega
    have k45:(k==45)=false:=by simp;omega
    have HR4:=zh (show R=zlf S k id i by rw[HR3.out,zlC,if_neg (by omega),if_neg (by omega),if_neg h45]);have HTR:=zh (zpH HS2.out k xS id i aS hi);rw[<-HR4.out] at HTR;clear HR3 p0 p1;go_wp2_with fail;refine HTR.out.mono ?_;rintro e w3 ⟨rfl,P',hs3,hp3⟩;have HF:=zh hs3;have HP:=zh hp3;clear hs3 hp3;go_wp2_with fail;go_ret;exact⟨rfl,P',⟨HF.out.st.after HB2.out HS.out.rws,HF.out.wf⟩,HP.out⟩
  ·have HN:=zh (show R=(12,S) by rw[HR2.out,if_neg hr]);obtain⟨A3,c3,hci,hc3,bM⟩:=HS2.out.items aS;have w0:w2.cell? ⟨P.cb id,0,none⟩=some (.slice A3 (S.cell id).length c3):=by rw[<-hci];exact zc (HS2.out.cbox aS) rfl
   obtain⟨m,hm⟩:∃ m,(S.cell id).length=m:=⟨_,rfl⟩
   rw[hm] at w0 hr;clear HR1 HR2 hci hc3 bM hm;by_cases hneg:iv<0
   ·go_wp2_with fail;go_ret;exact⟨by rw[HN.out];rfl,P,by rw[HN.out];exact SStp.refl HS.out HB2.out,rfl⟩
   ·have hge:(m:Int)<=iv:=by omega
    go_wp2_with fail;go_ret;exact⟨by rw[HN.out];rfl,P,by rw[HN.out];exact SStp.refl HS.out HB2.out,rfl⟩
 ·have HN:=zh (show R=(ie,S) by rw[o6.out,zkQ,if_pos he]);have e1:(ie==0)=false:=by simpa using he
  have e2:(ie != 0)=true:=by simpa using he
  clear he;go_wp2_with fail;go_ret;exact⟨by rw[HN.out];rfl,P,by rw[HN.out];exact SStp.refl HS.out HB1.out,rfl⟩
theorem zuG:IsFn Tryz.prog 131 Tryz.f131:=⟨Tryz.func131,by kernel_rfl,by kernel_rfl⟩
theorem zxB (a:Addr):a.add (1*4)=⟨a.block,a.off+4,none⟩:=by unfold Addr.add;split<;>simp_all
theorem zuU {W:World} {n0:Nat} {P:Ph} {S:ST} (h:SR W n0 P S) (k n:Int) (s:ByteArray) (p q:T) (v:Value) (hv:NV W Any (.nd k n s [p,q]) v) (hk:k=40\/k=41\/k=42) (id:Nat) (hid:S.num p.s=some id) (kp:Int) (hck:CurK S id kp) :
  Calls Tryz.prog 116 #[.pointer (some ⟨P.sb,0,none⟩),v] W fun e W'=>e=.returned (.int .i64 (zkQ S k s p q (indE S.look p) (zlb S.look q)).1)/\∃ P',SStp n0 P S W P' (zkQ S k s p q (indE S.look p) (zlb S.look q)).2 W'/\P'.sb=P.sb:=by
 obtain⟨A,c,rfl,hf,hlk,hlc,hrow⟩:=hv.open_;simp only[T.k_nd,T.n_nd,T.s_nd,T.ks_nd] at *
 obtain⟨R,hR⟩:∃ R,zkQ S k s p q (indE S.look p) (zlb S.look q)=R:=⟨_,rfl⟩
 rw[hR];have HRR:=zh hR;have HS:=zh h;have HL:=zh (zsz n0 P S h.wf);obtain⟨a,t0,A2,c2,rfl,_,Ht,h4,hn0⟩:=hrow.nd (i:=0) (by simp);obtain⟨a',t1,A3,c3,ea,_,Hu,h5,hn1⟩:=hrow.nd (i:=1) (by simp);injection ea with ea;subst ea;have ha:a.add (1*4)=⟨a.block,a.off+4,none⟩:=zxB a;rw[ha] at h5;have ht0:t0=p:=Ht.out.symm;subst ht0;have ht1:t1=q:=Hu.out.symm;subst ht1;simp only[Nat.zero_mul,Nat.one_mul,Addr.add_zero',List.length_cons,List.length_nil,Nat.zero_add,Nat.reduceAdd] at *
 have hbx:=box4 (heap_alloc_new W (.cells #[.int .u8 k,.int .i64 n,.string s,.slice (some a) 2 c] 26));have az:=zh (heap_alloc_new W (.cells #[.int .u8 k,.int .i64 n,.string s,.slice (some a) 2 c] 26));obtain⟨W0,hW0⟩:∃ W0,W.alloc (.cells #[.int .u8 k,.int .i64 n,.string s,.slice (some a) 2 c] 26)=W0:=⟨_,rfl⟩
 have q0:Below W.heap.size W W0:=hW0▸zkc (Below.refl _ _) _;rw[hW0] at hbx az;have iU:=zh q0;have H4:=zh h4;have H5:=zh h5;have g4:=zkE q0 h4;obtain⟨z0,z1,z2,z3⟩:=g4;obtain⟨⟨iv,ie⟩,aV⟩:∃ r,indE S.look t0=r:=⟨_,rfl⟩
 obtain⟨⟨jv,je⟩,hjv⟩:∃ r,zlb S.look t1=r:=⟨_,rfl⟩
 have iy:=zh (znw HL.out t0 _ W0 (hn0.later q0) (h.later q0));rw[aV] at iy;have Bb:=zh (show ∀ W',Below W.heap.size W W'->Calls Tryz.prog 126 #[nv t1.k t1.n t1.s A3 t1.ks.length c3,.func (.func 129) #[.pointer (some ⟨P.sb,0,none⟩)] #[]] W' (NumE (jv,je) W') from fun W' hb=>hjv▸zpC HL.out t1 _ W' (hn1.later hb) (h.later hb));have o6:=zh (show R=zkQ S k s t0 t1 (iv,ie) (jv,je) by rw[<-hR,aV,hjv]);have xh:=zh (fun W' (hb:Below W.heap.size W W')=>zmJ (h.later hb) t0.s id hid);obtain⟨x0,x1,x2,x3⟩:=hbx;have aS:=hck.lt h.wf;have bV:=zh hid;clear hR aV hjv hv hn0 hn1 hrow hlk hlc q0 hf hck hid h4 h5;clear h;have xx:(k==43)=false:=by simp;omega
 obtain⟨kk,hkk⟩:∃ x,x=k:=⟨_,rfl⟩
 have Ak:=zh (fun x w=>zr0 kk x jv (hkk▸hk) w);go_enter Tryz.func116,Tryz.ntmps116;go_wp2_with fail;refine iy.out.mono ?_;rintro e w1 ⟨rfl,aj⟩;have HB1:=zh (zka iU.out aj);have aH:=zh (zkf az.out aj);have v0:=zb aj x0;have v3:=zb aj x3;obtain⟨y0,y1,y2,y3⟩:=zkE HB1.out H5.out;clear aj z0 z1 z2 z3 x0 x1 x2 x3;dsimp only;by_cases he:ie=0
 ·subst he;have HR1:=zh (show R=zlU S k s t0.s t1.s iv (jv,je) by rw[o6.out,zkQ,if_neg (by simp)]);rcases hk with rfl|rfl|rfl
  all_goals
    go_wp2_with fail;refine(Bb.out _ HB1.out).mono ?_;rintro e w2 ⟨rfl,aB⟩;have HB2:=zh (zka HB1.out aB);have df:=zh (zkf aH.out aB);have r0:=zb aB v0;have r3:=zb aB v3;obtain⟨z0,z1,z2,z3⟩:=zkE HB2.out H4.out;clear aB y0 y1 y2 y3 v0 v3;dsimp only;by_cases nA:je=0
    ·subst nA;go_wp2_with fail;refine(xh.out _ HB2.out).mono ?_;rintro e w3 ⟨rfl,dH⟩;have HB3:=zh (zka HB2.out dH);have Hkk:=zh (zkf df.out dH);have s0:=zb dH r0;have s3:=zb dH r3;have HS2:=zh (HS.out.later HB3.out);clear r0 r3 dH z0 z1 z2 z3;have HR2:=zh (show R=if 0<=iv/\iv<(S.cell id).length then zlC S kk s t1.s jv id iv.toNat else (12,S) by
      rw[HR1.out,zlU,if_neg (by simp),bV.out,hkk])
     by_cases hr:0<=iv/\iv<((S.cell id).length:Int)
     ·obtain⟨i,rfl⟩:∃ i:Nat,iv=i:=⟨iv.toNat,by omega⟩
      have hi:i<(S.cell id).length:=by omega
      have HR3:=zh (show R=(0,S.put id i (updE kk (S.el id i) jv)) by rw[HR2.out,if_pos hr,zlC,if_pos (by omega)];rfl);obtain⟨⟨c4,hci,hc4⟩,p0,p1⟩:=HS2.out.plc aS hi;have w0:w3.cell? ⟨P.cb id,0,none⟩=some (.slice (some ⟨P.gI id,0,none⟩) (S.cell id).length c4):=by rw[<-hci];exact zc (HS2.out.cbox aS) rfl
      have oq:=zh (fun W' (hb:Below W.heap.size W W')=>(HS.out.later hb).put aS hi (updE kk (S.el id i) jv) (zv3 _ _ _));obtain⟨x,hx⟩:∃ x,S.el id i=x:=⟨_,rfl⟩
      rw[hx] at p0 HR3 oq;obtain⟨m,hm⟩:∃ m,(S.cell id).length=m:=⟨_,rfl⟩
      rw[hm] at w0;have hi1:¬ (i:Int)<0:=by omega
      have hi2:¬ (m:Int)<=(i:Int):=by omega
      have hi3:(i:Int)<(m:Int):=by omega
      clear HR1 HR2 hr hci hc4 hm hx;obtain⟨U,hU⟩:∃ U,updE kk x jv=U:=⟨_,rfl⟩
      rw[hU] at HR3 oq;have HUU:=zh (hU▸Ak.out x);clear hU;have s0':w3.cell? ⟨W.heap.size,0,none⟩=some (.int .u8 kk):=by rw[hkk];exact s0
      clear hkk;go_upto_region 22 with fail;have hSS:(fun w':World=>w'.cell? ⟨W.heap.size,0,none⟩=some (.int .u8 kk)/\w'.cell? ⟨P.gI id,i,none⟩=some (.int .i64 x)) w3.drew/\(fun _:World=>True) w3.drew:=⟨⟨s0',p0⟩,trivial⟩
      refine wp_region_noPanic ?_;refine zkd (fun w':World=>w'.cell? ⟨W.heap.size,0,none⟩=some (.int .u8 kk)/\w'.cell? ⟨P.gI id,i,none⟩=some (.int .i64 x)) (fun _:World=>True) 11 (by kernel_rfl) ?_;refine zT 0 hSS ?_;(try simp only[zQ]);refine zT 1 hSS ?_;(try simp only[zQ]);refine zT 2 hSS ?_;(try simp only[zQ]);refine zT 3 hSS ?_;(try simp only[zQ]);refine zT 4 hSS ?_;(try simp only[zQ]);refine zT 5 hSS ?_;(try simp only[zQ]);have had:Calls Tryz.prog 131 [.int .u8 kk,.int .i64 x,.int .i64 jv].toArray w3.drew fun e W'=>∃ u,e=.returned u/\u=.tuple #[.int .i64 U,.int .i64 0]/\W'=w3.drew :=
       (HUU.out w3.drew).mono fun e W' hh=>⟨_,hh.1,rfl,hh.2⟩
      refine zo 6 fun K hK=>?_;refine zkj (by rfl) (.func 131) [.tmp 86,.tmp 89,.tmp 90] _ (by rfl) 131 _ zuG (by rfl) _ (by rfl) _ had ?_;rintro v4 w4 ⟨rfl,rfl⟩;refine hK.out _ _ hSS ?_;clear hK K had;(try simp only[zQ]);refine zT 7 hSS ?_;(try simp only[zQ]);refine zT 8 hSS ?_;(try simp only[zQ]);refine zT 9 hSS ?_;(try simp only[zQ]);refine zT 10 hSS ?_;(try simp only[zQ]);refine zp 11 fun K hK=>?_;(try simp only[zA,zB,zC]);go_simp;refine hK.out _ _ hSS.1 ?_;clear hK K hSS;(try simp only[zQ]);refine zd ?_;refine NoPanic.normal ?_;go_wp2_with fail;go_ret;refine⟨by rw[HR3.out];rfl,P,?_,rfl⟩;rw[HR3.out];have:=oq.out _ HB3.out.drew;exact⟨this.st.after HB3.out.drew HS.out.rws,this.wf⟩
     ·skip
      have HN:=zh (show R=(12,S) by rw[HR2.out,if_neg hr]);obtain⟨A3,c3,hci,hc3,bM⟩:=HS2.out.items aS;have w0:w3.cell? ⟨P.cb id,0,none⟩=some (.slice A3 (S.cell id).length c3):=by rw[<-hci];exact zc (HS2.out.cbox aS) rfl
      obtain⟨m,hm⟩:∃ m,(S.cell id).length=m:=⟨_,rfl⟩
      rw[hm] at w0 hr;clear HR2 hci hc3 bM hm;by_cases hneg:iv<0
      ·go_wp2_with fail;go_ret;exact⟨by rw[HN.out];rfl,P,by rw[HN.out];exact SStp.refl HS.out HB3.out,rfl⟩
      ·have hge:(m:Int)<=iv:=by omega
       go_wp2_with fail;go_ret;exact⟨by rw[HN.out];rfl,P,by rw[HN.out];exact SStp.refl HS.out HB3.out,rfl⟩
    ·skip
     have HN:=zh (show R=(je,S) by rw[HR1.out,zlU,if_pos nA]);have e1:(je==0)=false:=by simpa using nA
     have e2:(je != 0)=true:=by simpa using nA
     clear nA;go_wp2_with fail;go_ret;exact⟨by rw[HN.out];rfl,P,by rw[HN.out];exact SStp.refl HS.out HB2.out,rfl⟩
 ·skip
  have HN:=zh (show R=(ie,S) by rw[o6.out,zkQ,if_pos he]);have e1:(ie==0)=false:=by simpa using he
  have e2:(ie != 0)=true:=by simpa using he
  clear he;go_wp2_with fail;go_ret;exact⟨by rw[HN.out];rfl,P,by rw[HN.out];exact SStp.refl HS.out HB1.out,rfl⟩
theorem zs5 {W:World} {n0:Nat} {P:Ph} {S:ST} (h:SR W n0 P S) (k n:Int) (s:ByteArray) (p q:T) (v:Value) (hv:NV W Any (.nd k n s [p,q]) v) (hk:k=43) (id:Nat) (hid:S.num p.s=some id) (kp:Int) (hck:CurK S id kp) (jd:Nat) (hjd:S.num q.s=some jd) (kq:Int) (hcq:CurK S jd kq) :
  Calls Tryz.prog 116 #[.pointer (some ⟨P.sb,0,none⟩),v] W fun e W'=>e=.returned (.int .i64 (zkQ S k s p q (indE S.look p) (indE S.look q)).1)/\∃ P',SStp n0 P S W P' (zkQ S k s p q (indE S.look p) (indE S.look q)).2 W'/\P'.sb=P.sb:=by
 obtain⟨A,c,rfl,hf,hlk,hlc,hrow⟩:=hv.open_;simp only[T.k_nd,T.n_nd,T.s_nd,T.ks_nd] at *
 obtain⟨R,hR⟩:∃ R,zkQ S k s p q (indE S.look p) (indE S.look q)=R:=⟨_,rfl⟩
 rw[hR];have HRR:=zh hR;have HS:=zh h;have HL:=zh (zsz n0 P S h.wf);obtain⟨a,t0,A2,c2,rfl,_,Ht,h4,hn0⟩:=hrow.nd (i:=0) (by simp);obtain⟨a',t1,A3,c3,ea,_,Hu,h5,hn1⟩:=hrow.nd (i:=1) (by simp);injection ea with ea;subst ea;have ha:a.add (1*4)=⟨a.block,a.off+4,none⟩:=zxB a;rw[ha] at h5;have ht0:t0=p:=Ht.out.symm;subst ht0;have ht1:t1=q:=Hu.out.symm;subst ht1;simp only[Nat.zero_mul,Nat.one_mul,Addr.add_zero',List.length_cons,List.length_nil,Nat.zero_add,Nat.reduceAdd] at *
 have hbx:=box4 (heap_alloc_new W (.cells #[.int .u8 k,.int .i64 n,.string s,.slice (some a) 2 c] 26));have az:=zh (heap_alloc_new W (.cells #[.int .u8 k,.int .i64 n,.string s,.slice (some a) 2 c] 26));obtain⟨W0,hW0⟩:∃ W0,W.alloc (.cells #[.int .u8 k,.int .i64 n,.string s,.slice (some a) 2 c] 26)=W0:=⟨_,rfl⟩
 have q0:Below W.heap.size W W0:=hW0▸zkc (Below.refl _ _) _;rw[hW0] at hbx az;have iU:=zh q0;have H4:=zh h4;have H5:=zh h5;have g4:=zkE q0 h4;obtain⟨z0,z1,z2,z3⟩:=g4;obtain⟨⟨iv,ie⟩,aV⟩:∃ r,indE S.look t0=r:=⟨_,rfl⟩
 obtain⟨⟨jv,je⟩,hjv⟩:∃ r,indE S.look t1=r:=⟨_,rfl⟩
 have iy:=zh (znw HL.out t0 _ W0 (hn0.later q0) (h.later q0));rw[aV] at iy;have Bb:=zh (show ∀ W',Below W.heap.size W W'->Calls Tryz.prog 128 #[nv t1.k t1.n t1.s A3 t1.ks.length c3,.func (.func 129) #[.pointer (some ⟨P.sb,0,none⟩)] #[]] W' (NumE (jv,je) W') from fun W' hb=>hjv▸znw HL.out t1 _ W' (hn1.later hb) (h.later hb));have o6:=zh (show R=zkQ S k s t0 t1 (iv,ie) (jv,je) by rw[<-hR,aV,hjv]);have xh:=zh (fun W' (hb:Below W.heap.size W W')=>zmJ (h.later hb) t0.s id hid);obtain⟨x0,x1,x2,x3⟩:=hbx;have aS:=hck.lt h.wf;have bV:=zh hid;clear hR aV hjv hv hn0 hn1 hrow hlk hlc q0 hf hck hid h4 h5;have j3:=hcq.lt h.wf;have HCQ:=zh (fun W' (hb:Below W.heap.size W W')=>zmJ (h.later hb) t1.s jd hjd);have HJD:=zh hjd;subst hk;clear h hcq hjd;go_enter Tryz.func116,Tryz.ntmps116;go_wp2_with fail;refine iy.out.mono ?_;rintro e w1 ⟨rfl,aj⟩
 have HB1:=zh (zka iU.out aj);have aH:=zh (zkf az.out aj);have v0:=zb aj x0;have v3:=zb aj x3;obtain⟨y0,y1,y2,y3⟩:=zkE HB1.out H5.out;clear aj z0 z1 z2 z3 x0 x1 x2 x3;dsimp only;by_cases he:ie=0
 ·subst he;have HR1:=zh (show R=zlU S 43 s t0.s t1.s iv (jv,je) by rw[o6.out,zkQ,if_neg (by simp)]);go_wp2_with fail;refine(Bb.out _ HB1.out).mono ?_;rintro e w2 ⟨rfl,aB⟩;have HB2:=zh (zka HB1.out aB);have df:=zh (zkf aH.out aB);have r0:=zb aB v0;have r3:=zb aB v3;obtain⟨z0,z1,z2,z3⟩:=zkE HB2.out H4.out;clear aB y0 y1 y2 y3 v0 v3;dsimp only;by_cases nA:je=0
  ·subst nA;go_wp2_with fail;refine(xh.out _ HB2.out).mono ?_;rintro e w3 ⟨rfl,dH⟩;have HB3:=zh (zka HB2.out dH);have H43:=zh (zkf df.out dH);have s0:=zb dH r0;have s3:=zb dH r3;have HS2:=zh (HS.out.later HB3.out);clear r0 r3 dH z0 z1 z2 z3;have HR2:=zh (show R=if 0<=iv/\iv<(S.cell id).length then zlC S 43 s t1.s jv id iv.toNat else (12,S) by
    rw[HR1.out,zlU,if_neg (by simp),bV.out])
   by_cases hr:0<=iv/\iv<((S.cell id).length:Int)
   ·obtain⟨i,rfl⟩:∃ i:Nat,iv=i:=⟨iv.toNat,by omega⟩
    have hi:i<(S.cell id).length:=by omega
    have HR3:=zh (show R=if 0<=jv/\jv<(S.cell jd).length then (0,zrD S id i jd jv.toNat) else (12,S) by
     rw[HR2.out,if_pos hr,zlC,if_neg (by decide),if_pos rfl,HJD.out];rfl)
    obtain⟨⟨c4,hci,hc4⟩,p0,p1⟩:=HS2.out.plc aS hi;have w0:w3.cell? ⟨P.cb id,0,none⟩=some (.slice (some ⟨P.gI id,0,none⟩) (S.cell id).length c4):=by rw[<-hci];exact zc (HS2.out.cbox aS) rfl
    obtain⟨m,hm⟩:∃ m,(S.cell id).length=m:=⟨_,rfl⟩
    rw[hm] at w0;have hi1:¬ (i:Int)<0:=by omega
    have hi2:¬ (m:Int)<=(i:Int):=by omega
    have hi3:(i:Int)<(m:Int):=by omega
    obtain⟨y0,y1,y2,y3⟩:=zkE HB3.out H5.out;clear HR1 HR2 hr hci hc4 hm p0 p1;go_wp2_with fail;refine(HCQ.out _ HB3.out).mono ?_;rintro e w4 ⟨rfl,wJ⟩;have aK:=zh (zka HB3.out wJ);have lL:=zh (HS.out.later aK.out);clear wJ y0 y1 y2 y3 w0;by_cases hr2:0<=jv/\jv<((S.cell jd).length:Int)
    ·obtain⟨j,rfl⟩:∃ j:Nat,jv=j:=⟨jv.toNat,by omega⟩
     have hj:j<(S.cell jd).length:=by omega
     have HR4:=zh (show R=(0,zrD S id i jd j) by rw[HR3.out,if_pos hr2];rfl);obtain⟨-,p0,p1⟩:=lL.out.plc aS hi;obtain⟨⟨c5,hcj,zq⟩,q0,q1⟩:=lL.out.plc j3 hj;have w5:w4.cell? ⟨P.cb jd,0,none⟩=some (.slice (some ⟨P.gI jd,0,none⟩) (S.cell jd).length c5):=by rw[<-hcj];exact zc (lL.out.cbox j3) rfl
     have s1:=(lL.out.later (Below.refl _ _).drew).put aS hi (S.el jd j) (zmP HS.out.wf j3 j);have hj':j<((S.put id i (S.el jd j)).cell jd).length:=by
      simp only[ST.put,ST.setL]
      split
      ·next e=>rw[List.length_set,<-e];exact hj
      ·exact hj
     obtain⟨-,g0,g1⟩:=s1.sr.plc (id:=jd) (i:=j) j3 hj';have s2:=s1.sr.put (id:=jd) (i:=j) j3 hj' (S.el id i) (zmP HS.out.wf aS i);have aa:=zh (s1.trans s2);obtain⟨xi,hxi⟩:∃ x,S.el id i=x:=⟨_,rfl⟩
     obtain⟨xj,hxj⟩:∃ x,S.el jd j=x:=⟨_,rfl⟩
     rw[hxi] at p0 aa;rw[hxj] at q0 g0 g1 aa;have vG:=zh (show R=(0,(S.put id i xj).put jd j xi) by rw[HR4.out,zrD,hxi,hxj]);obtain⟨y,hy⟩:∃ y,(S.put id i xj).el jd j=y:=⟨_,rfl⟩
     rw[hy] at g0;obtain⟨m2,hm2⟩:∃ m,(S.cell jd).length=m:=⟨_,rfl⟩
     rw[hm2] at w5;have hj1:¬ (j:Int)<0:=by omega
     have hj2:¬ (m2:Int)<=(j:Int):=by omega
     have zk:(j:Int)<(m2:Int):=by omega
     clear HR3 HR4 hr2 hcj zq hm2 s1 s2 hxi hxj hy;go_upto_region 30 with fail;have hSS:(fun _:World=>True) w4.drew/\(fun w':World=>w'.cell? ⟨P.gI id,i,none⟩=some (.int .i64 xi)/\w'.cell? ⟨P.gI jd,j,none⟩=some (.int .i64 xj)) w4.drew:=⟨trivial,p0,q0⟩
     refine wp_region_noPanic ?_;refine zkd (fun _:World=>True) (fun w':World=>w'.cell? ⟨P.gI id,i,none⟩=some (.int .i64 xi)/\w'.cell? ⟨P.gI jd,j,none⟩=some (.int .i64 xj)) 11 (by kernel_rfl) ?_;refine zT 0 hSS ?_;(try simp only[zQ]);refine zT 1 hSS ?_;(try simp only[zQ]);refine zT 2 hSS ?_;(try simp only[zQ]);refine zT 3 hSS ?_;(try simp only[zQ]);refine zT 4 hSS ?_;(try simp only[zQ]);refine zT 5 hSS ?_;(try simp only[zQ]);refine zko (i:=6) (v:=?_) rfl (by kernel_rfl) (by kernel_rfl) (by kernel_rfl) (by decide) rfl (by kernel_rfl) (by kernel_rfl) (fun _ _ _ h=>h) (Or.inl ⟨by rfl,?_⟩) hSS ?_;rotate_left 1
     ·(intro w hSw;(try dsimp only at hSw);(try simp only[zA,zB,zC]);go_simp;(try with_reducible rfl))
     (try simp only[zQ]);refine zT 7 hSS ?_;(try simp only[zQ]);refine zT 8 hSS ?_;(try simp only[zQ]);refine zko (i:=9) (v:=?_) rfl (by kernel_rfl) (by kernel_rfl) (by kernel_rfl) (by decide) rfl (by kernel_rfl) (by kernel_rfl) (fun _ _ _ h=>h) (Or.inl ⟨by rfl,?_⟩) hSS ?_;rotate_left 1
     ·(intro w hSw;(try dsimp only at hSw);(try simp only[zA,zB,zC]);go_simp;(try with_reducible rfl))
     (try simp only[zQ]);refine zo 10 fun K hK=>?_;(try simp only[zA,zB,zC]);go_simp;refine hK.out _ _ hSS ?_;clear hK K;(try simp only[zQ]);refine zp 11 fun K hK=>?_;(try simp only[zA,zB,zC]);have p1':w4.drew.frozen? ⟨P.gI id,i,none⟩=false:=p1;have p0':w4.drew.cell? ⟨P.gI id,i,none⟩=some (.int .i64 xi):=p0;go_simp;refine hK.out _ _ trivial ?_;clear hK K hSS;(try simp only[zQ]);have g0':(w4.setCell ⟨P.gI id,i,none⟩ (.int .i64 xj)).cell? ⟨P.gI jd,j,none⟩=some (.int .i64 y):=g0;have g1':(w4.setCell ⟨P.gI id,i,none⟩ (.int .i64 xj)).frozen? ⟨P.gI jd,j,none⟩=false:=g1;refine zp 12 fun K hK=>?_;(try simp only[zA,zB,zC]);go_simp;refine hK.out _ _ trivial ?_;clear hK K;(try simp only[zQ]);refine zp 13 fun K hK=>?_;(try simp only[zA,zB,zC]);go_simp;refine hK.out _ _ trivial ?_;clear hK K;(try simp only[zQ]);refine zd ?_;refine NoPanic.normal ?_;clear p0 p1 p0' p1' q0 q1 g0 g1 g0' g1'
     go_wp2_with fail;go_ret;refine⟨by rw[vG.out];rfl,P,?_,rfl⟩;rw[vG.out];exact⟨aa.out.st.after aK.out.drew HS.out.rws,aa.out.wf⟩
    ·have HN:=zh (show R=(12,S) by rw[HR3.out,if_neg hr2]);obtain⟨A5,c5,hcj,zq,hrj⟩:=lL.out.items j3;have w5:w4.cell? ⟨P.cb jd,0,none⟩=some (.slice A5 (S.cell jd).length c5):=by rw[<-hcj];exact zc (lL.out.cbox j3) rfl
     obtain⟨m2,hm2⟩:∃ m,(S.cell jd).length=m:=⟨_,rfl⟩
     rw[hm2] at w5 hr2;clear HR3 hcj zq hrj hm2;by_cases hneg:jv<0
     ·go_wp2_with fail;go_ret;exact⟨by rw[HN.out];rfl,P,by rw[HN.out];exact SStp.refl HS.out aK.out,rfl⟩
     ·have hge:(m2:Int)<=jv:=by omega
      go_wp2_with fail;go_ret;exact⟨by rw[HN.out];rfl,P,by rw[HN.out];exact SStp.refl HS.out aK.out,rfl⟩
   ·skip
    have HN:=zh (show R=(12,S) by rw[HR2.out,if_neg hr]);obtain⟨A3,c3,hci,hc3,bM⟩:=HS2.out.items aS;have w0:w3.cell? ⟨P.cb id,0,none⟩=some (.slice A3 (S.cell id).length c3):=by rw[<-hci];exact zc (HS2.out.cbox aS) rfl
    obtain⟨m,hm⟩:∃ m,(S.cell id).length=m:=⟨_,rfl⟩
    rw[hm] at w0 hr;clear HR2 hci hc3 bM hm;by_cases hneg:iv<0
    ·go_wp2_with fail;go_ret;exact⟨by rw[HN.out];rfl,P,by rw[HN.out];exact SStp.refl HS.out HB3.out,rfl⟩
    ·have hge:(m:Int)<=iv:=by omega
     go_wp2_with fail;go_ret;exact⟨by rw[HN.out];rfl,P,by rw[HN.out];exact SStp.refl HS.out HB3.out,rfl⟩
  ·skip
   have HN:=zh (show R=(je,S) by rw[HR1.out,zlU,if_pos nA]);have e1:(je==0)=false:=by simpa using nA
   have e2:(je != 0)=true:=by simpa using nA
   clear nA;go_wp2_with fail;go_ret;exact⟨by rw[HN.out];rfl,P,by rw[HN.out];exact SStp.refl HS.out HB2.out,rfl⟩
 ·skip
  have HN:=zh (show R=(ie,S) by rw[o6.out,zkQ,if_pos he]);have e1:(ie==0)=false:=by simpa using he
  have e2:(ie != 0)=true:=by simpa using he
  clear he;go_wp2_with fail;go_ret;exact⟨by rw[HN.out];rfl,P,by rw[HN.out];exact SStp.refl HS.out HB1.out,rfl⟩
end Go.Proofs.YtmbbaccjcekhkaaGreat
namespace Go.Proofs.YtmbbaccjcekhkaaGreat
open Go.RowKit
def zmd (t:T):Prop:=∀ (v:Value) (w:World),NV w Any t v->Calls Tryz.prog 95 #[v] w fun e w'=>e=.returned (.bool (isS t))/\Below w.heap.size w w'
def zlF (t:T):Prop:=∀ (v:Value) (w:World),NV w Any t v->Calls Tryz.prog 57 #[v] w fun e w'=>e=.returned (.bool (isB t))/\Below w.heap.size w w'
theorem zt1 (n:Int) (s:ByteArray) (ks:List T) (aU:∀ t∈ks,zlF t):zmd (.nd 40 n s ks):=by
 intro v w hv;have HX:=zh (show isS (.nd 40 n s ks)=(zkt n s&&zkK 2 (fun i=>if i=0 then isP else isE) ks) by simp[isS]);have IH:=zh aU;have HV:=zh hv;obtain⟨Ad,c,rfl,hf,hlk,hlc,hrow⟩:=hv.open_;simp only[T.k_nd,T.n_nd,T.s_nd,T.ks_nd] at *
 have aF:=zkS hlk;clear hf hv hlk hrow hlc aU;by_cases hnb:zkt n s=true
 ·go_enter Tryz.func95,Tryz.ntmps95;go_wp2_with fail;refine(zkp _ _ _ _ _ _ _).mono ?_;rintro e w1 ⟨rfl,hb1⟩;obtain⟨hc1,hf1⟩:=zlL hb1;have hbb:Below w.heap.size w w1:=((Below.refl _ _).alloc (Nat.le_refl _) _).trans (hb1.mono (by simp));go_wp2_with fail;refine(zkW (.nd 40 n s ks) _ _ (HV.out.later (hbb.alloc hbb.size _)) _ 2 (fun i=>if i=0 then 120 else 121) (fun i=>if i=0 then Tryz.f120 else Tryz.f121) (fun i=>if i=0 then isP else isE) (by decide) (by simp) (fun i hi=>zmz (by rcases i with _|_|_|_|i<;>first|omega|rfl)) (fun i hi=>by rcases i with _|i;exact zlj;exact zlg) (fun hl i hi=>by rcases i with _|i;exact zkU _;exact zkT _)).mono ?_;rintro e w2 ⟨rfl,hb2⟩;have hbc:Below w.heap.size w w2:=(hbb.alloc hbb.size _).trans (hb2.mono (by have:=hbb.size;simp;omega));go_wp2_with fail;go_ret;exact⟨by rw[HX.out];simp[*],hbc⟩
 ·have hnb':zkt n s=false:=by simpa using hnb
  clear hnb;go_enter Tryz.func95,Tryz.ntmps95;go_wp2_with fail;refine(zkp _ _ _ _ _ _ _).mono ?_;rintro e w1 ⟨rfl,hb1⟩;have hbb:Below w.heap.size w w1:=((Below.refl _ _).alloc (Nat.le_refl _) _).trans (hb1.mono (by simp));go_wp2_with fail;go_ret;exact⟨by rw[HX.out];simp[*],hbb⟩
theorem zt0 (n:Int) (s:ByteArray) (ks:List T) (aU:∀ t∈ks,zlF t):zmd (.nd 41 n s ks):=by
 intro v w hv;have HX:=zh (show isS (.nd 41 n s ks)=(zkt n s&&zkK 2 (fun i=>if i=0 then isP else isE) ks) by simp[isS]);have IH:=zh aU;have HV:=zh hv;obtain⟨Ad,c,rfl,hf,hlk,hlc,hrow⟩:=hv.open_;simp only[T.k_nd,T.n_nd,T.s_nd,T.ks_nd] at *
 have aF:=zkS hlk;clear hf hv hlk hrow hlc aU;by_cases hnb:zkt n s=true
 ·go_enter Tryz.func95,Tryz.ntmps95;go_wp2_with fail;refine(zkp _ _ _ _ _ _ _).mono ?_;rintro e w1 ⟨rfl,hb1⟩;obtain⟨hc1,hf1⟩:=zlL hb1;have hbb:Below w.heap.size w w1:=((Below.refl _ _).alloc (Nat.le_refl _) _).trans (hb1.mono (by simp));go_wp2_with fail;refine(zkW (.nd 41 n s ks) _ _ (HV.out.later (hbb.alloc hbb.size _)) _ 2 (fun i=>if i=0 then 120 else 121) (fun i=>if i=0 then Tryz.f120 else Tryz.f121) (fun i=>if i=0 then isP else isE) (by decide) (by simp) (fun i hi=>zmz (by rcases i with _|_|_|_|i<;>first|omega|rfl)) (fun i hi=>by rcases i with _|i;exact zlj;exact zlg) (fun hl i hi=>by rcases i with _|i;exact zkU _;exact zkT _)).mono ?_;rintro e w2 ⟨rfl,hb2⟩;have hbc:Below w.heap.size w w2:=(hbb.alloc hbb.size _).trans (hb2.mono (by have:=hbb.size;simp;omega));go_wp2_with fail;go_ret;exact⟨by rw[HX.out];simp[*],hbc⟩
 ·have hnb':zkt n s=false:=by simpa using hnb
  clear hnb;go_enter Tryz.func95,Tryz.ntmps95;go_wp2_with fail;refine(zkp _ _ _ _ _ _ _).mono ?_;rintro e w1 ⟨rfl,hb1⟩;have hbb:Below w.heap.size w w1:=((Below.refl _ _).alloc (Nat.le_refl _) _).trans (hb1.mono (by simp));go_wp2_with fail;go_ret;exact⟨by rw[HX.out];simp[*],hbb⟩
theorem ztZ (n:Int) (s:ByteArray) (ks:List T) (aU:∀ t∈ks,zlF t):zmd (.nd 42 n s ks):=by
 intro v w hv;have HX:=zh (show isS (.nd 42 n s ks)=(zkt n s&&zkK 2 (fun i=>if i=0 then isP else isE) ks) by simp[isS]);have IH:=zh aU;have HV:=zh hv;obtain⟨Ad,c,rfl,hf,hlk,hlc,hrow⟩:=hv.open_;simp only[T.k_nd,T.n_nd,T.s_nd,T.ks_nd] at *
 have aF:=zkS hlk;clear hf hv hlk hrow hlc aU;by_cases hnb:zkt n s=true
 ·go_enter Tryz.func95,Tryz.ntmps95;go_wp2_with fail;refine(zkp _ _ _ _ _ _ _).mono ?_;rintro e w1 ⟨rfl,hb1⟩;obtain⟨hc1,hf1⟩:=zlL hb1;have hbb:Below w.heap.size w w1:=((Below.refl _ _).alloc (Nat.le_refl _) _).trans (hb1.mono (by simp));go_wp2_with fail;refine(zkW (.nd 42 n s ks) _ _ (HV.out.later (hbb.alloc hbb.size _)) _ 2 (fun i=>if i=0 then 120 else 121) (fun i=>if i=0 then Tryz.f120 else Tryz.f121) (fun i=>if i=0 then isP else isE) (by decide) (by simp) (fun i hi=>zmz (by rcases i with _|_|_|_|i<;>first|omega|rfl)) (fun i hi=>by rcases i with _|i;exact zlj;exact zlg) (fun hl i hi=>by rcases i with _|i;exact zkU _;exact zkT _)).mono ?_;rintro e w2 ⟨rfl,hb2⟩;have hbc:Below w.heap.size w w2:=(hbb.alloc hbb.size _).trans (hb2.mono (by have:=hbb.size;simp;omega));go_wp2_with fail;go_ret;exact⟨by rw[HX.out];simp[*],hbc⟩
 ·have hnb':zkt n s=false:=by simpa using hnb
  clear hnb;go_enter Tryz.func95,Tryz.ntmps95;go_wp2_with fail;refine(zkp _ _ _ _ _ _ _).mono ?_;rintro e w1 ⟨rfl,hb1⟩;have hbb:Below w.heap.size w w1:=((Below.refl _ _).alloc (Nat.le_refl _) _).trans (hb1.mono (by simp));go_wp2_with fail;go_ret;exact⟨by rw[HX.out];simp[*],hbb⟩
theorem ztL (n:Int) (s:ByteArray) (ks:List T) (aU:∀ t∈ks,zlF t):zmd (.nd 56 n s ks):=by
 intro v w hv;have HX:=zh (show isS (.nd 56 n s ks)=(zkt n s&&zkK 2 (fun i=>if i=0 then isP else isE) ks) by simp[isS]);have IH:=zh aU;have HV:=zh hv;obtain⟨Ad,c,rfl,hf,hlk,hlc,hrow⟩:=hv.open_;simp only[T.k_nd,T.n_nd,T.s_nd,T.ks_nd] at *
 have aF:=zkS hlk;clear hf hv hlk hrow hlc aU;by_cases hnb:zkt n s=true
 ·go_enter Tryz.func95,Tryz.ntmps95;go_wp2_with fail;refine(zkp _ _ _ _ _ _ _).mono ?_;rintro e w1 ⟨rfl,hb1⟩;obtain⟨hc1,hf1⟩:=zlL hb1;have hbb:Below w.heap.size w w1:=((Below.refl _ _).alloc (Nat.le_refl _) _).trans (hb1.mono (by simp));go_wp2_with fail;refine(zkW (.nd 56 n s ks) _ _ (HV.out.later (hbb.alloc hbb.size _)) _ 2 (fun i=>if i=0 then 120 else 121) (fun i=>if i=0 then Tryz.f120 else Tryz.f121) (fun i=>if i=0 then isP else isE) (by decide) (by simp) (fun i hi=>zmz (by rcases i with _|_|_|_|i<;>first|omega|rfl)) (fun i hi=>by rcases i with _|i;exact zlj;exact zlg) (fun hl i hi=>by rcases i with _|i;exact zkU _;exact zkT _)).mono ?_;rintro e w2 ⟨rfl,hb2⟩;have hbc:Below w.heap.size w w2:=(hbb.alloc hbb.size _).trans (hb2.mono (by have:=hbb.size;simp;omega));go_wp2_with fail;go_ret;exact⟨by rw[HX.out];simp[*],hbc⟩
 ·have hnb':zkt n s=false:=by simpa using hnb
  clear hnb;go_enter Tryz.func95,Tryz.ntmps95;go_wp2_with fail;refine(zkp _ _ _ _ _ _ _).mono ?_;rintro e w1 ⟨rfl,hb1⟩;have hbb:Below w.heap.size w w1:=((Below.refl _ _).alloc (Nat.le_refl _) _).trans (hb1.mono (by simp));go_wp2_with fail;go_ret;exact⟨by rw[HX.out];simp[*],hbb⟩
theorem ztY (n:Int) (s:ByteArray) (ks:List T) (aU:∀ t∈ks,zlF t):zmd (.nd 43 n s ks):=by
 intro v w hv;have HX:=zh (show isS (.nd 43 n s ks)=(zkt n s&&zkK 2 (fun _=>isP) ks) by simp[isS]);have IH:=zh aU;have HV:=zh hv;obtain⟨Ad,c,rfl,hf,hlk,hlc,hrow⟩:=hv.open_;simp only[T.k_nd,T.n_nd,T.s_nd,T.ks_nd] at *
 have aF:=zkS hlk;clear hf hv hlk hrow hlc aU;by_cases hnb:zkt n s=true
 ·go_enter Tryz.func95,Tryz.ntmps95;go_wp2_with fail;refine(zkp _ _ _ _ _ _ _).mono ?_;rintro e w1 ⟨rfl,hb1⟩;obtain⟨hc1,hf1⟩:=zlL hb1;have hbb:Below w.heap.size w w1:=((Below.refl _ _).alloc (Nat.le_refl _) _).trans (hb1.mono (by simp));go_wp2_with fail;refine(zkW (.nd 43 n s ks) _ _ (HV.out.later (hbb.alloc hbb.size _)) _ 2 (fun _=>120) (fun _=>Tryz.f120) (fun _=>isP) (by decide) (by simp) (fun i hi=>zmz (by rcases i with _|_|_|_|i<;>first|omega|rfl)) (fun _ _=>zlj) (fun hl i hi=>zkU _)).mono ?_;rintro e w2 ⟨rfl,hb2⟩;have hbc:Below w.heap.size w w2:=(hbb.alloc hbb.size _).trans (hb2.mono (by have:=hbb.size;simp;omega));go_wp2_with fail;go_ret;exact⟨by rw[HX.out];simp[*],hbc⟩
 ·have hnb':zkt n s=false:=by simpa using hnb
  clear hnb;go_enter Tryz.func95,Tryz.ntmps95;go_wp2_with fail;refine(zkp _ _ _ _ _ _ _).mono ?_;rintro e w1 ⟨rfl,hb1⟩;have hbb:Below w.heap.size w w1:=((Below.refl _ _).alloc (Nat.le_refl _) _).trans (hb1.mono (by simp));go_wp2_with fail;go_ret;exact⟨by rw[HX.out];simp[*],hbb⟩
theorem ztX (n:Int) (s:ByteArray) (ks:List T) (aU:∀ t∈ks,zlF t):zmd (.nd 44 n s ks):=by
 intro v w hv;have HX:=zh (show isS (.nd 44 n s ks)=(zkF n s&&zkK 1 (fun _=>isP) ks) by simp[isS]);have IH:=zh aU;have HV:=zh hv;obtain⟨Ad,c,rfl,hf,hlk,hlc,hrow⟩:=hv.open_;simp only[T.k_nd,T.n_nd,T.s_nd,T.ks_nd] at *
 have aF:=zkS hlk;clear hf hv hlk hrow hlc aU;by_cases hnb:zkF n s=true
 ·go_enter Tryz.func95,Tryz.ntmps95;go_wp2_with fail;refine(zkB _ _ _ _ _ _ _).mono ?_;rintro e w1 ⟨rfl,hb1⟩;obtain⟨hc1,hf1⟩:=zlL hb1;have hbb:Below w.heap.size w w1:=((Below.refl _ _).alloc (Nat.le_refl _) _).trans (hb1.mono (by simp));go_wp2_with fail;refine(zkW (.nd 44 n s ks) _ _ (HV.out.later (hbb.alloc hbb.size _)) _ 1 (fun _=>120) (fun _=>Tryz.f120) (fun _=>isP) (by decide) (by simp) (fun i hi=>zmz (by rcases i with _|_|_|_|i<;>first|omega|rfl)) (fun _ _=>zlj) (fun hl i hi=>zkU _)).mono ?_;rintro e w2 ⟨rfl,hb2⟩;have hbc:Below w.heap.size w w2:=(hbb.alloc hbb.size _).trans (hb2.mono (by have:=hbb.size;simp;omega));go_wp2_with fail;go_ret;exact⟨by rw[HX.out];simp[*],hbc⟩
 ·have hnb':zkF n s=false:=by simpa using hnb
  clear hnb;go_enter Tryz.func95,Tryz.ntmps95;go_wp2_with fail;refine(zkB _ _ _ _ _ _ _).mono ?_;rintro e w1 ⟨rfl,hb1⟩;have hbb:Below w.heap.size w w1:=((Below.refl _ _).alloc (Nat.le_refl _) _).trans (hb1.mono (by simp));go_wp2_with fail;go_ret;exact⟨by rw[HX.out];simp[*],hbb⟩
theorem ztW (n:Int) (s:ByteArray) (ks:List T) (aU:∀ t∈ks,zlF t):zmd (.nd 45 n s ks):=by
 intro v w hv;have HX:=zh (show isS (.nd 45 n s ks)=(zkF n s&&zkK 1 (fun _=>isP) ks) by simp[isS]);have IH:=zh aU;have HV:=zh hv;obtain⟨Ad,c,rfl,hf,hlk,hlc,hrow⟩:=hv.open_;simp only[T.k_nd,T.n_nd,T.s_nd,T.ks_nd] at *
 have aF:=zkS hlk;clear hf hv hlk hrow hlc aU;by_cases hnb:zkF n s=true
 ·go_enter Tryz.func95,Tryz.ntmps95;go_wp2_with fail;refine(zkB _ _ _ _ _ _ _).mono ?_;rintro e w1 ⟨rfl,hb1⟩;obtain⟨hc1,hf1⟩:=zlL hb1;have hbb:Below w.heap.size w w1:=((Below.refl _ _).alloc (Nat.le_refl _) _).trans (hb1.mono (by simp));go_wp2_with fail;refine(zkW (.nd 45 n s ks) _ _ (HV.out.later (hbb.alloc hbb.size _)) _ 1 (fun _=>120) (fun _=>Tryz.f120) (fun _=>isP) (by decide) (by simp) (fun i hi=>zmz (by rcases i with _|_|_|_|i<;>first|omega|rfl)) (fun _ _=>zlj) (fun hl i hi=>zkU _)).mono ?_;rintro e w2 ⟨rfl,hb2⟩;have hbc:Below w.heap.size w w2:=(hbb.alloc hbb.size _).trans (hb2.mono (by have:=hbb.size;simp;omega));go_wp2_with fail;go_ret;exact⟨by rw[HX.out];simp[*],hbc⟩
 ·have hnb':zkF n s=false:=by simpa using hnb
  clear hnb;go_enter Tryz.func95,Tryz.ntmps95;go_wp2_with fail;refine(zkB _ _ _ _ _ _ _).mono ?_;rintro e w1 ⟨rfl,hb1⟩;have hbb:Below w.heap.size w w1:=((Below.refl _ _).alloc (Nat.le_refl _) _).trans (hb1.mono (by simp));go_wp2_with fail;go_ret;exact⟨by rw[HX.out];simp[*],hbb⟩
theorem ztV (n:Int) (s:ByteArray) (ks:List T) (aU:∀ t∈ks,zlF t):zmd (.nd 46 n s ks):=by
 intro v w hv;have HX:=zh (show isS (.nd 46 n s ks)=(zkt n s&&zkK 1 (fun _=>isP) ks) by simp[isS]);have IH:=zh aU;have HV:=zh hv;obtain⟨Ad,c,rfl,hf,hlk,hlc,hrow⟩:=hv.open_;simp only[T.k_nd,T.n_nd,T.s_nd,T.ks_nd] at *
 have aF:=zkS hlk;clear hf hv hlk hrow hlc aU;by_cases hnb:zkt n s=true
 ·go_enter Tryz.func95,Tryz.ntmps95;go_wp2_with fail;refine(zkp _ _ _ _ _ _ _).mono ?_;rintro e w1 ⟨rfl,hb1⟩;obtain⟨hc1,hf1⟩:=zlL hb1;have hbb:Below w.heap.size w w1:=((Below.refl _ _).alloc (Nat.le_refl _) _).trans (hb1.mono (by simp));go_wp2_with fail;refine(zkW (.nd 46 n s ks) _ _ (HV.out.later (hbb.alloc hbb.size _)) _ 1 (fun _=>120) (fun _=>Tryz.f120) (fun _=>isP) (by decide) (by simp) (fun i hi=>zmz (by rcases i with _|_|_|_|i<;>first|omega|rfl)) (fun _ _=>zlj) (fun hl i hi=>zkU _)).mono ?_;rintro e w2 ⟨rfl,hb2⟩;have hbc:Below w.heap.size w w2:=(hbb.alloc hbb.size _).trans (hb2.mono (by have:=hbb.size;simp;omega));go_wp2_with fail;go_ret;exact⟨by rw[HX.out];simp[*],hbc⟩
 ·have hnb':zkt n s=false:=by simpa using hnb
  clear hnb;go_enter Tryz.func95,Tryz.ntmps95;go_wp2_with fail;refine(zkp _ _ _ _ _ _ _).mono ?_;rintro e w1 ⟨rfl,hb1⟩;have hbb:Below w.heap.size w w1:=((Below.refl _ _).alloc (Nat.le_refl _) _).trans (hb1.mono (by simp));go_wp2_with fail;go_ret;exact⟨by rw[HX.out];simp[*],hbb⟩
theorem ztU (n:Int) (s:ByteArray) (ks:List T) (aU:∀ t∈ks,zlF t):zmd (.nd 47 n s ks):=by
 intro v w hv;have HX:=zh (show isS (.nd 47 n s ks)=(zkt n s&&zkK 1 (fun _=>isP) ks) by simp[isS]);have IH:=zh aU;have HV:=zh hv;obtain⟨Ad,c,rfl,hf,hlk,hlc,hrow⟩:=hv.open_;simp only[T.k_nd,T.n_nd,T.s_nd,T.ks_nd] at *
 have aF:=zkS hlk;clear hf hv hlk hrow hlc aU;by_cases hnb:zkt n s=true
 ·go_enter Tryz.func95,Tryz.ntmps95;go_wp2_with fail;refine(zkp _ _ _ _ _ _ _).mono ?_;rintro e w1 ⟨rfl,hb1⟩;obtain⟨hc1,hf1⟩:=zlL hb1;have hbb:Below w.heap.size w w1:=((Below.refl _ _).alloc (Nat.le_refl _) _).trans (hb1.mono (by simp));go_wp2_with fail;refine(zkW (.nd 47 n s ks) _ _ (HV.out.later (hbb.alloc hbb.size _)) _ 1 (fun _=>120) (fun _=>Tryz.f120) (fun _=>isP) (by decide) (by simp) (fun i hi=>zmz (by rcases i with _|_|_|_|i<;>first|omega|rfl)) (fun _ _=>zlj) (fun hl i hi=>zkU _)).mono ?_;rintro e w2 ⟨rfl,hb2⟩;have hbc:Below w.heap.size w w2:=(hbb.alloc hbb.size _).trans (hb2.mono (by have:=hbb.size;simp;omega));go_wp2_with fail;go_ret;exact⟨by rw[HX.out];simp[*],hbc⟩
 ·have hnb':zkt n s=false:=by simpa using hnb
  clear hnb;go_enter Tryz.func95,Tryz.ntmps95;go_wp2_with fail;refine(zkp _ _ _ _ _ _ _).mono ?_;rintro e w1 ⟨rfl,hb1⟩;have hbb:Below w.heap.size w w1:=((Below.refl _ _).alloc (Nat.le_refl _) _).trans (hb1.mono (by simp));go_wp2_with fail;go_ret;exact⟨by rw[HX.out];simp[*],hbb⟩
theorem ztT (n:Int) (s:ByteArray) (ks:List T) (aU:∀ t∈ks,zlF t):zmd (.nd 48 n s ks):=by
 intro v w hv;have HX:=zh (show isS (.nd 48 n s ks)=(zkt n s&&zkK 1 (fun _=>isP) ks) by simp[isS]);have IH:=zh aU;have HV:=zh hv;obtain⟨Ad,c,rfl,hf,hlk,hlc,hrow⟩:=hv.open_;simp only[T.k_nd,T.n_nd,T.s_nd,T.ks_nd] at *
 have aF:=zkS hlk;clear hf hv hlk hrow hlc aU;by_cases hnb:zkt n s=true
 ·go_enter Tryz.func95,Tryz.ntmps95;go_wp2_with fail;refine(zkp _ _ _ _ _ _ _).mono ?_;rintro e w1 ⟨rfl,hb1⟩;obtain⟨hc1,hf1⟩:=zlL hb1;have hbb:Below w.heap.size w w1:=((Below.refl _ _).alloc (Nat.le_refl _) _).trans (hb1.mono (by simp));go_wp2_with fail;refine(zkW (.nd 48 n s ks) _ _ (HV.out.later (hbb.alloc hbb.size _)) _ 1 (fun _=>120) (fun _=>Tryz.f120) (fun _=>isP) (by decide) (by simp) (fun i hi=>zmz (by rcases i with _|_|_|_|i<;>first|omega|rfl)) (fun _ _=>zlj) (fun hl i hi=>zkU _)).mono ?_;rintro e w2 ⟨rfl,hb2⟩;have hbc:Below w.heap.size w w2:=(hbb.alloc hbb.size _).trans (hb2.mono (by have:=hbb.size;simp;omega));go_wp2_with fail;go_ret;exact⟨by rw[HX.out];simp[*],hbc⟩
 ·have hnb':zkt n s=false:=by simpa using hnb
  clear hnb;go_enter Tryz.func95,Tryz.ntmps95;go_wp2_with fail;refine(zkp _ _ _ _ _ _ _).mono ?_;rintro e w1 ⟨rfl,hb1⟩;have hbb:Below w.heap.size w w1:=((Below.refl _ _).alloc (Nat.le_refl _) _).trans (hb1.mono (by simp));go_wp2_with fail;go_ret;exact⟨by rw[HX.out];simp[*],hbb⟩
theorem ztS (n:Int) (s:ByteArray) (ks:List T) (aU:∀ t∈ks,zlF t):zmd (.nd 49 n s ks):=by
 intro v w hv;have HX:=zh (show isS (.nd 49 n s ks)=(zkt n s&&zkK 1 (fun _=>isP) ks) by simp[isS]);have IH:=zh aU;have HV:=zh hv;obtain⟨Ad,c,rfl,hf,hlk,hlc,hrow⟩:=hv.open_;simp only[T.k_nd,T.n_nd,T.s_nd,T.ks_nd] at *
 have aF:=zkS hlk;clear hf hv hlk hrow hlc aU;by_cases hnb:zkt n s=true
 ·go_enter Tryz.func95,Tryz.ntmps95;go_wp2_with fail;refine(zkp _ _ _ _ _ _ _).mono ?_;rintro e w1 ⟨rfl,hb1⟩;obtain⟨hc1,hf1⟩:=zlL hb1;have hbb:Below w.heap.size w w1:=((Below.refl _ _).alloc (Nat.le_refl _) _).trans (hb1.mono (by simp));go_wp2_with fail;refine(zkW (.nd 49 n s ks) _ _ (HV.out.later (hbb.alloc hbb.size _)) _ 1 (fun _=>120) (fun _=>Tryz.f120) (fun _=>isP) (by decide) (by simp) (fun i hi=>zmz (by rcases i with _|_|_|_|i<;>first|omega|rfl)) (fun _ _=>zlj) (fun hl i hi=>zkU _)).mono ?_;rintro e w2 ⟨rfl,hb2⟩;have hbc:Below w.heap.size w w2:=(hbb.alloc hbb.size _).trans (hb2.mono (by have:=hbb.size;simp;omega));go_wp2_with fail;go_ret;exact⟨by rw[HX.out];simp[*],hbc⟩
 ·have hnb':zkt n s=false:=by simpa using hnb
  clear hnb;go_enter Tryz.func95,Tryz.ntmps95;go_wp2_with fail;refine(zkp _ _ _ _ _ _ _).mono ?_;rintro e w1 ⟨rfl,hb1⟩;have hbb:Below w.heap.size w w1:=((Below.refl _ _).alloc (Nat.le_refl _) _).trans (hb1.mono (by simp));go_wp2_with fail;go_ret;exact⟨by rw[HX.out];simp[*],hbb⟩
theorem ztP (n:Int) (s:ByteArray) (ks:List T) (aU:∀ t∈ks,zlF t):zmd (.nd 52 n s ks):=by
 intro v w hv;have HX:=zh (show isS (.nd 52 n s ks)=(zkt n s&&zkK 4 (pEB 0) ks) by simp[isS,zkK,<-znG]);have IH:=zh aU;have HV:=zh hv;obtain⟨Ad,c,rfl,hf,hlk,hlc,hrow⟩:=hv.open_;simp only[T.k_nd,T.n_nd,T.s_nd,T.ks_nd] at *
 have aF:=zkS hlk;clear hf hv hlk hrow hlc aU;by_cases hnb:zkt n s=true
 ·go_enter Tryz.func95,Tryz.ntmps95;go_wp2_with fail;refine(zkp _ _ _ _ _ _ _).mono ?_;rintro e w1 ⟨rfl,hb1⟩;obtain⟨hc1,hf1⟩:=zlL hb1;have hbb:Below w.heap.size w w1:=((Below.refl _ _).alloc (Nat.le_refl _) _).trans (hb1.mono (by simp));go_wp2_with fail;refine(zkW (.nd 52 n s ks) _ _ (HV.out.later (hbb.alloc hbb.size _)) _ 4 (fun i=>if i=0\/i=3 then 121 else 57) (fun i=>if i=0\/i=3 then Tryz.f121 else Tryz.f57) (pEB 0) (by decide) (by simp) (fun i hi=>zmz (by rcases i with _|_|_|_|i<;>first|omega|rfl)) (fun i hi=>by rcases i with _|_|_|_|i;exact zlg;exact zmq;exact zmq;exact zlg;omega) (fun hl i hi=>by rcases i with _|_|_|_|i;exact zkT _;exact IH.out _ (List.getElem_mem hi);exact IH.out _ (List.getElem_mem hi);exact zkT _;exact absurd hi (by simp only[T.ks_nd] at hl ⊢;omega))).mono ?_;rintro e w2 ⟨rfl,hb2⟩
  have hbc:Below w.heap.size w w2:=(hbb.alloc hbb.size _).trans (hb2.mono (by have:=hbb.size;simp;omega));go_wp2_with fail;go_ret;exact⟨by rw[HX.out];simp[*],hbc⟩
 ·have hnb':zkt n s=false:=by simpa using hnb
  clear hnb;go_enter Tryz.func95,Tryz.ntmps95;go_wp2_with fail;refine(zkp _ _ _ _ _ _ _).mono ?_;rintro e w1 ⟨rfl,hb1⟩;have hbb:Below w.heap.size w w1:=((Below.refl _ _).alloc (Nat.le_refl _) _).trans (hb1.mono (by simp));go_wp2_with fail;go_ret;exact⟨by rw[HX.out];simp[*],hbb⟩
theorem ztO (n:Int) (s:ByteArray) (ks:List T) (aU:∀ t∈ks,zlF t):zmd (.nd 53 n s ks):=by
 intro v w hv;have HX:=zh (show isS (.nd 53 n s ks)=(zkt n s&&zkK 4 (pEB 0) ks) by simp[isS,zkK,<-znG]);have IH:=zh aU;have HV:=zh hv;obtain⟨Ad,c,rfl,hf,hlk,hlc,hrow⟩:=hv.open_;simp only[T.k_nd,T.n_nd,T.s_nd,T.ks_nd] at *
 have aF:=zkS hlk;clear hf hv hlk hrow hlc aU;by_cases hnb:zkt n s=true
 ·go_enter Tryz.func95,Tryz.ntmps95;go_wp2_with fail;refine(zkp _ _ _ _ _ _ _).mono ?_;rintro e w1 ⟨rfl,hb1⟩;obtain⟨hc1,hf1⟩:=zlL hb1;have hbb:Below w.heap.size w w1:=((Below.refl _ _).alloc (Nat.le_refl _) _).trans (hb1.mono (by simp));go_wp2_with fail;refine(zkW (.nd 53 n s ks) _ _ (HV.out.later (hbb.alloc hbb.size _)) _ 4 (fun i=>if i=0\/i=3 then 121 else 57) (fun i=>if i=0\/i=3 then Tryz.f121 else Tryz.f57) (pEB 0) (by decide) (by simp) (fun i hi=>zmz (by rcases i with _|_|_|_|i<;>first|omega|rfl)) (fun i hi=>by rcases i with _|_|_|_|i;exact zlg;exact zmq;exact zmq;exact zlg;omega) (fun hl i hi=>by rcases i with _|_|_|_|i;exact zkT _;exact IH.out _ (List.getElem_mem hi);exact IH.out _ (List.getElem_mem hi);exact zkT _;exact absurd hi (by simp only[T.ks_nd] at hl ⊢;omega))).mono ?_;rintro e w2 ⟨rfl,hb2⟩
  have hbc:Below w.heap.size w w2:=(hbb.alloc hbb.size _).trans (hb2.mono (by have:=hbb.size;simp;omega));go_wp2_with fail;go_ret;exact⟨by rw[HX.out];simp[*],hbc⟩
 ·have hnb':zkt n s=false:=by simpa using hnb
  clear hnb;go_enter Tryz.func95,Tryz.ntmps95;go_wp2_with fail;refine(zkp _ _ _ _ _ _ _).mono ?_;rintro e w1 ⟨rfl,hb1⟩;have hbb:Below w.heap.size w w1:=((Below.refl _ _).alloc (Nat.le_refl _) _).trans (hb1.mono (by simp));go_wp2_with fail;go_ret;exact⟨by rw[HX.out];simp[*],hbb⟩
theorem ztN (n:Int) (s:ByteArray) (ks:List T) (aU:∀ t∈ks,zlF t):zmd (.nd 54 n s ks):=by
 intro v w hv;have HX:=zh (show isS (.nd 54 n s ks)=(zkF n s&&zkK 3 (pEB 4) ks) by simp[isS,zkK,<-znG]);have IH:=zh aU;have HV:=zh hv;obtain⟨Ad,c,rfl,hf,hlk,hlc,hrow⟩:=hv.open_;simp only[T.k_nd,T.n_nd,T.s_nd,T.ks_nd] at *
 have aF:=zkS hlk;clear hf hv hlk hrow hlc aU;by_cases hnb:zkF n s=true
 ·go_enter Tryz.func95,Tryz.ntmps95;go_wp2_with fail;refine(zkB _ _ _ _ _ _ _).mono ?_;rintro e w1 ⟨rfl,hb1⟩;obtain⟨hc1,hf1⟩:=zlL hb1;have hbb:Below w.heap.size w w1:=((Below.refl _ _).alloc (Nat.le_refl _) _).trans (hb1.mono (by simp));go_wp2_with fail;refine(zkW (.nd 54 n s ks) _ _ (HV.out.later (hbb.alloc hbb.size _)) _ 3 (fun i=>if i=1 then 57 else 121) (fun i=>if i=1 then Tryz.f57 else Tryz.f121) (pEB 4) (by decide) (by simp) (fun i hi=>zmz (by rcases i with _|_|_|_|i<;>first|omega|rfl)) (fun i hi=>by rcases i with _|_|_|i;exact zlg;exact zmq;exact zlg;omega) (fun hl i hi=>by rcases i with _|_|_|i;exact zkT _;exact IH.out _ (List.getElem_mem hi);exact zkT _;exact absurd hi (by simp only[T.ks_nd] at hl ⊢;omega))).mono ?_;rintro e w2 ⟨rfl,hb2⟩
  have hbc:Below w.heap.size w w2:=(hbb.alloc hbb.size _).trans (hb2.mono (by have:=hbb.size;simp;omega));go_wp2_with fail;go_ret;exact⟨by rw[HX.out];simp[*],hbc⟩
 ·have hnb':zkF n s=false:=by simpa using hnb
  clear hnb;go_enter Tryz.func95,Tryz.ntmps95;go_wp2_with fail;refine(zkB _ _ _ _ _ _ _).mono ?_;rintro e w1 ⟨rfl,hb1⟩;have hbb:Below w.heap.size w w1:=((Below.refl _ _).alloc (Nat.le_refl _) _).trans (hb1.mono (by simp));go_wp2_with fail;go_ret;exact⟨by rw[HX.out];simp[*],hbb⟩
theorem ztM (n:Int) (s:ByteArray) (ks:List T) (aU:∀ t∈ks,zlF t):zmd (.nd 55 n s ks):=by
 intro v w hv;have HX:=zh (show isS (.nd 55 n s ks)=(zkF n s&&zkK 1 (pEB 7) ks) by simp[isS,zkK,<-znG]);have IH:=zh aU;have HV:=zh hv;obtain⟨Ad,c,rfl,hf,hlk,hlc,hrow⟩:=hv.open_;simp only[T.k_nd,T.n_nd,T.s_nd,T.ks_nd] at *
 have aF:=zkS hlk;clear hf hv hlk hrow hlc aU;by_cases hnb:zkF n s=true
 ·go_enter Tryz.func95,Tryz.ntmps95;go_wp2_with fail;refine(zkB _ _ _ _ _ _ _).mono ?_;rintro e w1 ⟨rfl,hb1⟩;obtain⟨hc1,hf1⟩:=zlL hb1;have hbb:Below w.heap.size w w1:=((Below.refl _ _).alloc (Nat.le_refl _) _).trans (hb1.mono (by simp));go_wp2_with fail;refine(zkW (.nd 55 n s ks) _ _ (HV.out.later (hbb.alloc hbb.size _)) _ 1 (fun _=>57) (fun _=>Tryz.f57) (pEB 7) (by decide) (by simp) (fun i hi=>zmz (by rcases i with _|_|_|_|i<;>first|omega|rfl)) (fun _ _=>zmq) (fun hl i hi=>by rcases i with _|i;exact IH.out _ (List.getElem_mem hi);exact absurd hi (by simp only[T.ks_nd] at hl ⊢;omega))).mono ?_;rintro e w2 ⟨rfl,hb2⟩;have hbc:Below w.heap.size w w2:=(hbb.alloc hbb.size _).trans (hb2.mono (by have:=hbb.size;simp;omega));go_wp2_with fail;go_ret;exact⟨by rw[HX.out];simp[*],hbc⟩
 ·have hnb':zkF n s=false:=by simpa using hnb
  clear hnb;go_enter Tryz.func95,Tryz.ntmps95;go_wp2_with fail;refine(zkB _ _ _ _ _ _ _).mono ?_;rintro e w1 ⟨rfl,hb1⟩;have hbb:Below w.heap.size w w1:=((Below.refl _ _).alloc (Nat.le_refl _) _).trans (hb1.mono (by simp));go_wp2_with fail;go_ret;exact⟨by rw[HX.out];simp[*],hbb⟩
theorem ztR (n:Int) (s:ByteArray) (ks:List T):zmd (.nd 50 n s ks):=by
 intro v w hv;have HX:=zh (show isS (.nd 50 n s ks)=(zkF n s&&decide (ks.length<=8)&&zkz (fun _=>isV) 0 ks) by simp[isS]);have HV:=zh hv;obtain⟨Ad,c,rfl,hf,hlk,hlc,hrow⟩:=hv.open_;simp only[T.k_nd,T.n_nd,T.s_nd,T.ks_nd] at *
 have aF:=zkS hlk;clear hf hv hlc;by_cases hnb:zkF n s=true
 ·by_cases kZ:ks.length<=8
  ·go_enter Tryz.func95,Tryz.ntmps95;go_wp2_with fail;refine(zkB _ _ _ _ _ _ _).mono ?_;rintro e w1 ⟨rfl,hb1⟩;obtain⟨hc1,hf1⟩:=zlL hb1;have hbb:Below w.heap.size w w1:=((Below.refl _ _).alloc (Nat.le_refl _) _).trans (hb1.mono (by simp));go_wp2_with fail;refine(zoq ks _ _ _ (hrow.later hbb) hlk _ _ zsV isV (fun i hi=>zpY _)).mono ?_;rintro e w2 ⟨rfl,hb2⟩;have hbc:Below w.heap.size w w2:=hbb.trans (hb2.mono hbb.size);go_wp2_with fail;go_ret;exact⟨by rw[HX.out];simp[*],hbc⟩
  ·have xK:8<ks.length:=by omega
   clear kZ;go_enter Tryz.func95,Tryz.ntmps95;go_wp2_with fail;refine(zkB _ _ _ _ _ _ _).mono ?_;rintro e w1 ⟨rfl,hb1⟩;obtain⟨hc1,hf1⟩:=zlL hb1;have hbb:Below w.heap.size w w1:=((Below.refl _ _).alloc (Nat.le_refl _) _).trans (hb1.mono (by simp));go_wp2_with fail;go_ret;exact⟨by rw[HX.out];simp[show ¬ ks.length<=8 by omega],hbb⟩
 ·have hnb':zkF n s=false:=by simpa using hnb
  clear hnb;go_enter Tryz.func95,Tryz.ntmps95;go_wp2_with fail;refine(zkB _ _ _ _ _ _ _).mono ?_;rintro e w1 ⟨rfl,hb1⟩;have hbb:Below w.heap.size w w1:=((Below.refl _ _).alloc (Nat.le_refl _) _).trans (hb1.mono (by simp));go_wp2_with fail;go_ret;exact⟨by rw[HX.out];simp[*],hbb⟩
theorem ztQ (n:Int) (s:ByteArray) (ks:List T):zmd (.nd 51 n s ks):=by
 intro v w hv;have HX:=zh (show isS (.nd 51 n s ks)=(zkF n s&&decide (ks.length<=8)&&zkz (fun _=>isV) 0 ks) by simp[isS]);have HV:=zh hv;obtain⟨Ad,c,rfl,hf,hlk,hlc,hrow⟩:=hv.open_;simp only[T.k_nd,T.n_nd,T.s_nd,T.ks_nd] at *
 have aF:=zkS hlk;clear hf hv hlc;by_cases hnb:zkF n s=true
 ·by_cases kZ:ks.length<=8
  ·go_enter Tryz.func95,Tryz.ntmps95;go_wp2_with fail;refine(zkB _ _ _ _ _ _ _).mono ?_;rintro e w1 ⟨rfl,hb1⟩;obtain⟨hc1,hf1⟩:=zlL hb1;have hbb:Below w.heap.size w w1:=((Below.refl _ _).alloc (Nat.le_refl _) _).trans (hb1.mono (by simp));go_wp2_with fail;refine(zoq ks _ _ _ (hrow.later hbb) hlk _ _ zsV isV (fun i hi=>zpY _)).mono ?_;rintro e w2 ⟨rfl,hb2⟩;have hbc:Below w.heap.size w w2:=hbb.trans (hb2.mono hbb.size);go_wp2_with fail;go_ret;exact⟨by rw[HX.out];simp[*],hbc⟩
  ·have xK:8<ks.length:=by omega
   clear kZ;go_enter Tryz.func95,Tryz.ntmps95;go_wp2_with fail;refine(zkB _ _ _ _ _ _ _).mono ?_;rintro e w1 ⟨rfl,hb1⟩;obtain⟨hc1,hf1⟩:=zlL hb1;have hbb:Below w.heap.size w w1:=((Below.refl _ _).alloc (Nat.le_refl _) _).trans (hb1.mono (by simp));go_wp2_with fail;go_ret;exact⟨by rw[HX.out];simp[show ¬ ks.length<=8 by omega],hbb⟩
 ·have hnb':zkF n s=false:=by simpa using hnb
  clear hnb;go_enter Tryz.func95,Tryz.ntmps95;go_wp2_with fail;refine(zkB _ _ _ _ _ _ _).mono ?_;rintro e w1 ⟨rfl,hb1⟩;have hbb:Below w.heap.size w w1:=((Below.refl _ _).alloc (Nat.le_refl _) _).trans (hb1.mono (by simp));go_wp2_with fail;go_ret;exact⟨by rw[HX.out];simp[*],hbb⟩
theorem zr2 (k n:Int) (s:ByteArray) (ks:List T) (n40:(k==40)=false) (n41:(k==41)=false) (n42:(k==42)=false) (n43:(k==43)=false) (n44:(k==44)=false) (n45:(k==45)=false) (n46:(k==46)=false) (n47:(k==47)=false) (n48:(k==48)=false) (n49:(k==49)=false) (n50:(k==50)=false) (n51:(k==51)=false) (n52:(k==52)=false) (n53:(k==53)=false) (n54:(k==54)=false) (n55:(k==55)=false) (n56:(k==56)=false):zmd (.nd k n s ks):=by
 intro v w hv;obtain⟨Ad,c,rfl,hf,hlk,hlc,hrow⟩:=hv.open_;simp only[T.k_nd,T.n_nd,T.s_nd,T.ks_nd] at *
 have aF:=zkS hlk;have HX:=zh (show isS (.nd k n s ks)=false by
  simp only[beq_eq_false_iff_ne,ne_eq] at n40 n41 n42 n43 n44 n45 n46 n47 n48 n49 n50 n51 n52 n53 n54 n55 n56;rw[isS,if_neg (by omega),if_neg (by omega),if_neg (by omega),if_neg (by omega),if_neg (by omega),if_neg (by omega),if_neg (by omega),if_neg (by omega)])
 clear hf hv hlk hrow hlc;go_enter Tryz.func95,Tryz.ntmps95;go_wp2;go_ret;exact⟨by rw[HX.out];rfl,(Below.refl _ _).alloc (Nat.le_refl _) _⟩
theorem zr6 (k n:Int) (s:ByteArray) (ks:List T) (ih:∀ t∈ks,zmd t):zlF (.nd k n s ks):=by
 intro v w hv;have HX:=zh (show isB (.nd k n s ks)=((k==57)&&zkt n s&&zkz (fun _=>isS) 0 ks) by rw[isB,zpn 0];rfl);have IH:=zh ih;obtain⟨Ad,c,rfl,hf,hlk,hlc,hrow⟩:=hv.open_;simp only[T.k_nd,T.n_nd,T.s_nd,T.ks_nd] at *
 have aF:=zkS hlk;clear hf hv hlc ih;by_cases hk:(k==57)=true
 ·by_cases hnb:zkt n s=true
  ·go_enter Tryz.func57,Tryz.ntmps57;go_wp2_with fail;refine(zkp _ _ _ _ _ _ _).mono ?_;rintro e w1 ⟨rfl,hb1⟩;obtain⟨hc1,hf1⟩:=zlL hb1;have hbb:Below w.heap.size w w1:=((Below.refl _ _).alloc (Nat.le_refl _) _).trans (hb1.mono (by simp));go_wp2_with fail;refine(zoq ks _ _ _ (hrow.later hbb) hlk _ _ zuN isS (fun i hi=>IH.out _ (List.getElem_mem hi))).mono ?_;rintro e w2 ⟨rfl,hb2⟩;have hbc:Below w.heap.size w w2:=hbb.trans (hb2.mono hbb.size);go_wp2_with fail;go_ret;exact⟨by rw[HX.out];simp[*],hbc⟩
  ·have hnb':zkt n s=false:=by simpa using hnb
   clear hnb;go_enter Tryz.func57,Tryz.ntmps57;go_wp2_with fail;refine(zkp _ _ _ _ _ _ _).mono ?_;rintro e w1 ⟨rfl,hb1⟩;have hbb:Below w.heap.size w w1:=((Below.refl _ _).alloc (Nat.le_refl _) _).trans (hb1.mono (by simp));go_wp2_with fail;go_ret;exact⟨by rw[HX.out];simp[*],hbb⟩
 ·have hk':(k==57)=false:=by simpa using hk
  clear hk;go_enter Tryz.func57,Tryz.ntmps57;go_wp2_with fail;go_ret;exact⟨by rw[HX.out];simp[*],(Below.refl _ _).alloc (Nat.le_refl _) _⟩
theorem zrv (t:T):zmd t/\zlF t:=by
 induction t using T.ind with
 | _ k n s ks ih =>
 have ihS:∀ t∈ks,zmd t:=fun t ht=>(ih t ht).1;have aU:∀ t∈ks,zlF t:=fun t ht=>(ih t ht).2;refine⟨?_,zr6 k n s ks ihS⟩;by_cases h40:k=40
 ·subst h40;exact zt1 n s ks aU
 by_cases h41:k=41
 ·subst h41;exact zt0 n s ks aU
 by_cases h42:k=42
 ·subst h42;exact ztZ n s ks aU
 by_cases h43:k=43
 ·subst h43;exact ztY n s ks aU
 by_cases tY:k=44
 ·subst tY;exact ztX n s ks aU
 by_cases h45:k=45
 ·subst h45;exact ztW n s ks aU
 by_cases h46:k=46
 ·subst h46;exact ztV n s ks aU
 by_cases h47:k=47
 ·subst h47;exact ztU n s ks aU
 by_cases h48:k=48
 ·subst h48;exact ztT n s ks aU
 by_cases xS:k=49
 ·subst xS;exact ztS n s ks aU
 by_cases h50:k=50
 ·subst h50;exact ztR n s ks
 by_cases mo:k=51
 ·subst mo;exact ztQ n s ks
 by_cases mi:k=52
 ·subst mi;exact ztP n s ks aU
 by_cases nP:k=53
 ·subst nP;exact ztO n s ks aU
 by_cases gM:k=54
 ·subst gM;exact ztN n s ks aU
 by_cases gY:k=55
 ·subst gY;exact ztM n s ks aU
 by_cases oV:k=56
 ·subst oV;exact ztL n s ks aU
 exact zr2 k n s ks (by simpa using h40) (by simpa using h41) (by simpa using h42) (by simpa using h43) (by simpa using tY) (by simpa using h45) (by simpa using h46) (by simpa using h47) (by simpa using h48) (by simpa using xS) (by simpa using h50) (by simpa using mo) (by simpa using mi) (by simpa using nP) (by simpa using gM) (by simpa using gY) (by simpa using oV)
theorem zr3 (t:T):zmd t:=(zrv t).1
theorem zqU (t:T):zlF t:=(zrv t).2
end Go.Proofs.YtmbbaccjcekhkaaGreat
