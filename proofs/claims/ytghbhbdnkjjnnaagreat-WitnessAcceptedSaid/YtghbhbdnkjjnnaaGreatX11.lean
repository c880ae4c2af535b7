/-
  Texts of the proof, put together without their remarks: Lwl, Clone, Cz, Ce, Wk, Ck, Cm, Cp.
-/
import Derived.Test.YtghbhbdnkjjnnaaGreatX10
import Derived.Laws.Closers25b
import Derived.Deep.RegionLaw
set_option linter.unusedSimpArgs false
set_option linter.unusedVariables false
set_option maxHeartbeats 8000000
set_option maxRecDepth 100000
namespace Go.Proofs.YtghbhbdnkjjnnaaGreat
section
open Go Go.RowKit
theorem zKm{vs:List VD}{x:SS}(h:fitB vs x=true):x.Sm:=by
 obtain⟨h1,h2,h3,h4,h5⟩:=zlI h;refine⟨by omega,fun l hl=>?_,by omega,by omega⟩;obtain⟨i,hi,rfl⟩:=List.mem_iff_getElem.1 hl;obtain⟨a,b⟩:=h5 i (by omega) hi;unfold fit1 fixE at b;unfold vdB at a
 split at b
 ·simp at b;omega
 ·simp only[decide_eq_true_eq]at b
  split at b
  ·omega
  ·split at a
   ·simp at a;omega
   ·split at a
    ·simp at a;omega
    ·cases a
theorem zsC{vs:List VD}{b:BX}(h:(b.ok&&svB vs)=true):∀x∈allS b (lenE vs b),x.I:=by
 intro x hx;obtain⟨y,hy,rfl⟩:=List.mem_map.1 hx;have h1:=zqa rfl y hy;have h2:=zlV h;have h3:=h1.len;have h4:∀i (hi:i<y.length),∀e∈y[i],I64 e:=fun i hi e he=>by
  have h5:=(h1.get i (by omega) hi).2.2 e he;have h6:=h2.2.2.2;exact⟨by omega,by omega⟩
 have h7:∀l∈y,∀e∈l,I64 e:=fun l hl=>by obtain⟨i,hi,rfl⟩:=List.mem_iff_getElem.1 hl;exact h4 i hi
 refine⟨fun l hl=>h7 l ((List.dropLast_sublist y).subset hl),?_,fun e he=>by cases he⟩
 show ∀e∈y.getLastD [],I64 e
 rw[znZ (n:=y.length) rfl (by omega)];exact h4 _ (by omega)
theorem zul{vs:List VD}{b:BX}{t:T}(hs:smL vs b=true)(hf:∀v∈vs,FldV v) :
  (stsL vs b 150=none/\losE t vs b=none)\/∃l,stsL vs b 150=some l/\l=allS b (lenE vs b)/\(b.ok&&svB vs)=true/\l.length<=65536/\losE t vs b=zmj (gE vs t) [] l/\(∀s∈l,∀x,gE vs t s=some x->x.Sm):=by
 unfold smL at hs;simp only[Bool.and_eq_true,Bool.or_eq_true,decide_eq_true_eq]at hs;unfold stsL losE;by_cases h0:(cntR vs b).2=0/\(cntR vs b).1<=150
 ·have hsm:smlE vs b=true:=by
   unfold smlE;simp only[Bool.and_eq_true,decide_eq_true_eq];exact⟨h0.1,by omega⟩
  obtain⟨h1,h2⟩:=zra hsm;rw[if_pos h0,if_pos hsm];refine .inr ⟨_,rfl,rfl,h1,zsB h1 h2,znX _ _ fun x hx=>zKq hf (zsC h1 x (by simpa using hx)),fun s hs x hx=>?_⟩;unfold gE at hx
  split at hx
  ·rename_i h3;injection hx with hx;rw[<-hx];exact zKm (zvq hf (zsC h1 s hs) h3)
  ·cases hx
 ·rw[if_neg h0];have hsm:smlE vs b=false:=by
   unfold smlE;rcases hs.2 with h|h
   ·rw[h];rfl
   ·exact absurd h h0
  rw[if_neg (by rw[hsm];simp)];exact .inl ⟨rfl,rfl⟩
end
section
open Go.RowKit
theorem zqW(t:T):∀(v:Value) (w:World),NV w Any t v->Calls Tryz.prog 152 #[v] w (zvF w t):=by
 obtain⟨i0,hi0,hz0,hz1,hz2⟩:=info_parts zr8
 induction t using T.ind with
 | _ k n s ks ih =>
 intro v w hv;obtain⟨A,c,rfl,hf,hlk,hlc,hrow⟩:=hv.open_;simp only[T.k_nd,T.n_nd,T.s_nd,T.ks_nd]at *
 have az:=zkF hlk;generalize hlen:ks.length=l at *
 have HL:=zh hlen;clear hlen hv;have hbs:=zvj;go_enter Tryz.func152,Tryz.ntmps152;go_wp2
 go_loopw [3,9] (fun x i wr=>∃j:Nat,j<=l/\i=.int .i64 j/\OwnN wr (w.heap.size+2) 24 (From (w.heap.size+2)) x (ks.take j) /\
   Below (w.heap.size+2) ((w.alloc (.cells #[.int .u8 k,.int .i64 n,.string s,.slice A l c] 24)).alloc (.cells #[.int .u8 0,.int .i64 0,.string ⟨#[]⟩,.slice none 0 0] 24)) wr) (fun _ i _=>l-(intOf i).toNat)
 case atStart=>exact⟨0,Nat.zero_le _,rfl,OwnN.nil _ _ _ _,zr⟩
 case round =>
  obtain⟨j,hj,rfl,hown,hb⟩:=hrel;have hb0:Below w.heap.size w wr:=((zr.alloc zl _).alloc (by simp) _).trans (hb.mono (by omega));have hsz:w.heap.size+2<=wr.heap.size:=by have:=hb.size;simpa using this
  by_cases hlt:j<l
  ·have hi:j<ks.length:=by rw[HL.out];exact hlt
   obtain⟨a,t,A',c',rfl,_,Ht,c0,c1,c2,c3,hn⟩:=(hrow.later hb0).get hi;have ih1:=zh (ih ks[j] (List.getElem_mem hi));rw[Ht.out]at ih1;clear ih hrow;go_wp2_with fail;refine(ih1.out _ _ ?_).mono ?_
   ·exact hn.later (zr.alloc zl _)
   rintro e w1 ⟨k1,n1,s1,A1,l1,c1',rfl,hn1,hb1⟩;have hb2:Below wr.heap.size wr w1:=(zr.alloc zl _).trans (hb1.mono (by simp));have hb3:=hb.trans (hb2.mono hsz);have hown1:=hown.later hb2;have hA:NV w1 (fun b=>From (w.heap.size+2) b/\some b≠u3.ownBlock) t (nv k1 n1 s1 A1 l1 c1'):=hn1.mono fun b hb=>by
    have hb':wr.heap.size+1<=b:=by simpa using hb
    refine⟨by show w.heap.size+2<=b;omega,fun e=>?_⟩;have:=(hown.block b e.symm).2;omega
   have hlen1:(ks.take j).length+1<=LK:=by rw[List.length_take];exact Nat.le_trans (by omega) hlk
   have hbase:w.heap.size+2<=w1.heap.size:=Nat.le_trans hsz hb2.size;have htk:ks.take (j+1)=ks.take j++[t]:=by rw[List.take_succ_eq_append_getElem hi,Ht.out]
   have HT:=zh htk;have hblk:=hown.block;have HB:=zh hblk;clear htk hown hb1 hblk;go_wp2_with (at_builtin;refine znl rfl (.tmp 13) (.tmp 16) 22 rfl 24 i0 _ Tryz.underlying22 hi0 hz0 hz1 hz2 rfl (w.heap.size+2) (From (w.heap.size+2)) u3 _ rfl hown1 t k1 n1 s1 A1 l1 c1' rfl hA hlen1 hbase ?_;intro v' w' hown' hg' rQ)
   go_roundw
   case rel=>exact⟨j+1,by omega,by go_num,by rw[HT.out];exact hown',hb3.grown hg' hbase (fun g hg=>(HB.out g hg).1)⟩
   case measure=>simp[intOf];omega
  ·have hj':j=l:=by omega
   subst hj';have hl:ks.length=j:=HL.out;rw[List.take_of_length_le (by omega)]at hown;obtain⟨A2,c2,hv2,hc2,hr2,ha2⟩:=hown.row;rw[hl]at hv2;have HR:=zh (hr2.mono (S':=From (w.heap.size+2)) fun b hb=>by
    rcases hb with hb|hb
    ·exact hb
    ·exact(hown.block b hb).1)
   have HC:=zh hc2;have HF:=zh hf;subst hv2;clear ha2 hr2 hown hc2 hl ih hrow hf;have g0:wr.cell? ⟨w.heap.size,0,none⟩=some (.int .u8 k):=(hb.cell (p:=⟨w.heap.size,0,none⟩) (by simp)).trans (by simp);have g1:wr.cell? ⟨w.heap.size,1,none⟩=some (.int .i64 n):=(hb.cell (p:=⟨w.heap.size,1,none⟩) (by simp)).trans (by simp);have g2:wr.cell? ⟨w.heap.size,2,none⟩=some (.string s):=(hb.cell (p:=⟨w.heap.size,2,none⟩) (by simp)).trans (by simp);have g3:wr.cell? ⟨w.heap.size,3,none⟩=some (.slice A j c):=(hb.cell (p:=⟨w.heap.size,3,none⟩) (by simp)).trans (by simp);have f3:wr.frozen? ⟨w.heap.size,3,none⟩=false:=(hb.frozen (p:=⟨w.heap.size,3,none⟩) (by simp)).trans (by simp);have r0:wr.cell? ⟨w.heap.size+1,0,none⟩=some (.int .u8 0):=(hb.cell (p:=⟨w.heap.size+1,0,none⟩) (by simp)).trans (by simp)
   have r1:wr.cell? ⟨w.heap.size+1,1,none⟩=some (.int .i64 0):=(hb.cell (p:=⟨w.heap.size+1,1,none⟩) (by simp)).trans (by simp);have r2:wr.cell? ⟨w.heap.size+1,2,none⟩=some (.string ⟨#[]⟩):=(hb.cell (p:=⟨w.heap.size+1,2,none⟩) (by simp)).trans (by simp);have r3:wr.cell? ⟨w.heap.size+1,3,none⟩=some (.slice none 0 0):=(hb.cell (p:=⟨w.heap.size+1,3,none⟩) (by simp)).trans (by simp);have q0:wr.frozen? ⟨w.heap.size+1,0,none⟩=false:=(hb.frozen (p:=⟨w.heap.size+1,0,none⟩) (by simp)).trans (by simp);have q1:wr.frozen? ⟨w.heap.size+1,1,none⟩=false:=(hb.frozen (p:=⟨w.heap.size+1,1,none⟩) (by simp)).trans (by simp);have q2:wr.frozen? ⟨w.heap.size+1,2,none⟩=false:=(hb.frozen (p:=⟨w.heap.size+1,2,none⟩) (by simp)).trans (by simp);have q3:wr.frozen? ⟨w.heap.size+1,3,none⟩=false:=(hb.frozen (p:=⟨w.heap.size+1,3,none⟩) (by simp)).trans (by simp);go_wp2_with fail
   refine bodyPost_ret (v:=nv k n s A2 j c2) (by simp[results,Tryz.results152,go_sem,r0,r1,r2,r3]) rfl ⟨k,n,s,A2,j,c2,rfl,?_,?_⟩
   ·rw[<-HL.out];refine NV.shut HF.out (by rw[HL.out];exact hlk) HC.out (HR.out.keep (fun b hb _=>Nat.le_trans (Nat.le_add_right _ 2) hb) fun b hb _=>?_);have hb':w.heap.size+2<=b:=hb;rw[Below.heap_setCell _ _ _ _ (by simp;omega),Below.heap_setCell _ _ _ _ (by simp;omega),Below.heap_setCell _ _ _ _ (by simp;omega),Below.heap_setCell _ _ _ _ (by simp;omega),Below.heap_setCell _ _ _ _ (by simp;omega)]
   ·exact((((hb0.setCell (by simp) _).setCell (by simp) _).setCell (by simp) _).setCell (by simp) _).setCell (by simp) _
end
section
open Go Go.RowKit
def zzO(w:World)(e:Ending)(w':World):Prop:=∃k n s A l c,e=.returned (nv k n s A l c)/\Below w.heap.size w w'
theorem zKr(k n:Int)(w:World):(Instr.build 24 #[(0,.int .u8 k),(1,.int .i64 n)]).run Tryz.prog w=.ok (nv k n ⟨#[]⟩ none 0 0) w:=by kernel_rfl
theorem zlG(v:Int)(hv:0<=v)(w:World):Calls Tryz.prog 197 #[.int .i64 v] w (zzO w):=by
 have hd:decide (0<=v)=true:=decide_eq_true hv;have hb:=zKr;go_enter Tryz.func197,Tryz.ntmps197;go_wp2_with fail;(try simp only[Exit.inBlock,Exit.then]);refine bodyPost_ret (v:=nv 1 v ⟨#[]⟩ none 0 0) (by simp[results,Tryz.results197,go_sem]) rfl ⟨_,_,_,_,_,_,rfl,zkb zr _⟩
theorem zrq(v:Int)(hv : -9223372036854775808<=v/\v<=9223372036854775807)(w:World):Calls Tryz.prog 197 #[.int .i64 v] w (zzO w):=by
 by_cases h0:0<=v
 ·exact zlG v h0 w
 ·have hd:decide (0<=v)=false:=decide_eq_false h0;have hb:=zzA;have hb2:=zzy;have hb1:=zvj;by_cases hm:v = -9223372036854775808
  ·subst hm;go_enter Tryz.func197,Tryz.ntmps197;go_wp2_with fail;refine(zlG _ (by omega) _).mono ?_;rintro e w1 ⟨k1,n1,s1,A1,l1,c1,rfl,b1⟩;have b1':Below w.heap.size w w1:=zka (zkb zr _) b1;go_wp2_with fail;refine(zlG _ (by omega) _).mono ?_;rintro e w2 ⟨k2,n2,s2,A2,l2,c2,rfl,b2⟩;have b2':=zka b1' b2;have hbx:w2.heap[w.heap.size]?=some (.cells #[.int .u8 0,.int .i64 0,.string ⟨#[]⟩,.slice none 0 0] 24 (0,0)):=((b2.block _ (by have:=b1.size;simp at this;omega)).trans (b1.block _ (by simp))).trans (heap_alloc_new w _);obtain⟨m0,m1,m2,m3⟩:=box4 hbx;have f0:∀i,w2.frozen? ⟨w.heap.size,i,none⟩=false:=fun i=>zf hbx;have hlt:=zkf hbx;have hne:¬ w.heap.size=w2.heap.size:=by omega
   have hne2:¬ w2.heap.size=w.heap.size:=by omega
   clear hbx;go_wp2_with fail;(try simp only[Exit.inBlock,Exit.then]);refine bodyPost_ret (v:=nv 8 0 ⟨#[]⟩ (some ⟨w2.heap.size,0,none⟩) 2 2) (by simp[results,Tryz.results197,go_sem,m0,m1,m2,m3,hne,hne2,hlt]) rfl ⟨_,_,_,_,_,_,rfl,zkb ((((b2'.setCell (by simp) _).setCell (by simp) _).setCell (by simp) _).setCell (by simp) _) _⟩
  ·have hm':(v == -9223372036854775808)=false:=by simpa using hm
   go_enter Tryz.func197,Tryz.ntmps197;go_wp2_with fail;refine(zlG _ (by omega) _).mono ?_;rintro e w1 ⟨k1,n1,s1,A1,l1,c1,rfl,b1⟩;have b1':Below w.heap.size w w1:=zka (zkb zr _) b1;have hbx:w1.heap[w.heap.size]?=some (.cells #[.int .u8 0,.int .i64 0,.string ⟨#[]⟩,.slice none 0 0] 24 (0,0)):=(b1.block _ (by simp)).trans (heap_alloc_new w _);obtain⟨m0,m1,m2,m3⟩:=box4 hbx;have f0:∀i,w1.frozen? ⟨w.heap.size,i,none⟩=false:=fun i=>zf hbx;have hlt:=zkf hbx;have hne:¬ w.heap.size=w1.heap.size:=by omega
   have hne2:¬ w1.heap.size=w.heap.size:=by omega
   clear hbx;go_wp2_with fail;(try simp only[Exit.inBlock,Exit.then]);refine bodyPost_ret (v:=nv 6 0 ⟨#[]⟩ (some ⟨w1.heap.size,0,none⟩) 1 1) (by simp[results,Tryz.results197,go_sem,m0,m1,m2,m3,hne,hne2,hlt]) rfl ⟨_,_,_,_,_,_,rfl,zkb ((((b1'.setCell (by simp) _).setCell (by simp) _).setCell (by simp) _).setCell (by simp) _) _⟩
theorem zmf(b:Bool):I64 (numI b):=by cases b<;>simp[numI,I64]
theorem zmB(x:Int):I64 (wrap64 x):=by unfold I64 wrap64;omega
theorem zrF(op:BinOp)(a b:Int):I64 (bits op .i64 a b):=⟨bits_lo_i64 _ _ _,bits_hi_i64 _ _ _⟩
theorem zyG{x y:Int}(hx:I64 x):I64 (x.tmod y):=by
 have h:(x.tmod y).natAbs<=x.natAbs:=by rw[Int.natAbs_tmod];exact Nat.mod_le _ _
 have hs:0<=x->0<=x.tmod y:=fun h0=>Int.tmod_nonneg y h0;have hn:x<=0->x.tmod y<=0:=fun h0=>by
  have h1:=Int.tmod_nonneg (a := -x) y (by omega);rw[Int.neg_tmod]at h1;omega
 unfold I64 at *
 omega
theorem zva{k x y:Int}(hx:I64 x):I64 (divE k x y).1:=by
 unfold divE
 split
 ·simp[I64]
 ·split
  ·exact zmB _
  ·exact zyG hx
theorem zzU{k x:Int}:I64 (unE k x).1:=by
 unfold unE
 split
 ·exact zmB _
 ·exact zmf _
theorem zKy{k x y:Int}(hx:I64 x):I64 (apE k x y).1:=by
 unfold apE;by_cases h:k=8
 ·rw[if_pos h];dsimp only;exact zmB _
 rw[if_neg h];clear h;by_cases h:k=9
 ·rw[if_pos h];dsimp only;exact zmB _
 rw[if_neg h];clear h;by_cases h:k=10
 ·rw[if_pos h];dsimp only;exact zmB _
 rw[if_neg h];clear h;by_cases h:k=11
 ·rw[if_pos h];exact zva hx
 rw[if_neg h];clear h;by_cases h:k=12
 ·rw[if_pos h];exact zva hx
 rw[if_neg h];clear h;by_cases h:k=13
 ·rw[if_pos h];dsimp only;exact zrF _ _ _
 rw[if_neg h];clear h;by_cases h:k=14
 ·rw[if_pos h];dsimp only;exact zrF _ _ _
 rw[if_neg h];clear h;by_cases h:k=15
 ·rw[if_pos h];dsimp only;exact zrF _ _ _
 rw[if_neg h];clear h;by_cases h:k=16
 ·rw[if_pos h];dsimp only;exact zmf _
 rw[if_neg h];clear h;by_cases h:k=17
 ·rw[if_pos h];dsimp only;exact zmf _
 rw[if_neg h];clear h;by_cases h:k=18
 ·rw[if_pos h];dsimp only;exact zmf _
 rw[if_neg h];clear h;by_cases h:k=19
 ·rw[if_pos h];dsimp only;exact zmf _
 rw[if_neg h];clear h;by_cases h:k=20
 ·rw[if_pos h];dsimp only;exact zmf _
 rw[if_neg h];clear h;by_cases h:k=21
 ·rw[if_pos h];dsimp only;exact zmf _
 rw[if_neg h];clear h;by_cases h:k=22
 ·rw[if_pos h];dsimp only;exact zmf _
 rw[if_neg h];clear h;by_cases h:k=23
 ·rw[if_pos h];dsimp only;exact zmf _
 rw[if_neg h];clear h;exact zmf false
structure FO where
 v:Int
 c:Bool
def Fo6(w:World)(p:Addr)(f:FO):Prop:=∃k n s A l c,w.cell? p=some (.int .u8 k)/\w.cell? ⟨p.block,p.off+1,none⟩=some (.int .i64 n)/\w.cell? ⟨p.block,p.off+2,none⟩=some (.string s)/\w.cell? ⟨p.block,p.off+3,none⟩=some (.slice A l c)/\w.cell? ⟨p.block,p.off+4,none⟩=some (.int .i64 f.v)/\w.cell? ⟨p.block,p.off+5,none⟩=some (.bool f.c)
def RowF(w:World)(S:Nat->Prop)(A:Option Addr)(fs:List FO):Prop :=
 ∀i (hi:i<fs.length),∃a:Addr,A=some a/\S a.block/\Fo6 w (a.add (i*6)) fs[i]/\I64 fs[i].v
def valE(k n:Int)(fs:List FO):FO :=
 if fs.all (·.c)then
  if k=1 then⟨n,true⟩else if 2<=k/\k<=5 then⟨0,false⟩else
  if k=6\/k=7 then⟨(unE k (fs[0]?.elim 0 (·.v))).1,(unE k (fs[0]?.elim 0 (·.v))).2==0⟩else
  ⟨(apE k (fs[0]?.elim 0 (·.v)) (fs[1]?.elim 0 (·.v))).1,(apE k (fs[0]?.elim 0 (·.v)) (fs[1]?.elim 0 (·.v))).2==0⟩
 else⟨0,false⟩
def nrm(f:FO):FO:=if f.c=true then f else⟨0,false⟩
mutual
/-- Value and constancy of a folded tree. -/
def zlW:T->FO
 | .nd k n _ ks=>nrm (valE k n (zqB ks))
def zqB:List T->List FO
 | []=>[]
 | t::ts=>zlW t::zqB ts
end
theorem zpr:∀ks:List T,zqB ks=ks.map zlW
 | []=>by simp[zqB]
 | t::ts=>by simp[zqB,zpr ts]
theorem RowF.later{w w':World}{S:Nat->Prop}{A:Option Addr}{fs:List FO}(h:RowF w S A fs)(hb:Below w.heap.size w w'):RowF w' S A fs:=fun i hi=>by
 obtain⟨a,h1,h2,⟨k,n,s,A',l,c,q0,q1,q2,q3,q4,q5⟩,h4⟩:=h i hi;have kp:∀ {p:Addr} {v:Value},w.cell? p=some v->w'.cell? p=some v:=fun {p v} hq=>zkq hq (hb.block _ (World.block_lt_of_cell? w _ hq));exact⟨a,h1,h2,⟨k,n,s,A',l,c,kp q0,kp q1,kp q2,kp q3,kp q4,kp q5⟩,h4⟩
theorem RowF.nd{w:World}{S:Nat->Prop}{A:Option Addr}{fs:List FO}(h:RowF w S A fs){i:Nat}(hi:i<fs.length):∃(a:Addr) (f:FO),A=some a/\Hid (fs[i]=f)/\Fo6 w (a.add (i*6)) f/\I64 f.v :=
 let ⟨a,h1,_,h3,h4⟩:=h i hi;⟨a,fs[i],h1,rfl,h3,h4⟩
theorem ztb(t:T)(fs:List FO)(A:Option Addr)(c:Nat)(S:Nat->Prop)(v:Value)(w:World)(hv:NV w Any t v)(hrow:RowF w S A fs)(hl:fs.length<=100000)(h1:t.k=6\/t.k=7->1<=fs.length)(h2:8<=t.k->t.k<=23/\2<=fs.length)(h0:1<=t.k) :
  Calls Tryz.prog 196 #[v,.slice A fs.length c] w fun e w'=>e=.returned (.tuple #[.int .i64 (valE t.k t.n fs).v,.bool (valE t.k t.n fs).c])/\Below w.heap.size w w':=by
 obtain⟨B,tc,rfl,hf,hlk,-,-⟩:=hv.open_;obtain⟨k,hk⟩:=zX (t.k);obtain⟨n,hn⟩:=zX (t.n);obtain⟨s,hs⟩:=zX (t.s);obtain⟨l,hlks⟩:=zX (t.ks.length);rw[hk,hn,hs,hlks];rw[hk]at h0 h1 h2;clear hv hf hlk hk hn hs hlks;obtain⟨F,hF⟩:=zX (valE k n fs);rw[hF];have HF:=zh hF;have aa:=zh hrow;have H1:=zh h1;have H2:=zh h2;clear hF hrow h1 h2;go_enter Tryz.func196,Tryz.ntmps196;go_wp2_with fail
 go_loopw [12] (fun i wr=>∃j:Nat,j<=fs.length/\i=.int .i64 j/\(fs.take j).all (·.c)=true/\Below w.heap.size w wr/\wr.heap[w.heap.size]?=some (.cells #[.int .u8 k,.int .i64 n,.string s,.slice B l tc] 24 (0,0))) (fun i _=>fs.length-(intOf i).toNat)
 case atStart=>exact⟨0,Nat.zero_le _,rfl,by simp,zkb zr _,heap_alloc_new w _⟩
 case round =>
  obtain⟨j,hj,rfl,hall,hbw,hbx⟩:=hrel;have aR:=zh hbw;have aF:=zh hbx;have bE:=zh hall;by_cases hlt:j<fs.length
  ·obtain⟨a,f,rfl,Hf,⟨k1,n1,s1,A1,l1,c1,q0,q1,q2,q3,q4,q5⟩,-⟩:=(aa.out.later hbw).nd hlt;obtain⟨fv,fc⟩:=f;clear hbw hbx hall;dsimp only at q4 q5
   cases fc
   ·go_wp2_with fail;go_ret2;have jR:F=⟨0,false⟩:=by
     rw[<-HF.out,valE,if_neg];intro h;have:=List.all_eq_true.1 h _ (List.getElem_mem hlt);rw[Hf.out]at this
     cases this
    subst jR;exact⟨rfl,zkb aR.out _⟩
   ·go_wp2_with fail
    go_roundw
    case rel=>exact⟨j+1,by omega,by go_num,by rw[List.take_succ_eq_append_getElem hlt,List.all_append,bE.out,Hf.out];rfl,zkb aR.out _,zkd aF.out _⟩
    case measure=>simp[intOf];omega
  ·have hjl:j=fs.length:=by omega
   have hallf:fs.all (·.c)=true:=by have:=bE.out;rwa[hjl,List.take_of_length_le zl]at this
   have hge:¬ ((j:Int)<(fs.length:Int)):=by omega
   have yF:=zh hallf;obtain⟨m0,m1,m2,m3⟩:=box4 hbx;clear hbw hbx hall hallf;by_cases k1:k=1
   ·subst k1;go_wp2_with fail;go_ret2;have jR:F=⟨n,true⟩:=by rw[<-HF.out,valE,if_pos yF.out];simp
    subst jR;exact⟨rfl,aR.out⟩
   ·by_cases k2:k=2\/k=3\/k=4\/k=5
    ·have jR:F=⟨0,false⟩:=by rw[<-HF.out,valE,if_pos yF.out,if_neg k1,if_pos (by omega)]
     subst jR;rcases k2 with rfl|rfl|rfl|rfl
     all_goals (go_wp2_with fail;go_ret2;exact⟨rfl,aR.out⟩)
    ·by_cases k6:k=6\/k=7
     ·have hl1:=H1.out k6;obtain⟨a,f,rfl,Hf,⟨k1',n1',s1',A1',l1',c1',q0,q1,q2,q3,q4,q5⟩,-⟩:=(aa.out.later aR.out).nd (show 0<fs.length by omega);have hfl:(0:Int)<(fs.length:Int):=by omega
      have gL:0<fs.length:=by omega
      have jR:F=⟨(unE k f.v).1,(unE k f.v).2==0⟩:=by
       have e0:fs[0]?=some f:=by rw[List.getElem?_eq_getElem (by omega),Hf.out]
       rw[<-HF.out,valE,if_pos yF.out,if_neg k1,if_neg (by omega),if_pos k6,e0];rfl
      have mh:=zh (zqR k f.v k6);obtain⟨⟨uv,ue⟩,hU⟩:=zX (unE k f.v);rw[hU]at mh jR;dsimp only at mh jR;have yB:=zh jR;clear hU jR;rcases k6 with rfl|rfl
      ·have HS:=zh (show(fun w':World=>zv w' w.heap.size 0 (.int .u8 6)/\zv w' a.block (a.off+4) (.int .i64 f.v)) wr.drew from⟨m0,by simpa[zv,Addr.add_zero']using q4⟩);clear q0 q1 q2 q3 q4 q5;go_upto_region 20 with fail
       go_region_held3 (fun w':World=>zv w' w.heap.size 0 (.int .u8 6)/\zv w' a.block (a.off+4) (.int .i64 f.v))
        (with_reducible exact HS.out)
        (first
         | (go_at_call 95;refine(mh.out _).mono ?_;rintro e x1 ⟨rfl,rfl⟩)
         | fail)
       go_wp2_with fail;go_ret2;exact⟨by rw[yB.out];rfl,aR.out.drew⟩
      ·have HS:=zh (show(fun w':World=>zv w' w.heap.size 0 (.int .u8 7)/\zv w' a.block (a.off+4) (.int .i64 f.v)) wr.drew from⟨m0,by simpa[zv,Addr.add_zero']using q4⟩);clear q0 q1 q2 q3 q4 q5;go_upto_region 20 with fail
       go_region_held3 (fun w':World=>zv w' w.heap.size 0 (.int .u8 7)/\zv w' a.block (a.off+4) (.int .i64 f.v))
        (with_reducible exact HS.out)
        (first
         | (go_at_call 95;refine(mh.out _).mono ?_;rintro e x1 ⟨rfl,rfl⟩)
         | fail)
       go_wp2_with fail;go_ret2;exact⟨by rw[yB.out];rfl,aR.out.drew⟩
     ·have hl2:=H2.out (by omega);have hl2':=hl2.2;obtain⟨a,f,rfl,Hf,⟨k1',n1',s1',A1',l1',c1',q0,q1,q2,q3,q4,q5⟩,-⟩:=(aa.out.later aR.out).nd (show 0<fs.length by omega);obtain⟨a',f',ea,Hf',⟨k2',n2',s2',A2',l2',c2',y0,y1,y2,y3,y4,y5⟩,-⟩:=(aa.out.later aR.out).nd (show 1<fs.length by omega);injection ea with ea;subst ea;have hfl:(0:Int)<(fs.length:Int):=by omega
      have gL:0<fs.length:=by omega
      have sH:(1:Int)<(fs.length:Int):=by omega
      have sG:1<fs.length:=by omega
      have jR:F=⟨(apE k f.v f'.v).1,(apE k f.v f'.v).2==0⟩:=by
       have e0:fs[0]?=some f:=by rw[List.getElem?_eq_getElem (by omega),Hf.out]
       have e1:fs[1]?=some f':=by rw[List.getElem?_eq_getElem (by omega),Hf'.out]
       rw[<-HF.out,valE,if_pos yF.out,if_neg k1,if_neg (by omega),if_neg k6,e0,e1];rfl
      have mh:=zh (zqZ k f.v f'.v (by omega));obtain⟨⟨uv,ue⟩,hU⟩:=zX (apE k f.v f'.v);rw[hU]at mh jR;dsimp only at mh jR;have yB:=zh jR;have x1:(k==1)=false:=by simp;omega
      have x2:(k==2)=false:=by simp;omega
      have x3:(k==3)=false:=by simp;omega
      have x4:(k==4)=false:=by simp;omega
      have x5:(k==5)=false:=by simp;omega
      have x6:(k==6)=false:=by simp;omega
      have x7:(k==7)=false:=by simp;omega
      have HS:=zh (show(fun w':World=>zv w' w.heap.size 0 (.int .u8 k)/\zv w' a.block (a.off+4) (.int .i64 f.v)/\zv w' a.block (a.off+6+4) (.int .i64 f'.v)) wr.drew from⟨m0,by simpa[zv,Addr.add_zero']using q4,by simpa[zv,Addr.add]using y4⟩);clear hU jR q0 q1 q2 q3 q4 q5 y0 y1 y2 y3 y4 y5 k1 k2 k6;go_upto_region 10 with fail
      go_region_held3 (fun w':World=>zv w' w.heap.size 0 (.int .u8 k)/\zv w' a.block (a.off+4) (.int .i64 f.v)/\zv w' a.block (a.off+6+4) (.int .i64 f'.v))
       (with_reducible exact HS.out)
       (first
        | (go_at_call 96;refine(mh.out _).mono ?_;rintro e x1 ⟨rfl,rfl⟩)
        | fail)
      go_wp2_with fail;go_ret2;exact⟨by rw[yB.out];rfl,aR.out.drew⟩
def zKL(f:FO)(us:List Value):Prop:=∃k n s A l c,us=[.int .u8 k,.int .i64 n,.string s,.slice A l c,.int .i64 f.v,.bool f.c]
inductive zqd:List FO->List Value->Prop
 | nil:zqd [] []
 | snoc {fs:List FO} {xs:List Value} {f:FO} {us:List Value}:zqd fs xs->zKL f us->zqd (fs++[f]) (xs++us)
theorem zqd.len{fs:List FO}{xs:List Value}(h:zqd fs xs):xs.length=fs.length*6:=by
 induction h with
 | nil=>rfl
 | snoc _ hc ih=>obtain⟨_,_,_,_,_,_,rfl⟩:=hc;simp[ih];omega
theorem zqd.get{fs:List FO}{xs:List Value}(h:zqd fs xs):∀i (hi:i<fs.length),∃us,zKL fs[i] us/\∀j,j<6->xs[i*6+j]?=us[j]?:=by
 induction h with
 | nil=>intro i hi;simp at hi
 | @snoc fs xs f us h hc ih =>
  intro i hi;have hl:=h.len;by_cases hlt:i<fs.length
  ·obtain⟨vW,h1,h2⟩:=ih i hlt;rw[List.getElem_append_left hlt];refine⟨vW,h1,fun j hj=>?_⟩;rw[List.getElem?_append_left (by omega)];exact h2 j hj
  ·obtain rfl:i=fs.length:=by simp at hi;omega
   refine⟨us,by simpa using hc,fun j hj=>?_⟩;rw[List.getElem?_append_right (by omega),show fs.length*6+j-xs.length=j by omega]
theorem zqu{w:World}{base:Nat}{E:TypeId}{v:Value}{fs:List FO}{xs:List Value}(h:w.ownsRow base E 6 v fs.length xs)(hx:zqd fs xs)(hf:∀f∈fs,I64 f.v):∃A c,v=.slice A fs.length c/\fs.length<=c/\RowF w Any A fs:=by
 rcases h.2 with⟨rfl,h0⟩|⟨g,cap,cur,rfl,hb,hg,hc,hm,hz,hx'⟩
 ·exact⟨none,0,by rw[h0],by omega,fun i hi=>absurd hi (by omega)⟩
 ·refine⟨some ⟨g,0,none⟩,cap,rfl,hc,fun i hi=>?_⟩;have ha:(⟨g,0,none⟩:Addr).add (i*6)=⟨g,i*6,none⟩:=by unfold Addr.add;split<;>simp_all
  obtain⟨us,⟨k,n,s,A,l,c,rfl⟩,h2⟩:=hx.get i hi;have cc:∀j,j<6->w.cell? ⟨g,i*6+j,none⟩=([.int .u8 k,.int .i64 n,.string s,.slice A l c,.int .i64 fs[i].v,.bool fs[i].c]:List Value)[j]?:=fun j hj=>by
   rw[h.cellAt _ (by omega),h2 j hj]
  refine⟨⟨g,0,none⟩,rfl,trivial,?_,hf _ (List.getElem_mem hi)⟩;rw[ha];exact⟨k,n,s,A,l,c,by simpa using cc 0 (by omega),by simpa using cc 1 (by omega),by simpa using cc 2 (by omega),by simpa using cc 3 (by omega),by simpa using cc 4 (by omega),by simpa using cc 5 (by omega)⟩
abbrev fv(k n:Int)(s:ByteArray)(A:Option Addr)(l c:Nat)(f:FO):Value:=.agg #[.int .u8 k,.int .i64 n,.string s,.slice A l c,.int .i64 f.v,.bool f.c]
def NewF(w:World)(f:FO)(e:Ending)(w':World):Prop:=∃k n s A l c,e=.returned (fv k n s A l c f)/\I64 f.v/\Below w.heap.size w w'
def zzR(t:T):Prop:=∀(v:Value) (w:World),NV w Any t v->Calls Tryz.prog 191 #[v] w (NewF w (zlW t))
theorem zw4:(Tryz.prog.info? 239).map (fun i=>(i.zero,i.size,i.bytes))=some (some (.agg #[.int .u8 0,.int .i64 0,.string ⟨#[]⟩,.slice none 0 0,.int .i64 0,.bool false]),6,72):=by kernel_rfl
theorem zxI(a0 a1 a2 a3 a4 a5:Value)(w:World):(Instr.buildSlice 243 1 #[(0,.agg #[a0,a1,a2,a3,a4,a5])]).run Tryz.prog w=.ok (.slice (some ⟨w.heap.size,0,none⟩) 1 1) (w.alloc (.cells #[a0,a1,a2,a3,a4,a5] 239)):=by kernel_rfl
theorem zu2(ks:List T)(A:Option Addr)(c:Nat)(w:World)(hrow:zkU w Any A ks)(hl:ks.length<=8)(hF:∀kid∈ks,zzR kid) :
  Calls Tryz.prog 195 #[.slice A ks.length c,.func (.func 191) #[] #[]] w fun e w'=>∃A' c',e=.returned (.slice A' ks.length c')/\RowF w' Any A' (ks.map zlW)/\Below w.heap.size w w':=by
 obtain⟨i0,hi0,hz0,hz1,hz2⟩:=info_parts zw4;have HF:=zh hF;have aa:=zh hrow;clear hF hrow;have hbs:=zxI;go_enter Tryz.func195,Tryz.ntmps195;go_wp2_with fail
 go_loopw [5,10] (fun x i wr=>∃(j:Nat) (xs:List Value),j<=ks.length/\i=.int .i64 j/\wr.ownsRow w.heap.size 239 6 x j xs/\zqd ((ks.take j).map zlW) xs/\(∀f∈(ks.take j).map zlW,I64 f.v)/\Below w.heap.size w wr) (fun _ i _=>ks.length-(intOf i).toNat)
 case atStart=>exact⟨0,[],Nat.zero_le _,rfl,World.ownsRow_nil _ _ _ _,.nil,by simp,zr⟩
 case round =>
  obtain⟨j,xs,hj,rfl,hown,hfl,hf64,hbw⟩:=hrel;have mI:∃A3 c3,u5=.slice A3 j c3:=by
   rcases hown.2 with⟨rfl,rfl⟩|⟨g,cap,cur,rfl,_⟩
   ·exact⟨_,_,rfl⟩
   ·exact⟨_,_,rfl⟩
  obtain⟨A3,c3,rfl⟩:=mI;have HOWN:=zh hown;have qx:=zh hfl;have HF64:=zh hf64;have aR:=zh hbw;clear hown hfl hf64;by_cases hlt:j<ks.length
  ·obtain⟨a,t,A1,c1,rfl,_,Ht,⟨q0,q1,q2,q3⟩,hn⟩:=(aa.out.later hbw).nd hlt;have hF1:=HF.out ks[j] (List.getElem_mem hlt);rw[Ht.out]at hF1;have qZ:=zh hF1;have HN:=zh hn;clear hF1 hn hbw;go_wp2_with fail;refine(qZ.out _ _ (HN.out.later (zr.alloc zl _))).mono ?_;rintro e w1 ⟨k',n',s',A',l',c',rfl,h64,ae⟩;have hb1:Below wr.heap.size wr w1:=zka (zkb zr _) ae;have hown1:=(zkB HOWN.out hb1).alloc (.cells #[.int .u8 k',.int .i64 n',.string s',.slice A' l' c',.int .i64 (zlW t).v,.bool (zlW t).c] 239);have HB1:=zh hb1;have hbz:=aR.out.size;have hbz1:=hb1.size;have fB:=zh (zkY w1 239 [.int .u8 k',.int .i64 n',.string s',.slice A' l' c',.int .i64 (zlW t).v,.bool (zlW t).c]);clear q0 q1 q2 q3 ae
   go_wp2_with (at_builtin;refine wpList_append_own_at (P:=Tryz.prog) _ rfl (.tmp 14) (.tmp 18) 243 rfl w.heap.size 239 i0 _ 6 72 Tryz.underlying243 hi0 hz0 hz1 hz2 rfl (by decide) (.slice A3 j c3) j xs rfl hown1 ⟨w1.heap.size,0,none⟩ 1 1 [.int .u8 k',.int .i64 n',.string s',.slice A' l' c',.int .i64 (zlW t).v,.bool (zlW t).c] rfl rfl fB.out (by intro u hu;simp at hu;rcases hu with rfl|rfl|rfl|rfl|rfl|rfl<;>rfl) (by unfold maxLen;omega) (by omega) (by simp;omega) ?_;intro v' w' h2 h3 h4 h5)
   have hbl:Below w.heap.size w w':=(zkb (zka aR.out HB1.out) _).grown h3 (by simp;omega) (fun g e=>(hown1.lt g e).1);have e2:(ks.take (j+1)).map zlW=(ks.take j).map zlW++[zlW t]:=by rw[List.take_succ_eq_append_getElem hlt,Ht.out];simp
   refine⟨⟨j+1,_,by omega,rfl,h2,?_,?_,hbl⟩,by simp[intOf];omega⟩
   ·rw[e2];exact qx.out.snoc ⟨_,_,_,_,_,_,rfl⟩
   ·intro f hf;rw[e2,List.mem_append]at hf;rcases hf with hf|hf
    ·exact HF64.out f hf
    ·simp at hf;rw[hf];exact h64
  ·obtain rfl:j=ks.length:=by omega
   have e3:ks.take ks.length=ks:=List.take_of_length_le zl;have h1:=qx.out;have h2:=HF64.out;rw[e3]at h1 h2;have h3:=HOWN.out;rw[show ks.length=(ks.map zlW).length by simp]at h3;obtain⟨A4,c4,e4,hc4,hrf⟩:=zqu h3 h1 h2;have e5:A4=A3:=by injection e4 with e _ _;exact e.symm
   subst e5;have yl:=zh hrf;clear hbw h1 h2 h3 e4 hrf;go_wp2_with fail;go_ret;exact⟨_,_,rfl,yl.out,aR.out⟩
theorem zuD(k n:Int)(s:ByteArray)(A:Option Addr)(l c:Nat)(f:FO)(w:World):Calls Tryz.prog 199 #[fv k n s A l c f] w (zzO w):=by
 go_enter Tryz.func199,Tryz.ntmps199;go_wp2_with fail;exact bodyPost_ret (v:=nv k n s A l c) (by simp[results,Tryz.results199,go_sem]) rfl ⟨_,_,_,_,_,_,rfl,zkb (zkb zr _) _⟩
theorem zu1(fs:List FO)(A:Option Addr)(c:Nat)(S:Nat->Prop)(w:World)(hrow:RowF w S A fs)(hl:fs.length<=8) :
  Calls Tryz.prog 198 #[.slice A fs.length c,.func (.func 199) #[] #[]] w fun e w'=>∃A' l' c',e=.returned (.slice A' l' c')/\Below w.heap.size w w':=by
 obtain⟨i0,hi0,hz0,hz1,hz2⟩:=info_parts zr8;have aa:=zh hrow;clear hrow;have hbs:=zvj;go_enter Tryz.func198,Tryz.ntmps198;go_wp2_with fail
 go_loopw [5,10] (fun x i wr=>∃(j:Nat) (xs:List Value),j<=fs.length/\i=.int .i64 j/\wr.ownsRow w.heap.size 24 4 x j xs/\Below w.heap.size w wr) (fun _ i _=>fs.length-(intOf i).toNat)
 case atStart=>exact⟨0,[],Nat.zero_le _,rfl,World.ownsRow_nil _ _ _ _,zr⟩
 case round =>
  obtain⟨j,xs,hj,rfl,hown,hbw⟩:=hrel;have mI:∃A3 c3,u5=.slice A3 j c3:=by
   rcases hown.2 with⟨rfl,rfl⟩|⟨g,cap,cur,rfl,_⟩
   ·exact⟨_,_,rfl⟩
   ·exact⟨_,_,rfl⟩
  obtain⟨A3,c3,rfl⟩:=mI;have HOWN:=zh hown;have aR:=zh hbw;clear hown;by_cases hlt:j<fs.length
  ·obtain⟨a,f,rfl,Hf,⟨k1,n1,s1,A1,l1,c1,q0,q1,q2,q3,q4,q5⟩,-⟩:=(aa.out.later hbw).nd hlt;clear hbw;go_wp2_with fail;refine(zuD k1 n1 s1 A1 l1 c1 f _).mono ?_;rintro e w1 ⟨k',n',s',A',l',c',rfl,ae⟩;have hb1:Below wr.heap.size wr w1:=zka (zkb zr _) ae;have hown1:=(zkB HOWN.out hb1).alloc (.cells #[.int .u8 k',.int .i64 n',.string s',.slice A' l' c'] 24);have HB1:=zh hb1;have hbz:=aR.out.size;have hbz1:=hb1.size;have fB:=zh (zkY w1 24 [.int .u8 k',.int .i64 n',.string s',.slice A' l' c']);clear q0 q1 q2 q3 q4 q5 ae
   go_wp2_with (at_builtin;refine wpList_append_own_at (P:=Tryz.prog) _ rfl (.tmp 14) (.tmp 18) 22 rfl w.heap.size 24 i0 _ 4 56 Tryz.underlying22 hi0 hz0 hz1 hz2 rfl (by decide) (.slice A3 j c3) j xs rfl hown1 ⟨w1.heap.size,0,none⟩ 1 1 [.int .u8 k',.int .i64 n',.string s',.slice A' l' c'] rfl rfl fB.out (by intro u hu;simp at hu;rcases hu with rfl|rfl|rfl|rfl<;>rfl) (by unfold maxLen;omega) (by omega) (by simp;omega) ?_;intro v' w' h2 h3 h4 h5)
   have hbl:Below w.heap.size w w':=(zkb (zka aR.out HB1.out) _).grown h3 (by simp;omega) (fun g e=>(hown1.lt g e).1);exact⟨⟨j+1,_,by omega,rfl,h2,hbl⟩,by simp[intOf];omega⟩
  ·obtain rfl:j=fs.length:=by omega
   clear hbw;go_wp2_with fail;go_ret;exact⟨_,_,_,rfl,aR.out⟩
theorem zyC(t:T)(fs:List FO)(L:Nat)(hL:fs.length=L)(A:Option Addr)(c:Nat)(S:Nat->Prop)(v:Value)(w:World)(hv:NV w Any t v)(hrow:RowF w S A fs)(hl:L<=100000)(h1:t.k=6\/t.k=7->1<=L)(h2:8<=t.k->t.k<=23/\2<=L)(h0:1<=t.k)(g:FO)(hg:valE t.k t.n fs=g) :
  Calls Tryz.prog 196 #[v,.slice A L c] w fun e w'=>e=.returned (.tuple #[.int .i64 g.v,.bool g.c])/\Below w.heap.size w w':=by
 subst hL hg;exact ztb t fs A c S v w hv hrow hl h1 h2 h0
theorem zzm(fs:List FO)(L:Nat)(hL:fs.length=L)(A:Option Addr)(c:Nat)(S:Nat->Prop)(w:World)(hrow:RowF w S A fs)(hl:L<=8) :
  Calls Tryz.prog 198 #[.slice A L c,.func (.func 199) #[] #[]] w fun e w'=>∃A' l' c',e=.returned (.slice A' l' c')/\Below w.heap.size w w':=by
 subst hL;exact zu1 fs A c S w hrow hl
theorem zyD{k n:Int}{fs:List FO}(hn:I64 n)(hf:∀f∈fs,I64 f.v):I64 (valE k n fs).v:=by
 have h0:I64 (fs[0]?.elim 0 (·.v)):=by
  cases fs with
  | nil=>simp[I64]
  | cons f fs=>simpa using hf f (by simp)
 unfold valE
 split
 ·split
  ·exact hn
  ·split
   ·simp[I64]
   ·split
    ·exact zzU
    ·exact zKy h0
 ·simp[I64]
theorem RowF.fits{w:World}{S:Nat->Prop}{A:Option Addr}{fs:List FO}(h:RowF w S A fs):∀f∈fs,I64 f.v:=fun f hf=>by
 obtain⟨i,hi,rfl⟩:=List.getElem_of_mem hf;obtain⟨_,_,_,_,h⟩:=h i hi;exact h
theorem zqy{k n:Int}{s:ByteArray}{ks:List T}(h:isE (.nd k n s ks)=true):1<=k/\k<=23/\ks.length<=2/\(k=6\/k=7->1<=ks.length)/\(8<=k->2<=ks.length):=by
 rw[isE]at h
 split at h
 ·simp only[Bool.and_eq_true,decide_eq_true_eq]at h;omega
 ·split at h
  ·simp only[Bool.and_eq_true,decide_eq_true_eq]at h;omega
  ·split at h
   ·simp only[Bool.and_eq_true,decide_eq_true_eq]at h;omega
   ·split at h
    ·simp only[Bool.and_eq_true,decide_eq_true_eq]at h;omega
    ·split at h
     ·simp only[Bool.and_eq_true,decide_eq_true_eq]at h;omega
     ·cases h
theorem zw3(t:T)(hE:isE t=true):zzR t:=by
 revert hE;refine T.ind (p:=fun t=>isE t=true->zzR t) ?_ t;intro k n s ks ih hE v w hv;have hk:=zp0 hE;have hsh:=zqy hE;have HV:=zh hv;obtain⟨A,c,rfl,hf,hlk,hlc,hrow⟩:=hv.open_;simp only[T.k_nd,T.n_nd,T.s_nd,T.ks_nd]at *
 have qi:=zh (fun t ht=>ih t ht (hk t ht));have aa:=zh hrow;obtain⟨g,hg⟩:=zX (valE k n (ks.map zlW));have hff:zlW (.nd k n s ks)=nrm g:=by rw[zlW,zpr,hg]
 rw[hff];have HG:=zh hg;have tO:=zh hsh;have uF:=zh hf;clear ih hk hrow hg hff hsh hE hlk hlc hf;go_enter Tryz.func191,Tryz.ntmps191;go_wp2_with fail;refine(zu2 ks A c _ (aa.out.later (zkb (zkb zr _) _)) (by have:=tO.out;omega) qi.out).mono ?_;rintro e w1 ⟨A1,c1,rfl,hrf,ae⟩;have q1:Below w.heap.size w w1:=zka (zkb (zkb zr _) _) ae;have hN:=zkc (zkd (heap_alloc_new w (.cells #[.int .u8 k,.int .i64 n,.string s,.slice A ks.length c] 24)) _) ae;have hR:=zkc (heap_alloc_new (w.alloc (.cells #[.int .u8 k,.int .i64 n,.string s,.slice A ks.length c] 24)) (.cells #[.int .u8 0,.int .i64 0,.string ⟨#[]⟩,.slice none 0 0,.int .i64 0,.bool false] 239)) ae;simp only[World.size_alloc]at hR;obtain⟨a0,a1,a2,a3⟩:=box4 hN;have HG64:=zh (show I64 g.v from HG.out▸zyD uF.out.2.1 hrf.fits);have HN:=zh hN;have HR:=zh hR;have yl:=zh hrf;clear ae hN hR hrf;go_wp2_with fail
 refine(zyC (.nd k n s ks) (ks.map zlW) ks.length (by simp) A1 c1 Any _ _ (HV.out.later q1) yl.out (by have:=tO.out;omega) tO.out.2.2.2.1 (fun h=>⟨tO.out.2.1,tO.out.2.2.2.2 h⟩) tO.out.1 g HG.out).mono ?_;rintro e w2 ⟨rfl,aj⟩;have q2:=zka q1 aj;have hN:=zkc HN.out aj;have hR:=zkc HR.out aj;obtain⟨gv,gc⟩:=g;dsimp only at *
 cases gc
 ·clear a0 a1 a2 a3;obtain⟨a0,a1,a2,a3⟩:=box4 hN;have HN:=zh hN;have HR:=zh hR;have HRF2:=zh (yl.out.later aj);clear hN hR aj;go_wp2_with fail;refine(zzm (ks.map zlW) ks.length (by simp) A1 c1 Any _ HRF2.out (by have:=tO.out;omega)).mono ?_;rintro e w3 ⟨A3,l3,c3,rfl,aT⟩;have q3:=zka q2 aT;have hN:=zkc HN.out aT;have hR:=zkc HR.out aT;have hz:w3.frozen? ⟨w.heap.size,3,none⟩=false:=zf hN;clear a0 a1 a2 a3;obtain⟨a0,a1,a2,a3⟩:=box4 hN;obtain⟨r0,r1,r2,r3,r4,r5⟩:=box6 hR;have rz:∀i,w3.frozen? ⟨w.heap.size+1,i,none⟩=false:=fun i=>zf hR;clear hN hR aT;go_wp2_with fail;refine bodyPost_ret (v:=fv k n s A3 l3 c3 ⟨0,false⟩) (by simp[results,Tryz.results191,go_sem,r0,r1,r2,r3,r4,r5]) rfl ⟨_,_,_,_,_,_,rfl,by simp[nrm,I64],?_⟩
  exact(((((((q3.setCell (by simp) _).setCell (by simp) _).setCell (by simp) _).setCell (by simp) _).setCell (by simp) _).setCell (by simp) _).setCell (by simp) _)
 ·clear a0 a1 a2 a3;obtain⟨r0,r1,r2,r3,r4,r5⟩:=box6 hR;have HN:=zh hN;have HR:=zh hR;clear hN hR aj;go_wp2_with fail;refine(zrq gv HG64.out _).mono ?_;rintro e w3 ⟨k3,n3,s3,A3,l3,c3,rfl,aT⟩;have q3:=zka q2 aT;have hR:=zkc HR.out aT;clear r0 r1 r2 r3 r4 r5;obtain⟨r0,r1,r2,r3,r4,r5⟩:=box6 hR;have rz:∀i,w3.frozen? ⟨w.heap.size+1,i,none⟩=false:=fun i=>zf hR;clear hR aT;go_wp2_with fail;refine bodyPost_ret (v:=fv k3 n3 s3 A3 l3 c3 ⟨gv,true⟩) (by simp[results,Tryz.results191,go_sem,r0,r1,r2,r3,r4,r5]) rfl ⟨_,_,_,_,_,_,rfl,HG64.out,?_⟩;exact((((((q3.setCell (by simp) _).setCell (by simp) _).setCell (by simp) _).setCell (by simp) _).setCell (by simp) _).setCell (by simp) _)
structure It(C:Nat->Prop)(W:World)(n0 l yb pb vb:Nat)(pv:Value)(q:List Int):Prop where
 y:W.heap[yb]?=some (.cells #[.func (.yield l) #[] #[]] 217 (0,0))
 v:W.heap[vb]?=some (.cells #[.func (.func 154) #[] #[.pointer (some ⟨yb,0,none⟩),.pointer (some ⟨pb,0,none⟩),.pointer (some ⟨vb,0,none⟩)]] 29 (0,0))
 p:W.heap[pb]?=some (.cells #[pv] 32 (0,0))
 row:W.ownsRow n0 3 1 pv q.length (q.map fun x=>Value.int .i64 x)
 fits:∀x∈q,I64 x
 gy:n0<=yb
 gp:n0<=pb
 gv:n0<=vb
 nyp:yb≠pb
 nvp:vb≠pb
 ry:pv.ownBlock≠some yb
 rp:pv.ownBlock≠some pb
 rv:pv.ownBlock≠some vb
 cy:¬ C yb
 cp:¬ C pb
 cv:¬ C vb
 cr:∀b,pv.ownBlock=some b->¬ C b
section
variable {C C' D:Nat->Prop} {W W':World} {n0 l yb pb vb:Nat} {pv pv':Value} {q q':List Int}
theorem It.lt(h:It C W n0 l yb pb vb pv q):yb<W.heap.size/\pb<W.heap.size/\vb<W.heap.size/\∀b,pv.ownBlock=some b->n0<=b/\b<W.heap.size:=⟨zkf h.y,zkf h.p,zkf h.v,h.row.lt⟩
theorem It.chg(h:It C W n0 l yb pb vb pv q)(hc:Chg D W W')(hD:∀b,b=yb\/b=pb\/b=vb\/pv.ownBlock=some b->¬ D b)(hC:∀b,b=yb\/b=pb\/b=vb\/pv.ownBlock=some b->¬ C' b):It C' W' n0 l yb pb vb pv q :=
 { h with
  y:=hc.keep h.y (hD _ (.inl rfl))
  v:=hc.keep h.v (hD _ (.inr (.inr (.inl rfl))))
  p:=hc.keep h.p (hD _ (.inr (.inl rfl)))
  row:=by
   obtain⟨e1,h2⟩:=h.row;refine⟨e1,?_⟩;rcases h2 with h2|⟨g,cap,cur,rfl,hb,hg,h3⟩
   ·exact .inl h2
   ·exact .inr ⟨g,cap,cur,rfl,hb,hc.keep hg (hD _ (.inr (.inr (.inr rfl)))),h3⟩
  cy:=hC _ (.inl rfl)
  cp:=hC _ (.inr (.inl rfl))
  cv:=hC _ (.inr (.inr (.inl rfl)))
  cr:=fun b hb=>hC _ (.inr (.inr (.inr hb))) }
theorem It.later(h:It C W n0 l yb pb vb pv q)(hb:Below W.heap.size W W'):It C W' n0 l yb pb vb pv q :=
 h.chg (D:=fun _=>False) (Chg.of_below hb) (fun _ _ h=>h) (fun b hb=>by
  rcases hb with rfl|rfl|rfl|hb
  ·exact h.cy
  ·exact h.cp
  ·exact h.cv
  ·exact h.cr b hb)
theorem It.put(h:It C W n0 l yb pb vb pv q)(ho:W'.ownsRow n0 3 1 pv' q'.length (q'.map fun x=>Value.int .i64 x))(hq:∀x∈q',I64 x)(hg:W.grownBy W' pv.ownBlock)
  (bu:∀b,pv'.ownBlock=some b->pv.ownBlock=some b\/W.heap.size<=b)(hC:∀b,C b->b<W.heap.size):It C (W'.setCell ⟨pb,0,none⟩ pv') n0 l yb pb vb pv' q':=by
 have hlt:=h.lt;have hc:Chg (fun b=>b=pb\/pv.ownBlock=some b) W (W'.setCell ⟨pb,0,none⟩ pv'):=((Chg.row hg).mono fun _ _ h=>.inr h).setCell (.inl (.inl rfl)) _;have hp':W'.heap[pb]?=some (.cells #[pv] 32 (0,0)):=(hg.block _ (zkf h.p) (fun e=>h.rp e.symm)).trans h.p;have kW:pv'.ownBlock≠some pb:=fun e=>by
  rcases bu _ e with e|e
  ·exact h.rp e
  ·have:=hlt.2.1;omega
 refine { h with
  y:=hc.keep h.y (fun hh=>by rcases hh with hh|hh;exact h.nyp hh;exact h.ry hh)
  v:=hc.keep h.v (fun hh=>by rcases hh with hh|hh;exact h.nvp hh;exact h.rv hh)
  p:=by have:=heap_setCell_same W' pb 0 _ _ pv' hp';simpa using this
  row:=?_
  fits:=hq
  ry:=fun e=>by
   rcases bu _ e with e|e
   ·exact h.ry e
   ·have:=hlt.1;omega
  rp:=kW
  rv:=fun e=>by
   rcases bu _ e with e|e
   ·exact h.rv e
   ·have:=hlt.2.2.1;omega
  cr:=fun b hb hcb=>by
   rcases bu _ hb with e|e
   ·exact h.cr b e hcb
   ·have:=hC b hcb;omega }
 obtain⟨e1,h2⟩:=ho;refine⟨e1,?_⟩;rcases h2 with h2|⟨g,cap,cur,rfl,hb,hg',h3⟩
 ·exact .inl h2
 ·refine .inr ⟨g,cap,cur,rfl,hb,?_,h3⟩;rw[Below.heap_setCell _ _ _ _ (fun e=>kW (by subst e;rfl))];exact hg'
end
def VisP(J Jx:List T->(Nat->Prop)->World->Prop)(n0 l yb pb vb:Nat)(pre xs:List T)(C:Nat->Prop)(pv:Value)(q:List Int)(W:World)(e:Ending)(W':World):Prop :=
 (e=.returned (.bool true)/\∃C' pv',J (pre++xs) C' W'/\It C' W' n0 l yb pb vb pv' q/\(∀b,C' b->C b\/W.heap.size<=b)/\(∀b,pv'.ownBlock=some b->pv.ownBlock=some b\/W.heap.size<=b)/\Chg (fun b=>C b\/b=pb\/pv.ownBlock=some b) W W') \/
 (e=.returned (.bool false)/\∃pre' C',Jx pre' C' W'/\Chg (fun b=>C b\/b=pb\/pv.ownBlock=some b) W W')
def VInv(J:List T->(Nat->Prop)->World->Prop)(n0 l yb pb vb:Nat)(pre:List T)(t:T)(done:List T)(C:Nat->Prop)(pv:Value)(q:List Int)(W0 wr:World)(C':Nat->Prop)(pv':Value):Prop :=
 J (pre++(t::done)) C' wr/\It C' wr n0 l yb pb vb pv' q/\(∀b,C' b->C b\/W0.heap.size<=b)/\(∀b,pv'.ownBlock=some b->pv.ownBlock=some b\/W0.heap.size<=b)/\Chg (fun b=>C b\/b=pb\/pv.ownBlock=some b) W0 wr
theorem zxg:IsFn Tryz.prog 152 Tryz.f152:=⟨Tryz.func152,by kernel_rfl,by kernel_rfl⟩
theorem ztA(n l n0 yb pb vb:Nat)(R:Nat->Prop)(xs:List T)(J Jx:List T->(Nat->Prop)->World->Prop)(hJ:∀pre C W W',J pre C W->Chg (fun b=>¬ C b) W W'->J pre C W')(fq:∀pre C W,J pre C W->∀b,C b->b<W.heap.size)
  (hR:∀b,R b->b<n0)(hl0:l<n0)
  (hY:∀pre x C W pv v,J pre C W->(pre++[x]) <+: xs->(∃A m c,pv=.slice A m c)->NV W (fun b=>l<b) x v ->
   YieldAt (Fw none) (n-1) Tryz.prog l #[pv,v] W fun e W' =>
    (e=.returned (.bool true)/\∃C',J (pre++[x]) C' W'/\(∀b,C' b->C b\/W.heap.size<=b)/\Chg C W W') \/
    (e=.returned (.bool false)/\∃C',Jx (pre++[x]) C' W'/\Chg C W W')) (t:T) :
  ∀(pre:List T) (C:Nat->Prop) (W:World) (pv:Value) (q:List Int) (v:Value),J pre C W->It C W n0 l yb pb vb pv q->NV W R t v->(∀b,C b->¬ R b)->(pre++po t) <+: xs->q.length+dep t<=1000 ->
   Calls Tryz.prog 154 #[v,.pointer (some ⟨yb,0,none⟩),.pointer (some ⟨pb,0,none⟩),.pointer (some ⟨vb,0,none⟩)] W (VisP J Jx n0 l yb pb vb pre (po t) C pv q W):=by
 have HJ:=zh hJ;have jZ:=zh fq;have HY:=zh hY;have HRR:=zh hR;clear hJ fq hY hR;obtain⟨i0,hi0,hz0,hz1,hz2⟩:=info_parts znN
 induction t using T.ind with
 | _ k nn s ks ih =>
 intro pre C W pv q v hj hit hv gQ hpre hdep;have qi:=zh ih;have jr:=zh hj;have HIT:=zh hit;have HV:=zh hv;have vR:=zh gQ;have cz:=zh hpre;obtain⟨A,c,rfl,hf,hlk,hlc,hrow⟩:=hv.open_;simp only[T.k_nd,T.n_nd,T.s_nd,T.ks_nd]at *
 have az:=zkF hlk;have aa:=zh hrow;have hlts:=hit.lt;obtain⟨Ap,cp,rfl,hcp,aV⟩:=zlj hit.row hit.fits;have bX:=zh aV;have HLT:=zh hlts;have hly:=hlts.1;have hlp:=hlts.2.1;have hlv:=hlts.2.2.1;clear ih hj hit hv gQ hpre hrow aV hlts hcp hlc;simp only[dep]at hdep;have lX:q.length<=1000:=by omega
 go_enter Tryz.func154,Tryz.ntmps154;go_upto_region 1 with fail;have hbW:=(zs W).alloc zl (.cells #[.int .u8 k,.int .i64 nn,.string s,.slice A ks.length c] 24);obtain⟨W0,hW0⟩:=zX (W.alloc (.cells #[.int .u8 k,.int .i64 nn,.string s,.slice A ks.length c] 24));rw[hW0]at hbW ⊢;have hnb:W0.heap[W.heap.size]?=some (.cells #[.int .u8 k,.int .i64 nn,.string s,.slice A ks.length c] 24 (0,0)):=by rw[<-hW0];exact heap_alloc_new W _
 have HZ0:=zh (show W0.heap.size=W.heap.size+1 by rw[<-hW0];simp);have aR:=zh hbW;have yo:=zh hnb;have ik:=zh (HIT.out.later hbW);have HS:=zh (show ∀w':World,w'.heap[yb]?=W0.heap[yb]?->w'.heap[pb]?=W0.heap[pb]?->w'.heap[W.heap.size]?=W0.heap[W.heap.size]?->(fun w':World=>(zv w' yb 0 (.func (.yield l) #[] #[]))/\(zv w' pb 0 (.slice Ap q.length cp))/\zN4 w' W.heap.size (.int .u8 k) (.int .i64 nn) (.string s) (.slice A ks.length c)) w' from fun w' h1 h2 h3=>⟨zc (h1.trans ik.out.y) rfl,zc (h2.trans ik.out.p) rfl,box4 (h3.trans hnb)⟩)
 have mi:=zh (show ∀w':World,Below W0.heap.size W0 w'->(fun w':World=>(zv w' yb 0 (.func (.yield l) #[] #[]))/\(zv w' pb 0 (.slice Ap q.length cp))/\zN4 w' W.heap.size (.int .u8 k) (.int .i64 nn) (.string s) (.slice A ks.length c)) w' from fun w' h=>HS.out w' (h.block _ (by have:=ik.out.lt.1;omega)) (h.block _ (by have:=ik.out.lt.2.1;omega)) (h.block _ (zkf hnb)));clear hW0 hbW hnb;have hdr:=(zs W0).drew;have hSS:(fun w':World=>(zv w' yb 0 (.func (.yield l) #[] #[]))/\(zv w' pb 0 (.slice Ap q.length cp))/\zN4 w' W.heap.size (.int .u8 k) (.int .i64 nn) (.string s) (.slice A ks.length c)) W0.drew:=mi.out _ hdr;refine wp_region_noPanic ?_;refine(wpIn_wide (n:=n)).1 ?_
 refine zlS (ro:=none) (fun w':World=>(zv w' yb 0 (.func (.yield l) #[] #[]))/\(zv w' pb 0 (.slice Ap q.length cp))/\zN4 w' W.heap.size (.int .u8 k) (.int .i64 nn) (.string s) (.slice A ks.length c)) (by kernel_rfl) ?_;refine zI 0 hSS ?_;refine zI 1 hSS ?_;refine zI 3 hSS ?_;refine zpL (i:=2) (by kernel_rfl) rfl (by kernel_rfl) (by rfl) (fun K hK=>?_);refine znF (by rfl) (.func 48) (.tmp 9) _ (by rfl) 48 _ zmW (by rfl) _ (by rfl) _ (znr (zpK q Ap cp _ _ ((bX.out.later aR.out).later hdr) (by unfold LI;omega))) ?_;rintro v2 w2 ⟨A2,c2,rfl,_,_,aj⟩;have b2:=zka hdr aj;have aJ:(fun w':World=>(zv w' yb 0 (.func (.yield l) #[] #[]))/\(zv w' pb 0 (.slice Ap q.length cp))/\zN4 w' W.heap.size (.int .u8 k) (.int .i64 nn) (.string s) (.slice A ks.length c)) w2:=mi.out _ b2;refine hK.out _ _ aJ ?_;clear hK K hSS;(try simp only[zQ])
 refine zpL (i:=4) (by kernel_rfl) rfl (by kernel_rfl) (by rfl) (fun K hK=>?_);refine znF (by rfl) (.func 152) (.tmp 11) _ (by rfl) 152 _ zxg (by rfl) _ (by rfl) _ (zyW (zqW (.nd k nn s ks) _ _ ((HV.out.later aR.out).later b2).any)) ?_;rintro v3 w3 ⟨k3,n3,s3,A3,l3,c3,rfl,bz,aT⟩;have b3:=zka b2 aT;have bB:(fun w':World=>(zv w' yb 0 (.func (.yield l) #[] #[]))/\(zv w' pb 0 (.slice Ap q.length cp))/\zN4 w' W.heap.size (.int .u8 k) (.int .i64 nn) (.string s) (.slice A ks.length c)) w3:=mi.out _ b3;refine hK.out _ _ bB ?_;clear hK K aJ;(try simp only[zQ]);have ow:=zka aR.out b3;have kF:=HJ.out _ _ _ _ jr.out (Chg.of_below ow);have hit3:=HIT.out.later ow;obtain⟨yG,mG,yI,yH,yR,vX⟩:=HY.out pre (.nd k nn s ks) C w3 (.slice A2 q.length c2) (nv k3 n3 s3 A3 l3 c3) kF (by
  have:=cz.out;simp only[po]at this;exact(List.prefix_append_right_inj pre).2 ⟨_,rfl⟩ |>.trans this) ⟨_,_,_,rfl⟩ (bz.mono fun b hb=>by have h1:=HIT.out.gp;have h2:=b2.size;have h3:=HZ0.out;have h4:w2.heap.size<=b:=hb;omega)
 refine zqf (i:=5) (by kernel_rfl) rfl (by kernel_rfl) (by rfl) (l:=l) (f:=yG) (tmps:=mG) (assign:=yI) (body:=yH) ?_ vX ?_
 ·(try simp only[zA,zB,zC]);go_simp
 ·clear yR vX;rintro e W1 (⟨rfl,C1,hj1,bH,dM⟩|⟨rfl,C1,oV,dM⟩)
  ·have ed:(fun w':World=>(zv w' yb 0 (.func (.yield l) #[] #[]))/\(zv w' pb 0 (.slice Ap q.length cp))/\zN4 w' W.heap.size (.int .u8 k) (.int .i64 nn) (.string s) (.slice A ks.length c)) W1:=HS.out _ ((dM.block _ (by have:=hit3.lt.1;omega) hit3.cy).trans (b3.block _ (by have:=ik.out.lt.1;omega))) ((dM.block _ (by have:=hit3.lt.2.1;omega) hit3.cp).trans (b3.block _ (by have:=ik.out.lt.2.1;omega))) ((dM.block _ (by have:=ow.size;have:=b3.size;have:=HZ0.out;omega) (fun h=>by have:=jZ.out _ _ _ jr.out _ h;omega)).trans (b3.block _ (by have:=HZ0.out;omega)));refine⟨_,rfl,ed,?_⟩;(try simp only[zQ]);refine zI 6 ed ?_;refine znm (by kernel_rfl) ?_;refine NoPanic.normal ?_;obtain⟨_,_,_,_,_,m3⟩:=ed;have hit1:It C1 W1 n0 l yb pb vb (.slice Ap q.length cp) q:=hit3.chg dM (fun b hb=>by
    rcases hb with rfl|rfl|rfl|hb
    ·exact hit3.cy
    ·exact hit3.cp
    ·exact hit3.cv
    ·exact hit3.cr b hb) (fun b hb hc=>by
    have hl3:=hit3.lt;rcases bH b hc with h|h
    ·rcases hb with rfl|rfl|rfl|hb
     ·exact hit3.cy h
     ·exact hit3.cp h
     ·exact hit3.cv h
     ·exact hit3.cr b hb h
    ·rcases hb with rfl|rfl|rfl|hb
     ·omega
     ·omega
     ·omega
     ·have:=hl3.2.2.2 b hb;omega)
   have HI0:=zh (show VInv J n0 l yb pb vb pre (.nd k nn s ks) [] C (.slice Ap q.length cp) q W0 W1 C1 (.slice Ap q.length cp)from⟨hj1,hit1,fun b hb=>by
    have:=b3.size;rcases bH b hb with h|h
    ·exact .inl h
    ·exact .inr (by omega),fun b hb=>.inl hb,(Chg.of_below b3).trans2 dM fun b _ h=>.inl h⟩)
   clear hj1 bH dM bB kF hit3 hit1 b3 b2 ow aj aT bz hdr jr ik mi HS bX;go_wp2_with fail
   go_loopw [18] (fun i wr=>∃(j:Nat) (C':Nat->Prop) (pv':Value),j<=ks.length/\i=.int .i64 j/\VInv J n0 l yb pb vb pre (.nd k nn s ks) (pos (ks.take j)) C (.slice Ap q.length cp) q W0 wr C' pv') (fun i _=>ks.length-(intOf i).toNat)
   case atStart=>exact⟨0,C1,_,Nat.zero_le _,rfl,HI0.out⟩
   case round =>
    obtain⟨j,C',pv',hj,rfl,hinv⟩:=hrel;have ah:=zh hinv;clear m3 HI0;by_cases hlt:j<ks.length
    ·obtain⟨hjj,hit,qL,bu,hch⟩:=hinv;have hn0p:=hit.gp;have hrow:=aa.out.keep (w':=wr) (S':=R) (fun b hb _=>hb) (fun b hb hblt=>by
      have hb0:=HRR.out b hb;rw[hch.block b (by have:=HZ0.out;omega) (fun h=>by
       rcases h with h|h|h
       ·exact vR.out b h hb
       ·omega
       ·have:=HLT.out.2.2.2 b h;omega)]
      exact aR.out.block b hblt)
     obtain⟨a,u,A1,c1,rfl,_,Hu,⟨q0,q1,q2,q3⟩,hnu⟩:=hrow.nd hlt;obtain⟨Aq,cq,rfl,_,_⟩:=zlj hit.row hit.fits;have p1:wr.cell? ⟨pb,0,none⟩=some (.slice Aq q.length cq):=zc hit.p rfl;have rV:=hit.lt;have ek:=jZ.out _ _ _ hjj;have hn0w:n0<=wr.heap.size:=by have:=rV.2.1;omega
     have hsz0:=hch.size;have bk:Below wr.heap.size wr ((wr.alloc (.cells #[.int .u8 u.k,.int .i64 u.n,.string u.s,.slice A1 u.ks.length c1] 24)).alloc (.cells #[.int .i64 (j:Int)] 3)):=(zr.alloc zl _).alloc (by simp) _;have oW:=hit.later bk;have hpk:=oW.p;have p2:(wr.alloc (.cells #[.int .u8 u.k,.int .i64 u.n,.string u.s,.slice A1 u.ks.length c1] 24)).cell? ⟨pb,0,none⟩=some (.slice Aq q.length cq):=zkj p1 _;have hm1:q.length+1<=maxLen:=by unfold maxLen;omega
     have hm2:(q.length+1)*8<=140737488355328:=by omega
     have HJJ:=zh hjj;have j3:=zh oW;have uA:=zh hit;have uf:=zh hnu;have aP:=zh qL;have HOB:=zh bu;have HCHR:=zh hch;have kM:=zh rV;have dB:=zh ek;have hrowk:=oW.row;have hbI:=zoU;have hnew:∀(i:Nat) (u':Value),[Value.int .i64 (j:Int)][i]?=some u'->((wr.alloc (.cells #[.int .u8 u.k,.int .i64 u.n,.string u.s,.slice A1 u.ks.length c1] 24)).alloc (.cells #[.int .i64 (j:Int)] 3)).cell? ((⟨wr.heap.size+1,0,none⟩:Addr).add i)=some u':=fun i u' h=>by
      have:=zkY (wr.alloc (.cells #[.int .u8 u.k,.int .i64 u.n,.string u.s,.slice A1 u.ks.length c1] 24)) 3 [Value.int .i64 (j:Int)] i u' h;simpa using this
     clear hjj hit qL bu hch hrow hnu oW ek rV
     go_wp2_with (at_builtin;refine wpList_append_own_at (P:=Tryz.prog) _ rfl (.tmp 23) (.tmp 25) 32 rfl n0 3 i0 _ 1 8 Tryz.underlying32 hi0 hz0 hz1 hz2 rfl (by decide) (.slice Aq q.length cq) q.length _ rfl hrowk ⟨wr.heap.size+1,0,none⟩ 1 1 [.int .i64 (j:Int)] rfl rfl hnew (by intro u' hu';simp at hu';subst hu';rfl) hm1 hm2 (by simp;omega) ?_;intro v2 w2 h2 h3 h4 h5;obtain⟨g2,cap2,rfl⟩:=ownsRow_succ h2;have hbx:=(h3.block _ (zkf hpk) (fun e=>j3.out.rp e.symm)).trans hpk;have hy0:w2.cell? ⟨pb,0,none⟩=some (.slice Aq q.length cq):=zc hbx rfl;have hy1:w2.frozen? ⟨pb,0,none⟩=false:=zf hbx;have rP:∀b,(Value.slice (some ⟨g2,0,none⟩) (q.length+1) cap2).ownBlock=some b->(Value.slice Aq q.length cq).ownBlock=some b\/((wr.alloc (.cells #[.int .u8 u.k,.int .i64 u.n,.string u.s,.slice A1 u.ks.length c1] 24)).alloc (.cells #[.int .i64 (j:Int)] 3)).heap.size<=b:=(fun b hb=>by rcases h5 with h5|h5;exact .inl (h5▸hb);exact .inr (by rw[hb]at h5;injection h5 with h5;omega));have hst:=j3.out.put (q':=q++[(j:Int)]) (by simpa using h2) (by intro x hx;simp only[List.mem_append,List.mem_singleton]at hx;rcases hx with hx|rfl;exact j3.out.fits x hx;exact⟨by omega,by omega⟩) h3 rP (fun b hb=>by have:=dB.out b hb;simp;omega);have hkb:w2.heap[wr.heap.size]?=some (.cells #[.int .u8 u.k,.int .i64 u.n,.string u.s,.slice A1 u.ks.length c1] 24 (0,0)):=(h3.block _ (by simp;omega) (fun e=>by have:=kM.out.2.2.2 _ e.symm;omega)).trans (zkd (heap_alloc_new wr (.cells #[.int .u8 u.k,.int .i64 u.n,.string u.s,.slice A1 u.ks.length c1] 24)) _);have hvb:w2.heap[vb]?=some _:=(h3.block _ (zkf j3.out.v) (fun e=>j3.out.rv e.symm)).trans j3.out.v;have y3:w2.cell? ⟨vb,0,none⟩=some (.func (.func 154) #[] #[.pointer (some ⟨yb,0,none⟩),.pointer (some ⟨pb,0,none⟩),.pointer (some ⟨vb,0,none⟩)]):=zc hvb rfl;obtain⟨k0,k1,k2,k3'⟩:=box4 hkb;have HST:=zh hst;have vQ:=zh h3;have HOB2:=zh rP;have hne1:¬ wr.heap.size=pb:=(fun e=>by have:=kM.out.2.1;omega);have hne2:¬ pb=wr.heap.size:=(fun e=>hne1 e.symm);have hne3:¬ vb=pb:=j3.out.nvp;have hne4:¬ pb=vb:=(fun e=>hne3 e.symm);clear h2 h3 h4 h5 hst hbx hkb hvb rP)
     have mR:Chg (fun b=>b=pb\/(Value.slice Aq q.length cq).ownBlock=some b) wr (w2.setCell ⟨pb,0,none⟩ (.slice (some ⟨g2,0,none⟩) (q.length+1) cap2)):=((((Chg.refl _ wr).alloc _).alloc _).trans2 (Chg.row vQ.out) (fun b _ h=>.inr h)).setCell (.inl (.inl rfl)) _;have hszA:=mR.size;have hjA:J (pre++((.nd k nn s ks)::pos (ks.take j))) C' (w2.setCell ⟨pb,0,none⟩ (.slice (some ⟨g2,0,none⟩) (q.length+1) cap2)):=HJ.out _ _ _ _ HJJ.out (mR.mono fun b _ hb hc=>by
      rcases hb with rfl|hb
      ·exact uA.out.cp hc
      ·exact uA.out.cr b hb hc)
     have hnA:NV (w2.setCell ⟨pb,0,none⟩ (.slice (some ⟨g2,0,none⟩) (q.length+1) cap2)) R u (nv u.k u.n u.s A1 u.ks.length c1):=uf.out.keep (fun b hb _=>hb) (fun b hb hblt=>mR.block b hblt (fun h=>by
      have hb0:=HRR.out b hb;rcases h with h|h
      ·have:=uA.out.gp;omega
      ·have:=(kM.out.2.2.2 b h).1;omega))
     have hCRA:∀b,C' b->¬ R b:=fun b hb hr=>by
      rcases aP.out b hb with h|h
      ·exact vR.out b h hr
      ·have:=HRR.out b hr;have:=HIT.out.gp;have:=HZ0.out;omega
     have hpreA:(pre++((.nd k nn s ks)::pos (ks.take j)))++po u <+: xs:=by
      have h:=cz.out;refine List.IsPrefix.trans ?_ h;rw[List.append_assoc];refine(List.prefix_append_right_inj pre).2 ?_;simp only[po,List.cons_append,List.prefix_cons_inj];rw[<-Hu.out];exact zyQ hlt
     have hdA:(q++[(j:Int)]).length+dep u<=1000:=by
      have:dep u<=deps ks:=by rw[<-Hu.out];exact zpE (List.getElem_mem hlt)
      simp;omega
     have HC:=zh (qi.out u (by rw[<-Hu.out];exact List.getElem_mem hlt) _ C' _ _ _ _ hjA HST.out hnA hCRA hpreA hdA);have HCHA:=zh mR;have HSZA:=zh hszA;have hE:=HST.out.lt.2.1;clear hjA hnA hCRA hpreA hdA mR hszA;have HCHW:=zh (show Chg (fun b=>C b\/b=pb\/(Value.slice Ap q.length cp).ownBlock=some b) W0 (w2.setCell ⟨pb,0,none⟩ (.slice (some ⟨g2,0,none⟩) (q.length+1) cap2))from HCHR.out.trans2 HCHA.out fun b hb h=>by
      rcases h with h|h
      ·exact .inr (.inl h)
      ·rcases HOB.out b h with h|h
       ·exact .inr (.inr h)
       ·omega)
     have tZ:=zh (show ∀b,(Value.slice (some ⟨g2,0,none⟩) (q.length+1) cap2).ownBlock=some b->(Value.slice Ap q.length cp).ownBlock=some b\/W0.heap.size<=b from fun b hb=>by
      rcases HOB2.out b hb with h|h
      ·exact HOB.out b h
      ·exact .inr (by simp at h;omega))
     refine HC.out.mono ?_;rintro e W5 (⟨rfl,C2,yM,hj2,hit2,hC2,hob3,aI⟩|⟨rfl,pre',C2,mM,aI⟩)
     ·have hrow2:=hit2.row;rw[show(q++[(j:Int)]).length=q.length+1 by simp]at hrow2;obtain⟨g3,jS,rfl⟩:=ownsRow_succ hrow2;have hcap3:q.length<=jS:=by
       rcases hrow2.2 with⟨h,_⟩|⟨g',cap',cur,hv',_,_,hc',_⟩
       ·cases h
       ·cases hv';omega
      have hcap4:(q.length:Int)<=(jS:Int):=by omega
      have hlt2:=hit2.lt;have x0:W5.cell? ⟨pb,0,none⟩=some (.slice (some ⟨g3,0,none⟩) (q.length+1) jS):=zc hit2.p rfl;have x1:W5.frozen? ⟨pb,0,none⟩=false:=zf hit2.p;have oN:=ownsRow_pop (size:=1) (n:=q.length) (xs:=q.map fun x=>Value.int .i64 x) (last:=[.int .i64 (j:Int)]) (by simp) (by simpa using hrow2);have hC2l:=jZ.out _ _ _ hj2;have iJ:=hit2.put (q':=q) oN HIT.out.fits (zox _ _) (fun b hb=>.inl hb) hC2l;have hjF:J (pre++((.nd k nn s ks)::pos (ks.take (j+1)))) C2 (W5.setCell ⟨pb,0,none⟩ (.slice (some ⟨g3,0,none⟩) q.length jS)):=by
       have:=HJ.out _ _ _ _ hj2 (((Chg.refl (fun b=>b=pb) W5).setCell (p:=⟨pb,0,none⟩) (.inl rfl) (.slice (some ⟨g3,0,none⟩) q.length jS)).mono fun b _ hb hc=>by rw[show b=pb from hb]at hc;exact hit2.cp hc);rw[zr4 hlt,Hu.out];simpa using this
      have HF:=zh (show VInv J n0 l yb pb vb pre (.nd k nn s ks) (pos (ks.take (j+1))) C (.slice Ap q.length cp) q W0 (W5.setCell ⟨pb,0,none⟩ (.slice (some ⟨g3,0,none⟩) q.length jS)) C2 (.slice (some ⟨g3,0,none⟩) q.length jS)from⟨hjF,iJ,fun b hb=>by
        rcases hC2 b hb with h|h
        ·exact aP.out b h
        ·exact .inr (by have:=HSZA.out;omega),fun b hb=>by
        rcases hob3 b hb with h|h
        ·exact tZ.out b h
        ·exact .inr (by have:=HSZA.out;omega),(HCHW.out.trans2 aI fun b hb h=>by
        rcases h with h|h|h
        ·rcases aP.out b h with h|h
         ·exact .inl h
         ·omega
        ·exact .inr (.inl h)
        ·rcases tZ.out b h with h|h
         ·exact .inr (.inr h)
         ·omega).setCell (.inl (.inr (.inl rfl))) _⟩)
      clear hrow2 hlt2 oN hC2l iJ hjF hj2 hit2 hC2 hob3 aI;go_wp2_with fail
      go_roundw
      case rel=>exact⟨j+1,C2,_,by omega,by go_num,HF.out⟩
      case measure=>simp[intOf];omega
     ·have HX:=zh mM;have HF:=zh (show Chg (fun b=>C b\/b=pb\/(Value.slice Ap q.length cp).ownBlock=some b) W W5 from(Chg.of_below aR.out).trans2 (HCHW.out.trans2 aI fun b hb h=>by
        rcases h with h|h|h
        ·rcases aP.out b h with h|h
         ·exact .inl h
         ·omega
        ·exact .inr (.inl h)
        ·rcases tZ.out b h with h|h
         ·exact .inr (.inr h)
         ·omega) fun b _ h=>h)
      clear mM aI;go_wp2_with fail;go_ret;exact .inr ⟨rfl,_,_,HX.out,HF.out⟩
    ·obtain rfl:j=ks.length:=by omega
     clear hinv;go_wp2_with fail;go_ret;have hinv:=ah.out;rw[List.take_of_length_le zl]at hinv;obtain⟨hjj,hit,qL,bu,hch⟩:=hinv;refine .inl ⟨rfl,C',pv',by simpa[po]using hjj,hit,fun b hb=>(qL b hb).imp id fun h=>?_,fun b hb=>(bu b hb).imp id fun h=>?_,(Chg.of_below aR.out).trans2 hch fun b _ h=>h⟩
     ·have:=HZ0.out;omega
     ·have:=HZ0.out;omega
  ·have ed:(fun w':World=>(zv w' yb 0 (.func (.yield l) #[] #[]))/\(zv w' pb 0 (.slice Ap q.length cp))/\zN4 w' W.heap.size (.int .u8 k) (.int .i64 nn) (.string s) (.slice A ks.length c)) W1:=HS.out _ ((dM.block _ (by have:=hit3.lt.1;omega) hit3.cy).trans (b3.block _ (by have:=ik.out.lt.1;omega))) ((dM.block _ (by have:=hit3.lt.2.1;omega) hit3.cp).trans (b3.block _ (by have:=ik.out.lt.2.1;omega))) ((dM.block _ (by have:=ow.size;have:=b3.size;have:=HZ0.out;omega) (fun h=>by have:=jZ.out _ _ _ jr.out _ h;omega)).trans (b3.block _ (by have:=HZ0.out;omega)));refine⟨_,rfl,ed,?_⟩;(try simp only[zQ]);refine zI 6 ed ?_;refine znm (by kernel_rfl) ?_;refine NoPanic.normal ?_;have xu:=zh oV;have bN:=zh ((Chg.of_below (C:=fun b=>C b\/b=pb\/(Value.slice Ap q.length cp).ownBlock=some b) ow).trans2 dM fun b _ h=>.inl h);clear oV dM ed bB kF hit3;go_wp2_with fail
   go_ret;exact .inr ⟨rfl,_,_,xu.out,bN.out⟩
theorem zoW(n gr:Nat)(t:T)(W:World)(S:Nat->Prop)(k nn:Int)(s:ByteArray)(A:Option Addr)(m c:Nat)(hgr:W.heap[gr]?=some (.cells #[.int .u8 k,.int .i64 nn,.string s,.slice A m c] 24 (0,0)))
  (hn:NV W S t (nv k nn s A m c))(hd:dep t<=1000):zKB n Tryz.prog 153 #[.pointer (some ⟨gr,0,none⟩)] (po t) (fun b=>b=gr\/S b) W:=by
 intro l J Jx C W1 hl0 gQ hch hJ fq hY h0;refine(callsIn_wide (n:=n)).2 ?_;have oZ:=hch.keep hgr fun h=>gQ _ h (.inl rfl);have hn1:NV W1 (fun b=>S b/\b<W1.heap.size) t (nv k nn s A m c):=hn.keep (fun b hb hlt=>⟨hb,Nat.lt_of_lt_of_le hlt hch.size⟩) fun b hb hlt=>hch.block b hlt fun h=>gQ _ h (.inr hb);have hgl:=zkf oZ;have HJ:=zh hJ;have jZ:=zh fq;have HY:=zh hY;have H0:=zh h0;have HN:=zh hn1;have vQ:=zh oZ;have HC:=zh (show ∀b,C b->¬ (S b/\b<W1.heap.size)from fun b hb hs=>gQ b hb (.inr hs.1));obtain⟨m0,m1,m2,m3⟩:=box4 oZ;have z0:=fun o1 o2 o3=>zkj (zkj (zkj m0 o1) o2) o3;have z1:=fun o1 o2 o3=>zkj (zkj (zkj m1 o1) o2) o3;have z2:=fun o1 o2 o3=>zkj (zkj (zkj m2 o1) o2) o3;have z3:=fun o1 o2 o3=>zkj (zkj (zkj m3 o1) o2) o3;clear gQ hch hJ fq hY h0 hgr hn hn1 oZ m0 m1 m2 m3
 show Calls Tryz.prog 153 #[.func (.yield l) #[] #[],.pointer (some ⟨gr,0,none⟩)] W1 _
 go_enter Tryz.func153,Tryz.ntmps153;go_wp2_with fail;obtain⟨Wv,wI⟩:=zX ((((W1.alloc (.cells #[.func (.yield l) #[] #[]] 217)).alloc (.cells #[.slice none 0 0] 32)).alloc (.cells #[.func (.func 154) #[] #[.pointer (some ⟨W1.heap.size,0,none⟩),.pointer (some ⟨W1.heap.size+1,0,none⟩),.pointer (some ⟨W1.heap.size+1+1,0,none⟩)]] 29)));have hb3:Below W1.heap.size W1 Wv:=by rw[<-wI];exact zkb (zkb (zkb zr _) _) _
 have hit:It C Wv W1.heap.size l W1.heap.size (W1.heap.size+1) (W1.heap.size+1+1) (.slice none 0 0) []:=by
  have ek:=jZ.out _ _ _ H0.out;have hy:=zkd (zkd (heap_alloc_new W1 (.cells #[.func (.yield l) #[] #[]] 217)) (.cells #[.slice none 0 0] 32)) (.cells #[.func (.func 154) #[] #[.pointer (some ⟨W1.heap.size,0,none⟩),.pointer (some ⟨W1.heap.size+1,0,none⟩),.pointer (some ⟨W1.heap.size+1+1,0,none⟩)]] 29);have hp:=zkd (heap_alloc_new (W1.alloc (.cells #[.func (.yield l) #[] #[]] 217)) (.cells #[.slice none 0 0] 32)) (.cells #[.func (.func 154) #[] #[.pointer (some ⟨W1.heap.size,0,none⟩),.pointer (some ⟨W1.heap.size+1,0,none⟩),.pointer (some ⟨W1.heap.size+1+1,0,none⟩)]] 29);have hv:=heap_alloc_new ((W1.alloc (.cells #[.func (.yield l) #[] #[]] 217)).alloc (.cells #[.slice none 0 0] 32)) (.cells #[.func (.func 154) #[] #[.pointer (some ⟨W1.heap.size,0,none⟩),.pointer (some ⟨W1.heap.size+1,0,none⟩),.pointer (some ⟨W1.heap.size+1+1,0,none⟩)]] 29);simp only[World.size_alloc]at hp hv
  rw[wI]at hy hp hv;exact⟨hy,hv,hp,World.ownsRow_nil _ _ _ _,(by simp),by omega,by omega,by omega,by omega,by omega,by simp[Value.ownBlock],by simp[Value.ownBlock],by simp[Value.ownBlock],
   (fun h=>by have:=ek _ h;omega),(fun h=>by have:=ek _ h;omega),(fun h=>by have:=ek _ h;omega),(by simp[Value.ownBlock])⟩
 rw[wI];have hj:=HJ.out _ _ _ _ H0.out (Chg.of_below hb3);refine(ztA n l W1.heap.size W1.heap.size (W1.heap.size+1) (W1.heap.size+1+1) (fun b=>S b/\b<W1.heap.size) (po t) J Jx HJ.out jZ.out (fun b hb=>hb.2) hl0 HY.out t [] C Wv (.slice none 0 0) [] _ hj hit (HN.out.later hb3) HC.out (by simp) (by simpa using hd)).mono ?_;rintro e W5 (⟨rfl,C2,yM,hj2,-,-,-,aI⟩|⟨rfl,pre',C2,mM,aI⟩)
 ·have HF:=zh (show Chg C W1 W5 from(Chg.of_below hb3).trans2 aI fun b hb h=>by
   rcases h with h|h|h
   ·exact h
   ·omega
   ·simp[Value.ownBlock]at h)
  have HX:=zh hj2;clear hj2 aI z0 z1 z2 z3 wI hit hj;go_wp2_with fail;go_end0;exact⟨⟨_,rfl⟩,.inl ⟨C2,by simpa using HX.out,HF.out⟩⟩
 ·have HF:=zh (show Chg C W1 W5 from(Chg.of_below hb3).trans2 aI fun b hb h=>by
   rcases h with h|h|h
   ·exact h
   ·omega
   ·simp[Value.ownBlock]at h)
  have HX:=zh mM;clear mM aI z0 z1 z2 z3 wI hit hj;go_wp2_with fail;go_end0;exact⟨⟨_,rfl⟩,.inr ⟨pre',C2,HX.out,HF.out⟩⟩
theorem zsD(t:T)(v:Value)(w:World)(hv:NV w Any t v):Calls Tryz.prog 134 #[v] w fun e w'=>∃gr k n s A m c,e=.returned (.func (.func 153) #[] #[.pointer (some ⟨gr,0,none⟩)])/\w.heap.size<=gr /\
  w'.heap[gr]?=some (.cells #[.int .u8 k,.int .i64 n,.string s,.slice A m c] 24 (0,0))/\NV w' (fun b=>w.heap.size<=b/\b<w'.heap.size) t (nv k n s A m c)/\Below w.heap.size w w':=by
 have HV:=zh hv;obtain⟨A,c,rfl,-⟩:=hv.open_;clear hv;generalize t.k=k,t.n=n,t.s=s,t.ks.length=m at *
 go_enter Tryz.func134,Tryz.ntmps134;go_wp2_with fail;refine(zqW t _ _ (HV.out.later (zr.alloc zl _))).mono ?_;rintro e w1 ⟨k1,n1,s1,A1,m1,c1,rfl,hn1,ae⟩;have hb:Below w.heap.size w (w1.alloc (.cells #[.int .u8 k1,.int .i64 n1,.string s1,.slice A1 m1 c1] 24)):=zkb (zka (zkb zr _) ae) _;have HB:=zh hb;have HZ:=zh (show w.heap.size<=w1.heap.size by have:=ae.size;simp at this;omega);have HN:=zh hn1;clear ae hn1 hb;go_wp2_with fail;go_ret;refine⟨w1.heap.size,k1,n1,s1,A1,m1,c1,rfl,HZ.out,heap_alloc_new w1 _,HN.out.keep (fun b hb hlt=>⟨?_,by simp;omega⟩) (fun b _ hlt=>Below.heap_alloc w1 _ b hlt),HB.out⟩;have hb':w.heap.size+1<=b:=by simpa using hb
 omega
theorem zuE:IsFn Tryz.prog 153 Tryz.f153:=⟨Tryz.func153,by kernel_rfl,by kernel_rfl⟩
attribute [local go_sem] Oper.semAt_some
def conB(t:T):Bool:=isE t&&(zlW t).c
theorem zv0(t:T)(v:Value)(w:World)(hv:NV w Any t v):Calls Tryz.prog 178 #[v] w fun e w'=>∃x:Int,e=.returned (.tuple #[.int .i64 x,.bool (conB t)])/\Below w.heap.size w w':=by
 have HV:=zh hv;obtain⟨A,c,rfl,-⟩:=hv.open_;clear hv
 cases hE:isE t
 ·have hc:conB t=false:=by simp[conB,hE]
  rw[hc];have HE:=zh hE;generalize t.k=k,t.n=n,t.s=s,t.ks.length=m at *
  clear hE hc;go_enter Tryz.func178,Tryz.ntmps178;go_wp2_with fail;refine(zkH t _ _ (HV.out.later (zkb zr _))).mono ?_;rintro e w1 ⟨rfl,ae⟩;have q1:=zka (zkb zr _) ae;rw[HE.out];clear ae;go_wp2_with fail;go_ret2;exact⟨_,rfl,q1⟩
 ·have hc:conB t=(zlW t).c:=by simp[conB,hE]
  rw[hc];have HE:=zh hE;obtain⟨⟨gv,gc⟩,hf⟩:=zX (zlW t);have HFO:=zh (show ∀(v:Value) (w:World),NV w Any t v->Calls Tryz.prog 191 #[v] w (NewF w ⟨gv,gc⟩)from hf▸zw3 t hE);rw[hf];generalize t.k=k,t.n=n,t.s=s,t.ks.length=m at *
  clear hE hc hf;go_enter Tryz.func178,Tryz.ntmps178;go_wp2_with fail;refine(zkH t _ _ (HV.out.later (zkb zr _))).mono ?_;rintro e w1 ⟨rfl,ae⟩;have q1:=zka (zkb zr _) ae;have hN:=zkc (heap_alloc_new w (.cells #[.int .u8 k,.int .i64 n,.string s,.slice A m c] 24)) ae;obtain⟨a0,a1,a2,a3⟩:=box4 hN;rw[HE.out];clear ae hN;go_wp2_with fail;refine(HFO.out _ _ (HV.out.later q1)).mono ?_;rintro e w2 ⟨k2,n2,s2,A2,l2,c2,rfl,-,aj⟩;have q2:=zka q1 aj;clear aj a0 a1 a2 a3;obtain⟨-,-,-,-,y4,y5⟩:=box6 (heap_alloc_new w2 (.cells #[.int .u8 k2,.int .i64 n2,.string s2,.slice A2 l2 c2,.int .i64 gv,.bool gc] 239));have HS:=zh (show(fun w':World=>zv w' w2.heap.size 4 (.int .i64 gv)/\zv w' w2.heap.size 5 (.bool gc)) (w2.alloc (.cells #[.int .u8 k2,.int .i64 n2,.string s2,.slice A2 l2 c2,.int .i64 gv,.bool gc] 239)).drew from⟨y4,y5⟩);clear y4 y5;go_upto_region 4 with fail
  go_region_held3 (fun w':World=>zv w' w2.heap.size 4 (.int .i64 gv)/\zv w' w2.heap.size 5 (.bool gc))
   (with_reducible exact HS.out)
   (first|fail)
  go_wp2_with fail;refine bodyPost_ret (v:=.tuple #[.int .i64 gv,.bool gc]) (by simp[results,Tryz.results178,go_sem]) rfl ⟨gv,rfl,(zkb q2 _).drew⟩
theorem zmN(t:T)(v:Value)(w:World)(hv:NV w Any t v):Calls Tryz.prog 160 #[v] w fun e w'=>e=.returned (.bool (conB t))/\Below w.heap.size w w':=by
 have HV:=zh hv;obtain⟨A,c,rfl,-⟩:=hv.open_;clear hv;obtain⟨b,hb⟩:=zX (conB t);rw[hb];have HB:=zh hb;clear hb;generalize t.k=k,t.n=n,t.s=s,t.ks.length=m at *
 go_enter Tryz.func160,Tryz.ntmps160;go_wp2_with fail;refine(zv0 t _ _ (HV.out.later (zkb zr _))).mono ?_;rintro e w1 ⟨x,rfl,ae⟩;have q1:=zka (zkb zr _) ae;rw[HB.out];clear ae;go_wp2_with fail;go_ret;exact⟨rfl,q1⟩
def zmv(s:ByteArray)(x:T):Bool:=(x.k==2||x.k==3||x.k==4||x.k==5)&&x.s.toList==s.toList
def menB(t:T)(s:ByteArray):Bool:=(po t).any (zmv s)
def MenI(nm:ByteArray)(N:Nat)(r:Bool)(q:Prop)(C:Nat->Prop)(W:World):Prop :=
 (∀b,C b↔b=N+1\/b=N+1+1)/\W.heap[N+1]?=some (.cells #[.string nm] 9 (0,0))/\W.heap[N+1+1]?=some (.cells #[.bool r] 4 (0,0))/\q
theorem znV(t:T)(nm:ByteArray)(v:Value)(w:World)(hv:NV w Any t v)(hd:dep t<=1000):Calls Tryz.prog 156 #[v,.string nm] w fun e w'=>e=.returned (.bool (menB t nm))/\Below w.heap.size w w':=by
 have HV:=zh hv;obtain⟨A,c,rfl,-⟩:=hv.open_;clear hv;obtain⟨b,hb⟩:=zX (menB t nm);rw[hb];have HB:=zh hb;have HD:=zh hd;clear hb hd;generalize t.k=k,t.n=n,t.s=s,t.ks.length=m at *
 refine(callsIn_wide (n:=3)).1 (callsIn_of_wp_marks Tryz.func156 rfl trivial ((wpIn_wide (n:=3)).2 ?_));simp only[Tryz.ntmps156,List.size_toArray,List.length_cons,List.length_nil,Nat.reduceAdd,Nat.reduceSub,Array.replicate_succ,Array.replicate_zero,List.push_toArray,List.append_toArray,List.nil_append,List.cons_append];go_wp2_with fail;refine(zsD t _ _ (HV.out.later (zkb (zkb (zkb zr _) _) _))).mono ?_;rintro e x6 ⟨gr,k6,n6,s6,A6,m6,c6,rfl,hgr,hgb,iM,pM⟩;have q6:=zka (zkb (zkb (zkb (zs w) _) _) _) pM;have zH:=zkc (zkd (heap_alloc_new (w.alloc (.cells #[.int .u8 k,.int .i64 n,.string s,.slice A m c] 24)) (.cells #[.string nm] 9)) (.cells #[.bool false] 4)) pM;have jQ:=zkc (heap_alloc_new ((w.alloc (.cells #[.int .u8 k,.int .i64 n,.string s,.slice A m c] 24)).alloc (.cells #[.string nm] 9)) (.cells #[.bool false] 4)) pM
 simp only[World.size_alloc]at zH jQ hgr;have xx:=zh hgb;have dS:=zh iM;have jV:=zh q6;have dH:=zh jQ;have yo:=zh zH;have vQ:=zh hgr;clear pM hgb iM q6 jQ zH hgr;go_wp2_with fail;refine(wpIn_wide (n:=3)).1 ?_;refine zph (n:=3) (gf:=153) (lb := #[.pointer (some ⟨gr,0,none⟩)]) rfl (zkz zuE) (zoW (3-1) gr t x6 _ k6 n6 s6 A6 m6 c6 xx.out dS.out HD.out) rfl
  (fun pre C W=>MenI nm w.heap.size false (pre.any (zmv nm)=false) C W)
  (fun _ C W=>MenI nm w.heap.size true ((po t).any (zmv nm)=true) C W)
  (fun b=>b=w.heap.size+1\/b=w.heap.size+1+1)
  (fun pre C W W' ⟨h1,h2,h3,h4⟩ hc=>⟨h1,hc.keep h2 (fun h=>h ((h1 _).2 (.inl rfl))),hc.keep h3 (fun h=>h ((h1 _).2 (.inr rfl))),h4⟩)
  (fun pre C W W' ⟨h1,h2,h3,h4⟩ hc=>⟨h1,hc.keep h2 (fun h=>h ((h1 _).2 (.inl rfl))),hc.keep h3 (fun h=>h ((h1 _).2 (.inr rfl))),h4⟩)
  (fun pre C W ⟨h1,h2,h3,_⟩ b hb=>by rcases(h1 b).1 hb with rfl|rfl;exact zkf h2;exact zkf h3)
  (fun pre C W ⟨h1,h2,h3,_⟩ b hb=>by rcases(h1 b).1 hb with rfl|rfl;exact zkf h2;exact zkf h3)
  (fun b hb hr=>by have:=vQ.out;rcases hr with hr|hr<;>rcases hb with hb|hb<;>first|omega|(have:=hr.1;simp at this;omega)) ?_ ⟨fun _=>Iff.rfl,yo.out,dH.out,rfl⟩ ?_ ?_ ?_
 ·rintro b (rfl|hb)
  ·exact zkf xx.out
  ·exact hb.2
 ·rintro l pre x C W pv v ⟨hC,hnb,hrb,hno⟩ ek hl qH hpre ⟨Ap,mp,cp,rfl⟩ hnx;obtain⟨Ax,cx,rfl,hfx,hlx,hlcx,hrx⟩:=hnx.open_;change Code.wpIn (Fence.wide.inRound l) (3-1-1) Tryz.prog _ _ _ _
  gi_wp2
  refine⟨(Chg.refl _ _).alloc _,fun W2 hW2=>?_⟩;have hwl:=zkf hnb;have hwl2:=zkf hrb;have hbx:=hW2.keep (heap_alloc_new W (.cells #[.int .u8 x.k,.int .i64 x.n,.string x.s,.slice Ax x.ks.length cx] 24)) (show ¬ W.heap.size=l by omega);have rU:=hW2.keep (zkd hnb (.cells #[.int .u8 x.k,.int .i64 x.n,.string x.s,.slice Ax x.ks.length cx] 24)) (fun h=>ek ((hC _).2 (.inl h.symm)));have oM:=hW2.keep (zkd hrb (.cells #[.int .u8 x.k,.int .i64 x.n,.string x.s,.slice Ax x.ks.length cx] 24)) (fun h=>ek ((hC _).2 (.inr h.symm)));have hx0:W2.cell? ⟨W.heap.size,0,none⟩=some (.int .u8 x.k):=zc hbx rfl;have hx2:W2.cell? ⟨W.heap.size,2,none⟩=some (.string x.s):=zc hbx rfl;have hy0:W2.cell? ⟨w.heap.size+1,0,none⟩=some (.string nm):=zc rU rfl;have hz0:W2.cell? ⟨w.heap.size+1+1,0,none⟩=some (.bool false):=zc oM rfl;have uQ:W2.frozen? ⟨w.heap.size+1+1,0,none⟩=false:=zf oM
  have hxm:x∈po t:=by
   obtain⟨ys,hys⟩:=hpre;rw[<-hys];simp
  have HXM:=zh hxm;have cK:=zh hno;have aP:=zh hC;have HNB2:=zh rU;have HRB2:=zh oM;obtain⟨nx,hnx'⟩:=zX (zmv nm x);have HNX:=zh hnx';obtain⟨kk,hkk⟩:=zX (x.k);obtain⟨ss,hss⟩:=zX (x.s);have jq:=zh (show zmv nm x=((kk==2||kk==3||kk==4||kk==5)&&ss.toList==nm.toList) by rw[<-hkk,<-hss];rfl);rw[hkk]at hx0 ⊢;rw[hss]at hx2 ⊢;clear hW2 hbx hrx hnx hfx hlcx hlx hxm hpre hkk hss hC rU oM hno hnx';change Code.wpIn (Fence.wide.inRound l) (3-1-1) Tryz.prog _ _ _ _;have eT:=zh (show zmv nm x=false->∀ac,zz4
    (fun pre C W=>MenI nm w.heap.size false (pre.any (zmv nm)=false) C W)
    (fun _ C W=>MenI nm w.heap.size true ((po t).any (zmv nm)=true) C W)
    (pre++[x]) C W2 Exit.normal ac W2 from fun h _=>⟨C,⟨aP.out,HNB2.out,HRB2.out,by rw[List.any_append,cK.out];simp[h]⟩,fun b hb=>.inl hb,Chg.refl _ _⟩)
  cases hq:(ss.toList==nm.toList)
  ·have hnn:zmv nm x=false:=by rw[jq.out,hq];simp
   by_cases k2:kk=2
   ·subst k2;gi_wp2;exact eT.out hnn _
   by_cases k3:kk=3
   ·subst k3;gi_wp2;exact eT.out hnn _
   by_cases k4:kk=4
   ·subst k4;gi_wp2;exact eT.out hnn _
   by_cases k5:kk=5
   ·subst k5;gi_wp2;exact eT.out hnn _
   have x2:(kk==2)=false:=by simpa using k2
   have x3:(kk==3)=false:=by simpa using k3
   have x4:(kk==4)=false:=by simpa using k4
   have x5:(kk==5)=false:=by simpa using k5
   gi_wp2
   exact eT.out hnn _
  ·have HST:=zh (show(kk==2||kk==3||kk==4||kk==5)=true->∃C',MenI nm w.heap.size true ((po t).any (zmv nm)=true) C' (W2.setCell ⟨w.heap.size+1+1,0,none⟩ (.bool true))/\(∀b,C' b->C b\/W2.heap.size<=b)/\Chg C W2 (W2.setCell ⟨w.heap.size+1+1,0,none⟩ (.bool true))from fun h=>by
    refine⟨C,⟨aP.out,?_,?_,?_⟩,fun b hb=>.inl hb,(Chg.refl _ _).setCell (.inl ((aP.out _).2 (.inr rfl))) _⟩
    ·rw[Below.heap_setCell _ _ _ _ (by simp)];exact HNB2.out
    ·have:=heap_setCell_same W2 (w.heap.size+1+1) 0 _ _ (.bool true) HRB2.out;simpa using this
    ·rw[List.any_eq_true];exact⟨x,HXM.out,by rw[jq.out,h,hq];rfl⟩)
   by_cases k2:kk=2
   ·subst k2;gi_wp2;exact HST.out rfl
   by_cases k3:kk=3
   ·subst k3;gi_wp2;exact HST.out rfl
   by_cases k4:kk=4
   ·subst k4;gi_wp2;exact HST.out rfl
   by_cases k5:kk=5
   ·subst k5;gi_wp2;exact HST.out rfl
   have x2:(kk==2)=false:=by simpa using k2
   have x3:(kk==3)=false:=by simpa using k3
   have x4:(kk==4)=false:=by simpa using k4
   have x5:(kk==5)=false:=by simpa using k5
   have hnn:zmv nm x=false:=by rw[jq.out,x2,x3,x4,x5];rfl
   gi_wp2
   exact eT.out hnn _
 ·intro D C W' hD hC hch hK;obtain⟨bH,rT,eY,hno⟩:=hC;have hbf:b=false:=by rw[<-HB.out];exact hno
  subst hbf;have r0:W'.cell? ⟨w.heap.size+1+1,0,none⟩=some (.bool false):=zc eY rfl;have rf:W'.frozen? ⟨w.heap.size+1+1,0,none⟩=false:=zf eY;have qF:=jV.out.size;have hlR:=zkf dH.out;have kr:=zh (show Below w.heap.size w W' from jV.out.trans (hch.below qF (fun b h=>by omega)));have HK:=zh hK;have kL:=zh eY;clear hch hK eY bH rT hno;go_wp2_with fail;have hK':(W'.setCell ⟨w.heap.size+1+1,0,none⟩ (.bool false)).heap[D]?=some (.deferred (some [])):=(Below.heap_setCell _ _ _ _ (show D≠w.heap.size+1+1 by omega)).trans HK.out;refine⟨by simp,.inl ⟨_,_,rfl,run_takeDeferred hK',?_⟩⟩;have hr8:=heap_setCell_same W' (w.heap.size+1+1) 0 _ _ (.bool false) kL.out
  have yZ:((W'.setCell ⟨w.heap.size+1+1,0,none⟩ (.bool false)).putObj D (.deferred none)).heap[w.heap.size+1+1]?=some (.cells #[.bool false] 4 (0,0)):=(World.putObj_heap_other (show w.heap.size+1+1≠D by omega)).trans (by simpa using hr8);have r1:((W'.setCell ⟨w.heap.size+1+1,0,none⟩ (.bool false)).putObj D (.deferred none)).cell? ⟨w.heap.size+1+1,0,none⟩=some (.bool false):=zc yZ rfl;have bV:=kr.out.setCell (p:=⟨w.heap.size+1+1,0,none⟩) (by simp;omega) (.bool false);have aG:=bV.trans ((Chg.putObj (W'.setCell ⟨w.heap.size+1+1,0,none⟩ (.bool false)) D (.deferred none)).below (B:=w.heap.size) bV.size (fun b hb=>by have:b=D:=hb;omega));exact⟨.bool false,by simp[results,Tryz.results156,go_sem,r1],rfl,aG⟩
 ·intro D pre C W' hD hC hch hK;obtain⟨bH,rT,eY,hno⟩:=hC;have hbf:b=true:=by rw[<-HB.out];exact hno
  subst hbf;have r0:W'.cell? ⟨w.heap.size+1+1,0,none⟩=some (.bool true):=zc eY rfl;have qF:=jV.out.size;have hlR:=zkf dH.out;have kr:=zh (show Below w.heap.size w W' from jV.out.trans (hch.below qF (fun b h=>by omega)));have HK:=zh hK;have kL:=zh eY;clear hch hK eY bH rT hno;refine(wpIn_wide (n:=3)).2 ?_;go_wp2_with fail;refine⟨by simp,.inl ⟨_,_,rfl,run_takeDeferred HK.out,?_⟩⟩;have yZ:(W'.putObj D (.deferred none)).heap[w.heap.size+1+1]?=some (.cells #[.bool true] 4 (0,0)):=(World.putObj_heap_other (show w.heap.size+1+1≠D by omega)).trans kL.out;have r1:(W'.putObj D (.deferred none)).cell? ⟨w.heap.size+1+1,0,none⟩=some (.bool true):=zc yZ rfl;have aG:=kr.out.trans ((Chg.putObj W' D (.deferred none)).below (B:=w.heap.size) kr.out.size (fun b hb=>by have:b=D:=hb;omega));exact⟨.bool true,by simp[results,Tryz.results156,go_sem,r1],rfl,aG⟩
end
section
open Go Go.RowKit
def kidC(t:T)(i:Nat):T:=t.ks.getD i (.nd 0 0 ⟨#[]⟩ [])
theorem zl2{t:T}{i:Nat}(h:i<t.ks.length):kidC t i=t.ks[i]:=by simp[kidC,h]
theorem zwX{t:T}{i:Nat}(h:i<t.ks.length):dep (kidC t i)<=dep t:=by
 rw[zl2 h];have:=zpE (List.getElem_mem h)
 cases t with
 | nd k n s ks=>simp only[dep,T.ks_nd]at *;omega
def idxB(t:T)(s:ByteArray):Bool:=t.k==3&&menB (kidC t 0) s
theorem zoE(t:T)(nm:ByteArray)(v:Value)(w:World)(hv:NV w Any t v)(hd:dep t<=1000)(hk:t.k=3->1<=t.ks.length):Calls Tryz.prog 155 #[v,.string nm] w fun e w'=>e=.returned (.bool (idxB t nm))/\Below w.heap.size w w':=by
 have HV:=zh hv;obtain⟨A,c,rfl,hf,hlk,hlc,hrow⟩:=hv.open_;by_cases h3:t.k=3
 ·have hl:=hk h3;have hm:=znV (kidC t 0) nm;have hdd:=zwX (t:=t) (i:=0) (by omega);have HM:=zh (fun v w h=>hm v w h (by omega));obtain⟨b,hb⟩:=zX (menB (kidC t 0) nm);have hi:idxB t nm=b:=by simp[idxB,h3,hb]
  rw[hb]at HM;obtain⟨a,t1,A1,c1,rfl,_,Ht,⟨q0,q1,q2,q3⟩,hn⟩:=(hrow.later (zkb zr (.cells #[.int .u8 t.k,.int .i64 t.n,.string t.s,.slice A t.ks.length c] 24))).nd (i:=0) (by omega);have ht1:kidC t 0=t1:=by rw[zl2 (by omega),Ht.out]
  rw[ht1]at HM;rw[hi,h3];rw[h3]at q0 q1 q2 q3;have HN:=zh hn;rw[h3]at HN;obtain⟨m,hm'⟩:=zX (t.ks.length);rw[hm']at HN hl q0 q1 q2 q3 ⊢;generalize t.n=n,t.s=s at *
  have hfl:(0:Int)<(m:Int):=by omega
  have gL:0<m:=by omega
  simp only[Nat.zero_mul,Addr.add_zero']at q0 q1 q2 q3;clear hv hrow hf hlk hlc hm hdd hb hi ht1 hn Ht HV hk hm' hd hl;go_enter Tryz.func155,Tryz.ntmps155;go_wp2_with fail;refine(HM.out _ _ HN.out).mono ?_;rintro e w1 ⟨rfl,ae⟩;have q1:=zka (zkb zr _) ae;go_wp2_with fail;go_ret;exact⟨rfl,q1⟩
 ·have hi:idxB t nm=false:=by simp[idxB,h3]
  have x3:(t.k==3)=false:=by simpa using h3
  rw[hi];generalize t.k=k,t.n=n,t.s=s,t.ks.length=m at *
  clear hv HV hrow hf hlk hlc hk hd h3 hi;go_enter Tryz.func155,Tryz.ntmps155;go_wp2_with fail;go_ret;exact⟨rfl,zkb zr _⟩
def aliB(ts:List T)(ss:List ByteArray):Bool:=ts.any fun t=>ss.any (idxB t)
def NmE(w:World)(x:Int)(e:Ending)(w':World):Prop:=∃s,e=.returned (.tuple #[.string s,.int .i64 x])/\Below w.heap.size w w'
theorem zoV(ts:List T)(ss:List ByteArray)(A:Option Addr)(c:Nat)(B:Option Addr)(d:Nat)(w:World)(hrow:zkU w Any A ts)(hss:RowS w B ss)(hl:ts.length<=LK)(hl2:ss.length<=100)(ht:∀t∈ts,dep t<=1000/\(t.k=3->1<=t.ks.length)) :
  Calls Tryz.prog 157 #[.slice A ts.length c,.slice B ss.length d] w (NmE w (if aliB ts ss=true then 8 else 0)):=by
 have hl':=zkF hl;obtain⟨R,hR⟩:∃R:Int,(if aliB ts ss=true then 8 else 0)=R:=⟨_,rfl⟩
 rw[hR];have HR:=zh hR;have aa:=zh hrow;have ay:=zh hss;have HT:=zh ht;clear hrow hss hl ht hR;go_enter Tryz.func157,Tryz.ntmps157;go_wp2_with fail
 go_loopw [12] (fun i wr=>∃j:Nat,j<=ts.length/\i=.int .i64 j/\Below w.heap.size w wr/\Hid (aliB (ts.take j) ss=false)) (fun i _=>ts.length-(intOf i).toNat)
 case atStart=>exact⟨0,Nat.zero_le _,rfl,zr,zh rfl⟩
 case round =>
  obtain⟨j,hj,rfl,hbl,HJ⟩:=hrel;by_cases hlt:j<ts.length
  ·obtain⟨a,t,A1,c1,rfl,_,Ht,⟨q0,q1,q2,q3⟩,hn⟩:=(aa.out.later hbl).nd hlt;have yU:=HT.out ts[j] (List.getElem_mem hlt);rw[Ht.out]at yU;have vG:=zh yU;have HN:=zh hn;have ag:=zh hbl;clear yU hn;go_wp2_with fail
   go_loopw [9,18] (fun _ i wi=>∃q:Nat,q<=ss.length/\i=.int .i64 q/\Below wr.heap.size wr wi/\wi.heap[wr.heap.size]?=some (.cells #[.int .u8 t.k,.int .i64 t.n,.string t.s,.slice A1 t.ks.length c1] 24 (0,0))/\Hid ((ss.take q).any (idxB t)=false)) (fun _ i _=>ss.length-(intOf i).toNat)
   case atStart=>exact⟨0,Nat.zero_le _,rfl,zkb zr _,heap_alloc_new wr _,zh rfl⟩
   case round =>
    obtain⟨q,hq,rfl,hbi,hbx,HQ⟩:=hrel;have Bo:=zh hbi;have aF:=zh hbx;obtain⟨m0,m1,m2,m3⟩:=box4 hbx;by_cases hlq:q<ss.length
    ·obtain⟨a2,s2,rfl,Hs2,y0⟩:=(ay.out.later (zka hbl hbi)).nd hlq;obtain⟨b,hb⟩:=zX (idxB t s2);have HB:=zh hb;clear hb q0 q1 q2 q3 hbx hbi hbl;go_wp2_with fail;refine(zoE t s2 _ _ (HN.out.later Bo.out) vG.out.1 vG.out.2).mono ?_;rintro e w3 ⟨rfl,aT⟩;rw[HB.out];have HB3:=zh (zka Bo.out aT);have wV:=zh (zkc aF.out aT);clear aT m0 m1 m2 m3 y0
     cases b
     ·have mq:Hid ((ss.take (q+1)).any (idxB t)=false):=zh (by rw[List.take_succ_eq_append_getElem hlq,List.any_append,HQ.out,Hs2.out];simp[HB.out]);go_wp2_with fail
      go_roundw
      case rel=>exact⟨q+1,by omega,by go_num,HB3.out,wV.out,mq⟩
      case measure=>simp[intOf];omega
     ·have hRR:R=8:=by
       rw[<-HR.out,if_pos];unfold aliB;rw[List.any_eq_true];refine⟨ts[j],List.getElem_mem hlt,?_⟩;rw[Ht.out,List.any_eq_true];exact⟨ss[q],List.getElem_mem hlq,by rw[Hs2.out];exact HB.out⟩
      have HRR:=zh hRR;clear hRR;go_wp2_with fail;go_ret2;exact⟨s2,by rw[HRR.out];rfl,zka ag.out HB3.out⟩
    ·obtain rfl:q=ss.length:=by omega
     have HJ2:Hid (aliB (ts.take (j+1)) ss=false):=zh (by
      have h1:=HQ.out;rw[List.take_of_length_le zl]at h1;have h2:=HJ.out;unfold aliB at *
      rw[List.take_succ_eq_append_getElem hlt,List.any_append,h2,Ht.out];simp[h1])
     clear q0 q1 q2 q3 hbx hbi hbl m0 m1 m2 m3;go_wp2_with fail
     go_roundw
     case rel=>exact⟨j+1,by omega,by go_num,zka ag.out Bo.out,HJ2⟩
     case measure=>simp[intOf];omega
  ·obtain rfl:j=ts.length:=by omega
   have hRR:R=0:=by
    rw[<-HR.out,if_neg];have:=HJ.out;rw[List.take_of_length_le zl]at this;simp[this]
   have HRR:=zh hRR;have ag:=zh hbl;clear hRR hbl;go_wp2_with fail;go_ret2;exact⟨_,by rw[HRR.out];rfl,ag.out⟩
theorem zrh(k n:Int)(rs:ByteArray)(u3:Value)(s:ByteArray)(nb:Nat)(w:World)(hc:w.cell? ⟨nb,2,none⟩=some (.string s)) :
  Calls Tryz.prog 159 #[.agg #[.int .u8 k,.int .i64 n,.string rs,u3],.pointer (some ⟨nb,0,none⟩)] w fun e w'=>e=.returned (.bool (rs.toList==s.toList))/\Below w.heap.size w w':=by
 have hc':=zkj hc;go_enter Tryz.func159,Tryz.ntmps159;go_wp2_with fail;go_ret;exact⟨rfl,zr.alloc zl _⟩
def hasN(ks:List T)(s:ByteArray):Bool:=ks.any fun t=>t.s.toList==s.toList
theorem zo4(ks:List T)(A:Option Addr)(c:Nat)(s:ByteArray)(nb:Nat)(w:World)(hrow:zkU w Any A ks)(hl:ks.length<=LK)(hc:w.cell? ⟨nb,2,none⟩=some (.string s)) :
  Calls Tryz.prog 177 #[.slice A ks.length c,.func (.func 159) #[] #[.pointer (some ⟨nb,0,none⟩)]] w fun e w'=>∃x:Int,e=.returned (.int .i64 x)/\decide (0<=x)=hasN ks s/\Below w.heap.size w w':=by
 have hl':=zkF hl;have aa:=zh hrow;have HC:=zh hc;obtain⟨R,hR⟩:=zX (hasN ks s);rw[hR];have HR:=zh hR;clear hrow hl hc hR;go_enter Tryz.func177,Tryz.ntmps177;go_wp2_with fail
 go_loopw [8] (fun i wr=>∃j:Nat,j<=ks.length/\i=.int .i64 j/\Below w.heap.size w wr/\Hid (hasN (ks.take j) s=false)) (fun i _=>ks.length-(intOf i).toNat)
 case atStart=>exact⟨0,Nat.zero_le _,rfl,zr,zh rfl⟩
 case round =>
  obtain⟨j,hj,rfl,hbl,HJ⟩:=hrel;by_cases hlt:j<ks.length
  ·obtain⟨a,t,A1,c1,rfl,_,Ht,⟨q0,q1,q2,q3⟩,-⟩:=(aa.out.later hbl).nd hlt;obtain⟨b,hb⟩:=zX ((t.s.toList==s.toList));have HB:=zh hb;clear hb;go_wp2_with fail;refine(zrh t.k t.n t.s _ s nb _ (zb hbl HC.out)).mono ?_;rintro e w1 ⟨rfl,ae⟩;rw[HB.out];have ag:=zh (zka hbl ae);clear ae q0 q1 q2 q3
   cases b
   ·have HJ2:Hid (hasN (ks.take (j+1)) s=false):=zh (by
     have:=HJ.out;unfold hasN at *
     rw[List.take_succ_eq_append_getElem hlt,List.any_append,this,Ht.out];simp[HB.out])
    go_wp2_with fail
    go_roundw
    case rel=>exact⟨j+1,by omega,by go_num,ag.out,HJ2⟩
    case measure=>simp[intOf];omega
   ·have HN:=zh (show R=true by
     rw[<-HR.out];unfold hasN;rw[List.any_eq_true];exact⟨ks[j],List.getElem_mem hlt,by rw[Ht.out];exact HB.out⟩)
    go_wp2_with fail;go_ret;exact⟨j,rfl,by rw[HN.out];simp,ag.out⟩
  ·have HN:=zh (show R=false by
    rw[<-HR.out];have:=HJ.out;rwa[List.take_of_length_le (by omega)]at this)
   have ag:=zh hbl;clear hbl;go_wp2_with fail;go_ret;exact⟨-1,rfl,by rw[HN.out];rfl,ag.out⟩
theorem znC(ks:List T)(A:Option Addr)(c:Nat)(s:ByteArray)(nb:Nat)(w:World)(hrow:zkU w Any A ks)(hl:ks.length<=LK)(hc:w.cell? ⟨nb,2,none⟩=some (.string s)) :
  Calls Tryz.prog 158 #[.slice A ks.length c,.func (.func 159) #[] #[.pointer (some ⟨nb,0,none⟩)]] w fun e w'=>e=.returned (.bool (hasN ks s))/\Below w.heap.size w w':=by
 have aa:=zh hrow;have HC:=zh hc;have HL:=zh hl;obtain⟨R,hR⟩:=zX (hasN ks s);rw[hR];have HR:=zh hR;obtain⟨L,hL⟩:=zX (ks.length);rw[hL];have fF:=zh hL;clear hrow hl hc hR hL;go_enter Tryz.func158,Tryz.ntmps158;go_wp2_with fail;refine(fF.out▸zo4 ks A c s nb _ aa.out HL.out HC.out).mono ?_;rintro e w1 ⟨x,rfl,hx,ae⟩;rw[HR.out]at hx;go_wp2_with fail;go_ret;exact⟨by rw[<-hx];rfl,ae⟩
def dupB(ks:List T):Bool:=(List.range ks.length).any fun i=>hasN (ks.take i) (ks.getD i (.nd 0 0 ⟨#[]⟩ [])).s
theorem zsr{ks:List T}{j:Nat}(hj:j<ks.length)(h:hasN (ks.take j) ks[j].s=true):dupB ks=true:=by
 unfold dupB;rw[List.any_eq_true];exact⟨j,by simpa using hj,by simpa[hj]using h⟩
theorem zu3{ks:List T}(h:∀j (hj:j<ks.length),hasN (ks.take j) ks[j].s=false):dupB ks=false:=by
 unfold dupB;rw[List.any_eq_false];intro j hj;have hj':j<ks.length:=by simpa using hj
 simpa[hj']using h j hj'
structure zvC(t:T):Prop where
 d:dep t<=1000
 two:t.k=40\/t.k=41\/t.k=42\/t.k=43\/t.k=56->2<=t.ks.length
 one:44<=t.k/\t.k<=49->1<=t.ks.length
 four:t.k=52\/t.k=53->4<=t.ks.length
 pl:40<=t.k/\t.k<=49->∀x∈t.ks,x.k=3->1<=x.ks.length
def rejE(t:T):Int :=
 if t.k=56 then 9
 else if t.k=40\/t.k=41\/t.k=42 then if idxB (kidC t 0) (kidC t 0).s||menB (kidC t 1) (kidC t 0).s then 8 else 0
 else if t.k=43 then if aliB t.ks [(kidC t 0).s,(kidC t 1).s]then 8 else 0
 else if t.k=44\/t.k=45 then if aliB t.ks [(kidC t 0).s,t.s]then 8 else 0
 else if 46<=t.k/\t.k<=49 then if aliB t.ks [(kidC t 0).s]then 8 else 0
 else if t.k=50\/t.k=51 then if dupB t.ks then 8 else 0
 else if t.k=52 then if conB (kidC t 3) && !conB (kidC t 0)then 10 else 0
 else if t.k=53 then if conB (kidC t 0)then 10 else 0
 else 0
theorem row0{w:World}{ks:List T}{A:Option Addr}(h:zkU w Any A ks)(hl:0<ks.length):∃(a:Addr) (t:T) (A':Option Addr) (c':Nat),A=some a/\Hid (ks[0]=t)/\Nd4 w a t A' c'/\NV w Any t (nv t.k t.n t.s A' t.ks.length c'):=by
 obtain⟨a,t,A',c',rfl,_,Ht,h4,hn⟩:=h.nd hl;simp only[Nat.zero_mul,Addr.add_zero']at h4;exact⟨a,t,A',c',rfl,Ht,h4,hn⟩
theorem rowI{w:World}{ks:List T}{a:Addr}(h:zkU w Any (some a) ks)(i:Nat)(hl:i+1<ks.length):∃(t:T) (A':Option Addr) (c':Nat),Hid (ks[i+1]=t)/\Nd4 w ⟨a.block,a.off+(i+1)*4,none⟩ t A' c'/\NV w Any t (nv t.k t.n t.s A' t.ks.length c'):=by
 obtain⟨a',t,A',c',e,_,Ht,h4,hn⟩:=h.nd hl;injection e with e;subst e;have ha:a.add ((i+1)*4)=⟨a.block,a.off+(i+1)*4,none⟩:=by unfold Addr.add;split<;>simp_all
 rw[ha]at h4;exact⟨t,A',c',Ht,h4,hn⟩
theorem zsS(n:Int)(s:ByteArray)(ks:List T)(A:Option Addr)(c:Nat)(w:World)(hrow:zkU w Any A ks)(hl:2<=ks.length):Calls Tryz.prog 135 #[nv 56 n s A ks.length c] w (NmE w 9):=by
 obtain⟨a,t0,A1,c1,rfl,gT,h4,-⟩:=row0 (hrow.later (zkb zr (.cells #[.int .u8 56,.int .i64 n,.string s,.slice A ks.length c] 24))) (by omega);obtain⟨q0,q1,q2,q3⟩:=h4;clear gT;obtain⟨L,hL⟩:=zX (ks.length);rw[hL]at q0 q1 q2 q3 hl ⊢;have hfl:(0:Int)<(L:Int):=by omega
 have gL:0<L:=by omega
 clear hrow hL hl;go_enter Tryz.func135,Tryz.ntmps135;go_wp2_with fail;go_ret2;exact⟨_,rfl,zkb zr _⟩
theorem zsR(k n:Int)(s:ByteArray)(ks:List T)(A:Option Addr)(c:Nat)(w:World)(hk:k=40\/k=41\/k=42)(hrow:zkU w Any A ks)(hl:2<=ks.length)(hd:∀t∈ks,dep t<=1000)(hp:∀t∈ks,t.k=3->1<=t.ks.length) :
  Calls Tryz.prog 135 #[nv k n s A ks.length c] w (NmE w (if idxB ks[0] ks[0].s||menB ks[1] ks[0].s then 8 else 0)):=by
 have hrow':=hrow.later (zkb zr (.cells #[.int .u8 k,.int .i64 n,.string s,.slice A ks.length c] 24));obtain⟨a,t0,A1,c1,rfl,gT,h4,hn0⟩:=row0 hrow' (by omega);obtain⟨t1,A2,c2,nA,h5,hn1⟩:=rowI hrow' 0 (by omega);simp only[Nat.zero_add,Nat.one_mul]at nA h5;have d0:=hd ks[0] (List.getElem_mem _);have d1:=hd ks[1] (List.getElem_mem _);have p0:=hp ks[0] (List.getElem_mem _);rw[gT.out]at d0 p0 ⊢;rw[nA.out]at d1 ⊢;obtain⟨R,hR⟩:∃R:Int,(if (idxB t0 t0.s||menB t1 t0.s)=true then 8 else 0)=R:=⟨_,rfl⟩
 rw[hR];obtain⟨b0,hb0⟩:=zX (idxB t0 t0.s);obtain⟨b1,hb1⟩:=zX (menB t1 t0.s);have HI:=zh (show ∀v w,NV w Any t0 v->Calls Tryz.prog 155 #[v,.string t0.s] w fun e w'=>e=.returned (.bool b0)/\Below w.heap.size w w' from fun v w h=>hb0▸zoE t0 t0.s v w h d0 p0);have HM:=zh (show ∀v w,NV w Any t1 v->Calls Tryz.prog 156 #[v,.string t0.s] w fun e w'=>e=.returned (.bool b1)/\Below w.heap.size w w' from fun v w h=>hb1▸znV t1 t0.s v w h d1);rw[hb0,hb1]at hR;have HR:=zh hR;obtain⟨L,hL⟩:=zX (ks.length);have hfl:(0:Int)<(L:Int):=by omega
 have gL:0<L:=by omega
 have sH:(1:Int)<(L:Int):=by omega
 have sG:1<L:=by omega
 have hbx:=box4 (heap_alloc_new w (.cells #[.int .u8 k,.int .i64 n,.string s,.slice (some a) ks.length c] 24));clear gT nA hrow hrow' hR hb0 hb1 d0 d1 p0 hd hp;rw[hL]at h4 h5 hn0 hn1 hl hbx ⊢;obtain⟨W0,hW0⟩:=zX (w.alloc (.cells #[.int .u8 k,.int .i64 n,.string s,.slice (some a) L c] 24));have q0:Below w.heap.size w W0:=hW0▸zkb zr _;rw[hW0]at h4 h5 hn0 hn1 hbx;have fE:=zh hn0;have fB:=zh hn1;have bE:=zh (show ∀w',Below W0.heap.size W0 w'->(Nd4 w' a t0 A1 c1/\Nd4 w' ⟨a.block,a.off+4,none⟩ t1 A2 c2)/\w'.cell? ⟨w.heap.size,0,none⟩=some (.int .u8 k)/\w'.cell? ⟨w.heap.size,3,none⟩=some (.slice (some a) L c)from fun w' h=>⟨⟨zl6 h h4,zl6 h h5⟩,zb h hbx.1,zb h hbx.2.2.2⟩);clear hn0 hn1 h4 h5 hbx hL hl;obtain⟨⟨⟨a0,a1,a2,a3⟩,⟨b0',b1',b2,b3⟩⟩,x0,x3⟩:=bE.out _ zr;rcases hk with rfl|rfl|rfl
 all_goals
  go_enter Tryz.func135,Tryz.ntmps135;go_wp2_with fail;refine(HI.out _ _ fE.out).mono ?_;rintro e w1 ⟨rfl,ae⟩;obtain⟨⟨⟨a0,a1,a2,a3⟩,⟨b0',b1',b2,b3⟩⟩,x0,x3⟩:=bE.out _ ae;have q1:=zka q0 ae;have aL:=zh (fB.out.later ae);clear ae
  cases b0
  ·go_wp2_with fail;refine(HM.out _ _ aL.out).mono ?_;rintro e w2 ⟨rfl,aj⟩;have q2:=zka q1 aj;clear aj
   cases b1
   ·go_wp2_with fail;go_ret2;exact⟨_,by rw[<-HR.out];rfl,q2⟩
   ·go_wp2_with fail;go_ret2;exact⟨_,by rw[<-HR.out];rfl,q2⟩
  ·go_wp2_with fail;go_ret2;exact⟨_,by rw[<-HR.out];rfl,q1⟩
theorem zxF(s:ByteArray)(w:World):(Instr.buildSlice 228 1 #[(0,.string s)]).run Tryz.prog w=.ok (.slice (some ⟨w.heap.size,0,none⟩) 1 1) (w.alloc (.cells #[.string s] 9)):=by kernel_rfl
theorem zsy(s s':ByteArray)(w:World):(Instr.buildSlice 228 2 #[(0,.string s),(1,.string s')]).run Tryz.prog w=.ok (.slice (some ⟨w.heap.size,0,none⟩) 2 2) (w.alloc (.cells #[.string s,.string s'] 9)):=by kernel_rfl
theorem zn7(w:World)(E:TypeId)(ss:List ByteArray):RowS (w.alloc (.cells (ss.map Value.string).toArray E)) (some ⟨w.heap.size,0,none⟩) ss:=fun i hi=>by
 refine⟨_,rfl,?_⟩;have:=zkY w E (ss.map Value.string) i (.string ss[i]) (by simp[hi]);exact this
theorem ztV(k n:Int)(s:ByteArray)(ks:List T)(A:Option Addr)(c:Nat)(w:World)(hk:k=46\/k=47\/k=48\/k=49)(hrow:zkU w Any A ks)(hl:1<=ks.length)(hlk:ks.length<=LK)(hd:∀t∈ks,dep t<=1000)(hp:∀t∈ks,t.k=3->1<=t.ks.length) :
  Calls Tryz.prog 135 #[nv k n s A ks.length c] w (NmE w (if aliB ks [ks[0].s]then 8 else 0)):=by
 have hrow':=hrow.later (zkb zr (.cells #[.int .u8 k,.int .i64 n,.string s,.slice A ks.length c] 24));obtain⟨a,t0,A1,c1,rfl,gT,h4,hn0⟩:=row0 hrow' (by omega);rw[gT.out];obtain⟨R,hR⟩:∃R:Int,(if aliB ks [t0.s]=true then 8 else 0)=R:=⟨_,rfl⟩
 rw[hR];obtain⟨L,hL⟩:=zX (ks.length);have fJ:=zh (show ∀(B:Option Addr) (d:Nat) (w:World),zkU w Any (some a) ks->RowS w B [t0.s]->Calls Tryz.prog 157 #[.slice (some a) L c,.slice B 1 d] w (NmE w R)from fun B d w h h'=>hL▸hR▸zoV ks [t0.s] (some a) c B d w h h' hlk (by simp) (fun t ht=>⟨hd t ht,hp t ht⟩));have hfl:(0:Int)<(L:Int):=by omega
 have gL:0<L:=by omega
 have hbx:=box4 (heap_alloc_new w (.cells #[.int .u8 k,.int .i64 n,.string s,.slice (some a) ks.length c] 24));have aa:=zh hrow';clear gT hrow hrow' hR hd hp;rw[hL]at h4 hl hbx aa ⊢;obtain⟨W0,hW0⟩:=zX (w.alloc (.cells #[.int .u8 k,.int .i64 n,.string s,.slice (some a) L c] 24));have q0:Below w.heap.size w W0:=hW0▸zkb zr _;rw[hW0]at h4 hbx aa;obtain⟨x0,x1,x2,x3⟩:=hbx;obtain⟨a0,a1,a2,a3⟩:=h4;have hb1:=zxF;clear hn0 hL hl;have HS:=zh (show ∀w',Below W0.heap.size W0 w'->w'.cell? ⟨w.heap.size,3,none⟩=some (.slice (some a) L c)/\w'.cell? ⟨a.block,a.off+2,none⟩=some (.string t0.s)from fun w' h=>⟨zb h x3,zb h a2⟩);have aO:=zh (HS.out _ zr.drew);have aB:=zh (HS.out _ (zkb zr (.cells #[.string t0.s] 9)).drew);have fT:=zh (show RowS (W0.alloc (.cells #[.string t0.s] 9)).drew (some ⟨W0.heap.size,0,none⟩) [t0.s]from zn7 W0 9 [t0.s])
 have HRW:=zh (aa.out.later (zkb zr (.cells #[.string t0.s] 9)).drew);clear x3 a0 a1 a2 a3 x1 x2;rcases hk with rfl|rfl|rfl|rfl
 all_goals
  go_enter Tryz.func135,Tryz.ntmps135;go_upto_region 20 with fail
  go_region_held3 (fun w':World=>zv w' w.heap.size 3 (.slice (some a) L c)/\zv w' a.block (a.off+2) (.string t0.s))
   (first|with_reducible exact aK.out|with_reducible exact aB.out|with_reducible exact aO.out)
   (first
    | (go_at_call 157;refine(fJ.out _ _ _ HRW.out fT.out).mono ?_;rintro e y1 ⟨s1,rfl,bI⟩;have b1:=zka (zkb (zs W0) (.cells #[.string t0.s] 9)).drew bI;have aK:=zh (HS.out _ b1))
    | fail)
  have HB1:=zh (zka q0 b1);clear bI b1 aK;go_wp2_with fail;go_ret2;exact⟨s1,rfl,HB1.out⟩
theorem ztW(k n:Int)(s:ByteArray)(ks:List T)(A:Option Addr)(c:Nat)(w:World)(hk:k=44\/k=45)(hrow:zkU w Any A ks)(hl:1<=ks.length)(hlk:ks.length<=LK)(hd:∀t∈ks,dep t<=1000)(hp:∀t∈ks,t.k=3->1<=t.ks.length) :
  Calls Tryz.prog 135 #[nv k n s A ks.length c] w (NmE w (if aliB ks [ks[0].s,s]then 8 else 0)):=by
 have hrow':=hrow.later (zkb zr (.cells #[.int .u8 k,.int .i64 n,.string s,.slice A ks.length c] 24));obtain⟨a,t0,A1,c1,rfl,gT,h4,hn0⟩:=row0 hrow' (by omega);rw[gT.out];obtain⟨R,hR⟩:∃R:Int,(if aliB ks [t0.s,s]=true then 8 else 0)=R:=⟨_,rfl⟩
 rw[hR];obtain⟨L,hL⟩:=zX (ks.length);have fJ:=zh (show ∀(B:Option Addr) (d:Nat) (w:World),zkU w Any (some a) ks->RowS w B [t0.s,s]->Calls Tryz.prog 157 #[.slice (some a) L c,.slice B 2 d] w (NmE w R)from fun B d w h h'=>hL▸hR▸zoV ks [t0.s,s] (some a) c B d w h h' hlk (by simp) (fun t ht=>⟨hd t ht,hp t ht⟩));have hfl:(0:Int)<(L:Int):=by omega
 have gL:0<L:=by omega
 have hbx:=box4 (heap_alloc_new w (.cells #[.int .u8 k,.int .i64 n,.string s,.slice (some a) ks.length c] 24));have aa:=zh hrow';clear gT hrow hrow' hR hd hp;rw[hL]at h4 hl hbx aa ⊢;obtain⟨W0,hW0⟩:=zX (w.alloc (.cells #[.int .u8 k,.int .i64 n,.string s,.slice (some a) L c] 24));have q0:Below w.heap.size w W0:=hW0▸zkb zr _;rw[hW0]at h4 hbx aa;obtain⟨x0,x1,x2,x3⟩:=hbx;obtain⟨a0,a1,a2,a3⟩:=h4;have hb1:=zsy;clear hn0 hL hl;have HS:=zh (show ∀w',Below W0.heap.size W0 w'->w'.cell? ⟨w.heap.size,2,none⟩=some (.string s)/\w'.cell? ⟨w.heap.size,3,none⟩=some (.slice (some a) L c)/\w'.cell? ⟨a.block,a.off+2,none⟩=some (.string t0.s)from fun w' h=>⟨zb h x2,zb h x3,zb h a2⟩);have aO:=zh (HS.out _ zr.drew);have aB:=zh (HS.out _ (zkb zr (.cells #[.string t0.s,.string s] 9)).drew)
 have fT:=zh (show RowS (W0.alloc (.cells #[.string t0.s,.string s] 9)).drew (some ⟨W0.heap.size,0,none⟩) [t0.s,s]from zn7 W0 9 [t0.s,s]);have HRW:=zh (aa.out.later (zkb zr (.cells #[.string t0.s,.string s] 9)).drew);clear x3 a0 a1 a2 a3 x1 x2;rcases hk with rfl|rfl
 all_goals
  go_enter Tryz.func135,Tryz.ntmps135;go_upto_region 15 with fail
  go_region_held3 (fun w':World=>zv w' w.heap.size 2 (.string s)/\zv w' w.heap.size 3 (.slice (some a) L c)/\zv w' a.block (a.off+2) (.string t0.s))
   (first|with_reducible exact aK.out|with_reducible exact aB.out|with_reducible exact aO.out)
   (first
    | (go_at_call 157;refine(fJ.out _ _ _ HRW.out fT.out).mono ?_;rintro e y1 ⟨s1,rfl,bI⟩;have b1:=zka (zkb (zs W0) (.cells #[.string t0.s,.string s] 9)).drew bI;have aK:=zh (HS.out _ b1))
    | fail)
  have HB1:=zh (zka q0 b1);clear bI b1 aK;go_wp2_with fail;go_ret2;exact⟨s1,rfl,HB1.out⟩
theorem zrd(n:Int)(s:ByteArray)(ks:List T)(A:Option Addr)(c:Nat)(w:World)(hrow:zkU w Any A ks)(hl:2<=ks.length)(hlk:ks.length<=LK)(hd:∀t∈ks,dep t<=1000)(hp:∀t∈ks,t.k=3->1<=t.ks.length) :
  Calls Tryz.prog 135 #[nv 43 n s A ks.length c] w (NmE w (if aliB ks [ks[0].s,ks[1].s]then 8 else 0)):=by
 have hrow':=hrow.later (zkb zr (.cells #[.int .u8 43,.int .i64 n,.string s,.slice A ks.length c] 24));obtain⟨a,t0,A1,c1,rfl,gT,h4,hn0⟩:=row0 hrow' (by omega);obtain⟨t1,A2,c2,nA,h5,hn1⟩:=rowI hrow' 0 (by omega);simp only[Nat.zero_add,Nat.one_mul]at nA h5;rw[gT.out,nA.out];obtain⟨R,hR⟩:∃R:Int,(if aliB ks [t0.s,t1.s]=true then 8 else 0)=R:=⟨_,rfl⟩
 rw[hR];obtain⟨L,hL⟩:=zX (ks.length);have fJ:=zh (show ∀(B:Option Addr) (d:Nat) (w:World),zkU w Any (some a) ks->RowS w B [t0.s,t1.s]->Calls Tryz.prog 157 #[.slice (some a) L c,.slice B 2 d] w (NmE w R)from fun B d w h h'=>hL▸hR▸zoV ks [t0.s,t1.s] (some a) c B d w h h' hlk (by simp) (fun t ht=>⟨hd t ht,hp t ht⟩));have hfl:(0:Int)<(L:Int):=by omega
 have gL:0<L:=by omega
 have sH:(1:Int)<(L:Int):=by omega
 have sG:1<L:=by omega
 have hbx:=box4 (heap_alloc_new w (.cells #[.int .u8 43,.int .i64 n,.string s,.slice (some a) ks.length c] 24));have aa:=zh hrow';clear gT nA hrow hrow' hR hd hp;rw[hL]at h4 h5 hl hbx aa ⊢;obtain⟨W0,hW0⟩:=zX (w.alloc (.cells #[.int .u8 43,.int .i64 n,.string s,.slice (some a) L c] 24));have q0:Below w.heap.size w W0:=hW0▸zkb zr _;rw[hW0]at h4 h5 hbx aa;obtain⟨x0,x1,x2,x3⟩:=hbx;obtain⟨a0,a1,a2,a3⟩:=h4;obtain⟨b0,b1,b2,b3⟩:=h5;have hb1:=zsy;clear hn0 hn1 hL hl;go_enter Tryz.func135,Tryz.ntmps135;go_upto_region 11 with fail;have HS:=zh (show ∀w',Below W0.heap.size W0 w'->w'.cell? ⟨w.heap.size,3,none⟩=some (.slice (some a) L c)/\Nd4 w' a t0 A1 c1/\Nd4 w' ⟨a.block,a.off+4,none⟩ t1 A2 c2 from fun w' h=>⟨zb h x3,zl6 h ⟨a0,a1,a2,a3⟩,zl6 h ⟨b0,b1,b2,b3⟩⟩);clear x3 a0 a1 a2 a3 b0 b1 b2 b3 x1 x2
 go_region_held3 (fun w':World=>zv w' w.heap.size 3 (.slice (some a) L c)/\(w'.cell? a=some (.int .u8 t0.k)/\zv w' a.block (a.off+1) (.int .i64 t0.n)/\zv w' a.block (a.off+2) (.string t0.s)/\zv w' a.block (a.off+3) (.slice A1 t0.ks.length c1))/\(zv w' a.block (a.off+4) (.int .u8 t1.k)/\zv w' a.block (a.off+4+1) (.int .i64 t1.n)/\zv w' a.block (a.off+4+2) (.string t1.s)/\zv w' a.block (a.off+4+3) (.slice A2 t1.ks.length c2)))
   (exact HS.out _ (by first|exact zr.drew|exact(zkb zr _).drew|exact(zkb (zkb zr _) _).drew|fail))
   (first|fail)
 ·have hrs:=zn7 ((W0.alloc (.cells #[.int .u8 t0.k,.int .i64 t0.n,.string t0.s,.slice A1 t0.ks.length c1] 24)).alloc (.cells #[.int .u8 t1.k,.int .i64 t1.n,.string t1.s,.slice A2 t1.ks.length c2] 24)) 9 [t0.s,t1.s];simp only[World.size_alloc]at hrs;have fT:=zh hrs;clear hrs;go_wp2_with fail;refine(fJ.out _ _ _ (aa.out.later (zkb (zkb (zkb zr _) _) _).drew) fT.out).mono ?_;rintro e y1 ⟨s1,rfl,bI⟩;have HB1:=zh (zka q0 (zka (zkb (zkb (zkb (zs W0) _) _) _).drew bI));clear bI;go_wp2_with fail;go_ret2;exact⟨s1,rfl,HB1.out⟩
 ·have hrs:=zn7 ((W0.alloc (.cells #[.int .u8 t1.k,.int .i64 t1.n,.string t1.s,.slice A2 t1.ks.length c2] 24)).alloc (.cells #[.int .u8 t0.k,.int .i64 t0.n,.string t0.s,.slice A1 t0.ks.length c1] 24)) 9 [t0.s,t1.s];simp only[World.size_alloc]at hrs;have fT:=zh hrs;clear hrs;go_wp2_with fail;refine(fJ.out _ _ _ (aa.out.later (zkb (zkb (zkb zr _) _) _).drew) fT.out).mono ?_;rintro e y1 ⟨s1,rfl,bI⟩;have HB1:=zh (zka q0 (zka (zkb (zkb (zkb (zs W0) _) _) _).drew bI));clear bI;go_wp2_with fail;go_ret2;exact⟨s1,rfl,HB1.out⟩
theorem zre(k n:Int)(s:ByteArray)(A:Option Addr)(l c:Nat)(w:World)(hk:k<40\/54<=k)(hk2:k≠56):Calls Tryz.prog 135 #[nv k n s A l c] w (NmE w 0):=by
 have z56:(k==56)=false:=by simp;omega
 have z40:(k==40)=false:=by simp;omega
 have z41:(k==41)=false:=by simp;omega
 have z42:(k==42)=false:=by simp;omega
 have z43:(k==43)=false:=by simp;omega
 have z44:(k==44)=false:=by simp;omega
 have z45:(k==45)=false:=by simp;omega
 have z46:(k==46)=false:=by simp;omega
 have z47:(k==47)=false:=by simp;omega
 have z48:(k==48)=false:=by simp;omega
 have z49:(k==49)=false:=by simp;omega
 have z50:(k==50)=false:=by simp;omega
 have z51:(k==51)=false:=by simp;omega
 have z52:(k==52)=false:=by simp;omega
 have z53:(k==53)=false:=by simp;omega
 clear hk hk2;go_enter Tryz.func135,Tryz.ntmps135;go_wp2_with fail;go_ret2;exact⟨_,rfl,zkb zr _⟩
theorem ztX(n:Int)(s:ByteArray)(ks:List T)(A:Option Addr)(c:Nat)(w:World)(hrow:zkU w Any A ks)(hl:4<=ks.length) :
  Calls Tryz.prog 135 #[nv 52 n s A ks.length c] w (NmE w (if conB ks[3] && !conB ks[0]then 10 else 0)):=by
 have hrow':=hrow.later (zkb zr (.cells #[.int .u8 52,.int .i64 n,.string s,.slice A ks.length c] 24));obtain⟨a,t0,A1,c1,rfl,gT,h4,hn0⟩:=row0 hrow' (by omega);obtain⟨t1,A2,c2,nA,h5,hn1⟩:=rowI hrow' 2 (by omega);simp only[Nat.reduceAdd,Nat.reduceMul]at nA h5;rw[gT.out,nA.out];obtain⟨R,hR⟩:∃R:Int,(if (conB t1 && !conB t0)=true then 10 else 0)=R:=⟨_,rfl⟩
 rw[hR];obtain⟨b0,hb0⟩:=zX (conB t0);obtain⟨b1,hb1⟩:=zX (conB t1);have H0:=zh (show ∀v w,NV w Any t0 v->Calls Tryz.prog 160 #[v] w fun e w'=>e=.returned (.bool b0)/\Below w.heap.size w w' from fun v w h=>hb0▸zmN t0 v w h);have H1:=zh (show ∀v w,NV w Any t1 v->Calls Tryz.prog 160 #[v] w fun e w'=>e=.returned (.bool b1)/\Below w.heap.size w w' from fun v w h=>hb1▸zmN t1 v w h);rw[hb0,hb1]at hR;have HR:=zh hR;obtain⟨L,hL⟩:=zX (ks.length);have hfl:(0:Int)<(L:Int):=by omega
 have gL:0<L:=by omega
 have sH:(3:Int)<(L:Int):=by omega
 have sG:3<L:=by omega
 have hbx:=box4 (heap_alloc_new w (.cells #[.int .u8 52,.int .i64 n,.string s,.slice (some a) ks.length c] 24));clear gT nA hrow hrow' hR hb0 hb1;rw[hL]at h4 h5 hn0 hn1 hl hbx ⊢;obtain⟨W0,hW0⟩:=zX (w.alloc (.cells #[.int .u8 52,.int .i64 n,.string s,.slice (some a) L c] 24));have q0:Below w.heap.size w W0:=hW0▸zkb zr _;rw[hW0]at h4 h5 hn0 hn1 hbx;have fE:=zh hn0;have fB:=zh hn1;have bE:=zh (show ∀w',Below W0.heap.size W0 w'->(Nd4 w' a t0 A1 c1/\Nd4 w' ⟨a.block,a.off+12,none⟩ t1 A2 c2)/\w'.cell? ⟨w.heap.size,0,none⟩=some (.int .u8 52)/\w'.cell? ⟨w.heap.size,3,none⟩=some (.slice (some a) L c)from fun w' h=>⟨⟨zl6 h h4,zl6 h h5⟩,zb h hbx.1,zb h hbx.2.2.2⟩);clear hn0 hn1 h4 h5 hbx hL hl;obtain⟨⟨⟨a0,a1,a2,a3⟩,⟨b0',b1',b2,b3⟩⟩,x0,x3⟩:=bE.out _ zr;go_enter Tryz.func135,Tryz.ntmps135;go_wp2_with fail;refine(H1.out _ _ fB.out).mono ?_;rintro e w1 ⟨rfl,ae⟩
 obtain⟨⟨⟨a0,a1,a2,a3⟩,⟨b0',b1',b2,b3⟩⟩,x0,x3⟩:=bE.out _ ae;have q1:=zka q0 ae;have aL:=zh (fE.out.later ae);clear ae
 cases b1
 ·go_wp2_with fail;go_ret2;exact⟨_,by rw[<-HR.out];rfl,q1⟩
 ·go_wp2_with fail;refine(H0.out _ _ aL.out).mono ?_;rintro e w2 ⟨rfl,aj⟩;have q2:=zka q1 aj;clear aj
  cases b0
  ·go_wp2_with fail;go_ret2;exact⟨_,by rw[<-HR.out];rfl,q2⟩
  ·go_wp2_with fail;go_ret2;exact⟨_,by rw[<-HR.out];rfl,q2⟩
theorem zrf(n:Int)(s:ByteArray)(ks:List T)(A:Option Addr)(c:Nat)(w:World)(hrow:zkU w Any A ks)(hl:4<=ks.length) :
  Calls Tryz.prog 135 #[nv 53 n s A ks.length c] w (NmE w (if conB ks[0]then 10 else 0)):=by
 have hrow':=hrow.later (zkb zr (.cells #[.int .u8 53,.int .i64 n,.string s,.slice A ks.length c] 24));obtain⟨a,t0,A1,c1,rfl,gT,h4,hn0⟩:=row0 hrow' (by omega);rw[gT.out];obtain⟨R,hR⟩:∃R:Int,(if conB t0=true then 10 else 0)=R:=⟨_,rfl⟩
 rw[hR];obtain⟨b0,hb0⟩:=zX (conB t0);have H0:=zh (show ∀v w,NV w Any t0 v->Calls Tryz.prog 160 #[v] w fun e w'=>e=.returned (.bool b0)/\Below w.heap.size w w' from fun v w h=>hb0▸zmN t0 v w h);rw[hb0]at hR;have HR:=zh hR;obtain⟨L,hL⟩:=zX (ks.length);have hfl:(0:Int)<(L:Int):=by omega
 have gL:0<L:=by omega
 have hbx:=box4 (heap_alloc_new w (.cells #[.int .u8 53,.int .i64 n,.string s,.slice (some a) ks.length c] 24));clear gT hrow hrow' hR hb0;rw[hL]at h4 hn0 hl hbx ⊢;obtain⟨W0,hW0⟩:=zX (w.alloc (.cells #[.int .u8 53,.int .i64 n,.string s,.slice (some a) L c] 24));have q0:Below w.heap.size w W0:=hW0▸zkb zr _;rw[hW0]at h4 hn0 hbx;have fE:=zh hn0;obtain⟨a0,a1,a2,a3⟩:=h4;obtain⟨x0,x1,x2,x3⟩:=hbx;clear hn0 hL hl;go_enter Tryz.func135,Tryz.ntmps135;go_wp2_with fail;refine(H0.out _ _ fE.out).mono ?_;rintro e w1 ⟨rfl,ae⟩;have q1:=zka q0 ae;clear ae a0 a1 a2 a3 x0 x1 x2 x3
 cases b0
 ·go_wp2_with fail;go_ret2;exact⟨_,by rw[<-HR.out];rfl,q1⟩
 ·go_wp2_with fail;go_ret2;exact⟨_,by rw[<-HR.out];rfl,q1⟩
theorem zrg(k n:Int)(s:ByteArray)(ks:List T)(A:Option Addr)(c:Nat)(w:World)(hk:k=50\/k=51)(hrow:zkU w Any A ks)(hlk:ks.length<=LK)(hlc:ks.length<=c) :
  Calls Tryz.prog 135 #[nv k n s A ks.length c] w (NmE w (if dupB ks then 8 else 0)):=by
 have hl':=zkF hlk;obtain⟨R,hR⟩:∃R:Int,(if dupB ks=true then 8 else 0)=R:=⟨_,rfl⟩
 rw[hR];have HR:=zh hR;have aa:=zh hrow;have yu:=zh hlk;clear hR hrow hlk;rcases hk with rfl|rfl
 ·go_enter Tryz.func135,Tryz.ntmps135;go_wp2_with fail
  go_loopw [100] (fun i wr=>∃j:Nat,j<=ks.length/\i=.int .i64 j/\Below w.heap.size w wr/\wr.heap[w.heap.size]?=some (.cells #[.int .u8 50,.int .i64 n,.string s,.slice A ks.length c] 24 (0,0))/\Hid (∀q (hq:q<ks.length),q<j->hasN (ks.take q) ks[q].s=false)) (fun i _=>ks.length-(intOf i).toNat)
  case atStart=>exact⟨0,Nat.zero_le _,rfl,zkb zr _,heap_alloc_new w _,zh fun q _ h=>by omega⟩
  case round =>
   obtain⟨j,hj,rfl,hbl,hbx,HJ⟩:=hrel;have aF:=zh hbx;have ag:=zh hbl;by_cases hlt:j<ks.length
   ·obtain⟨a,t,A1,c1,rfl,_,Ht,⟨q0,q1,q2,q3⟩,-⟩:=(aa.out.later hbl).nd hlt;obtain⟨m0,m1,m2,m3⟩:=box4 hbx;have yN:=fun o=>zkj m3 o;obtain⟨b,hb⟩:=zX (hasN (ks.take j) t.s);have htl:(ks.take j).length=j:=by simp;omega
    have xy:=zh (show ∀(c:Nat) (nb:Nat) (w:World),zkU w Any (some a) (ks.take j)->w.cell? ⟨nb,2,none⟩=some (.string t.s)->Calls Tryz.prog 158 #[.slice (some a) j c,.func (.func 159) #[] #[.pointer (some ⟨nb,0,none⟩)]] w fun e w'=>e=.returned (.bool b)/\Below w.heap.size w w' from fun c nb w h h'=>by
     have:=znC (ks.take j) (some a) c t.s nb w h (by have:=yu.out;omega) h';rwa[htl,hb]at this)
    have HB:=zh hb;have Am:=zh (show zkU (wr.alloc (.cells #[.int .u8 t.k,.int .i64 t.n,.string t.s,.slice A1 t.ks.length c1] 24)) Any (some a) (ks.take j)from fun i hi=>by
     have hi':i<ks.length:=by simp at hi;omega
     have:=(aa.out.later (zkb hbl (.cells #[.int .u8 t.k,.int .i64 t.n,.string t.s,.slice A1 t.ks.length c1] 24))) i hi';simpa using this)
    have hjc:j<=c:=by omega
    have hjc':(j:Int)<=(c:Int):=by omega
    clear hb htl hbx hbl;go_wp2_with fail;refine(xy.out _ _ _ Am.out (by simp)).mono ?_;rintro e w1 ⟨rfl,ae⟩;have HB1:=zh (zka (zkb ag.out _) ae);have pQ:=zh (zkc (zkd aF.out _) ae);have hy2:w1.cell? ⟨wr.heap.size,2,none⟩=some (.string t.s):=zb ae (by simp);clear ae q0 q1 q2 q3 m0 m1 m2 m3 yN
    cases b
    ·have HJ2:Hid (∀q (hq:q<ks.length),q<j+1->hasN (ks.take q) ks[q].s=false):=zh fun q hq hqj=>by
      by_cases e:q<j
      ·exact HJ.out q hq e
      ·obtain rfl:q=j:=by omega
       rw[Ht.out];exact HB.out
     go_wp2_with fail
     go_roundw
     case rel=>exact⟨j+1,by omega,by go_num,HB1.out,pQ.out,HJ2⟩
     case measure=>simp[intOf];omega
    ·have hRR:R=8:=by rw[<-HR.out,if_pos (zsr hlt (by rw[Ht.out];exact HB.out))]
     have HRR:=zh hRR;clear hRR;go_wp2_with fail;go_ret2;exact⟨_,by rw[HRR.out];rfl,HB1.out⟩
   ·have hRR:R=0:=by rw[<-HR.out,zu3 fun q hq=>HJ.out q hq (by omega)];rfl
    have HRR:=zh hRR;clear hRR hbl hbx;go_wp2_with fail;go_ret2;exact⟨_,by rw[HRR.out];rfl,ag.out⟩
 ·go_enter Tryz.func135,Tryz.ntmps135;go_wp2_with fail
  go_loopw [100] (fun i wr=>∃j:Nat,j<=ks.length/\i=.int .i64 j/\Below w.heap.size w wr/\wr.heap[w.heap.size]?=some (.cells #[.int .u8 51,.int .i64 n,.string s,.slice A ks.length c] 24 (0,0))/\Hid (∀q (hq:q<ks.length),q<j->hasN (ks.take q) ks[q].s=false)) (fun i _=>ks.length-(intOf i).toNat)
  case atStart=>exact⟨0,Nat.zero_le _,rfl,zkb zr _,heap_alloc_new w _,zh fun q _ h=>by omega⟩
  case round =>
   obtain⟨j,hj,rfl,hbl,hbx,HJ⟩:=hrel;have aF:=zh hbx;have ag:=zh hbl;by_cases hlt:j<ks.length
   ·obtain⟨a,t,A1,c1,rfl,_,Ht,⟨q0,q1,q2,q3⟩,-⟩:=(aa.out.later hbl).nd hlt;obtain⟨m0,m1,m2,m3⟩:=box4 hbx;have yN:=fun o=>zkj m3 o;obtain⟨b,hb⟩:=zX (hasN (ks.take j) t.s);have htl:(ks.take j).length=j:=by simp;omega
    have xy:=zh (show ∀(c:Nat) (nb:Nat) (w:World),zkU w Any (some a) (ks.take j)->w.cell? ⟨nb,2,none⟩=some (.string t.s)->Calls Tryz.prog 158 #[.slice (some a) j c,.func (.func 159) #[] #[.pointer (some ⟨nb,0,none⟩)]] w fun e w'=>e=.returned (.bool b)/\Below w.heap.size w w' from fun c nb w h h'=>by
     have:=znC (ks.take j) (some a) c t.s nb w h (by have:=yu.out;omega) h';rwa[htl,hb]at this)
    have HB:=zh hb;have Am:=zh (show zkU (wr.alloc (.cells #[.int .u8 t.k,.int .i64 t.n,.string t.s,.slice A1 t.ks.length c1] 24)) Any (some a) (ks.take j)from fun i hi=>by
     have hi':i<ks.length:=by simp at hi;omega
     have:=(aa.out.later (zkb hbl (.cells #[.int .u8 t.k,.int .i64 t.n,.string t.s,.slice A1 t.ks.length c1] 24))) i hi';simpa using this)
    have hjc:j<=c:=by omega
    have hjc':(j:Int)<=(c:Int):=by omega
    clear hb htl hbx hbl;go_wp2_with fail;refine(xy.out _ _ _ Am.out (by simp)).mono ?_;rintro e w1 ⟨rfl,ae⟩;have HB1:=zh (zka (zkb ag.out _) ae);have pQ:=zh (zkc (zkd aF.out _) ae);have hy2:w1.cell? ⟨wr.heap.size,2,none⟩=some (.string t.s):=zb ae (by simp);clear ae q0 q1 q2 q3 m0 m1 m2 m3 yN
    cases b
    ·have HJ2:Hid (∀q (hq:q<ks.length),q<j+1->hasN (ks.take q) ks[q].s=false):=zh fun q hq hqj=>by
      by_cases e:q<j
      ·exact HJ.out q hq e
      ·obtain rfl:q=j:=by omega
       rw[Ht.out];exact HB.out
     go_wp2_with fail
     go_roundw
     case rel=>exact⟨j+1,by omega,by go_num,HB1.out,pQ.out,HJ2⟩
     case measure=>simp[intOf];omega
    ·have hRR:R=8:=by rw[<-HR.out,if_pos (zsr hlt (by rw[Ht.out];exact HB.out))]
     have HRR:=zh hRR;clear hRR;go_wp2_with fail;go_ret2;exact⟨_,by rw[HRR.out];rfl,HB1.out⟩
   ·have hRR:R=0:=by rw[<-HR.out,zu3 fun q hq=>HJ.out q hq (by omega)];rfl
    have HRR:=zh hRR;clear hRR hbl hbx;go_wp2_with fail;go_ret2;exact⟨_,by rw[HRR.out];rfl,ag.out⟩
theorem zri(k n:Int)(s:ByteArray)(ks:List T):rejE (.nd k n s ks)=(if k=56 then 9
 else if k=40\/k=41\/k=42 then if idxB (kidC (.nd k n s ks) 0) (kidC (.nd k n s ks) 0).s||menB (kidC (.nd k n s ks) 1) (kidC (.nd k n s ks) 0).s then 8 else 0
 else if k=43 then if aliB ks [(kidC (.nd k n s ks) 0).s,(kidC (.nd k n s ks) 1).s]then 8 else 0
 else if k=44\/k=45 then if aliB ks [(kidC (.nd k n s ks) 0).s,s]then 8 else 0
 else if 46<=k/\k<=49 then if aliB ks [(kidC (.nd k n s ks) 0).s]then 8 else 0
 else if k=50\/k=51 then if dupB ks then 8 else 0
 else if k=52 then if conB (kidC (.nd k n s ks) 3) && !conB (kidC (.nd k n s ks) 0)then 10 else 0
 else if k=53 then if conB (kidC (.nd k n s ks) 0)then 10 else 0
 else 0):=rfl
theorem zsT(t:T)(v:Value)(w:World)(hv:NV w Any t v)(h:zvC t):Calls Tryz.prog 135 #[v] w (NmE w (rejE t)):=by
 obtain⟨A,c,rfl,hf,hlk,hlc,hrow⟩:=hv.open_;have hd:∀x∈t.ks,dep x<=1000:=fun x hx=>by
  have h1:=zpE hx;have h2:=h.d
  cases t with
  | nd k n s ks=>simp only[dep,T.ks_nd]at *;omega
 obtain⟨hdd,h2,h1,h4,hp⟩:=h;obtain⟨k,n,s,ks⟩:=t;simp only[T.k_nd,T.n_nd,T.s_nd,T.ks_nd]at *
 rw[zri];by_cases e1:k=56
 ·subst e1;rw[if_pos rfl];exact zsS n s ks A c w hrow (h2 (by omega))
 rw[if_neg e1];by_cases e2:k=40\/k=41\/k=42
 ·rw[if_pos e2];have hl:=h2 (by omega);rw[zl2 (t:=.nd k n s ks) (i:=0) (by simp;omega),zl2 (t:=.nd k n s ks) (i:=1) (by simp;omega)];exact zsR k n s ks A c w e2 hrow hl hd (hp (by omega))
 rw[if_neg e2];by_cases e3:k=43
 ·subst e3;rw[if_pos rfl];have hl:=h2 (by omega);rw[zl2 (t:=.nd 43 n s ks) (i:=0) (by simp;omega),zl2 (t:=.nd 43 n s ks) (i:=1) (by simp;omega)];exact zrd n s ks A c w hrow hl hlk hd (hp (by omega))
 rw[if_neg e3];by_cases e4:k=44\/k=45
 ·rw[if_pos e4];have hl:=h1 (by omega);rw[zl2 (t:=.nd k n s ks) (i:=0) (by simp;omega)];exact ztW k n s ks A c w e4 hrow hl hlk hd (hp (by omega))
 rw[if_neg e4];by_cases e5:46<=k/\k<=49
 ·rw[if_pos e5];have hl:=h1 (by omega);rw[zl2 (t:=.nd k n s ks) (i:=0) (by simp;omega)];exact ztV k n s ks A c w (by omega) hrow hl hlk hd (hp (by omega))
 rw[if_neg e5];by_cases e6:k=50\/k=51
 ·rw[if_pos e6];exact zrg k n s ks A c w e6 hrow hlk hlc
 rw[if_neg e6];by_cases e7:k=52
 ·subst e7;rw[if_pos rfl];have hl:=h4 (by omega);rw[zl2 (t:=.nd 52 n s ks) (i:=0) (by simp;omega),zl2 (t:=.nd 52 n s ks) (i:=3) (by simp;omega)];exact ztX n s ks A c w hrow hl
 rw[if_neg e7];by_cases e8:k=53
 ·subst e8;rw[if_pos rfl];have hl:=h4 (by omega);rw[zl2 (t:=.nd 53 n s ks) (i:=0) (by simp;omega)];exact zrf n s ks A c w hrow hl
 rw[if_neg e8];exact zre k n s A ks.length c w (by omega) e1
def ztj(t:T):Prop:=isE t=true\/isS t=true\/isB t=true
theorem zuz{t:T}(h:isP t=true):t.k=3->1<=t.ks.length:=by
 intro h3;have hE:=zuA h;obtain⟨k,n,s,ks⟩:=t;simp only[T.k_nd,T.ks_nd]at *
 subst h3;rw[isE]at hE;simp at hE;omega
theorem zqx{k n:Int}{s:ByteArray}{ks:List T}(h:isS (.nd k n s ks)=true) :
  (k=40\/k=41\/k=42\/k=43\/k=56->2<=ks.length)/\(44<=k/\k<=49->1<=ks.length)/\(k=52\/k=53->4<=ks.length)/\40<=k/\k<=56:=by
 rw[isS]at h
 repeat' split at h
 all_goals first
  | cases h
  | (simp only[zkK,Bool.and_eq_true,decide_eq_true_eq]at h;omega)
theorem zpj{k n:Int}{s:ByteArray}{ks:List T}(h:ztj (.nd k n s ks)):∀t∈ks,ztj t:=by
 intro t ht;rcases h with h|h|h
 ·exact .inl (zp0 h t ht)
 ·rcases(zuy h).2 t ht with h|h
  ·exact .inl h
  ·exact .inr (.inr h)
 ·exact .inr (.inl (((zuB _ _ _ _).1 h).2.2 t ht))
theorem zwJ(t:T):ztj t->∀x∈po t,ztj x/\dep x<=dep t:=by
 induction t using T.ind with
 | _ k n s ks ih =>
  intro h x hx;rw[po,List.mem_cons]at hx;rcases hx with rfl|hx
  ·exact⟨h,zl⟩
  ·obtain⟨t,ht,hx⟩:=zmH.1 hx;obtain⟨h1,h2⟩:=ih t ht (zpj h t ht) x hx;have:=zpE ht;exact⟨h1,by simp only[dep];omega⟩
theorem zw0{t:T}(h:isE t=true):t.k=3->1<=t.ks.length:=fun h3=>zuz (t:=t) (by simp[isP,h3,h]) h3
theorem zwx{t:T}(h:ztj t)(hd:dep t<=1000):zvC t:=by
 obtain⟨k,n,s,ks⟩:=t;have hpl:∀x∈ks,40<=k/\k<=49->x.k=3->1<=x.ks.length:=fun x hx hk h3=>by
  rcases zpj h x hx with h'|h'|h'
  ·exact zw0 h' h3
  ·obtain⟨k',n',s',ks'⟩:=x;have:=(zqx h').2.2.2;simp only[T.k_nd]at h3;omega
  ·have:=zy3 h';omega
 rcases h with h'|h'|h'
 ·have:=zqy h';exact⟨hd,fun h=>by simp at h;omega,fun h=>by simp at h;omega,fun h=>by simp at h;omega,fun h x hx=>hpl x hx h⟩
 ·have:=zqx h';exact⟨hd,this.1,this.2.1,this.2.2.1,fun h x hx=>hpl x hx h⟩
 ·have:=zy3 h';simp only[T.k_nd]at this;exact⟨hd,fun h=>by simp at h;omega,fun h=>by simp at h;omega,fun h=>by simp at h;omega,fun h x hx=>hpl x hx h⟩
theorem zww{t:T}(h:ztj t)(hd:dep t<=1000):∀x∈po t,zvC x:=fun x hx =>
 have ⟨h1,h2⟩:=zwJ t h x hx
 zwx h1 (by omega)
attribute [local go_sem] Oper.semAt_some
theorem ztZ:(Tryz.prog.info? 204).map (fun i=>(i.zero,i.size,i.bytes))=some (some (.agg #[.int .i64 0,.slice none 0 0,.int .i64 0,.string ⟨#[]⟩]),4,56):=by kernel_rfl
theorem zzz(p:Int)(A:Option Addr)(l c:Nat)(e:Int)(s:ByteArray)(w:World):(Instr.build 204 #[(0,.int .i64 p),(1,.slice A l c),(2,.int .i64 e),(3,.string s)]).run Tryz.prog w=.ok (.agg #[.int .i64 p,.slice A l c,.int .i64 e,.string s]) w:=by kernel_rfl
theorem zxG(a0 a1 a2 a3:Value)(w:World):(Instr.buildSlice 133 1 #[(0,.agg #[a0,a1,a2,a3])]).run Tryz.prog w=.ok (.slice (some ⟨w.heap.size,0,none⟩) 1 1) (w.alloc (.cells #[a0,a1,a2,a3] 204)):=by kernel_rfl
def rejN(l:List T):Nat:=(l.filter fun x=>rejE x != 0).length
structure RjS(W:World)(n0 fb N:Nat)(pv:Value):Prop where
 box:W.heap[fb]?=some (.cells #[pv] 133 (0,0))
 row:∃xs,W.ownsRow n0 204 4 pv N xs/\∀u∈xs,u.oneCell'=true
 ge:n0<=fb
 ne:pv.ownBlock≠some fb
section
variable {W W':World} {n0 fb N N':Nat} {pv pv':Value}
theorem RjS.lt(h:RjS W n0 fb N pv):fb<W.heap.size/\∀b,pv.ownBlock=some b->n0<=b/\b<W.heap.size:=⟨zkf h.box,let ⟨_,hr,_⟩:=h.row;hr.lt⟩
theorem RjS.chg{C:Nat->Prop}(h:RjS W n0 fb N pv)(hc:Chg C W W')(hC:∀b,b=fb\/pv.ownBlock=some b->¬ C b):RjS W' n0 fb N pv:=by
 refine⟨hc.keep h.box (hC _ (.inl rfl)),?_,h.ge,h.ne⟩;obtain⟨xs,⟨e1,h2⟩,h9⟩:=h.row;refine⟨xs,⟨e1,?_⟩,h9⟩;rcases h2 with h2|⟨g,cap,cur,rfl,hb,hg,h3⟩
 ·exact .inl h2
 ·exact .inr ⟨g,cap,cur,rfl,hb,hc.keep hg (hC _ (.inr rfl)),h3⟩
theorem RjS.later(h:RjS W n0 fb N pv)(hb:Below W.heap.size W W'):RjS W' n0 fb N pv:=h.chg (C:=fun _=>False) (Chg.of_below hb) (fun _ _ h=>h)
theorem RjS.put(h:RjS W n0 fb N pv)(ho:∃xs,W'.ownsRow n0 204 4 pv' N' xs/\∀u∈xs,u.oneCell'=true)(hg:W.grownBy W' pv.ownBlock)(bu:∀b,pv'.ownBlock=some b->pv.ownBlock=some b\/W.heap.size<=b) :
  RjS (W'.setCell ⟨fb,0,none⟩ pv') n0 fb N' pv':=by
 have hp':W'.heap[fb]?=some (.cells #[pv] 133 (0,0)):=(hg.block _ (zkf h.box) (fun e=>h.ne e.symm)).trans h.box;have kW:pv'.ownBlock≠some fb:=fun e=>by
  rcases bu _ e with e|e
  ·exact h.ne e
  ·have:=zkf h.box;omega
 refine⟨by have:=heap_setCell_same W' fb 0 _ _ pv' hp';simpa using this,?_,h.ge,kW⟩;obtain⟨xs,⟨e1,h2⟩,h9⟩:=ho;refine⟨xs,⟨e1,?_⟩,h9⟩;rcases h2 with h2|⟨g,cap,cur,rfl,hb,hg',h3⟩
 ·exact .inl h2
 ·refine .inr ⟨g,cap,cur,rfl,hb,?_,h3⟩;rw[Below.heap_setCell _ _ _ _ (fun e=>kW (by subst e;rfl))];exact hg'
theorem RjS.slice(h:RjS W n0 fb N pv):∃A c,pv=.slice A N c:=by
 obtain⟨xs,⟨e1,h2⟩,_⟩:=h.row;rcases h2 with⟨rfl,rfl⟩|⟨g,cap,cur,rfl,_⟩
 ·exact⟨_,_,rfl⟩
 ·exact⟨_,_,rfl⟩
end
theorem zqr(l:List T)(x:T):rejN (l++[x])=rejN l+one1 (rejE x):=by
 unfold rejN one1;rw[List.filter_append,List.length_append];by_cases h:rejE x=0
 ·simp[h]
 ·simp[h]
theorem zpR(l:List T):rejN l<=l.length:=List.length_filter_le _ _
def ChkI(p:Int)(N:Nat)(pre:List T)(C:Nat->Prop)(W:World):Prop :=
 ∃pv,(∀b,C b↔b=N\/b=N+1+1\/pv.ownBlock=some b)/\W.heap[N]?=some (.cells #[.int .i64 p] 3 (0,0))/\RjS W (N+1+1) (N+1+1) (rejN pre) pv
theorem zpG(t:T)(p:Int)(v:Value)(w:World)(hv:NV w Any t v)(hd:dep t<=1000)(hsz:(po t).length<=100000)(hok:∀x∈po t,zvC x):Calls Tryz.prog 111 #[.int .i64 p,v] w fun e w'=>∃pv xs,e=.returned pv/\w'.ownsRow w.heap.size 204 4 pv (rejN (po t)) xs/\(∀u∈xs,u.oneCell'=true)/\Below w.heap.size w w':=by
 have HV:=zh hv;obtain⟨A,c,rfl,-⟩:=hv.open_;clear hv;have HD:=zh hd;have iC:=zh hok;have Ah:=zh hsz;clear hok hd hsz;generalize t.k=k,t.n=n,t.s=s,t.ks.length=m at *
 refine(callsIn_wide (n:=3)).1 (callsIn_of_wp_marks Tryz.func111 rfl trivial ((wpIn_wide (n:=3)).2 ?_));simp only[Tryz.ntmps111,List.size_toArray,List.length_cons,List.length_nil,Nat.reduceAdd,Nat.reduceSub,Array.replicate_succ,Array.replicate_zero,List.push_toArray,List.append_toArray,List.nil_append,List.cons_append];go_wp2_with fail;refine(zsD t _ _ (HV.out.later (zkb (zkb (zkb zr _) _) _))).mono ?_;rintro e x6 ⟨gr,k6,n6,s6,A6,m6,c6,rfl,hgr,hgb,iM,pM⟩;have q6:=zka (zkb (zkb (zkb (zs w) _) _) _) pM;have kH:=zkc (zkd (zkd (heap_alloc_new w (.cells #[.int .i64 p] 3)) (.cells #[.int .u8 k,.int .i64 n,.string s,.slice A m c] 24)) (.cells #[.slice none 0 0] 133)) pM;have zK:=zkc (heap_alloc_new ((w.alloc (.cells #[.int .i64 p] 3)).alloc (.cells #[.int .u8 k,.int .i64 n,.string s,.slice A m c] 24)) (.cells #[.slice none 0 0] 133)) pM
 simp only[World.size_alloc]at kH zK hgr;have xx:=zh hgb;have dS:=zh iM;have jV:=zh q6;have tX:=zh kH;have HLB:=zh zK;have vQ:=zh hgr;clear pM hgb iM q6 kH zK hgr;go_wp2_with fail;refine(wpIn_wide (n:=3)).1 ?_;refine zph (n:=3) (gf:=153) (lb := #[.pointer (some ⟨gr,0,none⟩)]) rfl (zkz zuE) (zoW (3-1) gr t x6 _ k6 n6 s6 A6 m6 c6 xx.out dS.out HD.out) rfl
  (ChkI p w.heap.size) (fun _ _ _=>False) (fun b=>b=w.heap.size\/b=w.heap.size+1+1)
  (fun pre C W W' ⟨pv,h1,h2,h3⟩ hc=>⟨pv,h1,hc.keep h2 (fun h=>h ((h1 _).2 (.inl rfl))),h3.chg hc (fun b hb h=>h ((h1 _).2 (.inr hb)))⟩)
  (fun _ _ _ _ h _=>h)
  (fun pre C W ⟨pv,h1,h2,h3⟩ b hb=>by rcases(h1 b).1 hb with rfl|rfl|h;exact zkf h2;exact h3.lt.1;exact(h3.lt.2 b h).2)
  (fun _ _ _ h=>h.elim)
  (fun b hb hr=>by have:=vQ.out;rcases hr with hr|hr<;>rcases hb with hb|hb<;>first|omega|(have:=hr.1;simp at this;omega)) ?_
  ⟨.slice none 0 0,fun b=>by simp[Value.ownBlock],tX.out,⟨HLB.out,⟨[],World.ownsRow_nil _ _ _ _,by simp⟩,zl,by simp[Value.ownBlock]⟩⟩ ?_ ?_ ?_
 ·rintro b (rfl|hb)
  ·exact zkf xx.out
  ·exact hb.2
 ·rintro l pre x C W pv' v ⟨pv,hC,hpb,hrs⟩ ek hl qH hpre ⟨Ap,mp,cp,rfl⟩ hnx;have hxm:x∈po t:=by
   obtain⟨ys,hys⟩:=hpre;rw[<-hys];simp
  have HRJ:=zh (iC.out x hxm);have xh:=zh (show rejN pre<=100000 from by
   have h1:=zpR pre;have h2:=Ah.out;have h3:=hpre.length_le;simp at h3;omega)
  have HNX:=zh hnx;obtain⟨Ax,cx,rfl,-⟩:=hnx.open_;change Code.wpIn (Fence.wide.inRound l) (3-1-1) Tryz.prog _ _ _ _
  gi_wp2
  refine⟨(Chg.refl _ _).alloc _,fun W2 hW2=>?_⟩;have hwl:=zkf hpb;have hbx:=hW2.keep (heap_alloc_new W (.cells #[.int .u8 x.k,.int .i64 x.n,.string x.s,.slice Ax x.ks.length cx] 24)) (show ¬ W.heap.size=l by omega);have hpb2:=hW2.keep (zkd hpb (.cells #[.int .u8 x.k,.int .i64 x.n,.string x.s,.slice Ax x.ks.length cx] 24)) (fun h=>ek ((hC _).2 (.inl h.symm)));have jH:=(hrs.later (zkb zr (.cells #[.int .u8 x.k,.int .i64 x.n,.string x.s,.slice Ax x.ks.length cx] 24))).chg hW2 (fun b hb h=>ek ((hC _).2 (.inr (by rcases hb with rfl|hb;exact .inl h.symm;exact .inr (h▸hb)))));have hnx2:NV W2 Any x (nv x.k x.n x.s Ax x.ks.length cx):=HNX.out.keep (fun _ _ _=>trivial) fun b hb hlt=>by
   rw[hW2.block b (by simp;omega) (show ¬ b=l by omega)];exact Below.heap_alloc W _ b hlt
  obtain⟨m0,m1,m2,m3⟩:=box4 hbx;have aP:=zh hC;have HPB2:=zh hpb2;have HRS2:=zh jH;have HNX2:=zh hnx2;have kM:=zh qH;clear hW2 hbx hpre hC hpb2 hrs jH hnx hnx2 hxm hpb;change Code.wpIn (Fence.wide.inRound l) (3-1-1) Tryz.prog _ _ _ _;obtain⟨er,her⟩:=zX (rejE x);have HRJC:=zh (her▸zsT x _ _ HNX2.out HRJ.out);have HER:=zh her;clear her
  gi_wp2
  refine⟨trivial,CallsIn.inRound l (callsIn_wide.2 ?_)⟩;refine HRJC.out.mono ?_;rintro e w3 ⟨s3,rfl,aT⟩;have tV:=zh (zkc HPB2.out aT);have gB:=HRS2.out.later aT;have HB3:=zh aT;clear aT m0 m1 m2 m3;by_cases he0:er=0
  ·subst he0;have nG:=zh gB;clear gB
   gi_wp2
   refine⟨C,⟨pv,aP.out,tV.out,?_⟩,fun b hb=>.inl hb,Chg.of_below HB3.out⟩;rw[zqr,HER.out];exact nG.out
  ·have e1:(er==0)=false:=by simpa using he0
   have e2:(er != 0)=true:=by simpa using he0
   obtain⟨uP,tF,rfl⟩:=gB.slice;have y0:w3.cell? ⟨w.heap.size,0,none⟩=some (.int .i64 p):=zc tV.out rfl;have y1:w3.cell? ⟨w.heap.size+1+1,0,none⟩=some (.slice uP (rejN pre) tF):=zc gB.box rfl;obtain⟨xs,hown,h1c⟩:=gB.row;have hl3:=gB.lt;have hge:=gB.ge;have nG:=zh gB;have hown':=hown.alloc (.cells #[.int .i64 p,.slice Ap mp cp,.int .i64 er,.string s3] 204);have hnl:=xh.out;have fB:=zh (zkY w3 204 [.int .i64 p,.slice Ap mp cp,.int .i64 er,.string s3]);have hbb:=zzz;have hbs:=zxG;obtain⟨i0,hi0,hz0,hz1,hz2⟩:=info_parts ztZ;clear gB hown
   gi_wp2_with (gi_at_builtin;refine zmx (P:=Tryz.prog) _ rfl (.tmp 21) (.tmp 27) 133 rfl (w.heap.size+1+1) 204 i0 _ 4 56 Tryz.underlying133 hi0 hz0 hz1 hz2 rfl (by decide) (.slice uP (rejN pre) tF) (rejN pre) xs rfl hown' ⟨w3.heap.size,0,none⟩ 1 1 [.int .i64 p,.slice Ap mp cp,.int .i64 er,.string s3] rfl rfl fB.out (by intro u hu;simp at hu;rcases hu with rfl|rfl|rfl|rfl<;>rfl) (by unfold maxLen;omega) (by omega) (by simp;omega) ?_;intro v' w' h2 h3 h5;have hbx:=(h3.block _ (by simp;omega) (fun e=>nG.out.ne e.symm)).trans (zkd nG.out.box _);have z0:w'.cell? ⟨w.heap.size+1+1,0,none⟩=some (.slice uP (rejN pre) tF):=zc hbx rfl;have z1:w'.frozen? ⟨w.heap.size+1+1,0,none⟩=false:=zf hbx;clear hbx;obtain⟨g8,aC,rfl⟩:=ownsRow_succ h2)
   have bu:∀b,(Value.slice (some ⟨g8,0,none⟩) (rejN pre+1) aC).ownBlock=some b->(Value.slice uP (rejN pre) tF).ownBlock=some b\/w3.heap.size<=b:=fun b hb=>by
    rcases h5 with h5|h5
    ·exact .inl (h5▸hb)
    ·exact .inr (by rw[h5]at hb;injection hb with hb;simp at hb;omega)
   have hput:=nG.out.put (W':=w') (pv':=.slice (some ⟨g8,0,none⟩) (rejN pre+1) aC) (N':=rejN pre+1) ⟨_,h2,fun u hu=>by
     rw[List.mem_append]at hu;rcases hu with hu|hu
     ·exact h1c u hu
     ·simp at hu;rcases hu with rfl|rfl|rfl|rfl<;>rfl⟩ ⟨h3.os,h3.tape,h3.output,Nat.le_trans (by simp) h3.size,fun b hb hne=>(h3.block b (by simp;omega) hne).trans (Below.heap_alloc w3 _ b hb)⟩ bu
   have hch:Chg C W2 (w'.setCell ⟨w.heap.size+1+1,0,none⟩ (.slice (some ⟨g8,0,none⟩) (rejN pre+1) aC)) :=
    (((Chg.of_below HB3.out).alloc _).trans2 (Chg.row h3) (fun b _ h=>(aP.out b).2 (.inr (.inr h)))).setCell (.inl ((aP.out _).2 (.inr (.inl rfl)))) _
   have hpb4:(w'.setCell ⟨w.heap.size+1+1,0,none⟩ (.slice (some ⟨g8,0,none⟩) (rejN pre+1) aC)).heap[w.heap.size]?=some (.cells #[.int .i64 p] 3 (0,0)):=by
    rw[Below.heap_setCell _ _ _ _ (by simp;omega),h3.block _ (by simp;omega) (fun e=>by have:=(hl3.2 _ e.symm).1;omega)];exact zkd tV.out _
   refine⟨fun b=>b=w.heap.size\/b=w.heap.size+1+1\/(Value.slice (some ⟨g8,0,none⟩) (rejN pre+1) aC).ownBlock=some b,⟨_,fun _=>Iff.rfl,hpb4,?_⟩,fun b hb=>?_,hch⟩
   ·rw[zqr,HER.out,one1,if_neg he0];exact hput
   ·rcases hb with hb|hb|hb
    ·exact .inl ((aP.out _).2 (.inl hb))
    ·exact .inl ((aP.out _).2 (.inr (.inl hb)))
    ·rcases bu b hb with h|h
     ·exact .inl ((aP.out _).2 (.inr (.inr h)))
     ·exact .inr (Nat.le_trans HB3.out.size h)
 ·intro D C W' hD hC hch hK;obtain⟨pv,bH,hpb7,eY⟩:=hC;obtain⟨uP,tF,rfl⟩:=eY.slice;have r0:W'.cell? ⟨w.heap.size+1+1,0,none⟩=some (.slice uP (rejN (po t)) tF):=zc eY.box rfl;have qF:=jV.out.size;have hlR:=zkf HLB.out;have kr:=zh (show Below w.heap.size w W' from jV.out.trans (hch.below qF (fun b h=>by omega)));have HK:=zh hK;have kL:=zh eY;clear hch hK eY bH hpb7;go_wp2_with fail;refine⟨by simp,.inl ⟨_,_,rfl,run_takeDeferred HK.out,?_⟩⟩;have aG:=kr.out.trans ((Chg.putObj W' D (.deferred none)).below (B:=w.heap.size) kr.out.size (fun b hb=>by have:b=D:=hb;omega));obtain⟨xs,⟨e1,h2⟩,h9⟩:=kL.out.row;refine⟨.slice uP (rejN (po t)) tF,by simp[results,Tryz.results111,go_sem],_,xs,rfl,⟨e1,?_⟩,h9,aG⟩;rcases h2 with h2|⟨g,cap,cur,h8,hb,hg,h3⟩
  ·exact .inl h2
  ·refine .inr ⟨g,cap,cur,h8,by omega,(World.putObj_heap_other (fun e=>?_)).trans hg,h3⟩;subst e;rw[HK.out]at hg
   cases hg
 ·intro D pre C W' hD hC;exact hC.elim
end
end Go.Proofs.YtghbhbdnkjjnnaaGreat
