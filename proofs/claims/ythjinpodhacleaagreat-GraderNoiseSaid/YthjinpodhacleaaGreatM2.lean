
/-
  Texts of the proof, put together without their remarks: Inv, Rg, Ipg, Ar, RowI, Cz, Scf, Scp, ScA, ScC, RgI, Rf, Wp, Cal, ScR, Fa, Ce.
-/
import Derived.Test.YthjinpodhacleaaGreatM1
import Derived.Deep.RegionHeld3
import Derived.Deep.DeepCutAuto
import Derived.Laws.EntriesVeiled
import Derived.Laws.Closers25b
import Derived.Deep.Cut
import Derived.ArgAppend
import Derived.RangeFuncNested
import Derived.RangeFuncBound
import Derived.RangeFuncCalls
import Derived.RangeFuncLeaves
import Derived.OwnWalkIn
import Derived.TacticsInMore
import Derived.LoopNIn
import Derived.LoopIn
import Derived.OrdersIn
import Derived.BigQuiet
import Derived.Deep.RegionLaw
set_option linter.unusedSimpArgs false
set_option linter.unusedVariables false
set_option maxHeartbeats 8000000
set_option maxRecDepth 100000
namespace Go.Proofs.YthjinpodhacleaaGreat
open Tryz
section
open Go.RowKit
theorem zmC(k:Int)(w:World):Calls prog 128 #[zj k] w fun e w'=>e=.returned (zj (exch k))/\w=w':=by
 go_enter func128,ntmps128;go_wp2
 all_goals (go_ret;exact⟨by simp_all [exch],rfl⟩)
theorem zLr(k n:Int)(s:ByteArray)(A:Option Addr)(l c:Nat)(w:World):(Instr.build 28 #[(0,zj k),(1,zi n),(2,.string s),(3,.slice A l c)]).run prog w=.ok (nv k n s A l c) w:=zK
theorem ztU(keep:Bool)(t:T):∀(v:Value) (w:World),NV w Any t v->okT t->Calls prog 102 #[v,.bool keep] w (zqw w (inv keep t)):=by
 obtain⟨i0,hi0,hz0,hz1,hz2⟩:=info_parts zp9
 induction t using T.ind with
 | _ k n s ks ih =>
 intro v w hv hok;obtain⟨A,c,rfl,hf,hlk,hlc,hrow⟩:=hv.open_;simp only[zND]at *
 have av:=zkz hlk;have hmk:=fun W=>zlf (P:=prog) 26 28 i0 _ underlying26 hi0 hz0 .i64 .i64 ks.length ks.length zl (by rw[hz2];omega) zO W;rw[hz1]at hmk;have hb4:=zLr;have IH:=zh ih;have fw:=zh hok;clear hv ih hok;go_enter func102,ntmps102;go_upto_region 1 with fail
 go_cut [5] (fun s5 wx=>∃gm gr:Nat,s5=.pointer (some ⟨gm,0,none⟩)/\zll w wx 28 k n s A ks.length c k gm gr (List.replicate ks.length zeroT))
 case first =>
  go_region
  ·go_wp2_with fail
   go_meet
   exact⟨_,_,rfl,zll.start1 w _ k n s A _ c hlk⟩
  ·go_wp2_with fail
   go_meet
   exact⟨_,_,rfl,zll.start2 w _ k n s A _ c hlk⟩
 case rest =>
  obtain⟨gm,gr,rfl,hst⟩:=hcut;have tN:wc.cell? ⟨w.heap.size,3,none⟩=some (.slice A ks.length c):=zc hst.arg rfl;clear hmk hb4;go_wp2_with fail
  go_loopw [23] (fun i wr=>∃j:Nat,j<=ks.length/\i=zi j/\zll w wr 28 k n s A ks.length c k gm gr (zmR (invK keep (k==57)) ks j)) (fun i _=>ks.length-(intOf i).toNat)
  case atStart=>exact⟨0,Nat.zero_le _,rfl,by rw[zsh];exact hst⟩
  case round =>
   obtain⟨j,hj,rfl,hs⟩:=hrel;clear hst tN;by_cases hlt:j<ks.length
   ·obtain⟨a,t,A1,c1,rfl,_,Ht,⟨q0,q1,q2,q3⟩,hn⟩:=(hrow.later hs.below).nd hlt;have hokt:k=57\/t.k=57->okT t:=fun h=>by
     have:=zzH k n s ks fw.out ks[j] (List.getElem_mem hlt);rw[Ht.out]at this;exact this h
    have zn:=zh hokt;have ih1:=IH.out ks[j] (List.getElem_mem hlt);rw[Ht.out]at ih1;have IH1:=zh ih1;have a0:wr.cell? ⟨w.heap.size,0,none⟩=some (zj k):=zc hs.arg rfl;have g3:wr.cell? ⟨gm,3,none⟩=some (.slice (some ⟨gr,0,none⟩) ks.length ks.length):=zc hs.box rfl;have a0':=zkj a0;have hgm:=zkf hs.box;have hgr:=hs.grlo;have hlo:=hs.lo;have hne1:gm≠gr:=hs.ne;have hne2:wr.heap.size≠gr:=zO
    have hne3:wr.heap.size≠gm:=zO
    have pq:j<(zmR (invK keep (k==57)) ks j).length:=by rw[zt3 _ _ _ hj];exact hlt
    have i1:(0:Int)<=(j:Int):=zO
    have i2:(j:Int)<(ks.length:Int):=zO
    have hsz:=hs.size;clear ih1 hokt hrow;by_cases hB:k=57\/t.k=57
    ·have HK:=zh (show invK keep (k==57) t=inv keep t by unfold invK;rw[if_pos];rcases hB with h|h<;>simp[h]);have HB:=zh hB;rcases Bool.eq_false_or_eq_true (k==57)with hk1|hk1
     all_goals
      have hk2:((k==57)||(t.k==57))=true:=by rcases hB with h|h<;>simp[h]
      simp only[hk1,Bool.true_or,Bool.false_or]at hk2;clear hB;have HS:∀w',Below (wr.heap.size+1) (wr.alloc (.cells #[zj t.k,zi t.n,.string t.s,.slice A1 t.ks.length c1] 28)) w'->(w'.cell? ⟨gm,3,none⟩=some (.slice (some ⟨gr,0,none⟩) ks.length ks.length)/\w'.cell? ⟨wr.heap.size,0,none⟩=some (zj t.k)/\w'.cell? ⟨wr.heap.size,1,none⟩=some (zi t.n)/\w'.cell? ⟨wr.heap.size,2,none⟩=some (.string t.s)/\w'.cell? ⟨wr.heap.size,3,none⟩=some (.slice A1 t.ks.length c1)):=by
       intro w' h;refine⟨(h.cell (p:=⟨gm,3,none⟩) (by simp;omega)).trans (zkj g3 _),?_,?_,?_,?_⟩
       ·exact(h.cell (p:=⟨wr.heap.size,0,none⟩) zS).trans zS
       ·exact(h.cell (p:=⟨wr.heap.size,1,none⟩) zS).trans zS
       ·exact(h.cell (p:=⟨wr.heap.size,2,none⟩) zS).trans zS
       ·exact(h.cell (p:=⟨wr.heap.size,3,none⟩) zS).trans zS
      have bH:=zh HS;clear HS;go_wp2_with fail
      go_region_held3 (fun w'=>(w'.cell? ⟨gm,3,none⟩=some (.slice (some ⟨gr,0,none⟩) ks.length ks.length)/\w'.cell? ⟨wr.heap.size,0,none⟩=some (zj t.k)/\w'.cell? ⟨wr.heap.size,1,none⟩=some (zi t.n)/\w'.cell? ⟨wr.heap.size,2,none⟩=some (.string t.s)/\w'.cell? ⟨wr.heap.size,3,none⟩=some (.slice A1 t.ks.length c1)))
       (first|exact bH.out _ zr.drew|exact bH.out _ (zr.drew.trans (hb1.mono zS))|(have hx:=bH.out _ (zr.drew.trans (hb1.mono zS));exact⟨zlH hne1 hx.1,zlH hne2 hx.2.1,zlH hne2 hx.2.2.1,zlH hne2 hx.2.2.2.1,zlH hne2 hx.2.2.2.2⟩))
       (first|(go_at_call 102;refine(IH1.out _ _ (hn.later (zr.alloc zl _).drew) (zn.out HB.out)).mono ?_;rintro e w1 ⟨k1,n1,s1,A2,l1,c2,rfl,hn1,hb1⟩;have hs1:=hs.later ((zr.alloc zl _).drew.trans (hb1.mono zS));obtain⟨t0,A0,c0,_,z0,z1,z2,z3,_⟩:=hs1.own.nd pq;have fz:=hs1.own.frozen))
      rename_i mG;clear mG;go_wp2_with fail
      go_roundw
      case rel =>
       refine⟨j+1,zO,by go_num,?_⟩;rw[<-zpS _ _ _ hlt,Ht.out,HK.out];refine hs1.store pq (hn1.mono fun b hb=>?_);have hb':wr.heap.size+1<=b:=by simpa using hb
       exact⟨⟨zO,zO⟩,fun e=>by injection e with e;omega⟩
      case measure=>simp[intOf];omega
    ·have hk1:(k==57)=false:=by simp;omega
     have hk2:(t.k==57)=false:=by simp;omega
     have HK:=zh (show invK keep (k==57) t=t by unfold invK;rw[if_neg];simp[hk1,hk2]);clear hB;have HS:∀w',Below (wr.heap.size+1) (wr.alloc (.cells #[zj t.k,zi t.n,.string t.s,.slice A1 t.ks.length c1] 28)) w'->(w'.cell? ⟨gm,3,none⟩=some (.slice (some ⟨gr,0,none⟩) ks.length ks.length)/\w'.cell? ⟨wr.heap.size,0,none⟩=some (zj t.k)/\w'.cell? ⟨wr.heap.size,1,none⟩=some (zi t.n)/\w'.cell? ⟨wr.heap.size,2,none⟩=some (.string t.s)/\w'.cell? ⟨wr.heap.size,3,none⟩=some (.slice A1 t.ks.length c1)):=by
      intro w' h;refine⟨(h.cell (p:=⟨gm,3,none⟩) (by simp;omega)).trans (zkj g3 _),?_,?_,?_,?_⟩
      ·exact(h.cell (p:=⟨wr.heap.size,0,none⟩) zS).trans zS
      ·exact(h.cell (p:=⟨wr.heap.size,1,none⟩) zS).trans zS
      ·exact(h.cell (p:=⟨wr.heap.size,2,none⟩) zS).trans zS
      ·exact(h.cell (p:=⟨wr.heap.size,3,none⟩) zS).trans zS
     have bH:=zh HS;clear HS;go_wp2_with fail
     go_region_held3 (fun w'=>(w'.cell? ⟨gm,3,none⟩=some (.slice (some ⟨gr,0,none⟩) ks.length ks.length)/\w'.cell? ⟨wr.heap.size,0,none⟩=some (zj t.k)/\w'.cell? ⟨wr.heap.size,1,none⟩=some (zi t.n)/\w'.cell? ⟨wr.heap.size,2,none⟩=some (.string t.s)/\w'.cell? ⟨wr.heap.size,3,none⟩=some (.slice A1 t.ks.length c1)))
      (first|exact bH.out _ zr.drew|exact bH.out _ (zr.drew.trans (hb1.mono zS))|(have hx:=bH.out _ (zr.drew.trans (hb1.mono zS));exact⟨zlH hne1 hx.1,zlH hne2 hx.2.1,zlH hne2 hx.2.2.1,zlH hne2 hx.2.2.2.1,zlH hne2 hx.2.2.2.2⟩))
      (first|(go_at_call 66;refine(znL t _ _ (hn.later (zr.alloc zl _).drew)).mono ?_;rintro e w1 ⟨k1,n1,s1,A2,l1,c2,rfl,hn1,hb1⟩;have hs1:=hs.later ((zr.alloc zl _).drew.trans (hb1.mono zS));obtain⟨t0,A0,c0,_,z0,z1,z2,z3,_⟩:=hs1.own.nd pq;have fz:=hs1.own.frozen))
     rename_i mG;clear mG;go_wp2_with fail
     go_roundw
     case rel =>
      refine⟨j+1,zO,by go_num,?_⟩;rw[<-zpS _ _ _ hlt,Ht.out,HK.out];refine hs1.store pq (hn1.mono fun b hb=>?_);have hb':wr.heap.size+1<=b:=by simpa using hb
      exact⟨⟨zO,zO⟩,fun e=>by injection e with e;omega⟩
     case measure=>simp[intOf];omega
   ·obtain rfl:j=ks.length:=zO
    rw[zt4]at hs;have a0:wr.cell? ⟨w.heap.size,0,none⟩=some (zj k):=zc hs.arg rfl;have g0:wr.cell? ⟨gm,0,none⟩=some (zj k):=zc hs.box rfl;have g1:wr.cell? ⟨gm,1,none⟩=some (zi n):=zc hs.box rfl;have g2:wr.cell? ⟨gm,2,none⟩=some (.string s):=zc hs.box rfl;have g3:wr.cell? ⟨gm,3,none⟩=some (.slice (some ⟨gr,0,none⟩) ks.length ks.length):=zc hs.box rfl;have gz:∀i,wr.frozen? ⟨gm,i,none⟩=false:=fun i=>zf hs.box;have r0:wr.cell? ⟨w.heap.size+1,0,none⟩=some (zj 0):=zc hs.res rfl;have r1:wr.cell? ⟨w.heap.size+1,1,none⟩=some (zi 0):=zc hs.res rfl;have r2:wr.cell? ⟨w.heap.size+1,2,none⟩=some (.string ⟨#[]⟩):=zc hs.res rfl;have r3:wr.cell? ⟨w.heap.size+1,3,none⟩=some zn:=zc hs.res rfl;have rz:∀i,wr.frozen? ⟨w.heap.size+1,i,none⟩=false:=fun i=>zf hs.res;have hgr:=hs.grlo;have hlo:=hs.lo;have hne1:¬ gm=gr:=hs.ne
    have hne4:¬ gm=w.heap.size+1:=zO
    have hne5:¬ w.heap.size+1=gm:=zO
    have hne6:¬ gr=w.heap.size+1:=zO
    have hne7:¬ w.heap.size+1=gr:=zO
    have hne8:¬ w.heap.size=gm:=zO
    have hne9:¬ gm=w.heap.size:=zO
    clear hrow;by_cases nZ:k=57
    ·subst nZ;have HX:=zh (show inv keep (.nd 57 n s ks)=.nd 57 n s (ks.map (invK keep ((57:Int)==57))).reverse by
      rw[inv,if_pos rfl,znz];rfl)
     go_wp2_with fail;refine(zsr _ _ _ gr _ _ _ hs.own).mono ?_;rintro e w1 ⟨rfl,ho1,hg1⟩;have hs1:=hs.rowed ho1 hg1;have g0:w1.cell? ⟨gm,0,none⟩=some (zj 57):=zc hs1.box rfl;have g1:w1.cell? ⟨gm,1,none⟩=some (zi n):=zc hs1.box rfl;have g2:w1.cell? ⟨gm,2,none⟩=some (.string s):=zc hs1.box rfl;have g3:w1.cell? ⟨gm,3,none⟩=some (.slice (some ⟨gr,0,none⟩) ks.length ks.length):=zc hs1.box rfl;have r0:w1.cell? ⟨w.heap.size+1,0,none⟩=some (zj 0):=zc hs1.res rfl;have r1:w1.cell? ⟨w.heap.size+1,1,none⟩=some (zi 0):=zc hs1.res rfl;have r2:w1.cell? ⟨w.heap.size+1,2,none⟩=some (.string ⟨#[]⟩):=zc hs1.res rfl;have r3:w1.cell? ⟨w.heap.size+1,3,none⟩=some zn:=zc hs1.res rfl;have rz:∀i,w1.frozen? ⟨w.heap.size+1,i,none⟩=false:=fun i=>zf hs1.res;have hr:=hs1.result hf;go_wp2_with fail
     refine bodyPost_ret (v:=nv 57 n s (some ⟨gr,0,none⟩) ks.length ks.length) (by simp[results,results102,go_sem,r0,r1,r2,r3]) rfl ⟨57,n,s,some ⟨gr,0,none⟩,ks.length,ks.length,rfl,?_,hr.2⟩;rw[HX.out];exact hr.1
    by_cases qD:k=52\/k=53\/k=54
    ·have hl2:=zxv k n s ks fw.out qD;have sH:ks.length-1<(ks.map (invK keep (k==57))).length:=by simp;omega
     have BM:0<(ks.map (invK keep (k==57))).length:=by simp;omega
     obtain⟨t1,A1,c1,H1,p0,p1,p2,p3,hn1⟩:=hs.own.nd sH;obtain⟨t2,A2,c2,H2,q0,q1,q2,q3,hn2⟩:=hs.own.nd BM;simp only[Nat.zero_mul,Nat.zero_add]at q0 q1 q2 q3;have fz:=hs.own.frozen;have HX:=zh (show inv keep (.nd k n s ks)=.nd k n s (((ks.map (invK keep (k==57))).set 0 t1).set (ks.length-1) t2) by
      rw[zxN keep k n s ks nZ qD BM sH,H1.out,H2.out])
     have hw1:=hs.store BM hn1;have hk:∀b,(w.heap.size+2<=b/\b≠gm)/\some b≠some gr->b<wr.heap.size->((((wr.setCell ⟨gr,0*4,none⟩ (zj t1.k)).setCell ⟨gr,0*4+1,none⟩ (zi t1.n)).setCell ⟨gr,0*4+2,none⟩ (.string t1.s)).setCell ⟨gr,0*4+3,none⟩ (.slice A1 t1.ks.length c1)).heap[b]?=wr.heap[b]?:=by
      intro b hb _;have hne:b≠gr:=fun e=>hb.2 (by rw[e]);rw[Below.heap_setCell _ _ _ _ hne,Below.heap_setCell _ _ _ _ hne,Below.heap_setCell _ _ _ _ hne,Below.heap_setCell _ _ _ _ hne]
     have hw2:=hw1.store (i:=ks.length-1) (by simpa using sH) (hn2.keep (fun _ h _=>h) hk);have hr:=hw2.result hf;simp only[Nat.zero_mul,Nat.zero_add]at hr;have HW:=zh (And.intro (hr.1.later zr.drew) hr.2.drew);have i1:(0:Int)<=(ks.length:Int)-1:=zO
     have i2:(ks.length:Int)-1<(ks.length:Int):=zO
     have i3:(0:Int)<(ks.length:Int):=zO
     have i4:0<ks.length:=zO
     have i5:¬ (ks.length-1)*4=0:=zO
     clear hw1 hw2 hk hr;rcases qD with rfl|rfl|rfl
     ·go_wp2_with fail
      go_region
      go_wp2_with fail;refine bodyPost_ret (v:=nv 52 n s (some ⟨gr,0,none⟩) ks.length ks.length) (by simp[results,results102,go_sem,r0,r1,r2,r3]) rfl ⟨52,n,s,some ⟨gr,0,none⟩,ks.length,ks.length,rfl,?_,HW.out.2⟩;rw[HX.out];exact HW.out.1
     ·go_wp2_with fail
      go_region
      go_wp2_with fail;refine bodyPost_ret (v:=nv 53 n s (some ⟨gr,0,none⟩) ks.length ks.length) (by simp[results,results102,go_sem,r0,r1,r2,r3]) rfl ⟨53,n,s,some ⟨gr,0,none⟩,ks.length,ks.length,rfl,?_,HW.out.2⟩;rw[HX.out];exact HW.out.1
     ·go_wp2_with fail
      go_region
      go_wp2_with fail;refine bodyPost_ret (v:=nv 54 n s (some ⟨gr,0,none⟩) ks.length ks.length) (by simp[results,results102,go_sem,r0,r1,r2,r3]) rfl ⟨54,n,s,some ⟨gr,0,none⟩,ks.length,ks.length,rfl,?_,HW.out.2⟩;rw[HX.out];exact HW.out.1
    by_cases wW:k=50\/k=51
    ·have HX:=zh (show inv keep (.nd k n s ks)=.nd (if keep then k else exch k) n s (ks.map (invK keep (k==57))) by
      rw[inv,if_neg nZ,if_neg qD,if_pos wW,znz];have:(k==57)=false:=by simpa using nZ
      rw[this])
     cases keep
     ·rcases wW with rfl|rfl
      ·go_wp2_with fail;refine(zmC _ _).mono ?_;rintro e w' ⟨rfl,rfl⟩;have hs2:=hs.kind (exch 50);have hr:=hs2.result ⟨zsj 50 hf.1,hf.2⟩;go_wp2_with fail;refine bodyPost_ret (v:=nv (exch 50) n s (some ⟨gr,0,none⟩) ks.length ks.length) (by simp[results,results102,go_sem,r0,r1,r2,r3]) rfl ⟨exch 50,n,s,some ⟨gr,0,none⟩,ks.length,ks.length,rfl,?_,hr.2⟩;rw[HX.out];exact hr.1
      ·go_wp2_with fail;refine(zmC _ _).mono ?_;rintro e w' ⟨rfl,rfl⟩;have hs2:=hs.kind (exch 51);have hr:=hs2.result ⟨zsj 51 hf.1,hf.2⟩;go_wp2_with fail;refine bodyPost_ret (v:=nv (exch 51) n s (some ⟨gr,0,none⟩) ks.length ks.length) (by simp[results,results102,go_sem,r0,r1,r2,r3]) rfl ⟨exch 51,n,s,some ⟨gr,0,none⟩,ks.length,ks.length,rfl,?_,hr.2⟩;rw[HX.out];exact hr.1
     ·have hr:=hs.result hf;rcases wW with rfl|rfl
      ·go_wp2_with fail;refine bodyPost_ret (v:=nv 50 n s (some ⟨gr,0,none⟩) ks.length ks.length) (by simp[results,results102,go_sem,r0,r1,r2,r3]) rfl ⟨50,n,s,some ⟨gr,0,none⟩,ks.length,ks.length,rfl,?_,hr.2⟩;rw[HX.out];exact hr.1
      ·go_wp2_with fail;refine bodyPost_ret (v:=nv 51 n s (some ⟨gr,0,none⟩) ks.length ks.length) (by simp[results,results102,go_sem,r0,r1,r2,r3]) rfl ⟨51,n,s,some ⟨gr,0,none⟩,ks.length,ks.length,rfl,?_,hr.2⟩;rw[HX.out];exact hr.1
    ·have HX:=zh (show inv keep (.nd k n s ks)=.nd (exch k) n s (ks.map (invK keep (k==57))) by
      rw[inv,if_neg nZ,if_neg qD,if_neg wW,znz];have:(k==57)=false:=by simpa using nZ
      rw[this])
     have n57:(k==57)=false:=by simp;omega
     have n52:(k==52)=false:=by simp;omega
     have n53:(k==53)=false:=by simp;omega
     have n54:(k==54)=false:=by simp;omega
     have n50:(k==50)=false:=by simp;omega
     have n51:(k==51)=false:=by simp;omega
     clear nZ qD wW;go_wp2_with fail;refine(zmC _ _).mono ?_;rintro e w' ⟨rfl,rfl⟩;have hs2:=hs.kind (exch k);have hr:=hs2.result ⟨zsj k hf.1,hf.2⟩;go_wp2_with fail;refine bodyPost_ret (v:=nv (exch k) n s (some ⟨gr,0,none⟩) ks.length ks.length) (by simp[results,results102,go_sem,r0,r1,r2,r3]) rfl ⟨exch k,n,s,some ⟨gr,0,none⟩,ks.length,ks.length,rfl,?_,hr.2⟩;rw[HX.out];exact hr.1
end
section
open Go
section
variable {P:Program} {ops:Array Oper} {Q:Exit->Act->World->Prop} {md:Region.Mode} {S1 S2:World->Prop} {k:Nat}
def wpG(P:Program)(md:Region.Mode)(ops:Array Oper)(Q:Exit->Act->World->Prop)(S1 S2:World->Prop)(k:Nat):Nat->Array Bool->Act->World->Prop
 | 0,listed,a,w=>Region.ready md ops listed=[]/\Q .normal a w
 | fuel+1,listed,a,w =>
  (Region.ready md ops listed=[]->Q .normal a w) /\
  ∀i∈Region.ready md ops listed,wpOp P ops Q i (fun a' w'=>(S1 w'/\((listed.setIfInBounds i true).getD k true=false->S2 w'))/\wpG P md ops Q S1 S2 k fuel (listed.setIfInBounds i true) a' w') a w
theorem zpq:∀(fuel:Nat) (listed:Array Bool) (a:Act) (w:World),wpG P md ops Q S1 S2 k fuel listed a w->wpAny P md ops Q fuel listed a w
 | 0,_,_,_,h=>h
 | fuel+1,_,_,_,h=>⟨h.1,fun i hi=>wpOp_mono (fun a' w' h'=>zpq fuel _ a' w' h'.2) (h.2 i hi)⟩
theorem zpo{i:Nat}{oi:Oper}{v:Value}(hi:ops[i]?=some oi)(hsel:∀(j:Nat) (o:Oper) cs b,ops[j]?=some o->o.op ≠ .select cs b)
  (hQ:∀c a w,Q (.panic c) (a.put oi.dst v) w->Q (.panic c) a w)(hik:i≠k) :
  ∀(fuel:Nat) (listed:Array Bool) (a:Act) (w:World),
   (∀j oj,ops[j]?=some oj->j≠i->listed.getD j true=false->(∀e∈oj.after,Region.binds md e=true->e.on≠i)->oi.apart ops oj=true) ->
   i∈Region.ready md ops listed->YieldsIf P ops S1 oi v a->S1 w->(listed.getD k true=false->S2 w) ->
   wpG P md ops Q S1 S2 k fuel (listed.setIfInBounds i true) (a.put oi.dst v) w->wpG P md ops Q S1 S2 k (fuel+1) listed a w:=by
 intro fuel
 induction fuel with
 | zero =>
  intro listed a w hfree hr hy hS1 HH H;refine⟨fun h=>(by rw[h]at hr;cases hr),fun j hj=>?_⟩;by_cases hji:j=i
  ·subst hji;exact hy.wpOp hi hS1 ⟨⟨hS1,fun h=>HH (by rw[getD_set_ne true hik]at h;exact h)⟩,H⟩
  ·have:=ready_mono hj hji;rw[H.1]at this
   cases this
 | succ fuel ih =>
  intro listed a w hfree hr hy hS1 HH H;refine⟨fun h=>(by rw[h]at hr;cases hr),fun j hj=>?_⟩;by_cases hji:j=i
  ·subst hji;exact hy.wpOp hi hS1 ⟨⟨hS1,fun h=>HH (by rw[getD_set_ne true hik]at h;exact h)⟩,H⟩
  ·have h1:=H.2 j (ready_mono hj hji);obtain⟨hjun,oj,hoj,hall⟩:=mem_ready.1 hj;have hnot:∀e∈oj.after,Region.binds md e=true->e.on≠i:=fun e he hb heq=>by
    have h1:=hall e he hb;have h0:=(mem_ready.1 hr).1;rw[heq]at h1;rcases Nat.lt_or_ge i listed.size with h'|h'
    ·simp[h']at h0 h1;rw[h0]at h1;cases h1
    ·simp[Array.getElem?_eq_none h']at h1
   have h2:=wpOp_putIf hoj (hfree j oj hoj hji hjun hnot) (fun cs b=>hsel i oi cs b hi) (fun cs b=>hsel j oj cs b hoj) hQ hy h1;have hfree':∀k ok,ops[k]?=some ok->k≠i->(listed.setIfInBounds j true).getD k true=false ->
     (∀e∈ok.after,Region.binds md e=true->e.on≠i)->oi.apart ops ok=true:=fun k ok hk hki hun hno=>by
    refine hfree k ok hk hki ?_ hno;by_cases hjk:j=k
    ·subst hjk;exact hjun
    ·rw[getD_set_ne true hjk]at hun;exact hun
   have hsame:((listed.setIfInBounds i true).setIfInBounds j true).getD k true=(listed.setIfInBounds j true).getD k true:=by
    rw[Array.setIfInBounds_comm _ _ (Ne.symm hji),getD_set_ne true hik]
   refine wpOp_mono (fun a' w' h3=>?_) h2;obtain⟨hy',⟨hs1,hs2⟩,hW⟩:=h3;rw[hsame]at hs2;refine⟨⟨hs1,hs2⟩,ih (listed.setIfInBounds j true) a' w' hfree' (ready_mono hr (Ne.symm hji)) hy' hs1 hs2 ?_⟩;rw[Array.setIfInBounds_comm _ _ hji];exact hW
theorem ztx{i:Nat}{oi:Oper}{v:Value}(hi:ops[i]?=some oi)(hsel:∀(j:Nat) (o:Oper) cs b,ops[j]?=some o->o.op ≠ .select cs b)
  (hQ:∀c a w,Q (.panic c) (a.put oi.dst v) w->Q (.panic c) a w)(hik:i≠k)(hwait:∃ok,ops[k]?=some ok/\∃e∈ok.after,Region.binds md e=true/\e.on=i) :
  ∀(fuel:Nat) (listed:Array Bool) (a:Act) (w:World),
   (∀j oj,ops[j]?=some oj->j≠i->listed.getD j true=false->(∀e∈oj.after,Region.binds md e=true->e.on≠i)->oi.apart ops oj=true) ->
   i∈Region.ready md ops listed->YieldsIf P ops S2 oi v a->S1 w->(listed.getD k true=false/\S2 w) ->
   wpG P md ops Q S1 S2 k fuel (listed.setIfInBounds i true) (a.put oi.dst v) w->wpG P md ops Q S1 S2 k (fuel+1) listed a w:=by
 intro fuel
 induction fuel with
 | zero =>
  intro listed a w hfree hr hy hS1 HH H;refine⟨fun h=>(by rw[h]at hr;cases hr),fun j hj=>?_⟩;by_cases hji:j=i
  ·subst hji;exact hy.wpOp hi HH.2 ⟨⟨hS1,fun h=>HH.2⟩,H⟩
  ·have:=ready_mono hj hji;rw[H.1]at this
   cases this
 | succ fuel ih =>
  intro listed a w hfree hr hy hS1 HH H;refine⟨fun h=>(by rw[h]at hr;cases hr),fun j hj=>?_⟩;by_cases hji:j=i
  ·subst hji;exact hy.wpOp hi HH.2 ⟨⟨hS1,fun h=>HH.2⟩,H⟩
  ·have h1:=H.2 j (ready_mono hj hji);obtain⟨hjun,oj,hoj,hall⟩:=mem_ready.1 hj;have hnot:∀e∈oj.after,Region.binds md e=true->e.on≠i:=fun e he hb heq=>by
    have h1:=hall e he hb;have h0:=(mem_ready.1 hr).1;rw[heq]at h1;rcases Nat.lt_or_ge i listed.size with h'|h'
    ·simp[h']at h0 h1;rw[h0]at h1;cases h1
    ·simp[Array.getElem?_eq_none h']at h1
   have h2:=wpOp_putIf hoj (hfree j oj hoj hji hjun hnot) (fun cs b=>hsel i oi cs b hi) (fun cs b=>hsel j oj cs b hoj) hQ hy h1;have hfree':∀k ok,ops[k]?=some ok->k≠i->(listed.setIfInBounds j true).getD k true=false ->
     (∀e∈ok.after,Region.binds md e=true->e.on≠i)->oi.apart ops ok=true:=fun k ok hk hki hun hno=>by
    refine hfree k ok hk hki ?_ hno;by_cases hjk:j=k
    ·subst hjk;exact hjun
    ·rw[getD_set_ne true hjk]at hun;exact hun
   have hsame:((listed.setIfInBounds i true).setIfInBounds j true).getD k true=(listed.setIfInBounds j true).getD k true:=by
    rw[Array.setIfInBounds_comm _ _ (Ne.symm hji),getD_set_ne true hik]
   have hjk:j≠k:=fun e'=>by
    obtain⟨ok,hok,e,he,hb,heq⟩:=hwait;rw[<-e',hoj]at hok;injection hok with hok;subst hok;exact hnot e he hb heq
   have av:(listed.setIfInBounds j true).getD k true=false:=by rw[getD_set_ne true hjk];exact HH.1
   refine wpOp_mono (fun a' w' h3=>?_) h2;obtain⟨hy',⟨hs1,hs2⟩,hW⟩:=h3;have mQ:=hs2 (by rw[hsame];exact av);refine⟨⟨hs1,fun _=>mQ⟩,ih (listed.setIfInBounds j true) a' w' hfree' (ready_mono hr (Ne.symm hji)) hy' hs1 ⟨av,mQ⟩ ?_⟩;rw[Array.setIfInBounds_comm _ _ hji];exact hW
theorem zkr{i:Nat}{oi:Oper}{v:Value}{fuel:Nat}{listed:Array Bool}{a:Act}{w:World}(hi:ops[i]?=some oi)
  (hs:Region.noSelect ops=true)(hf:Region.free md ops listed i=true)(hr:(Region.ready md ops listed).contains i=true)(hik:i≠k)
  (hQ:∀c a w,Q (.panic c) (a.put oi.dst v) w->Q (.panic c) a w)(hy:YieldsIf P ops S1 oi v a)(hS:S1 w/\S2 w)
  (h:wpG P md ops Q S1 S2 k fuel (listed.setIfInBounds i true) (a.put oi.dst v) w):wpG P md ops Q S1 S2 k (fuel+1) listed a w :=
 zpo hi (Region.noSelect_spec hs) hQ hik fuel listed a w (Region.free_spec hi hf) (by simpa using hr) hy hS.1 (fun _=>hS.2) h
theorem zur{i:Nat}{oi ok:Oper}{v:Value}{fuel:Nat}{listed:Array Bool}{a:Act}{w:World}(hi:ops[i]?=some oi)
  (hs:Region.noSelect ops=true)(hf:Region.free md ops listed i=true)(hr:(Region.ready md ops listed).contains i=true)(hik:i≠k)
  (hok:ops[k]?=some ok)(hwait:ok.after.any (fun e=>Region.binds md e&&e.on==i)=true)(hlk:listed.getD k true=false)
  (hQ:∀c a w,Q (.panic c) (a.put oi.dst v) w->Q (.panic c) a w)(hy:YieldsIf P ops S2 oi v a)(hS:S1 w/\S2 w)
  (h:wpG P md ops Q S1 S2 k fuel (listed.setIfInBounds i true) (a.put oi.dst v) w):wpG P md ops Q S1 S2 k (fuel+1) listed a w :=
 ztx hi (Region.noSelect_spec hs) hQ hik ⟨ok,hok,by
  obtain⟨i',hi',h'⟩:=Array.any_iff_exists.1 hwait;simp only[Bool.and_eq_true,beq_iff_eq]at h';exact⟨_,Array.getElem_mem _,h'.2.2.1,h'.2.2.2⟩⟩ fuel listed a w (Region.free_spec hi hf) (by simpa using hr) hy hS.1 ⟨hlk,hS.2⟩ h
theorem zze{i:Nat}{o:Oper}{fuel:Nat}{listed:Array Bool}{a:Act}{w:World}(hr:Region.ready md ops listed=[i])(ho:ops[i]?=some o)
  (h:∀K':Act->World->Prop,Shut (∀a w,S1 w/\S2 w->wpG P md ops Q S1 S2 k fuel (listed.setIfInBounds i true) a w->K' a w)->if Region.wanted o (yielded ops a.tmps)=true then Oper.wp P o a w K' Q else K' (a.put o.dst undef) w) :
  wpG P md ops Q S1 S2 k (fuel+1) listed a w:=by
 refine⟨(fun h0=>by rw[hr]at h0;cases h0),fun j hj=>?_⟩;rw[hr]at hj;simp only[List.mem_singleton]at hj;subst hj;exact wpOp_step ho fun K' hK=>h K' fun a w hS hW=>hK a w ⟨⟨hS.1,fun _=>hS.2⟩,hW⟩
theorem zwZ{i:Nat}{o:Oper}{fuel:Nat}{listed:Array Bool}{a:Act}{w:World}(hr:Region.ready md ops listed=[i])(ho:ops[i]?=some o)(hk:(listed.setIfInBounds i true).getD k true=true)
  (h:∀K':Act->World->Prop,Shut (∀a w,S1 w->wpG P md ops Q S1 S2 k fuel (listed.setIfInBounds i true) a w->K' a w)->if Region.wanted o (yielded ops a.tmps)=true then Oper.wp P o a w K' Q else K' (a.put o.dst undef) w) :
  wpG P md ops Q S1 S2 k (fuel+1) listed a w:=by
 refine⟨(fun h0=>by rw[hr]at h0;cases h0),fun j hj=>?_⟩;rw[hr]at hj;simp only[List.mem_singleton]at hj;subst hj;exact wpOp_step ho fun K' hK=>h K' fun a w hS hW=>hK a w ⟨⟨hS,fun h=>by rw[hk]at h;cases h⟩,hW⟩
theorem zw0{fuel:Nat}{listed:Array Bool}{a:Act}{w:World}(hr:Region.ready md ops listed=[])(h:Q .normal a w):wpG P md ops Q S1 S2 k fuel listed a w:=by
 cases fuel with
 | zero=>exact⟨hr,h⟩
 | succ fuel=>exact⟨fun _=>h,fun i hi=>by rw[hr]at hi;cases hi⟩
theorem zkl{id:Nat}{a:Act}{w:World}(S1 S2:World->Prop)(k:Nat)(hm:P.follows .mixedOrders=true)
  (h:wpG P .any ops Q S1 S2 k ops.size (Array.replicate ops.size false) a w.drew):(Code.region id ops true).wp P Q a w :=
 wp_region_any hm (zpq _ _ _ _ h)
end
section
variable {P:Program} {ops:Array Oper} {Q:Exit->Act->World->Prop} {md:Region.Mode} {S1 S2:World->Prop} {k:Nat}
def zoy(md:Region.Mode)(ops:Array Oper)(m p:Nat):Bool:=match ops[m]? with
 | some o=>o.after.any fun e=>Region.binds md e&&e.on==p
 | none=>false
def zpW(md:Region.Mode)(ops:Array Oper):Nat->List Nat->Bool
 | _,[]=>true
 | p,m::r=>zoy md ops m p&&zpW md ops m r
theorem zox{m p:Nat}(h:zoy md ops m p=true):∃o,ops[m]?=some o/\∃e∈o.after,Region.binds md e=true/\e.on=p:=by
 unfold zoy at h
 cases ho:ops[m]? with
 | none=>rw[ho]at h;cases h
 | some o =>
  rw[ho]at h;obtain⟨i',hi',h'⟩:=Array.any_iff_exists.1 h;simp only[Bool.and_eq_true,beq_iff_eq]at h';exact⟨o,rfl,_,Array.getElem_mem _,h'.2.2.1,h'.2.2.2⟩
theorem zro:∀ {L:List Nat} {p:Nat},zpW md ops p L=true->∀m∈L,∃q,(q=p\/q∈L)/\zoy md ops m q=true
 | [],_,_,_,hm=>by cases hm
 | x::r,p,h,m,hm=>by
  simp only[zpW,Bool.and_eq_true]at h;rcases List.mem_cons.1 hm with rfl|hm
  ·exact⟨p,.inl rfl,h.1⟩
  ·obtain⟨q,hq,hw⟩:=zro h.2 m hm;refine⟨q,.inr ?_,hw⟩;rcases hq with rfl|hq
   ·exact List.mem_cons_self ..
   ·exact List.mem_cons_of_mem _ hq
theorem ztw{i:Nat}{oi:Oper}{v:Value}(hi:ops[i]?=some oi)(hsel:∀(j:Nat) (o:Oper) cs b,ops[j]?=some o->o.op ≠ .select cs b)
  (hQ:∀c a w,Q (.panic c) (a.put oi.dst v) w->Q (.panic c) a w)(ms:List Nat)(hik:i ∉ ms++[k])(hch:zpW md ops i (ms++[k])=true) :
  ∀(fuel:Nat) (listed:Array Bool) (a:Act) (w:World),
   (∀j oj,ops[j]?=some oj->j≠i->listed.getD j true=false->(∀e∈oj.after,Region.binds md e=true->e.on≠i)->oi.apart ops oj=true) ->
   i∈Region.ready md ops listed->YieldsIf P ops S2 oi v a->S1 w->((∀m∈ms++[k],listed.getD m true=false)/\S2 w) ->
   wpG P md ops Q S1 S2 k fuel (listed.setIfInBounds i true) (a.put oi.dst v) w->wpG P md ops Q S1 S2 k (fuel+1) listed a w:=by
 have hik':i≠k:=fun e=>hik (by simp[e]);intro fuel
 induction fuel with
 | zero =>
  intro listed a w hfree hr hy hS1 HH H;refine⟨fun h=>(by rw[h]at hr;cases hr),fun j hj=>?_⟩;by_cases hji:j=i
  ·subst hji;exact hy.wpOp hi HH.2 ⟨⟨hS1,fun h=>HH.2⟩,H⟩
  ·have:=ready_mono hj hji;rw[H.1]at this
   cases this
 | succ fuel ih =>
  intro listed a w hfree hr hy hS1 HH H;refine⟨fun h=>(by rw[h]at hr;cases hr),fun j hj=>?_⟩;by_cases hji:j=i
  ·subst hji;exact hy.wpOp hi HH.2 ⟨⟨hS1,fun h=>HH.2⟩,H⟩
  ·have h1:=H.2 j (ready_mono hj hji);obtain⟨hjun,oj,hoj,hall⟩:=mem_ready.1 hj;have hun:∀p,listed.getD p true=false->∀e∈oj.after,Region.binds md e=true->e.on≠p:=fun p h0 e he hb heq=>by
    have h1:=hall e he hb;rw[heq]at h1;rcases Nat.lt_or_ge p listed.size with h'|h'
    ·simp[h']at h0 h1;rw[h0]at h1;cases h1
    ·simp[Array.getElem?_eq_none h']at h1
   have hnot:∀e∈oj.after,Region.binds md e=true->e.on≠i:=hun i (mem_ready.1 hr).1;have h2:=wpOp_putIf hoj (hfree j oj hoj hji hjun hnot) (fun cs b=>hsel i oi cs b hi) (fun cs b=>hsel j oj cs b hoj) hQ hy h1;have hfree':∀k ok,ops[k]?=some ok->k≠i->(listed.setIfInBounds j true).getD k true=false ->
     (∀e∈ok.after,Region.binds md e=true->e.on≠i)->oi.apart ops ok=true:=fun k ok hk hki hun hno=>by
    refine hfree k ok hk hki ?_ hno;by_cases hjk:j=k
    ·subst hjk;exact hjun
    ·rw[getD_set_ne true hjk]at hun;exact hun
   have hsame:((listed.setIfInBounds i true).setIfInBounds j true).getD k true=(listed.setIfInBounds j true).getD k true:=by
    rw[Array.setIfInBounds_comm _ _ (Ne.symm hji),getD_set_ne true hik']
   have hjm:∀m∈ms++[k],j≠m:=fun m hm e'=>by
    obtain⟨q,hq,hw⟩:=zro hch m hm;obtain⟨om,yK,e,he,hb,heq⟩:=zox hw;rw[<-e',hoj]at yK;injection yK with yK;subst yK;refine hun q ?_ e he hb heq;rcases hq with rfl|hq
    ·exact(mem_ready.1 hr).1
    ·exact HH.1 q hq
   have av:∀m∈ms++[k],(listed.setIfInBounds j true).getD m true=false:=fun m hm=>by rw[getD_set_ne true (hjm m hm)];exact HH.1 m hm
   refine wpOp_mono (fun a' w' h3=>?_) h2;obtain⟨hy',⟨hs1,hs2⟩,hW⟩:=h3;have mQ:=hs2 (by rw[hsame];exact av k zS);refine⟨⟨hs1,fun _=>mQ⟩,ih (listed.setIfInBounds j true) a' w' hfree' (ready_mono hr (Ne.symm hji)) hy' hs1 ⟨av,mQ⟩ ?_⟩;rw[Array.setIfInBounds_comm _ _ hji];exact hW
theorem zuq{i:Nat}{oi:Oper}{v:Value}{fuel:Nat}{listed:Array Bool}{a:Act}{w:World}(ms:List Nat)(hi:ops[i]?=some oi)
  (hs:Region.noSelect ops=true)(hf:Region.free md ops listed i=true)(hr:(Region.ready md ops listed).contains i=true)(hik:(ms++[k]).contains i=false)
  (hch:zpW md ops i (ms++[k])=true)(hlk:(ms++[k]).all (fun m => !listed.getD m true)=true)
  (hQ:∀c a w,Q (.panic c) (a.put oi.dst v) w->Q (.panic c) a w)(hy:YieldsIf P ops S2 oi v a)(hS:S1 w/\S2 w)
  (h:wpG P md ops Q S1 S2 k fuel (listed.setIfInBounds i true) (a.put oi.dst v) w):wpG P md ops Q S1 S2 k (fuel+1) listed a w :=
 ztw hi (Region.noSelect_spec hs) hQ ms (by simpa using hik) hch fuel listed a w (Region.free_spec hi hf) (by simpa using hr) hy hS.1 ⟨fun m hm=>by simpa using List.all_eq_true.1 hlk m hm,hS.2⟩ h
theorem zup{i:Nat}{oi:Oper}{v:Value}{fuel:Nat}{listed:Array Bool}{a:Act}{w:World}(hi:ops[i]?=some oi)
  (hs:Region.noSelect ops=true)(hf:Region.free md ops listed i=true)(hr:(Region.ready md ops listed).contains i=true)(hik:i≠k)(hlk:listed.getD k true=true)
  (hQ:∀c a w,Q (.panic c) (a.put oi.dst v) w->Q (.panic c) a w)(hy:YieldsIf P ops S1 oi v a)(hS:S1 w)
  (h:wpG P md ops Q S1 S2 k fuel (listed.setIfInBounds i true) (a.put oi.dst v) w):wpG P md ops Q S1 S2 k (fuel+1) listed a w :=
 zpo hi (Region.noSelect_spec hs) hQ hik fuel listed a w (Region.free_spec hi hf) (by simpa using hr) hy hS (fun e=>by rw[hlk]at e;cases e) h
end
section
variable {P:Program} {ops:Array Oper} {Q:Exit->Act->World->Prop} {md:Region.Mode} {S1 S2:World->Prop} {k:Nat}
theorem zJ(i:Nat){oi ok:Oper}{v:Value}{fuel:Nat}{listed l':Array Bool}{a a':Act}{w:World}(hS:S1 w/\S2 w)(h:wpG P md ops Q S1 S2 k fuel l' a' w)(hi:ops[i]?=some oi:=by rfl)(hs:Region.noSelect ops=true:=by kernel_rfl)(hf:Region.free md ops listed i=true:=by kernel_rfl)(hr:(Region.ready md ops listed).contains i=true:=by kernel_rfl)(hik:i≠k:=by decide)(hok:ops[k]?=some ok:=by rfl)(hwait:ok.after.any (fun e=>Region.binds md e&&e.on==i)=true:=by kernel_rfl)(hlk:listed.getD k true=false:=by kernel_rfl)(hQ:∀c a w,Q (.panic c) (a.put oi.dst v) w->Q (.panic c) a w:=by exact fun _ _ _ h=>h)(hy:YieldsIf P ops S2 oi v a:=by (refine Or.inl ⟨by rfl,?_⟩;intro w hSw;(try dsimp only at hSw);(try simp only[zA,zB,zC]);go_simp;(try with_reducible rfl)))(ha:a.put oi.dst v=a':=by ((try simp only[zQ]);(try with_reducible rfl)))(hl:listed.setIfInBounds i true=l':=by ((try simp only[zQ]);(try with_reducible rfl))):wpG P md ops Q S1 S2 k (fuel+1) listed a w:=by subst ha hl;exact zur hi hs hf hr hik hok hwait hlk hQ hy hS h
theorem zL(i:Nat){oi:Oper}{v:Value}{fuel:Nat}{listed l':Array Bool}{a a':Act}{w:World}(ms:List Nat)(hS:S1 w/\S2 w)(h:wpG P md ops Q S1 S2 k fuel l' a' w)(hi:ops[i]?=some oi:=by rfl)(hs:Region.noSelect ops=true:=by kernel_rfl)(hf:Region.free md ops listed i=true:=by kernel_rfl)(hr:(Region.ready md ops listed).contains i=true:=by kernel_rfl)(hik:(ms++[k]).contains i=false:=by decide)(hch:zpW md ops i (ms++[k])=true:=by kernel_rfl)(hlk:(ms++[k]).all (fun m => !listed.getD m true)=true:=by kernel_rfl)(hQ:∀c a w,Q (.panic c) (a.put oi.dst v) w->Q (.panic c) a w:=by exact fun _ _ _ h=>h)(hy:YieldsIf P ops S2 oi v a:=by (refine Or.inl ⟨by rfl,?_⟩;intro w hSw;(try dsimp only at hSw);(try simp only[zA,zB,zC]);go_simp;(try with_reducible rfl)))(ha:a.put oi.dst v=a':=by ((try simp only[zQ]);(try with_reducible rfl)))(hl:listed.setIfInBounds i true=l':=by ((try simp only[zQ]);(try with_reducible rfl))):wpG P md ops Q S1 S2 k (fuel+1) listed a w:=by subst ha hl;exact zuq ms hi hs hf hr hik hch hlk hQ hy hS h
theorem zM(i:Nat){oi:Oper}{v:Value}{fuel:Nat}{listed l':Array Bool}{a a':Act}{w:World}(hS:S1 w)(h:wpG P md ops Q S1 S2 k fuel l' a' w)(hi:ops[i]?=some oi:=by rfl)(hs:Region.noSelect ops=true:=by kernel_rfl)(hf:Region.free md ops listed i=true:=by kernel_rfl)(hr:(Region.ready md ops listed).contains i=true:=by kernel_rfl)(hik:i≠k:=by decide)(hlk:listed.getD k true=true:=by kernel_rfl)(hQ:∀c a w,Q (.panic c) (a.put oi.dst v) w->Q (.panic c) a w:=by exact fun _ _ _ h=>h)(hy:YieldsIf P ops S1 oi v a:=by (refine Or.inl ⟨by rfl,?_⟩;intro w hSw;(try dsimp only at hSw);(try simp only[zA,zB,zC]);go_simp;(try with_reducible rfl)))(ha:a.put oi.dst v=a':=by ((try simp only[zQ]);(try with_reducible rfl)))(hl:listed.setIfInBounds i true=l':=by ((try simp only[zQ]);(try with_reducible rfl))):wpG P md ops Q S1 S2 k (fuel+1) listed a w:=by subst ha hl;exact zup hi hs hf hr hik hlk hQ hy hS h
theorem zG{id:Nat}{a:Act}{w:World}(hS:zW S1 S2 w.drew)(k:Nat)(h:wpG P .any ops Q S1 S2 k ops.size (Array.replicate ops.size false) a w.drew)(hm:P.follows .mixedOrders=true:=by kernel_rfl):(Code.region id ops true).wp P Q a w:=zkl S1 S2 k hm h
end
section
variable {P:Program} {ops:Array Oper} {Q:Exit->Act->World->Prop} {md:Region.Mode} {S1 S2:World->Prop} {k:Nat}
theorem zT(i:Nat){oi:Oper}{v:Value}{fuel:Nat}{listed l':Array Bool}{a a':Act}{w:World}(hS:S1 w/\S2 w)(h:wpG P md ops Q S1 S2 k fuel l' a' w)(hi:ops[i]?=some oi:=by rfl)(hs:Region.noSelect ops=true:=by kernel_rfl)(hf:Region.free md ops listed i=true:=by kernel_rfl)(hr:(Region.ready md ops listed).contains i=true:=by kernel_rfl)(hik:i≠k:=by decide)(hQ:∀c a w,Q (.panic c) (a.put oi.dst v) w->Q (.panic c) a w:=by exact fun _ _ _ h=>h)(hy:YieldsIf P ops S1 oi v a:=by (refine Or.inl ⟨by rfl,?_⟩;intro w hSw;(try dsimp only at hSw);(try simp only[zA,zB,zC]);go_simp;(try with_reducible rfl)))(ha:a.put oi.dst v=a':=by ((try simp only[zQ]);(try with_reducible rfl)))(hl:listed.setIfInBounds i true=l':=by ((try simp only[zQ]);(try with_reducible rfl))):wpG P md ops Q S1 S2 k (fuel+1) listed a w:=by subst ha hl;exact zkr hi hs hf hr hik hQ hy hS h
theorem zp(i:Nat){o:Oper}{fuel:Nat}{listed:Array Bool}{a:Act}{w:World}(h:∀K':Act->World->Prop,Shut (∀a w,S1 w->wpG P md ops Q S1 S2 k fuel (listed.setIfInBounds i true) a w->K' a w)->if Region.wanted o (yielded ops a.tmps)=true then Oper.wp P o a w K' Q else K' (a.put o.dst undef) w)(hr:Region.ready md ops listed=[i]:=by kernel_rfl)(ho:ops[i]?=some o:=by rfl)(hk:(listed.setIfInBounds i true).getD k true=true:=by kernel_rfl):wpG P md ops Q S1 S2 k (fuel+1) listed a w:=zwZ hr ho hk h
theorem zo(i:Nat){o:Oper}{fuel:Nat}{listed:Array Bool}{a:Act}{w:World}(h:∀K':Act->World->Prop,Shut (∀a w,S1 w/\S2 w->wpG P md ops Q S1 S2 k fuel (listed.setIfInBounds i true) a w->K' a w)->if Region.wanted o (yielded ops a.tmps)=true then Oper.wp P o a w K' Q else K' (a.put o.dst undef) w)(hr:Region.ready md ops listed=[i]:=by kernel_rfl)(ho:ops[i]?=some o:=by rfl):wpG P md ops Q S1 S2 k (fuel+1) listed a w:=zze hr ho h
theorem zd{fuel:Nat}{listed:Array Bool}{a:Act}{w:World}(h:Q .normal a w)(hr:Region.ready md ops listed=[]:=by kernel_rfl):wpG P md ops Q S1 S2 k fuel listed a w:=zw0 hr h
end
end
section
open Go.RowKit
def mapR(F:T->T)(r:PR):PR:=⟨r.s,r.ps,F r.b⟩
def zkL(p:PG):PG:=⟨p.vs,p.prs.map (mapR id),inv false p.m⟩
theorem zz4:IsFn prog 66 f66:=⟨func66,zK,zK⟩
def NewB(w:World)(t:T)(v:Value)(w':World):Prop:=∃A c,v=nv t.k t.n t.s A t.ks.length c/\NV w' (From w.heap.size) t (nv t.k t.n t.s A t.ks.length c)/\zw w w'
theorem zvc{P:Program}{f:FuncId}{args:Array Value}{w:World}{t:T}(h:Calls P f args w (zqw w t)):Calls P f args w fun e w'=>∃v,e=.returned v/\NewB w t v w' :=
 h.mono fun e _ ⟨k,n,s,A,l,c,he,hn,hb⟩=>by
  obtain⟨A6,c6,e6,_⟩:=hn.open_;exact⟨_,he,A6,c6,e6,by rw[<-e6];exact hn,hb⟩
def NewL(w:World)(vs:List VD)(L:Nat)(e:Ending)(w':World):Prop:=∃A' c',e=.returned (.slice A' L c')/\RowV w' (From w.heap.size) A' vs/\vs.length<=c'/\zw w w'
def zMb(w:World)(vs:List VD)(L:Nat)(v:Value)(w':World):Prop:=∃A' c',v=.slice A' L c'/\RowV w' (From w.heap.size) A' vs/\vs.length<=c'/\zw w w'
theorem zxA{P:Program}{f:FuncId}{args:Array Value}{w:World}{vs:List VD}{L:Nat}(h:Calls P f args w (NewL w vs L)):Calls P f args w fun e w'=>∃v,e=.returned v/\zMb w vs L v w' :=
 h.mono fun _ _ ⟨A,c,he,hn⟩=>⟨_,he,A,c,rfl,hn⟩
theorem zx3:IsFn prog 101 f101:=⟨func101,zK,zK⟩
theorem zq9(p:PG)(S0:Nat->Prop)(v:Value)(w:World)(hv:PV w S0 p v)(hval:zkx p=true)(hokm:okT p.m)(hlen:p.prs.length<=64) :
  Calls prog 65 #[v,.func (.func 66) #[] #[],.bool false] w fun e w'=>∃v',e=.returned (.tuple #[v',zi 0])/\PV w' (From w.heap.size) (zkL p) v'/\zw w w':=by
 obtain⟨i0,hi0,hz0,hz1,hz2⟩:=info_parts zK2;have hv':=hv;obtain⟨A1,c1,A2,c2,A3,c3,rfl,hr⟩:=hv;have HR:=zh hr;have hmm:=hr.main;obtain⟨L1,hL1⟩:=zX (p.vs.length);obtain⟨L2,hL2⟩:=zX (p.prs.length);obtain⟨k,hk⟩:=zX (p.m.k);obtain⟨n,hn⟩:=zX (p.m.n);obtain⟨s,hs⟩:=zX (p.m.s);obtain⟨l3,hl3⟩:=zX (p.m.ks.length);rw[hk,hn,hs,hl3]at hmm;rw[hL2]at hlen;rw[hL1,hL2,hk,hn,hs,hl3];rw[hL1,hL2,hk,hn,hs,hl3]at hv';have lg:=zh hL1;have HL2:=zh hL2;have Co:=zh hmm;have HV:=zh hv';have bg:=zh (And.intro hval hokm);clear hr hmm hL1 hL2 hk hn hs hl3 hv' hval hokm;have hb38:=zKv;have q0:∀o o',zw w ((w.alloc o).alloc o'):=fun o o'=>(zr.alloc zl _).alloc zS _;go_enter func65,ntmps65;go_wp2_with fail;refine(zlN p S0 _ _ (HV.out.later (q0 _ _))).mono ?_;rintro e w1 ⟨rfl,aa⟩;rw[bg.out.1]
 have bI:=zh (show Below (w.heap.size+2) ((w.alloc (.cells #[.slice A1 L1 c1,.slice A2 L2 c2,zj k,zi n,.string s,.slice A3 l3 c3] 30)).alloc (.cells ZP 30)) w1 by simpa using aa);clear aa q0;have hz1:w.heap.size+2<=w1.heap.size:=by have:=bI.out.size;simpa using this
 have hq:Below (w.heap.size+2) ((w.alloc (.cells #[.slice A1 L1 c1,.slice A2 L2 c2,zj k,zi n,.string s,.slice A3 l3 c3] 30)).alloc (.cells ZP 30)) w1:=bI.out;have hbl:zw w w1:=((zr.alloc zl _).alloc zS _).trans (hq.mono zO);have kR:w1.heap[w.heap.size]?=some (.cells #[.slice A1 L1 c1,.slice A2 L2 c2,zj k,zi n,.string s,.slice A3 l3 c3] 30 (0,0)):=by
  rw[hq.block _ zO,Below.heap_alloc _ _ _ zS];exact heap_alloc_new w _
 have hzc:w.heap.size+2<=w1.heap.size:=hz1;have bH:=zh (show ∀w',zw w1 w'->(w'.cell? ⟨w.heap.size,0,none⟩=some (.slice A1 L1 c1)/\w'.cell? ⟨w.heap.size,2,none⟩=some (zj k)/\w'.cell? ⟨w.heap.size,3,none⟩=some (zi n)/\w'.cell? ⟨w.heap.size,4,none⟩=some (.string s)/\w'.cell? ⟨w.heap.size,5,none⟩=some (.slice A3 l3 c3))from
  fun w' h=>⟨zb h (zc kR rfl),zb h (zc kR rfl),zb h (zc kR rfl),zb h (zc kR rfl),zb h (zc kR rfl)⟩)
 have HQ:=zh hq;have ag:=zh hbl;obtain⟨B0,hB0⟩:=zX (inv false p.m);have HB0:=zh hB0;have ky:=zh (show ∀W,zw w1 W->Calls prog 101 #[.slice A1 L1 c1] W (NewL W p.vs L1)from fun W h=>by
  have:=zp1 p.vs A1 c1 S0 W ((HR.out.vars.later ag.out).later h) HR.out.lv;rw[lg.out]at this;exact this.mono fun e w' ⟨A',c',h1,h2,h3,h4⟩=>⟨A',c',by rw[h1,lg.out],h2,h3,h4⟩)
 have HCM:=zh (show ∀W,zw w1 W->Calls prog 102 #[nv k n s A3 l3 c3,.bool false] W fun e w'=>∃A c,e=.returned (nv B0.k B0.n B0.s A B0.ks.length c)/\NV w' (From W.heap.size) B0 (nv B0.k B0.n B0.s A B0.ks.length c)/\zw W w' from fun W h=>by
  rw[<-HB0.out];exact(zvc (ztU false p.m _ _ ((Co.out.later ag.out).later h).any bg.out.2)).mono fun e w' ⟨v,h1,A,c,h2,h3⟩=>⟨A,c,by rw[h1,h2],h3⟩)
 have hp0:Pq w1 w1 30 none none none:=Pq.start w1 _;clear hq hbl kR hB0 hz1 bI;go_upto_region 3 with fail
 go_cut [8] (fun s4 wx=>∃(g:Nat) (A4:Option Addr) (c4:Nat) (A5:Option Addr) (c5:Nat),s4=.pointer (some ⟨g,0,none⟩)/\p.vs.length<=c4/\PI w wx 30 100 (.cells #[.slice A1 L1 c1,.slice A2 L2 c2,zj k,zi n,.string s,.slice A3 l3 c3] 30) (fun b=>w.heap.size+2<=b/\b≠g) g A4 L1 c4 B0.k B0.n B0.s A5 B0.ks.length c5 zn p.vs B0 [])
 case first =>
  clear HV bg HR Co ag HB0 hlen lg HL2;have aG:=zh (bH.out _ hp0.drew.low);have HK0l:=zh (bH.out _ hp0.lay.drew.low)
  go_region_held3 (fun w'=>(w'.cell? ⟨w.heap.size,0,none⟩=some (.slice A1 L1 c1)/\w'.cell? ⟨w.heap.size,2,none⟩=some (zj k)/\w'.cell? ⟨w.heap.size,3,none⟩=some (zi n)/\w'.cell? ⟨w.heap.size,4,none⟩=some (.string s)/\w'.cell? ⟨w.heap.size,5,none⟩=some (.slice A3 l3 c3)))
   (first|with_reducible exact fF.out|with_reducible exact HK3s.out _ _ _ _ _ _|with_reducible exact HK3a.out _|with_reducible exact aQ.out|with_reducible exact HK2l.out|with_reducible exact aG.out|with_reducible exact HK0l.out)
   (first
    | (go_at_call 101;refine(ky.out _ (by first|with_reducible exact hp0.drew.low|with_reducible exact hp0.lay.drew.low)).mono ?_;rintro e w2 ⟨A4,c4,rfl,hr4,hc4,iY⟩;first|((with_reducible have hpv:=Pq.putV (w:=w1) (b:=none) hp0.drew hr4 iY);have aQ:=zh (bH.out _ hpv.low);have HK2l:=zh (bH.out _ hpv.lay.low))|((with_reducible have hpv:=Pq.putV (w:=w1) hp0.lay.drew hr4 iY);have aQ:=zh (bH.out _ hpv.low)))
    | (go_at_call 102;refine(HCM.out _ (by first|with_reducible exact hpv.low|with_reducible exact hpv.lay.low)).mono ?_;rintro e3 w3 ⟨A5,c5,rfl,Bd,dO⟩;first|((with_reducible have hpq:=Pq.putM (w:=w1) (b:=none) hpv Bd dO);have fF:=zh (bH.out _ hpq.low);have HK3a:=zh (fun o=>bH.out _ (hpq.alloc o).low))|((with_reducible have hpq:=Pq.putM (w:=w1) hpv Bd dO);have hbx:=(hpq.box _ rfl).2;have e0:w3.cell? ⟨_,0,none⟩=some zn:=zc hbx rfl;have e1:w3.cell? ⟨_,1,none⟩=some zn:=zc hbx rfl;have e2:w3.cell? ⟨_,2,none⟩=some (zj 0):=zc hbx rfl;have e3:w3.cell? ⟨_,3,none⟩=some (zi 0):=zc hbx rfl;have e4:w3.cell? ⟨_,4,none⟩=some (.string ⟨#[]⟩):=zc hbx rfl;have e5:w3.cell? ⟨_,5,none⟩=some zn:=zc hbx rfl;have ef:=fun i=>zf (i:=i) hbx;clear hbx;have fF:=zh (bH.out _ hpq.low);have HK3s:=zh (fun u0 u1 u2 u3 u4 u5=>bH.out _ (hpq.set6 u0 u1 u2 u3 u4 u5)))|((with_reducible have hpq:=Pq.putM (w:=w1) hpv.lay Bd dO);have hbx:=(hpq.box _ rfl).2;have e0:w3.cell? ⟨_,0,none⟩=some zn:=zc hbx rfl;have e1:w3.cell? ⟨_,1,none⟩=some zn:=zc hbx rfl;have e2:w3.cell? ⟨_,2,none⟩=some (zj 0):=zc hbx rfl;have e3:w3.cell? ⟨_,3,none⟩=some (zi 0):=zc hbx rfl;have e4:w3.cell? ⟨_,4,none⟩=some (.string ⟨#[]⟩):=zc hbx rfl;have e5:w3.cell? ⟨_,5,none⟩=some zn:=zc hbx rfl;have ef:=fun i=>zf (i:=i) hbx;clear hbx;have fF:=zh (bH.out _ hpq.low);have HK3s:=zh (fun u0 u1 u2 u3 u4 u5=>bH.out _ (hpq.set6 u0 u1 u2 u3 u4 u5))))
    | fail)
  all_goals (go_wp2_with fail;go_meet)
  ·exact⟨_,A4,c4,A5,c5,rfl,hc4,hpq.done2 HQ.out⟩
  ·exact⟨_,A4,c4,A5,c5,rfl,hc4,hpq.done HQ.out⟩
  ·exact⟨_,A4,c4,A5,c5,rfl,hc4,hpq.done HQ.out⟩
 case rest =>
  obtain⟨g,A4,c4,A5,c5,rfl,hc4,hpi⟩:=hcut;clear bH HQ Co hb38 ky HCM hp0 HV bg;have bL:=zh hc4;clear hc4;have pQ:=zKq;have hb58:=zKu;have aw:wc.cell? ⟨w.heap.size,1,none⟩=some (.slice A2 L2 c2):=zc hpi.arg rfl;go_wp2_with fail
  go_loopw [26] (fun i wr=>∃(j:Nat) (A':Option Addr) (c':Nat),j<=L2/\i=zi j/\PI w wr 30 100 (.cells #[.slice A1 L1 c1,.slice A2 L2 c2,zj k,zi n,.string s,.slice A3 l3 c3] 30) (fun b=>w.heap.size+2<=b/\b≠g) g A4 L1 c4 B0.k B0.n B0.s A5 B0.ks.length c5 (.slice A' j c') p.vs B0 ((p.prs.take j).map (mapR id))) (fun i _=>L2-(intOf i).toNat)
  case atStart=>exact⟨0,none,0,Nat.zero_le _,rfl,hpi⟩
  case round =>
   obtain⟨j,A',c',hj,rfl,hs⟩:=hrel;clear hpi aw;by_cases hlt:j<L2
   ·have dU:j<p.prs.length:=by rw[HL2.out];exact hlt
    obtain⟨a,r,P1,d1,P2,d2,rfl,_,Hr,⟨q0,q1,q2,q3,q4,q5⟩,hpr⟩:=(HR.out.procs.later hs.below).nd dU;have g1:wr.cell? ⟨g,1,none⟩=some (.slice A' j c'):=zc hs.box rfl;have hsz:=hs.size;have hge:=hs.ge;have hgl:g<wr.heap.size:=zkf hs.box;have HT:=zh (show(p.prs.take j).map (mapR id)++[mapR id r]=(p.prs.take (j+1)).map (mapR id) by rw[List.take_succ_eq_append_getElem dU,Hr.out];simp);have HT1:=zh (show ∀x:PR,((p.prs.take j).map (mapR id)++[x]).length=j+1 from fun x=>by simp;omega);have hlen1:((p.prs.take j).map (mapR id)).length+1<=1000:=by simp;omega
    obtain⟨B,hB⟩:=zX (id r.b);have HB:=zh hB;obtain⟨rl,hrl⟩:=zX (r.ps.length);obtain⟨rk,gX⟩:=zX (r.b.k);obtain⟨rn,hrn⟩:=zX (r.b.n);obtain⟨rs,hrs⟩:=zX (r.b.s);obtain⟨rm,hrm⟩:=zX (r.b.ks.length);have hbd:=hpr.body;rw[hrl]at q1;rw[gX]at q2;rw[hrn]at q3;rw[hrs]at q4;rw[hrm]at q5;rw[gX,hrn,hrs,hrm]at hbd;have qf:=zh hrl;have bW:=zh hbd;have bV:=zh hpr;clear hB hpr hbd hrl gX hrn hrs hrm;go_upto_region 7 with fail;obtain⟨Wb,kS⟩:=zX (wr.alloc (.cells #[.string r.s,.slice P1 rl d1,zj rk,zi rn,.string rs,.slice P2 rm d2] 100));rw[kS];have hbb:zw wr Wb:=by rw[<-kS];exact zr.alloc zl _
    have hpb:Wb.heap[wr.heap.size]?=some (.cells #[.string r.s,.slice P1 rl d1,zj rk,zi rn,.string rs,.slice P2 rm d2] 100 (0,0)):=by rw[<-kS];exact heap_alloc_new wr _
    have hzb:Wb.heap.size=wr.heap.size+1:=by rw[<-kS];simp
    have BO:Wb.cell? ⟨g,1,none⟩=some (.slice A' j c'):=zb hbb g1;have HS2:=zh (show ∀w':World,w'.heap[wr.heap.size]?=Wb.heap[wr.heap.size]?->(w'.cell? ⟨wr.heap.size,0,none⟩=some (.string r.s)/\w'.cell? ⟨wr.heap.size,1,none⟩=some (.slice P1 rl d1)/\w'.cell? ⟨wr.heap.size,2,none⟩=some (zj rk)/\w'.cell? ⟨wr.heap.size,3,none⟩=some (zi rn)/\w'.cell? ⟨wr.heap.size,4,none⟩=some (.string rs)/\w'.cell? ⟨wr.heap.size,5,none⟩=some (.slice P2 rm d2))from
     fun w' h=>have h':=h.trans hpb;⟨zc h' rfl,zc h' rfl,zc h' rfl,zc h' rfl,zc h' rfl,zc h' rfl⟩)
    have za:=zh (show ∀w':World,zw Wb w'->(w'.cell? ⟨wr.heap.size,0,none⟩=some (.string r.s)/\w'.cell? ⟨wr.heap.size,1,none⟩=some (.slice P1 rl d1)/\w'.cell? ⟨wr.heap.size,2,none⟩=some (zj rk)/\w'.cell? ⟨wr.heap.size,3,none⟩=some (zi rn)/\w'.cell? ⟨wr.heap.size,4,none⟩=some (.string rs)/\w'.cell? ⟨wr.heap.size,5,none⟩=some (.slice P2 rm d2))from
     fun w' h=>HS2.out w' (h.block _ zO))
    have hlb:=hs.below.trans (hbb.mono zO);have ky:=zh (show ∀W,zw Wb W->Calls prog 101 #[.slice P1 rl d1] W (NewL W r.ps rl)from fun W h=>by
     have:=zp1 r.ps P1 d1 S0 W ((bV.out.row.later hbb).later h) bV.out.lp;rw[qf.out]at this;exact this.mono fun e w' ⟨A',c',h1,h2,h3,h4⟩=>⟨A',c',by rw[h1,qf.out],h2,h3,h4⟩)
    have HCM:=zh (show ∀W,zw Wb W->Calls prog 66 #[nv rk rn rs P2 rm d2] W fun e w'=>∃v,e=.returned v/\NewB W B v w' from fun W h=>by
     rw[<-HB.out];exact zvc (znL r.b _ _ ((bW.out.later hbb).later h).any))
    have qh:=zh (show ∀b,Wb.heap.size<=b/\(none:Option Nat)≠some b->(w.heap.size+2<=b/\b≠g)/\some b≠(Value.slice A' j c').ownBlock from fun b hb=>⟨⟨zO,zO⟩,fun e=>by have:=hs.own.block b e.symm;omega⟩);have qo:=zh (show some wr.heap.size≠(Value.slice A' j c').ownBlock from fun e=>by have:=hs.own.block _ e.symm;omega);have ko:=zh (hs.later hbb);have hp0:Pq Wb Wb 30 none none none:=Pq.start Wb _;have kT:=zh hzb;clear hs kS hbb hpb hlb q0 q1 q2 q3 q4 q5 g1 hzb;have hne:¬ wr.heap.size=g:=zO
    have hne':¬ g=wr.heap.size:=zO
    -- region 8 begins
    have hSS:(fun w':World=>(zN6 w' wr.heap.size (.string r.s) (.slice P1 rl d1) (zj rk) (zi rn) (.string rs) (.slice P2 rm d2))) Wb.drew/\(fun w':World=>zv w' g 1 (.slice A' j c')) Wb.drew:=⟨za.out _ hp0.drew.low,BO⟩
    refine wp_region_noPanic ?_;refine zkl (fun w':World=>(zN6 w' wr.heap.size (.string r.s) (.slice P1 rl d1) (zj rk) (zi rn) (.string rs) (.slice P2 rm d2))) (fun w':World=>zv w' g 1 (.slice A' j c')) 13 zK ?_;refine zT 0 hSS ?_;refine zJ 1 hSS ?_;refine zT 2 hSS ?_;refine zT 3 hSS ?_;refine zT 4 hSS ?_;refine zT 5 hSS ?_;refine zT 7 hSS ?_;refine zT 8 hSS ?_;refine zT 9 hSS ?_;refine zo 6 fun K hK=>?_;refine zmj zR (.func 101) (.tmp 35) _ zR 101 _ zx3 zR _ zR _ (zxA (ky.out _ hp0.drew.low)) ?_;rintro v2 w2 ⟨A6,c6,rfl,df,hc6,bw6⟩;have hpv:=Pq.putV (w:=Wb) hp0.drew df bw6;have aB:(fun w':World=>(zN6 w' wr.heap.size (.string r.s) (.slice P1 rl d1) (zj rk) (zi rn) (.string rs) (.slice P2 rm d2))) w2/\(fun w':World=>zv w' g 1 (.slice A' j c')) w2:=⟨za.out _ hpv.low,zb hpv.low BO⟩
    refine hK.out _ _ aB ?_;clear hK K hSS;(try simp only[zQ]);refine zo 10 fun K hK=>?_;refine zmj zR (.tmp 37) (.tmp 39) _ zR 66 _ zz4 zR _ zR _ (HCM.out _ hpv.low) ?_;rintro v3 w3 ⟨A7,c7,rfl,qH,bw7⟩;have hpq:=Pq.putM (w:=Wb) hpv qH bw7;have BN:w3.cell? ⟨g,1,none⟩=some (.slice A' j c'):=zb hpq.low BO;have aV:(fun w':World=>(zN6 w' wr.heap.size (.string r.s) (.slice P1 rl d1) (zj rk) (zi rn) (.string rs) (.slice P2 rm d2))) w3/\(fun w':World=>zv w' g 1 (.slice A' j c')) w3:=⟨za.out _ hpq.low,BN⟩
    have hs3:=ko.out.later hpq.low;have hpr3:PrR w3 (fun b=>(w.heap.size+2<=b/\b≠g)/\some b≠(Value.slice A' j c').ownBlock) ⟨r.s,r.ps,B⟩ A6 c6 A7 c7:=⟨bV.out.name,(hpq.vars _ _ rfl).mono qh.out,bV.out.lp,hc6,(hpq.main _ _ rfl).mono qh.out⟩
    refine hK.out _ _ aV ?_;clear hK K aB;(try simp only[zQ]);refine zT 11 aV ?_;refine zo 12 fun K hK=>?_;(try simp only[zA,zB,zC]);go_simp;refine hK.out _ _ ⟨za.out _ (hpq.alloc _).low,zkj BN _⟩ ?_;clear hK K aV;(try simp only[zQ]);refine zp 13 fun K hK=>?_;refine znR zR (.tmp 31) (.tmp 42) 25 zR 100 i0 _ underlying25 hi0 hz0 hz1 hz2 rfl (w.heap.size+2) (fun b=>w.heap.size+2<=b/\b≠g) (.slice A' j c') _ zR hs3.own ⟨r.s,r.ps,B⟩ rl qf.out A6 c6 A7 c7 zR hpr3 hlen1 hs3.size ?_;intro v8 w4 hown2 hg2 jw;obtain⟨A8,c8,AB,_,_⟩:=hown2.row;rw[HT1.out]at AB;have hne2:v8.ownBlock≠some g:=(fun e=>by rcases jw with h|⟨b,h,h'⟩;rw[h]at e;exact hs3.ne e;rw[h]at e;injection e with e;have:=hpq.low.size;have:=kT.out;omega)
    have hst:=hs3.put hown2 hg2 hne2 jw;have hbx:=(hg2.block _ (zkf hs3.box) (fun e=>hs3.ne e.symm)).trans hs3.box;have hy0:w4.cell? ⟨g,1,none⟩=some (.slice A' j c'):=zc hbx rfl;have hy1:w4.frozen? ⟨g,1,none⟩=false:=zf hbx;have hkb:=(hg2.block _ (by have:=hpq.low.size;have:=kT.out;omega) qo.out).trans (hpq.low.block _ (by have:=kT.out;omega));have gT:=zh (HS2.out _ hkb);have fM:=zh (HS2.out _ ((Below.heap_setCell w4 ⟨g,1,none⟩ v8 _ hne).trans hkb));rw[AB]at hst fM;have HST:=zh hst;clear hst hne2 hkb hbx hg2 jw hown2;rw[AB];refine hK.out _ _ gT.out ?_;clear hK K hpr3 hs3 hpq hpv bw6 bw7 qH df BN;(try simp only[zQ]);refine zp 14 fun K hK=>?_;(try simp only[zA,zB,zC]);go_simp;refine hK.out _ _ gT.out ?_;clear hK K;(try simp only[zQ]);refine zp 15 fun K hK=>?_;(try simp only[zA,zB,zC]);go_simp;refine hK.out _ _ fM.out ?_;clear hK K;(try simp only[zQ]);refine zd ?_
    refine NoPanic.normal ?_
    -- region 8 ends
    all_goals
     go_wp2_with fail
     go_roundw
     case rel =>
      have h1:=HST.out;have e2:=HT.out;have e3:mapR id r=⟨r.s,r.ps,B⟩:=by unfold mapR;rw[HB.out]
      rw[e3]at e2;rw[e2]at h1;exact⟨j+1,A8,c8,zO,by go_num,h1⟩
     case measure=>simp[intOf];omega
   ·obtain rfl:j=L2:=zO
    rw[List.take_of_length_le (by rw[HL2.out];omega)]at hs;have g0:wr.cell? ⟨g,0,none⟩=some (.slice A4 L1 c4):=zc hs.box rfl;have g1:wr.cell? ⟨g,1,none⟩=some (.slice A' j c'):=zc hs.box rfl;have g2:wr.cell? ⟨g,2,none⟩=some (zj B0.k):=zc hs.box rfl;have g3:wr.cell? ⟨g,3,none⟩=some (zi B0.n):=zc hs.box rfl;have g4:wr.cell? ⟨g,4,none⟩=some (.string B0.s):=zc hs.box rfl;have g5:wr.cell? ⟨g,5,none⟩=some (.slice A5 B0.ks.length c5):=zc hs.box rfl;have r0:wr.cell? ⟨w.heap.size+1,0,none⟩=some zn:=zc hs.res rfl;have r1:wr.cell? ⟨w.heap.size+1,1,none⟩=some zn:=zc hs.res rfl;have r2:wr.cell? ⟨w.heap.size+1,2,none⟩=some (zj 0):=zc hs.res rfl;have r3:wr.cell? ⟨w.heap.size+1,3,none⟩=some (zi 0):=zc hs.res rfl;have r4:wr.cell? ⟨w.heap.size+1,4,none⟩=some (.string ⟨#[]⟩):=zc hs.res rfl
    have r5:wr.cell? ⟨w.heap.size+1,5,none⟩=some zn:=zc hs.res rfl;have rz:∀i,wr.frozen? ⟨w.heap.size+1,i,none⟩=false:=fun i=>zf hs.res;have HRES:=zh (hs.result (A2:=A') (l2:=j) (c2:=c') rfl lg.out.symm HR.out.lv bL.out (From w.heap.size) (fun b hb=>by show w.heap.size<=b;omega) (fun b hb=>by show w.heap.size<=b;omega));have ik:=zh (show zkL p=⟨p.vs,p.prs.map (mapR id),B0⟩ by unfold zkL;rw[HB0.out]);clear hs;go_wp2_with fail;exact bodyPost_ret (v:=.tuple #[pv A4 L1 c4 A' j c' B0.k B0.n B0.s A5 B0.ks.length c5,zi 0]) (by simp[results,results65,go_sem,r0,r1,r2,r3,r4,r5]) rfl ⟨_,rfl,by rw[ik.out];exact HRES.out.1,HRES.out.2⟩
end
section
open Go Go.RowKit
def numI(b:Bool):Int:=if b then 1 else 0
theorem zkJ(b:Bool)(w:World):Calls prog 191 #[.bool b] w fun e w'=>e=.returned (zi (numI b))/\w'=w:=by
 cases b
 ·go_enter func191,ntmps191;go_wp2_with fail;go_ret;exact⟨rfl,rfl⟩
 ·go_enter func191,ntmps191;go_wp2_with fail;go_ret;exact⟨rfl,rfl⟩
def divE(k x y:Int):Int×Int:=if y=0 then(0,11)else if k=11 then(wrap64 (x.tdiv y),0)else(x.tmod y,0)
theorem zpU(k x y:Int)(w:World):Calls prog 192 #[zj k,zi x,zi y] w fun e w'=>e=.returned (.tuple #[zi (divE k x y).1,zi (divE k x y).2])/\w'=w:=by
 by_cases h0:y=0
 ·subst h0;rw[show divE k x 0=(0,11) by simp[divE]];go_enter func192,ntmps192;go_wp2_with fail;go_ret2;exact⟨rfl,rfl⟩
 ·by_cases hk:k=11
  ·subst hk;rw[show divE 11 x y=(wrap64 (x.tdiv y),0) by simp[divE,h0]];go_enter func192,ntmps192;go_wp2_with fail;go_ret2;exact⟨rfl,rfl⟩
  ·rw[show divE k x y=(x.tmod y,0) by simp[divE,h0,hk]];have hy:(y==0)=false:=by simpa using h0
   have hk':(k==11)=false:=by simpa using hk
   go_enter func192,ntmps192;go_wp2_with fail;go_ret2;exact⟨rfl,rfl⟩
def unE(k x:Int):Int×Int:=if k=6 then(wrap64 (-x),0)else(numI (x==0),0)
theorem zrv(k x:Int)(hk:k=6\/k=7)(w:World):Calls prog 186 #[zj k,zi x] w fun e w'=>e=.returned (.tuple #[zi (unE k x).1,zi (unE k x).2])/\w'=w:=by
 rcases hk with rfl|rfl
 ·rw[show unE 6 x=(wrap64 (-x),0) by simp[unE]];go_enter func186,ntmps186;go_wp2_with fail;go_ret2;exact⟨rfl,rfl⟩
 ·rw[show unE 7 x=(numI (x==0),0) by simp[unE]];go_enter func186,ntmps186;go_wp2_with fail;refine(zkJ _ w).mono ?_;rintro e w' ⟨rfl,rfl⟩;go_wp2_with fail;go_ret2;exact⟨rfl,rfl⟩
def apE(k x y:Int):Int×Int :=
 if k=8 then(wrap64 (x+y),0)else
 if k=9 then(wrap64 (x-y),0)else
 if k=10 then(wrap64 (x*y),0)else
 if k=11 then divE 11 x y else
 if k=12 then divE 12 x y else
 if k=13 then(bits BinOp.and IntKind.i64 x y,0)else
 if k=14 then(bits BinOp.or IntKind.i64 x y,0)else
 if k=15 then(bits BinOp.xor IntKind.i64 x y,0)else
 if k=16 then(numI (x==y),0)else
 if k=17 then(numI (x != y),0)else
 if k=18 then(numI (decide (x<y)),0)else
 if k=19 then(numI (decide (x<=y)),0)else
 if k=20 then(numI (decide (y<x)),0)else
 if k=21 then(numI (decide (y<=x)),0)else
 if k=22 then(numI (x != 0&&y != 0),0)else
 if k=23 then(numI (x != 0||y != 0),0)else
 (0,0)
theorem zrD(k x y:Int)(hk:8<=k/\k<=23)(w:World):Calls prog 187 #[zj k,zi x,zi y] w fun e w'=>e=.returned (.tuple #[zi (apE k x y).1,zi (apE k x y).2])/\w'=w:=by
 have hc:k=8\/k=9\/k=10\/k=11\/k=12\/k=13\/k=14\/k=15\/k=16\/k=17\/k=18\/k=19\/k=20\/k=21\/k=22\/k=23:=zO
 clear hk;rcases hc with rfl|rfl|rfl|rfl|rfl|rfl|rfl|rfl|rfl|rfl|rfl|rfl|rfl|rfl|rfl|rfl
 ·rw[show apE 8 x y=(wrap64 (x+y),0) by simp[apE]];go_enter func187,ntmps187;go_wp2_with fail;go_ret2;exact⟨rfl,rfl⟩
 ·rw[show apE 9 x y=(wrap64 (x-y),0) by simp[apE]];go_enter func187,ntmps187;go_wp2_with fail;go_ret2;exact⟨rfl,rfl⟩
 ·rw[show apE 10 x y=(wrap64 (x*y),0) by simp[apE]];go_enter func187,ntmps187;go_wp2_with fail;go_ret2;exact⟨rfl,rfl⟩
 ·rw[show apE 11 x y=divE 11 x y by simp[apE]];go_enter func187,ntmps187;go_wp2_with fail;refine(zpU 11 x y w).mono ?_;rintro e w' ⟨rfl,rfl⟩;go_wp2_with fail;go_ret2;exact⟨rfl,rfl⟩
 ·rw[show apE 12 x y=divE 12 x y by simp[apE]];go_enter func187,ntmps187;go_wp2_with fail;refine(zpU 12 x y w).mono ?_;rintro e w' ⟨rfl,rfl⟩;go_wp2_with fail;go_ret2;exact⟨rfl,rfl⟩
 ·rw[show apE 13 x y=(bits BinOp.and IntKind.i64 x y,0) by simp[apE]];go_enter func187,ntmps187;go_wp2_with fail;go_ret2;exact⟨rfl,rfl⟩
 ·rw[show apE 14 x y=(bits BinOp.or IntKind.i64 x y,0) by simp[apE]];go_enter func187,ntmps187;go_wp2_with fail;go_ret2;exact⟨rfl,rfl⟩
 ·rw[show apE 15 x y=(bits BinOp.xor IntKind.i64 x y,0) by simp[apE]];go_enter func187,ntmps187;go_wp2_with fail;go_ret2;exact⟨rfl,rfl⟩
 ·rw[show apE 16 x y=(numI (x==y),0) by simp[apE]];go_enter func187,ntmps187;go_wp2_with fail;refine(zkJ _ w).mono ?_;rintro e w' ⟨rfl,rfl⟩;go_wp2_with fail;go_ret2;exact⟨rfl,rfl⟩
 ·rw[show apE 17 x y=(numI (x != y),0) by simp[apE]];go_enter func187,ntmps187;go_wp2_with fail;refine(zkJ _ w).mono ?_;rintro e w' ⟨rfl,rfl⟩;go_wp2_with fail;go_ret2;exact⟨rfl,rfl⟩
 ·rw[show apE 18 x y=(numI (decide (x<y)),0) by simp[apE]];go_enter func187,ntmps187;go_wp2_with fail;refine(zkJ _ w).mono ?_;rintro e w' ⟨rfl,rfl⟩;go_wp2_with fail;go_ret2;exact⟨rfl,rfl⟩
 ·rw[show apE 19 x y=(numI (decide (x<=y)),0) by simp[apE]];go_enter func187,ntmps187;go_wp2_with fail;refine(zkJ _ w).mono ?_;rintro e w' ⟨rfl,rfl⟩;go_wp2_with fail;go_ret2;exact⟨rfl,rfl⟩
 ·rw[show apE 20 x y=(numI (decide (y<x)),0) by simp[apE]];go_enter func187,ntmps187;go_wp2_with fail;refine(zkJ _ w).mono ?_;rintro e w' ⟨rfl,rfl⟩;go_wp2_with fail;go_ret2;exact⟨rfl,rfl⟩
 ·rw[show apE 21 x y=(numI (decide (y<=x)),0) by simp[apE]];go_enter func187,ntmps187;go_wp2_with fail;refine(zkJ _ w).mono ?_;rintro e w' ⟨rfl,rfl⟩;go_wp2_with fail;go_ret2;exact⟨rfl,rfl⟩
 ·rw[show apE 22 x y=(numI (x != 0&&y != 0),0) by simp[apE]]
  cases hx:(x != 0)<;>cases hy:(y != 0)
  ·rw[show(false&&false)=false from rfl];go_enter func187,ntmps187;go_wp2_with fail;refine(zkJ false w).mono ?_;rintro e w' ⟨rfl,rfl⟩;go_wp2_with fail;go_ret2;exact⟨rfl,rfl⟩
  ·rw[show(false&&true)=false from rfl];go_enter func187,ntmps187;go_wp2_with fail;refine(zkJ false w).mono ?_;rintro e w' ⟨rfl,rfl⟩;go_wp2_with fail;go_ret2;exact⟨rfl,rfl⟩
  ·rw[show(true&&false)=false from rfl];go_enter func187,ntmps187;go_wp2_with fail;refine(zkJ false w).mono ?_;rintro e w' ⟨rfl,rfl⟩;go_wp2_with fail;go_ret2;exact⟨rfl,rfl⟩
  ·rw[show(true&&true)=true from rfl];go_enter func187,ntmps187;go_wp2_with fail;refine(zkJ true w).mono ?_;rintro e w' ⟨rfl,rfl⟩;go_wp2_with fail;go_ret2;exact⟨rfl,rfl⟩
 ·rw[show apE 23 x y=(numI (x != 0||y != 0),0) by simp[apE]]
  cases hx:(x != 0)<;>cases hy:(y != 0)
  ·rw[show(false||false)=false from rfl];go_enter func187,ntmps187;go_wp2_with fail;refine(zkJ false w).mono ?_;rintro e w' ⟨rfl,rfl⟩;go_wp2_with fail;go_ret2;exact⟨rfl,rfl⟩
  ·rw[show(false||true)=true from rfl];go_enter func187,ntmps187;go_wp2_with fail;refine(zkJ true w).mono ?_;rintro e w' ⟨rfl,rfl⟩;go_wp2_with fail;go_ret2;exact⟨rfl,rfl⟩
  ·rw[show(true||false)=true from rfl];go_enter func187,ntmps187;go_wp2_with fail;refine(zkJ true w).mono ?_;rintro e w' ⟨rfl,rfl⟩;go_wp2_with fail;go_ret2;exact⟨rfl,rfl⟩
  ·rw[show(true||true)=true from rfl];go_enter func187,ntmps187;go_wp2_with fail;refine(zkJ true w).mono ?_;rintro e w' ⟨rfl,rfl⟩;go_wp2_with fail;go_ret2;exact⟨rfl,rfl⟩
end
section
open Go.RowKit
def I64(x:Int):Prop := -9223372036854775808<=x/\x<=9223372036854775807
def RowI(w:World)(S:Nat->Prop)(A:Option Addr)(xs:List Int):Prop :=
 ∀i (hi:i<xs.length),∃a:Addr,A=some a/\S a.block/\w.cell? (a.add i)=some (zi xs[i])/\I64 xs[i]
def LI:Nat:=17592186044416
theorem zp0{n:Nat}(h:n<=LI):n<=17592186044416:=h
section
variable {w w':World} {S S':Nat->Prop} {A:Option Addr} {xs:List Int}
theorem RowI.keep(h:RowI w S A xs)(hS:∀b,S b->b<w.heap.size->S' b)(hk:∀b,S b->b<w.heap.size->w'.heap[b]?=w.heap[b]?):RowI w' S' A xs:=fun i hi=>by
 obtain⟨a,hA,iF,h0,hf⟩:=h i hi;have hlt:a.block<w.heap.size:=by have:=World.block_lt_of_cell? w _ h0;rwa[zkF]at this
 refine⟨a,hA,hS _ iF hlt,zkN h0 ?_,hf⟩;simp only[zkF];exact hk _ iF hlt
theorem RowI.later(h:RowI w S A xs)(hb:zw w w'):RowI w' S A xs:=h.keep (fun _ hb _=>hb) fun b _ hlt=>hb.block b hlt
theorem RowI.mono(h:RowI w S A xs)(hS:∀b,S b->S' b):RowI w S' A xs:=h.keep (fun b hb _=>hS b hb) fun _ _ _=>rfl
theorem RowI.any(h:RowI w S A xs):RowI w Any A xs:=h.mono fun _ _=>trivial
theorem RowI.fits(h:RowI w S A xs):∀x∈xs,I64 x:=fun x hx=>by
 obtain⟨i,hi,rfl⟩:=List.getElem_of_mem hx;obtain⟨_,_,_,_,h⟩:=h i hi;exact h
theorem RowI.news{a:Addr}(h:RowI w S (some a) xs):(∀(j:Nat) u,(xs.map (fun x=>Value.int .i64 x))[j]?=some u->w.cell? (a.add j)=some u)/\(∀u∈xs.map (fun x=>Value.int .i64 x),u.oneCell'=true):=by
 refine⟨fun j u hj=>?_,fun u hu=>?_⟩
 ·simp only[List.getElem?_map,Option.map_eq_some_iff]at hj;obtain⟨x,hx,rfl⟩:=hj;obtain⟨hlt,rfl⟩:=List.getElem?_eq_some_iff.1 hx;obtain⟨a',e,_,hc,_⟩:=h j hlt;injection e with e;subst e;exact hc
 ·simp only[List.mem_map]at hu;obtain⟨x,_,rfl⟩:=hu;rfl
theorem zlp{base:Nat}{E:TypeId}{v:Value}(h:w.ownsRow base E 1 v xs.length (xs.map (fun x=>Value.int .i64 x)))(hf:∀x∈xs,I64 x):∃A c,v=.slice A xs.length c/\xs.length<=c/\RowI w (fun b=>v.ownBlock=some b) A xs:=by
 rcases h.2 with⟨rfl,h0⟩|⟨g,cap,cur,rfl,hb,hg,hc,hm,hz,hx⟩
 ·exact⟨none,0,by rw[h0],zO,fun i hi=>absurd hi zO⟩
 ·refine⟨some ⟨g,0,none⟩,cap,rfl,hc,fun i hi=>?_⟩;have ha:(⟨g,0,none⟩:Addr).add i=⟨g,i,none⟩:=by unfold Addr.add;split<;>simp_all
  refine⟨⟨g,0,none⟩,rfl,rfl,?_,hf _ (List.getElem_mem hi)⟩;rw[ha];have:=h.cellAt i zO;rw[this];simp[hi]
end
theorem zn0:(prog.info? 3).map (fun i=>(i.zero,i.size,i.bytes))=some (some (zi 0),1,8):=zK
theorem zKs(w:World):(Instr.buildSlice 42 0 #[]).run prog w=.ok (.slice (some ⟨w.heap.size,0,none⟩) 0 0) (w.alloc (.cells #[] 3)):=zK
theorem zpb(x:Int)(w:World):(Instr.buildSlice 42 1 #[(0,zi x)]).run prog w=.ok (.slice (some ⟨w.heap.size,0,none⟩) 1 1) (w.alloc (.cells #[zi x] 3)):=zK
theorem zLn(a:Addr)(l c:Nat)(w:World):(binOp BinOp.eql 42 (.slice (some a) l c) zn).run prog w=.ok (.bool false) w:=zK
theorem zKa(l c:Nat)(w:World):(binOp BinOp.eql 42 (.slice none l c) zn).run prog w=.ok (.bool true) w:=zK
def NewI(w:World)(xs:List Int)(e:Ending)(w':World):Prop:=∃A' c',e=.returned (.slice A' xs.length c')/\RowI w' (From w.heap.size) A' xs/\xs.length<=c'/\zw w w'
def OwnI(w:World)(xs:List Int)(e:Ending)(w':World):Prop:=∃v',e=.returned v'/\w'.ownsRow w.heap.size 3 1 v' xs.length (xs.map (fun x=>Value.int .i64 x))/\(∀x∈xs,I64 x)/\zw w w'
theorem zkT(xs:List Int)(A:Option Addr)(c:Nat)(S:Nat->Prop)(w:World)(hrow:RowI w S A xs)(hl:xs.length<=LI):Calls prog 55 #[.slice A xs.length c] w (OwnI w xs):=by
 obtain⟨i0,hi0,hz0,hz1,hz2⟩:=info_parts zn0;have hl':=zp0 hl;rcases A with _|a
 ·have h0:xs=[]:=by
   cases xs with
   | nil=>rfl
   | cons v vs=>obtain⟨_,h,_⟩:=hrow 0 zS;cases h
  subst h0;have he:=zKa;clear hrow hl;go_enter func55,ntmps55;go_wp2_with fail;go_ret;exact⟨_,rfl,World.ownsRow_nil _ _ _ _,zS,zr⟩
 ·obtain⟨hnc,hn1⟩:=(hrow.later ((zs w).alloc zl (.cells #[] 3))).news;have HF:=zh hrow.fits;have hown:(w.alloc (.cells #[] 3)).ownsRow w.heap.size 3 1 (.slice (some ⟨w.heap.size,0,none⟩) 0 0) 0 [] :=
   ⟨rfl,.inr ⟨w.heap.size,0,#[],rfl,zl,heap_alloc_new w _,zl,Nat.zero_le _,rfl,rfl⟩⟩
  have hnl:(xs.map (fun x=>Value.int .i64 x)).length=xs.length*1:=zS
  have hm1:0+xs.length<=maxLen:=by unfold maxLen;omega
  have hm2:(0+xs.length)*8<=140737488355328:=zO
  have hb0:=zKs;have he:=zLn;obtain⟨news,hnews⟩:=zX (xs.map (fun x=>Value.int .i64 x));rw[hnews]at hnc hn1 hnl;have wQ:=zh hnews;clear hrow hl hnews;go_enter func55,ntmps55;go_wp2_with (at_builtin;refine wpList_append_own_at (P:=prog) _ rfl (.tmp 5) (.tmp 6) 42 rfl w.heap.size 3 i0 _ 1 8 underlying42 hi0 hz0 hz1 hz2 rfl zY (.slice (some ⟨w.heap.size,0,none⟩) 0 0) 0 [] rfl hown a xs.length c news rfl hnl hnc hn1 hm1 hm2 zS ?_;intro v' w' h2 h3 h4 h5)
  have hbl:zw w w':=((zs w).alloc zl _).grown h3 zS (fun g e=>by simp[Value.ownBlock]at e;omega);have h2':w'.ownsRow w.heap.size 3 1 v' xs.length (xs.map (fun x=>Value.int .i64 x)):=by
   have:=h2;rw[Nat.zero_add,List.nil_append,<-wQ.out]at this;exact this
  have HO:=zh h2';have HB:=zh hbl;have hsl:∃A' c',v'=.slice A' xs.length c':=by
   rcases h2'.2 with⟨rfl,h0⟩|⟨g,cap,cur,rfl,_⟩
   ·exact⟨none,0,by rw[h0]⟩
   ·exact⟨_,_,rfl⟩
  obtain⟨A',c',rfl⟩:=hsl;clear h2 h2' h3 h4 h5 hbl hnc hn1 hown;go_wp2_with fail;go_ret;exact⟨_,zS,HO.out,HF.out,HB.out⟩
theorem zp2(xs:List Int)(A:Option Addr)(c:Nat)(S:Nat->Prop)(w:World)(hrow:RowI w S A xs)(hl:xs.length<=LI):Calls prog 55 #[.slice A xs.length c] w (NewI w xs) :=
 (zkT xs A c S w hrow hl).mono fun e w' ⟨v',he,ho,hf,hb⟩=>by
  obtain⟨A',c',rfl,hc,hr⟩:=zlp ho hf;exact⟨A',c',he,hr.mono fun b hb=>(ho.lt b hb).1,hc,hb⟩
end
section
open Go Go.RowKit
def zKH(w:World)(e:Ending)(w':World):Prop:=∃k n s A l c,e=.returned (nv k n s A l c)/\zw w w'
theorem zLp(k n:Int)(w:World):(Instr.build 28 #[(0,zj k),(1,zi n)]).run prog w=.ok (nv k n ⟨#[]⟩ none 0 0) w:=zK
theorem zlF(v:Int)(hv:0<=v)(w:World):Calls prog 178 #[zi v] w (zKH w):=by
 have hd:decide (0<=v)=true:=decide_eq_true hv;have hb:=zLp;go_enter func178,ntmps178;go_wp2_with fail;(try simp only[Exit.inBlock,Exit.then]);refine bodyPost_ret (v:=nv 1 v ⟨#[]⟩ none 0 0) (by simp[results,results178,go_sem]) rfl ⟨_,_,_,_,_,_,rfl,zkb zr _⟩
theorem zr8(v:Int)(hv : -9223372036854775808<=v/\v<=9223372036854775807)(w:World):Calls prog 178 #[zi v] w (zKH w):=by
 by_cases h0:0<=v
 ·exact zlF v h0 w
 ·have hd:decide (0<=v)=false:=decide_eq_false h0;have hb:=zKr;have hb2:=zKo;have hb1:=zwk;by_cases hm:v = -9223372036854775808
  ·subst hm;go_enter func178,ntmps178;go_wp2_with fail;refine(zlF _ zO _).mono ?_;rintro e w1 ⟨k1,n1,s1,A1,l1,c1,rfl,b1⟩;have b1':zw w w1:=zka (zkb zr _) b1;go_wp2_with fail;refine(zlF _ zO _).mono ?_;rintro e w2 ⟨k2,n2,s2,A2,l2,c2,rfl,b2⟩;have b2':=zka b1' b2;have hbx:w2.heap[w.heap.size]?=some (.cells #[zj 0,zi 0,.string ⟨#[]⟩,zn] 28 (0,0)):=((b2.block _ (by have:=b1.size;simp at this;omega)).trans (b1.block _ zS)).trans (heap_alloc_new w _);obtain⟨m0,m1,m2,m3⟩:=box4 hbx;have f0:∀i,w2.frozen? ⟨w.heap.size,i,none⟩=false:=fun i=>zf hbx;have hlt:=zkf hbx;have hne:¬ w.heap.size=w2.heap.size:=zO
   have hne2:¬ w2.heap.size=w.heap.size:=zO
   clear hbx;go_wp2_with fail;(try simp only[Exit.inBlock,Exit.then]);refine bodyPost_ret (v:=nv 8 0 ⟨#[]⟩ (some ⟨w2.heap.size,0,none⟩) 2 2) (by simp[results,results178,go_sem,m0,m1,m2,m3,hne,hne2,hlt]) rfl ⟨_,_,_,_,_,_,rfl,zkb ((((b2'.setCell zS _).setCell zS _).setCell zS _).setCell zS _) _⟩
  ·have hm':(v == -9223372036854775808)=false:=by simpa using hm
   go_enter func178,ntmps178;go_wp2_with fail;refine(zlF _ zO _).mono ?_;rintro e w1 ⟨k1,n1,s1,A1,l1,c1,rfl,b1⟩;have b1':zw w w1:=zka (zkb zr _) b1;have hbx:w1.heap[w.heap.size]?=some (.cells #[zj 0,zi 0,.string ⟨#[]⟩,zn] 28 (0,0)):=(b1.block _ zS).trans (heap_alloc_new w _);obtain⟨m0,m1,m2,m3⟩:=box4 hbx;have f0:∀i,w1.frozen? ⟨w.heap.size,i,none⟩=false:=fun i=>zf hbx;have hlt:=zkf hbx;have hne:¬ w.heap.size=w1.heap.size:=zO
   have hne2:¬ w1.heap.size=w.heap.size:=zO
   clear hbx;go_wp2_with fail;(try simp only[Exit.inBlock,Exit.then]);refine bodyPost_ret (v:=nv 6 0 ⟨#[]⟩ (some ⟨w1.heap.size,0,none⟩) 1 1) (by simp[results,results178,go_sem,m0,m1,m2,m3,hne,hne2,hlt]) rfl ⟨_,_,_,_,_,_,rfl,zkb ((((b1'.setCell zS _).setCell zS _).setCell zS _).setCell zS _) _⟩
theorem zmf(b:Bool):I64 (numI b):=by cases b<;>simp[numI,I64]
theorem zmH(x:Int):I64 (wrap64 x):=by unfold I64 wrap64;omega
theorem zsm(op:BinOp)(a b:Int):I64 (bits op .i64 a b):=⟨bits_lo_i64 _ _ _,bits_hi_i64 _ _ _⟩
theorem zzm{x y:Int}(hx:I64 x):I64 (x.tmod y):=by
 have h:(x.tmod y).natAbs<=x.natAbs:=by rw[Int.natAbs_tmod];exact Nat.mod_le _ _
 have hs:0<=x->0<=x.tmod y:=fun h0=>Int.tmod_nonneg y h0;have hn:x<=0->x.tmod y<=0:=fun h0=>by
  have h1:=Int.tmod_nonneg (a := -x) y zO;rw[Int.neg_tmod]at h1;omega
 unfold I64 at *
 omega
theorem zv9{k x y:Int}(hx:I64 x):I64 (divE k x y).1:=by
 unfold divE
 split
 ·simp[I64]
 ·split
  ·exact zmH _
  ·exact zzm hx
theorem zKS{k x:Int}:I64 (unE k x).1:=by
 unfold unE
 split
 ·exact zmH _
 ·exact zmf _
theorem zLw{k x y:Int}(hx:I64 x):I64 (apE k x y).1:=by
 unfold apE;by_cases h:k=8
 ·rw[if_pos h];dsimp only;exact zmH _
 rw[if_neg h];clear h;by_cases h:k=9
 ·rw[if_pos h];dsimp only;exact zmH _
 rw[if_neg h];clear h;by_cases h:k=10
 ·rw[if_pos h];dsimp only;exact zmH _
 rw[if_neg h];clear h;by_cases h:k=11
 ·rw[if_pos h];exact zv9 hx
 rw[if_neg h];clear h;by_cases h:k=12
 ·rw[if_pos h];exact zv9 hx
 rw[if_neg h];clear h;by_cases h:k=13
 ·rw[if_pos h];dsimp only;exact zsm _ _ _
 rw[if_neg h];clear h;by_cases h:k=14
 ·rw[if_pos h];dsimp only;exact zsm _ _ _
 rw[if_neg h];clear h;by_cases h:k=15
 ·rw[if_pos h];dsimp only;exact zsm _ _ _
 rw[if_neg h];clear h;by_cases h:k=16
 ·rw[if_pos h];dsimp only;exact zmf _
 rw[if_neg h];clear h;by_cases h:k=17
 ·rw[if_pos h];dsimp only;exact zmf _
 rw[if_neg h];clear h;by_cases h:k=18
 ·rw[if_pos h];dsimp only;exact zmf _
 rw[if_neg h];clear h;by_cases h:k=19
 ·rw[if_pos h];dsimp only;exact zmf _
 rw[if_neg h];clear h;by_cases h:k=20
 ·rw[if_pos h];dsimp only;exact zmf _
 rw[if_neg h];clear h;by_cases h:k=21
 ·rw[if_pos h];dsimp only;exact zmf _
 rw[if_neg h];clear h;by_cases h:k=22
 ·rw[if_pos h];dsimp only;exact zmf _
 rw[if_neg h];clear h;by_cases h:k=23
 ·rw[if_pos h];dsimp only;exact zmf _
 rw[if_neg h];clear h;exact zmf false
structure FO where
 v:Int
 c:Bool
def Fo6(w:World)(p:Addr)(f:FO):Prop:=∃k n s A l c,w.cell? p=some (zj k)/\w.cell? ⟨p.block,p.off+1,none⟩=some (zi n)/\w.cell? ⟨p.block,p.off+2,none⟩=some (.string s)/\w.cell? ⟨p.block,p.off+3,none⟩=some (.slice A l c)/\w.cell? ⟨p.block,p.off+4,none⟩=some (zi f.v)/\w.cell? ⟨p.block,p.off+5,none⟩=some (.bool f.c)
def RowF(w:World)(S:Nat->Prop)(A:Option Addr)(fs:List FO):Prop :=
 ∀i (hi:i<fs.length),∃a:Addr,A=some a/\S a.block/\Fo6 w (a.add (i*6)) fs[i]/\I64 fs[i].v
def valE(k n:Int)(fs:List FO):FO :=
 if fs.all (·.c)then
  if k=1 then⟨n,true⟩else if 2<=k/\k<=5 then⟨0,false⟩else
  if k=6\/k=7 then⟨(unE k (fs[0]?.elim 0 (·.v))).1,(unE k (fs[0]?.elim 0 (·.v))).2==0⟩else
  ⟨(apE k (fs[0]?.elim 0 (·.v)) (fs[1]?.elim 0 (·.v))).1,(apE k (fs[0]?.elim 0 (·.v)) (fs[1]?.elim 0 (·.v))).2==0⟩
 else⟨0,false⟩
def nrm(f:FO):FO:=if f.c=true then f else⟨0,false⟩
mutual
/-- Value and constancy of a folded tree. -/
def zlT:T->FO
 | .nd k n _ ks=>nrm (valE k n (zrd ks))
def zrd:List T->List FO
 | []=>[]
 | t::ts=>zlT t::zrd ts
end
theorem zpI:∀ks:List T,zrd ks=ks.map zlT
 | []=>by simp[zrd]
 | t::ts=>by simp[zrd,zpI ts]
theorem RowF.later{w w':World}{S:Nat->Prop}{A:Option Addr}{fs:List FO}(h:RowF w S A fs)(hb:zw w w'):RowF w' S A fs:=fun i hi=>by
 obtain⟨a,h1,h2,⟨k,n,s,A',l,c,q0,q1,q2,q3,q4,q5⟩,h4⟩:=h i hi;have kp:∀ {p:Addr} {v:Value},w.cell? p=some v->w'.cell? p=some v:=fun {p v} hq=>zkN hq (hb.block _ (World.block_lt_of_cell? w _ hq));exact⟨a,h1,h2,⟨k,n,s,A',l,c,kp q0,kp q1,kp q2,kp q3,kp q4,kp q5⟩,h4⟩
theorem RowF.nd{w:World}{S:Nat->Prop}{A:Option Addr}{fs:List FO}(h:RowF w S A fs){i:Nat}(hi:i<fs.length):∃(a:Addr) (f:FO),A=some a/\Hid (fs[i]=f)/\Fo6 w (a.add (i*6)) f/\I64 f.v :=
 let ⟨a,h1,_,h3,h4⟩:=h i hi;⟨a,fs[i],h1,rfl,h3,h4⟩
theorem zt7(t:T)(fs:List FO)(A:Option Addr)(c:Nat)(S:Nat->Prop)(v:Value)(w:World)(hv:NV w Any t v)(hrow:RowF w S A fs)(hl:fs.length<=100000)(h1:t.k=6\/t.k=7->1<=fs.length)(h2:8<=t.k->t.k<=23/\2<=fs.length)(h0:1<=t.k) :
  Calls prog 177 #[v,.slice A fs.length c] w (zu (.tuple #[zi (valE t.k t.n fs).v,.bool (valE t.k t.n fs).c]) w):=by
 obtain⟨B,tc,rfl,hf,hlk,-,-⟩:=hv.open_;obtain⟨k,hk⟩:=zX (t.k);obtain⟨n,hn⟩:=zX (t.n);obtain⟨s,hs⟩:=zX (t.s);obtain⟨l,hlks⟩:=zX (t.ks.length);rw[hk,hn,hs,hlks];rw[hk]at h0 h1 h2;clear hv hf hlk hk hn hs hlks;obtain⟨F,hF⟩:=zX (valE k n fs);rw[hF];have HF:=zh hF;have ae:=zh hrow;have H1:=zh h1;have H2:=zh h2;clear hF hrow h1 h2;go_enter func177,ntmps177;go_wp2_with fail
 go_loopw [12] (fun i wr=>∃j:Nat,j<=fs.length/\i=zi j/\(fs.take j).all (·.c)=true/\zw w wr/\wr.heap[w.heap.size]?=some (.cells #[zj k,zi n,.string s,.slice B l tc] 28 (0,0))) (fun i _=>fs.length-(intOf i).toNat)
 case atStart=>exact⟨0,Nat.zero_le _,rfl,zS,zkb zr _,heap_alloc_new w _⟩
 case round =>
  obtain⟨j,hj,rfl,hall,hbw,hbx⟩:=hrel;have aU:=zh hbw;have aR:=zh hbx;have bP:=zh hall;by_cases hlt:j<fs.length
  ·obtain⟨a,f,rfl,Hf,⟨k1,n1,s1,A1,l1,c1,q0,q1,q2,q3,q4,q5⟩,-⟩:=(ae.out.later hbw).nd hlt;obtain⟨fv,fc⟩:=f;clear hbw hbx hall;dsimp only at q4 q5
   cases fc
   ·go_wp2_with fail;go_ret2;have iV:F=⟨0,false⟩:=by
     rw[<-HF.out,valE,if_neg];intro h;have:=List.all_eq_true.1 h _ (List.getElem_mem hlt);rw[Hf.out]at this
     cases this
    subst iV;exact⟨rfl,zkb aU.out _⟩
   ·go_wp2_with fail
    go_roundw
    case rel=>exact⟨j+1,zO,by go_num,by rw[List.take_succ_eq_append_getElem hlt,List.all_append,bP.out,Hf.out];rfl,zkb aU.out _,zkd aR.out _⟩
    case measure=>simp[intOf];omega
  ·have hjl:j=fs.length:=zO
   have hallf:fs.all (·.c)=true:=by have:=bP.out;rwa[hjl,List.take_of_length_le zl]at this
   have hge:¬ ((j:Int)<(fs.length:Int)):=zO
   have zK:=zh hallf;obtain⟨m0,m1,m2,m3⟩:=box4 hbx;clear hbw hbx hall hallf;by_cases k1:k=1
   ·subst k1;go_wp2_with fail;go_ret2;have iV:F=⟨n,true⟩:=by rw[<-HF.out,valE,if_pos zK.out];simp
    subst iV;exact⟨rfl,aU.out⟩
   ·by_cases k2:k=2\/k=3\/k=4\/k=5
    ·have iV:F=⟨0,false⟩:=by rw[<-HF.out,valE,if_pos zK.out,if_neg k1,if_pos zO]
     subst iV;rcases k2 with rfl|rfl|rfl|rfl
     all_goals (go_wp2_with fail;go_ret2;exact⟨rfl,aU.out⟩)
    ·by_cases k6:k=6\/k=7
     ·have hl1:=H1.out k6;obtain⟨a,f,rfl,Hf,⟨k1',n1',s1',A1',l1',c1',q0,q1,q2,q3,q4,q5⟩,-⟩:=(ae.out.later aU.out).nd (show 0<fs.length by omega);have hfl:(0:Int)<(fs.length:Int):=zO
      have gH:0<fs.length:=zO
      have iV:F=⟨(unE k f.v).1,(unE k f.v).2==0⟩:=by
       have e0:fs[0]?=some f:=by rw[List.getElem?_eq_getElem zO,Hf.out]
       rw[<-HF.out,valE,if_pos zK.out,if_neg k1,if_neg zO,if_pos k6,e0];rfl
      have lS:=zh (zrv k f.v k6);obtain⟨⟨uv,ue⟩,hU⟩:=zX (unE k f.v);rw[hU]at lS iV;dsimp only at lS iV;have zw:=zh iV;clear hU iV;rcases k6 with rfl|rfl
      ·have HS:=zh (show(fun w':World=>zv w' w.heap.size 0 (zj 6)/\zv w' a.block (a.off+4) (zi f.v)) wr.drew from⟨m0,by simpa[zv,Addr.add_zero']using q4⟩);clear q0 q1 q2 q3 q4 q5;go_upto_region 20 with fail
       go_region_held3 (fun w':World=>zv w' w.heap.size 0 (zj 6)/\zv w' a.block (a.off+4) (zi f.v))
        (with_reducible exact HS.out)
        (first
         | (go_at_call 186;refine(lS.out _).mono ?_;rintro e x1 ⟨rfl,rfl⟩)
         | fail)
       go_wp2_with fail;go_ret2;exact⟨by rw[zw.out];rfl,aU.out.drew⟩
      ·have HS:=zh (show(fun w':World=>zv w' w.heap.size 0 (zj 7)/\zv w' a.block (a.off+4) (zi f.v)) wr.drew from⟨m0,by simpa[zv,Addr.add_zero']using q4⟩);clear q0 q1 q2 q3 q4 q5;go_upto_region 20 with fail
       go_region_held3 (fun w':World=>zv w' w.heap.size 0 (zj 7)/\zv w' a.block (a.off+4) (zi f.v))
        (with_reducible exact HS.out)
        (first
         | (go_at_call 186;refine(lS.out _).mono ?_;rintro e x1 ⟨rfl,rfl⟩)
         | fail)
       go_wp2_with fail;go_ret2;exact⟨by rw[zw.out];rfl,aU.out.drew⟩
     ·have hl2:=H2.out zO;have hl2':=hl2.2;obtain⟨a,f,rfl,Hf,⟨k1',n1',s1',A1',l1',c1',q0,q1,q2,q3,q4,q5⟩,-⟩:=(ae.out.later aU.out).nd (show 0<fs.length by omega);obtain⟨a',f',ea,Hf',⟨k2',n2',s2',A2',l2',c2',y0,y1,y2,y3,y4,y5⟩,-⟩:=(ae.out.later aU.out).nd (show 1<fs.length by omega);injection ea with ea;subst ea;have hfl:(0:Int)<(fs.length:Int):=zO
      have gH:0<fs.length:=zO
      have sS:(1:Int)<(fs.length:Int):=zO
      have sQ:1<fs.length:=zO
      have iV:F=⟨(apE k f.v f'.v).1,(apE k f.v f'.v).2==0⟩:=by
       have e0:fs[0]?=some f:=by rw[List.getElem?_eq_getElem zO,Hf.out]
       have e1:fs[1]?=some f':=by rw[List.getElem?_eq_getElem zO,Hf'.out]
       rw[<-HF.out,valE,if_pos zK.out,if_neg k1,if_neg zO,if_neg k6,e0,e1];rfl
      have lS:=zh (zrD k f.v f'.v zO);obtain⟨⟨uv,ue⟩,hU⟩:=zX (apE k f.v f'.v);rw[hU]at lS iV;dsimp only at lS iV;have zw:=zh iV;have x1:(k==1)=false:=by simp;omega
      have x2:(k==2)=false:=by simp;omega
      have x3:(k==3)=false:=by simp;omega
      have x4:(k==4)=false:=by simp;omega
      have x5:(k==5)=false:=by simp;omega
      have x6:(k==6)=false:=by simp;omega
      have x7:(k==7)=false:=by simp;omega
      have HS:=zh (show(fun w':World=>zv w' w.heap.size 0 (zj k)/\zv w' a.block (a.off+4) (zi f.v)/\zv w' a.block (a.off+6+4) (zi f'.v)) wr.drew from⟨m0,by simpa[zv,Addr.add_zero']using q4,by simpa[zv,Addr.add]using y4⟩);clear hU iV q0 q1 q2 q3 q4 q5 y0 y1 y2 y3 y4 y5 k1 k2 k6;go_upto_region 10 with fail
      go_region_held3 (fun w':World=>zv w' w.heap.size 0 (zj k)/\zv w' a.block (a.off+4) (zi f.v)/\zv w' a.block (a.off+6+4) (zi f'.v))
       (with_reducible exact HS.out)
       (first
        | (go_at_call 187;refine(lS.out _).mono ?_;rintro e x1 ⟨rfl,rfl⟩)
        | fail)
      go_wp2_with fail;go_ret2;exact⟨by rw[zw.out];rfl,aU.out.drew⟩
end
section
open Go.RowKit
def zlt:List VD->ByteArray->Option VD
 | [],_=>none
 | v::vs,s=>match zlt vs s with
  | some u=>some u
  | none=>if v.s.toList=s.toList then some v else none
theorem zt2(vs:List VD)(v:VD)(s:ByteArray):zlt (vs++[v]) s=if v.s.toList=s.toList then some v else zlt vs s:=by
 induction vs with
 | nil=>simp only[List.nil_append,zlt]
 | cons u us ih =>
  simp only[List.cons_append,zlt];rw[ih];by_cases h:v.s.toList=s.toList
  ·rw[if_pos h,if_pos h]
  ·rw[if_neg h,if_neg h]
theorem zpQ{vs:List VD}{j:Nat}(h:j<vs.length)(s:ByteArray):zlt (vs.take (j+1)) s=if vs[j].s.toList=s.toList then some vs[j]else zlt (vs.take j) s:=by
 rw[List.take_succ_eq_append_getElem h,zt2]
abbrev fdV(v:Option VD):Value:=match v with
 | some v=>.tuple #[.agg #[.string v.s,zj v.k,zi v.n],.bool true]
 | none=>.tuple #[.agg #[.string ⟨#[]⟩,zj 0,zi 0],.bool false]
theorem zyh(w:World):(Instr.build 38 #[]).run prog w=.ok (.agg #[.string ⟨#[]⟩,zj 0,zi 0]) w:=zK
theorem zow(vs:List VD)(A:Option Addr)(c:Nat)(s:ByteArray)(S:Nat->Prop)(w:World)(hrow:RowV w S A vs)(hl:vs.length<=LV) :
  Calls prog 85 #[.slice A vs.length c,.string s] w (zu (fdV (zlt vs s)) w):=by
 have hl':=zk1 hl;have ae:=zh hrow;obtain⟨R,hR⟩:=zX (zlt vs s);rw[hR];have HR:=zh hR;clear hrow hl hR;have hb:=zyh;go_enter func85,ntmps85;go_wp2_with fail;have hr0:(w.alloc (.cells #[.string ⟨#[]⟩,zj 0,zi 0] 38)).heap[w.heap.size]?=some (.cells #[.string ⟨#[]⟩,zj 0,zi 0] 38 (0,0)):=heap_alloc_new w _;have hbl:zw w (w.alloc (.cells #[.string ⟨#[]⟩,zj 0,zi 0] 38)):=zr.alloc zl _;have ag:=zh hbl;clear hr0 hbl
 go_loopw [6] (fun i wr=>∃j:Nat,j<=vs.length/\i=zi ((j:Int)-1)/\wr=w.alloc (.cells #[.string ⟨#[]⟩,zj 0,zi 0] 38)/\Hid (zlt (vs.take j) s=R)) (fun i _=>((intOf i)+1).toNat)
 case atStart=>exact⟨vs.length,zl,by first|rfl|simp,by first|rfl|trivial,by rw[List.take_of_length_le zl];exact HR⟩
 case round =>
  obtain⟨j,hj,rfl,rfl,HJ⟩:=hrel;rcases j with _|m
  ·have e0:((0:Nat):Int)-1 = -1:=zO
   rw[e0];have HN:=zh (show R=none by have:=HJ.out;simp[zlt]at this;exact this.symm);clear e0 HJ;go_wp2_with fail;exact bodyPost_ret (v:=fdV none) (by simp[results,results85,go_sem]) rfl ⟨by rw[HN.out],ag.out⟩
  ·rw[show((m+1:Nat):Int)-1=(m:Int) by omega];obtain⟨a,v,rfl,_,Hv,⟨q0,q1,q2⟩,hfv⟩:=(ae.out.later ag.out).nd (i:=m) zO;have hm:m<vs.length:=zO
   have hx:=HJ.out;rw[zpQ hm,Hv.out]at hx;have HX:=zh hx;clear hx HJ;by_cases hs:v.s.toList=s.toList
   ·have HN:=zh (show R=some v by have:=HX.out;rw[if_pos hs]at this;exact this.symm);have e1:(v.s.toList==s.toList)=true:=by simpa using hs
    have nT:=zh (show zw w (w.alloc (.cells #[.string v.s,zj v.k,zi v.n] 38))from zr.alloc zl _);clear hs;go_wp2_with fail;exact bodyPost_ret (v:=fdV (some v)) (by simp[results,results85,go_sem]) rfl ⟨by rw[HN.out],nT.out⟩
   ·have e1:(v.s.toList==s.toList)=false:=by simpa using hs
    have HN:=zh (show zlt (vs.take m) s=R by have:=HX.out;rw[if_neg hs]at this;exact this);clear hs;go_wp2_with fail
    go_roundw
    case rel=>exact⟨m,zO,by first|rfl|go_num,by first|rfl|trivial,HN⟩
    case measure=>simp[intOf]
def zmP(vs:List VD)(s:ByteArray):Int:=if (zlt vs s).isSome then 22 else 0
def useE(vs:List VD)(s:ByteArray)(k:Int):Int:=match zlt vs s with
 | none=>6
 | some v=>if v.k=k then 0 else 7
theorem zoX(vs:List VD)(A:Option Addr)(c:Nat)(s:ByteArray)(S:Nat->Prop)(w:World)(hrow:RowV w S A vs)(hl:vs.length<=LV) :
  Calls prog 56 #[.slice A vs.length c,.string s] w (zu (zi (zmP vs s)) w):=by
 have ae:=zh hrow;have HL:=zh hl;obtain⟨E,hE⟩:=zX (zmP vs s);rw[hE];have HE:=zh hE;clear hrow hl hE;go_enter func56,ntmps56;go_wp2_with fail;refine(zow vs A c s S _ ae.out HL.out).mono ?_;rintro e w1 ⟨rfl,aa⟩
 cases hf:zlt vs s with
 | none =>
  have HN:=zh (show E=0 by rw[<-HE.out];simp[zmP,hf]);have HB:=zh (show zw w (w1.alloc (.cells #[.string ⟨#[]⟩,zj 0,zi 0] 38))from aa.alloc aa.size _);clear hf aa;go_wp2_with fail;go_ret;exact⟨by rw[HN.out];rfl,HB.out⟩
 | some v =>
  have HN:=zh (show E=22 by rw[<-HE.out];simp[zmP,hf]);have HB:=zh (show zw w (w1.alloc (.cells #[.string v.s,zj v.k,zi v.n] 38))from aa.alloc aa.size _);clear hf aa;go_wp2_with fail;go_ret;exact⟨by rw[HN.out];rfl,HB.out⟩
theorem znN(vs:List VD)(A:Option Addr)(c:Nat)(s:ByteArray)(k:Int)(S:Nat->Prop)(w:World)(hrow:RowV w S A vs)(hl:vs.length<=LV) :
  Calls prog 114 #[.slice A vs.length c,.string s,zj k] w (zu (zi (useE vs s k)) w):=by
 have ae:=zh hrow;have HL:=zh hl;obtain⟨E,hE⟩:=zX (useE vs s k);rw[hE];have HE:=zh hE;clear hrow hl hE;go_enter func114,ntmps114;go_wp2_with fail;refine(zow vs A c s S _ ae.out HL.out).mono ?_;rintro e w1 ⟨rfl,aa⟩
 cases hf:zlt vs s with
 | none =>
  have HN:=zh (show E=6 by rw[<-HE.out];simp[useE,hf]);have HB:=zh (show zw w (w1.alloc (.cells #[.string ⟨#[]⟩,zj 0,zi 0] 38))from aa.alloc aa.size _);clear hf aa;go_wp2_with fail;go_ret;exact⟨by rw[HN.out];rfl,HB.out⟩
 | some v =>
  obtain⟨vm,vk,vl⟩:=v;have HB2:=zh (show zw w (w1.alloc (.cells #[.string vm,zj vk,zi vl] 38))from aa.alloc aa.size _);have HN:=zh (show E=if vk=k then 0 else 7 by rw[<-HE.out];simp[useE,hf]);clear hf aa;by_cases hk:vk=k
  ·have e1:(vk==k)=true:=by simpa using hk
   have e2:(vk != k)=false:=by simpa using hk
   have aF:=zh (show E=0 by rw[HN.out,if_pos hk]);clear hk;go_wp2_with fail;go_ret;exact⟨by rw[aF.out];rfl,HB2.out⟩
  ·have e1:(vk==k)=false:=by simpa using hk
   have e2:(vk != k)=true:=by simpa using hk
   have aF:=zh (show E=7 by rw[HN.out,if_neg hk]);clear hk;go_wp2_with fail;go_ret;exact⟨by rw[aF.out];rfl,HB2.out⟩
def idxP(ps:List PR)(s:ByteArray):Option Nat:=ps.findIdx? fun r=>r.s.toList==s.toList
def zlO(ps:List PR)(s:ByteArray):Int:=match idxP ps s with
 | some i=>i
 | none => -1
theorem zwy(rs:ByteArray)(u1 u2 u3 u4 u5:Value)(s:ByteArray)(nb:Nat)(w:World)(hc:w.cell? ⟨nb,0,none⟩=some (.string s)) :
  Calls prog 87 #[.agg #[.string rs,u1,u2,u3,u4,u5],.pointer (some ⟨nb,0,none⟩)] w (zu (.bool (rs.toList==s.toList)) w):=by
 have hc':=zkj hc;go_enter func87,ntmps87;go_wp2_with fail;go_ret;exact⟨rfl,zr.alloc zl _⟩
theorem zpk(ps:List PR)(A:Option Addr)(c:Nat)(s:ByteArray)(nb:Nat)(S:Nat->Prop)(w:World)(hrow:RowP w S A ps)(hl:ps.length<=LV)(hc:w.cell? ⟨nb,0,none⟩=some (.string s)) :
  Calls prog 86 #[.slice A ps.length c,.func (.func 87) #[] #[.pointer (some ⟨nb,0,none⟩)]] w (zu (zi (zlO ps s)) w):=by
 have hl':=zk1 hl;have ae:=zh hrow;have HC:=zh hc;obtain⟨R,hR⟩:=zX (zlO ps s);rw[hR];have HR:=zh hR;clear hrow hl hc hR;go_enter func86,ntmps86;go_wp2_with fail
 go_loopw [8] (fun i wr=>∃j:Nat,j<=ps.length/\i=zi j/\zw w wr/\Hid (∀q (h:q<ps.length),q<j->(ps[q].s.toList==s.toList)=false)) (fun i _=>ps.length-(intOf i).toNat)
 case atStart=>exact⟨0,Nat.zero_le _,rfl,zr,zh fun q _ h=>zO⟩
 case round =>
  obtain⟨j,hj,rfl,hbl,HJ⟩:=hrel;by_cases hlt:j<ps.length
  ·obtain⟨a,r,B1,f1,B2,f2,rfl,_,Hr,⟨q0,q1,q2,q3,q4,q5⟩,-⟩:=(ae.out.later hbl).nd hlt;obtain⟨b,hb⟩:=zX ((r.s.toList==s.toList));have HB:=zh hb;clear hb;go_wp2_with fail;refine(zwy r.s _ _ _ _ _ s nb _ (zb hbl HC.out)).mono ?_;rintro e w1 ⟨rfl,aa⟩;rw[HB.out];have ag:=zh (zka hbl aa);clear aa q0 q1 q2 q3 q4 q5
   cases b
   ·have HJ2:=zh (show ∀q (h:q<ps.length),q<j+1->(ps[q].s.toList==s.toList)=false from fun q h hq=>by
     by_cases e:q<j
     ·exact HJ.out q h e
     ·obtain rfl:q=j:=zO
      rw[Hr.out];exact HB.out)
    go_wp2_with fail
    go_roundw
    case rel=>exact⟨j+1,zO,by go_num,ag.out,HJ2⟩
    case measure=>simp[intOf];omega
   ·have HN:=zh (show R=j by
     rw[<-HR.out];have:idxP ps s=some j:=List.findIdx?_eq_some_iff_getElem.2 ⟨hlt,by rw[Hr.out];exact HB.out,fun q hq=>by rw[HJ.out q zO hq];simp⟩;simp[zlO,this])
    go_wp2_with fail;go_ret;exact⟨by rw[HN.out];rfl,ag.out⟩
  ·have HN:=zh (show R = -1 by
    rw[<-HR.out];have:idxP ps s=none:=List.findIdx?_eq_none_iff.2 fun r hr=>by
     obtain⟨q,hq,rfl⟩:=List.getElem_of_mem hr;exact HJ.out q hq zO
    simp[zlO,this])
   have ag:=zh hbl;clear hbl;go_wp2_with fail;go_ret;exact⟨by rw[HN.out];rfl,ag.out⟩
theorem znH(p:PG)(S:Nat->Prop)(v:Value)(s:ByteArray)(w:World)(hv:PV w S p v):Calls prog 57 #[v,.string s] w (zu (zi (zlO p.prs s)) w):=by
 obtain⟨A1,c1,A2,c2,A3,c3,rfl,hr⟩:=hv;have HR:=zh hr;obtain⟨L1,hL1⟩:=zX (p.vs.length);rw[hL1];clear hr hL1;go_enter func57,ntmps57;go_wp2_with fail;refine(zpk p.prs A2 c2 s (w.heap.size+1) S _ (HR.out.procs.later (zkb (zkb zr _) _)) HR.out.lp zS).mono ?_;rintro e w1 ⟨rfl,aa⟩;have HB:=zh (zka (zkb (zkb (zs w) _) _) aa);clear aa;go_wp2_with fail;go_ret;exact⟨rfl,HB.out⟩
def zlr(ps:List PR)(k:Int)(s:ByteArray)(l:Nat)(vs:List VD):Int :=
 if k=2 then useE vs s 1 else if k=3 then useE vs s 2 else if k=4\/k=5\/k=44\/k=45 then useE vs s 3 else if k=54\/k=55 then zmP vs s
 else if k=50\/k=51 then(match idxP ps s with
  | none=>6
  | some i=>match ps[i]? with
   | none=>6
   | some r=>if l=r.ps.length then 0 else 7)
 else 0
theorem zvS(p:PG)(t:T)(vs:List VD)(A:Option Addr)(c:Nat)(S S' S'':Nat->Prop)(v1 v2:Value)(w:World)(hv1:PV w S p v1)(hv2:NV w S' t v2)(hrow:RowV w S'' A vs)(hl:vs.length<=LV) :
  Calls prog 88 #[v1,v2,.slice A vs.length c] w (zu (zi (zlr p.prs t.k t.s t.ks.length vs)) w):=by
 have hvv:=hv1;obtain⟨A1,c1,A2,c2,A3,c3,rfl,hr⟩:=hv1;have bV:=zh hr.procs;have hlp:=zk1 hr.lp;obtain⟨L1,hL1⟩:=zX (p.vs.length);obtain⟨L2,hL2⟩:=zX (p.prs.length);obtain⟨k,hk⟩:=zX (p.m.k);obtain⟨n,hn⟩:=zX (p.m.n);obtain⟨s,hs⟩:=zX (p.m.s);obtain⟨l3,hl3⟩:=zX (p.m.ks.length);rw[hL1,hL2,hk,hn,hs,hl3];rw[hL1,hL2,hk,hn,hs,hl3]at hvv;rw[hL2]at hlp;have HL2:=zh hL2;have HV:=zh hvv;clear hr hvv hL1 hL2 hk hn hs hl3;obtain⟨B,tc,rfl,_,hlk,_,_⟩:=hv2.open_;have av:=zkz hlk;have ae:=zh hrow;have HL:=zh hl;clear hrow hl hv2 hlk;generalize t.k=tk,t.n=tn,t.s=ts,t.ks.length=tl at *
 obtain⟨R,hR⟩:=zX (zlr p.prs tk ts tl vs);rw[hR];have HR:=zh hR;clear hR;have hb0:∀o o',zw w ((w.alloc o).alloc o'):=fun o o'=>(zr.alloc zl _).alloc zS _;have HB0:=zh hb0;clear hb0;by_cases h2:tk=2
 ·subst h2;have HN:=zh (show R=useE vs ts 1 by rw[<-HR.out];simp[zlr]);go_enter func88,ntmps88;go_wp2_with fail;refine(znN vs A c ts 1 S'' _ (ae.out.later (HB0.out _ _)) HL.out).mono ?_;rintro e w1 ⟨rfl,aa⟩;rw[<-HN.out];have HB:=zh (zka (HB0.out _ _) aa);clear aa;go_wp2_with fail;go_ret;exact⟨rfl,HB.out⟩
 have f2:(tk==2)=false:=by simpa using h2
 by_cases h3:tk=3
 ·subst h3;have HN:=zh (show R=useE vs ts 2 by rw[<-HR.out];simp[zlr]);go_enter func88,ntmps88;go_wp2_with fail;refine(znN vs A c ts 2 S'' _ (ae.out.later (HB0.out _ _)) HL.out).mono ?_;rintro e w1 ⟨rfl,aa⟩;rw[<-HN.out];have HB:=zh (zka (HB0.out _ _) aa);clear aa;go_wp2_with fail;go_ret;exact⟨rfl,HB.out⟩
 have f3:(tk==3)=false:=by simpa using h3
 by_cases h4:tk=4
 ·subst h4;have HN:=zh (show R=useE vs ts 3 by rw[<-HR.out];simp[zlr]);go_enter func88,ntmps88;go_wp2_with fail;refine(znN vs A c ts 3 S'' _ (ae.out.later (HB0.out _ _)) HL.out).mono ?_;rintro e w1 ⟨rfl,aa⟩;rw[<-HN.out];have HB:=zh (zka (HB0.out _ _) aa);clear aa;go_wp2_with fail;go_ret;exact⟨rfl,HB.out⟩
 have f4:(tk==4)=false:=by simpa using h4
 by_cases h5:tk=5
 ·subst h5;have HN:=zh (show R=useE vs ts 3 by rw[<-HR.out];simp[zlr]);go_enter func88,ntmps88;go_wp2_with fail;refine(znN vs A c ts 3 S'' _ (ae.out.later (HB0.out _ _)) HL.out).mono ?_;rintro e w1 ⟨rfl,aa⟩;rw[<-HN.out];have HB:=zh (zka (HB0.out _ _) aa);clear aa;go_wp2_with fail;go_ret;exact⟨rfl,HB.out⟩
 have f5:(tk==5)=false:=by simpa using h5
 by_cases uj:tk=44
 ·subst uj;have HN:=zh (show R=useE vs ts 3 by rw[<-HR.out];simp[zlr]);go_enter func88,ntmps88;go_wp2_with fail;refine(znN vs A c ts 3 S'' _ (ae.out.later (HB0.out _ _)) HL.out).mono ?_;rintro e w1 ⟨rfl,aa⟩;rw[<-HN.out];have HB:=zh (zka (HB0.out _ _) aa);clear aa;go_wp2_with fail;go_ret;exact⟨rfl,HB.out⟩
 have f44:(tk==44)=false:=by simpa using uj
 by_cases h45:tk=45
 ·subst h45;have HN:=zh (show R=useE vs ts 3 by rw[<-HR.out];simp[zlr]);go_enter func88,ntmps88;go_wp2_with fail;refine(znN vs A c ts 3 S'' _ (ae.out.later (HB0.out _ _)) HL.out).mono ?_;rintro e w1 ⟨rfl,aa⟩;rw[<-HN.out];have HB:=zh (zka (HB0.out _ _) aa);clear aa;go_wp2_with fail;go_ret;exact⟨rfl,HB.out⟩
 have f45:(tk==45)=false:=by simpa using h45
 by_cases eG:tk=54
 ·subst eG;have HN:=zh (show R=zmP vs ts by rw[<-HR.out];simp[zlr]);go_enter func88,ntmps88;go_wp2_with fail;refine(zoX vs A c ts S'' _ (ae.out.later (HB0.out _ _)) HL.out).mono ?_;rintro e w1 ⟨rfl,aa⟩;rw[<-HN.out];have HB:=zh (zka (HB0.out _ _) aa);clear aa;go_wp2_with fail;go_ret;exact⟨rfl,HB.out⟩
 have f54:(tk==54)=false:=by simpa using eG
 by_cases eZ:tk=55
 ·subst eZ;have HN:=zh (show R=zmP vs ts by rw[<-HR.out];simp[zlr]);go_enter func88,ntmps88;go_wp2_with fail;refine(zoX vs A c ts S'' _ (ae.out.later (HB0.out _ _)) HL.out).mono ?_;rintro e w1 ⟨rfl,aa⟩;rw[<-HN.out];have HB:=zh (zka (HB0.out _ _) aa);clear aa;go_wp2_with fail;go_ret;exact⟨rfl,HB.out⟩
 have f55:(tk==55)=false:=by simpa using eZ
 by_cases h50:tk=50
 ·subst h50;have HN:=zh (show R=(match idxP p.prs ts with|none=>6|some i=>match p.prs[i]? with|none=>6|some r=>if tl=r.ps.length then 0 else 7) by rw[<-HR.out];simp[zlr]);go_enter func88,ntmps88;go_wp2_with fail;refine(znH p S _ ts _ (HV.out.later (HB0.out _ _))).mono ?_;rintro e w1 ⟨rfl,aa⟩;have hbl:=zka (HB0.out _ _) aa;have hP:=zkc (zkd (heap_alloc_new w (.cells #[.slice A1 L1 c1,.slice A2 L2 c2,zj k,zi n,.string s,.slice A3 l3 c3] 30)) _) aa;have hN:=zkc (heap_alloc_new (w.alloc (.cells #[.slice A1 L1 c1,.slice A2 L2 c2,zj k,zi n,.string s,.slice A3 l3 c3] 30)) (.cells #[zj 50,zi tn,.string ts,.slice B tl tc] 28)) aa;simp only[World.size_alloc]at hN
  cases hi:idxP p.prs ts with
  | none =>
   have e1:zlO p.prs ts = -1:=by simp[zlO,hi]
   rw[e1];have aF:=zh (show R=6 by rw[HN.out,hi]);have HB:=zh hbl;clear aa hi e1 hP hN hbl;go_wp2_with fail;go_ret;exact⟨by rw[aF.out];rfl,HB.out⟩
  | some i =>
   have e1:zlO p.prs ts=i:=by simp[zlO,hi]
   rw[e1];have hi2:i<p.prs.length:=(List.findIdx?_eq_some_iff_getElem.1 hi).1;have hiL:i<L2:=by rw[<-HL2.out];exact hi2
   obtain⟨a,r,P1,d1,P2,d2,rfl,_,Hr,⟨_,q1,_⟩,hpr⟩:=(bV.out.later hbl).nd hi2;obtain⟨rl,hrl⟩:=zX (r.ps.length);have hlr:=zk1 hpr.lp;rw[hrl]at q1 hlr;have aF:=zh (show R=if tl=rl then 0 else 7 by rw[HN.out,hi];simp only;rw[List.getElem?_eq_getElem hi2,Hr.out,<-hrl]);obtain⟨a0,a1,a2,a3,a4,a5⟩:=box6 hP;obtain⟨b0,b1,b2,b3⟩:=box4 hN;have HB:=zh hbl;clear aa hi e1 hP hN hbl hrl hpr;go_wp2_with fail
   go_region_held3 (fun w'=>(w'.cell? ⟨w.heap.size+1,3,none⟩=some (.slice B tl tc)/\w'.cell? ⟨w.heap.size,1,none⟩=some (.slice (some a) L2 c2)/\w'.cell? ⟨(a.add (i*6)).block,(a.add (i*6)).off+1,none⟩=some (.slice P1 rl d1))) (exact⟨b3,a1,q1⟩) (fail)
   by_cases hq:tl=rl
   ·have g1:(tl==rl)=true:=by simpa using hq
    have g2:(tl != rl)=false:=by simpa using hq
    have g3:((tl:Int)==(rl:Int))=true:=by simp;omega
    have g4:((tl:Int) != (rl:Int))=false:=by simp;omega
    have di:=zh (show R=0 by rw[aF.out,if_pos hq]);clear hq;go_wp2_with fail;go_ret;exact⟨by rw[di.out];rfl,HB.out.drew⟩
   ·have g1:(tl==rl)=false:=by simpa using hq
    have g2:(tl != rl)=true:=by simpa using hq
    have g3:((tl:Int)==(rl:Int))=false:=by simp;omega
    have g4:((tl:Int) != (rl:Int))=true:=by simp;omega
    have di:=zh (show R=7 by rw[aF.out,if_neg hq]);clear hq;go_wp2_with fail;go_ret;exact⟨by rw[di.out];rfl,HB.out.drew⟩
 have f50:(tk==50)=false:=by simpa using h50
 by_cases lN:tk=51
 ·subst lN;have HN:=zh (show R=(match idxP p.prs ts with|none=>6|some i=>match p.prs[i]? with|none=>6|some r=>if tl=r.ps.length then 0 else 7) by rw[<-HR.out];simp[zlr]);go_enter func88,ntmps88;go_wp2_with fail;refine(znH p S _ ts _ (HV.out.later (HB0.out _ _))).mono ?_;rintro e w1 ⟨rfl,aa⟩;have hbl:=zka (HB0.out _ _) aa;have hP:=zkc (zkd (heap_alloc_new w (.cells #[.slice A1 L1 c1,.slice A2 L2 c2,zj k,zi n,.string s,.slice A3 l3 c3] 30)) _) aa;have hN:=zkc (heap_alloc_new (w.alloc (.cells #[.slice A1 L1 c1,.slice A2 L2 c2,zj k,zi n,.string s,.slice A3 l3 c3] 30)) (.cells #[zj 51,zi tn,.string ts,.slice B tl tc] 28)) aa;simp only[World.size_alloc]at hN
  cases hi:idxP p.prs ts with
  | none =>
   have e1:zlO p.prs ts = -1:=by simp[zlO,hi]
   rw[e1];have aF:=zh (show R=6 by rw[HN.out,hi]);have HB:=zh hbl;clear aa hi e1 hP hN hbl;go_wp2_with fail;go_ret;exact⟨by rw[aF.out];rfl,HB.out⟩
  | some i =>
   have e1:zlO p.prs ts=i:=by simp[zlO,hi]
   rw[e1];have hi2:i<p.prs.length:=(List.findIdx?_eq_some_iff_getElem.1 hi).1;have hiL:i<L2:=by rw[<-HL2.out];exact hi2
   obtain⟨a,r,P1,d1,P2,d2,rfl,_,Hr,⟨_,q1,_⟩,hpr⟩:=(bV.out.later hbl).nd hi2;obtain⟨rl,hrl⟩:=zX (r.ps.length);have hlr:=zk1 hpr.lp;rw[hrl]at q1 hlr;have aF:=zh (show R=if tl=rl then 0 else 7 by rw[HN.out,hi];simp only;rw[List.getElem?_eq_getElem hi2,Hr.out,<-hrl]);obtain⟨a0,a1,a2,a3,a4,a5⟩:=box6 hP;obtain⟨b0,b1,b2,b3⟩:=box4 hN;have HB:=zh hbl;clear aa hi e1 hP hN hbl hrl hpr;go_wp2_with fail
   go_region_held3 (fun w'=>(w'.cell? ⟨w.heap.size+1,3,none⟩=some (.slice B tl tc)/\w'.cell? ⟨w.heap.size,1,none⟩=some (.slice (some a) L2 c2)/\w'.cell? ⟨(a.add (i*6)).block,(a.add (i*6)).off+1,none⟩=some (.slice P1 rl d1))) (exact⟨b3,a1,q1⟩) (fail)
   by_cases hq:tl=rl
   ·have g1:(tl==rl)=true:=by simpa using hq
    have g2:(tl != rl)=false:=by simpa using hq
    have g3:((tl:Int)==(rl:Int))=true:=by simp;omega
    have g4:((tl:Int) != (rl:Int))=false:=by simp;omega
    have di:=zh (show R=0 by rw[aF.out,if_pos hq]);clear hq;go_wp2_with fail;go_ret;exact⟨by rw[di.out];rfl,HB.out.drew⟩
   ·have g1:(tl==rl)=false:=by simpa using hq
    have g2:(tl != rl)=true:=by simpa using hq
    have g3:((tl:Int)==(rl:Int))=false:=by simp;omega
    have g4:((tl:Int) != (rl:Int))=true:=by simp;omega
    have di:=zh (show R=7 by rw[aF.out,if_neg hq]);clear hq;go_wp2_with fail;go_ret;exact⟨by rw[di.out];rfl,HB.out.drew⟩
 have f51:(tk==51)=false:=by simpa using lN
 have HN:=zh (show R=0 by rw[<-HR.out];simp[zlr,h2,h3,h4,h5,uj,h45,eG,eZ,h50,lN]);clear h2 h3 h4 h5 uj h45 eG eZ h50 lN;go_enter func88,ntmps88;go_wp2_with fail;go_ret;exact⟨by rw[HN.out];rfl,HB0.out _ _⟩
def argE(ps:List PR)(s:ByteArray)(l i:Nat)(m:ByteArray)(vs:List VD):Int:=match zlt vs m with
 | none=>6
 | some v=>match idxP ps s with
  | none=>0
  | some j=>match ps[j]? with
   | none=>0
   | some r=>if l=r.ps.length then(match r.ps[i]? with
    | none=>0
    | some q=>if v.k=q.k/\v.n=q.n then 0 else 7)else 0
theorem box3{w:World}{b:Nat}{E:TypeId}{u0 u1 u2:Value}(h:w.heap[b]?=some (.cells #[u0,u1,u2] E (0,0))):w.cell? ⟨b,0,none⟩=some u0/\w.cell? ⟨b,1,none⟩=some u1/\w.cell? ⟨b,2,none⟩=some u2 :=
 ⟨zc h rfl,zc h rfl,zc h rfl⟩
theorem zoc(p:PG)(t:T)(i:Nat)(hi:i<t.ks.length)(vs:List VD)(A:Option Addr)(c:Nat)(S S' S'':Nat->Prop)(v1 v2:Value)(w:World)(hv1:PV w S p v1)(hv2:NV w S' t v2)(hrow:RowV w S'' A vs)(hl:vs.length<=LV) :
  Calls prog 90 #[v1,v2,.int .i64 i,.slice A vs.length c] w fun e w'=>e=.returned (.int .i64 (argE p.prs t.s t.ks.length i t.ks[i].s vs))/\Below w.heap.size w w':=by
 have hvv:=hv1;obtain⟨A1,c1,A2,c2,A3,c3,rfl,hr⟩:=hv1;have bV:=zh hr.procs;have hlp:=zk1 hr.lp;obtain⟨L1,hL1⟩:=zX (p.vs.length);obtain⟨L2,hL2⟩:=zX (p.prs.length);obtain⟨k,hk⟩:=zX (p.m.k);obtain⟨n,hn⟩:=zX (p.m.n);obtain⟨s,hs⟩:=zX (p.m.s);obtain⟨l3,hl3⟩:=zX (p.m.ks.length);rw[hL1,hL2,hk,hn,hs,hl3];rw[hL1,hL2,hk,hn,hs,hl3]at hvv;rw[hL2]at hlp;have HL2:=zh hL2;have HV:=zh hvv;clear hr hvv hL1 hL2 hk hn hs hl3;obtain⟨B,tc,rfl,_,hlk,_,gX⟩:=hv2.open_;have av:=zkz hlk;have ae:=zh hrow;have HL:=zh hl;obtain⟨b,u,B1,f1,rfl,_,Hu,⟨z0,z1,z2,z3⟩,-⟩:=gX.nd hi;rw[Hu.out];clear hrow hl hv2 hlk gX z0 z1 z3;obtain⟨us,iw⟩:=zX (u.s);rw[iw]at z2 ⊢;clear iw Hu;generalize t.k=tk,t.n=tn,t.s=ts,t.ks.length=tl at *
 obtain⟨R,hR⟩:=zX (argE p.prs ts tl i us vs);rw[hR];have HR:=zh hR;clear hR;have hb0:∀o o',Below w.heap.size w ((w.alloc o).alloc o'):=fun o o'=>(zr.alloc zl _).alloc zS _;have HB0:=zh hb0;have z2':=fun o o'=>zkj (zkj z2 o) o';clear hb0 z2;go_enter func90,ntmps90;go_wp2_with fail;refine(zow vs A c us S'' _ (ae.out.later (HB0.out _ _)) HL.out).mono ?_;rintro e w1 ⟨rfl,aa⟩;have hbl:=zka (HB0.out _ _) aa;have hP:=zkc (zkd (heap_alloc_new w (.cells #[.slice A1 L1 c1,.slice A2 L2 c2,.int .u8 k,.int .i64 n,.string s,.slice A3 l3 c3] 30)) _) aa;have hN:=zkc (heap_alloc_new (w.alloc (.cells #[.slice A1 L1 c1,.slice A2 L2 c2,.int .u8 k,.int .i64 n,.string s,.slice A3 l3 c3] 30)) (.cells #[.int .u8 tk,.int .i64 tn,.string ts,.slice (some b) tl tc] 28)) aa;simp only[World.size_alloc]at hN
 cases hf:zlt vs us with
 | none =>
  have HN:=zh (show R=6 by rw[<-HR.out];simp[argE,hf]);have HB:=zh (zkb hbl (.cells #[.string ⟨#[]⟩,.int .u8 0,.int .i64 0] 38));clear hf aa hP hN hbl z2';go_wp2_with fail;go_ret;exact⟨by rw[HN.out];rfl,HB.out⟩
 | some v =>
  obtain⟨vm,vk,vl⟩:=v;have hq2:=zkb hbl (.cells #[.string vm,.int .u8 vk,.int .i64 vl] 38);have hP2:=zkd hP (.cells #[.string vm,.int .u8 vk,.int .i64 vl] 38);have uf:=zkd hN (.cells #[.string vm,.int .u8 vk,.int .i64 vl] 38);have hV2:=heap_alloc_new w1 (.cells #[.string vm,.int .u8 vk,.int .i64 vl] 38);have HR2:=zh (show R=(match idxP p.prs ts with
   | none=>0
   | some j=>match p.prs[j]? with
    | none=>0
    | some r=>if tl=r.ps.length then(match r.ps[i]? with
     | none=>0
     | some q=>if vk=q.k/\vl=q.n then 0 else 7)else 0) by rw[<-HR.out];simp[argE,hf])
  obtain⟨a0,a1,a2,a3,a4,a5⟩:=box6 hP2;obtain⟨b0,b1,b2,b3⟩:=box4 uf;have lT:=zh hP2;have aF:=zh uf;have yZ:=zh hV2;have uN:=zh hq2;clear hf aa hP hN hbl z2' hP2 uf hV2 hq2 HR;go_wp2_with fail;refine(znH p S _ ts _ (HV.out.later uN.out)).mono ?_;rintro e w2 ⟨rfl,aj⟩;have hbl:=zka uN.out aj;have hP:=zkc lT.out aj;have hN:=zkc aF.out aj;have hV:=zkc yZ.out aj;clear a0 a1 a2 a3 a4 a5 b0 b1 b2 b3 lT aF yZ uN aj
  cases hi2:idxP p.prs ts with
  | none =>
   have e1:zlO p.prs ts = -1:=by simp[zlO,hi2]
   rw[e1];have di:=zh (show R=0 by rw[HR2.out,hi2]);have HB:=zh hbl;clear hi2 e1 hP hN hV hbl;go_wp2_with fail;refine wp_region_noPanic ?_;refine zkl zU zU 20 zK ?_;have hSS:zW zU zU w2.drew:=⟨trivial,trivial⟩
   refine zT 0 hSS ?_;refine zT 1 hSS ?_;refine zT 2 hSS ?_;refine zkr (i:=3) (v:=undef) rfl zK zK zK zY (fun _ _ _ h=>h) (Or.inr ⟨zR,rfl⟩) hSS ?_;(try simp only[zQ]);refine zkr (i:=4) (v:=undef) rfl zK zK zK zY (fun _ _ _ h=>h) (Or.inr ⟨zR,rfl⟩) hSS ?_;(try simp only[zQ]);refine zkr (i:=5) (v:=undef) rfl zK zK zK zY (fun _ _ _ h=>h) (Or.inr ⟨zR,rfl⟩) hSS ?_;(try simp only[zQ]);refine zkr (i:=6) (v:=undef) rfl zK zK zK zY (fun _ _ _ h=>h) (Or.inr ⟨zR,rfl⟩) hSS ?_;(try simp only[zQ]);refine zkr (i:=7) (v:=undef) rfl zK zK zK zY (fun _ _ _ h=>h) (Or.inr ⟨zR,rfl⟩) hSS ?_;try simp only[zQ]
   refine zkr (i:=8) (v:=undef) rfl zK zK zK zY (fun _ _ _ h=>h) (Or.inr ⟨zR,rfl⟩) hSS ?_;(try simp only[zQ]);refine zkr (i:=9) (v:=undef) rfl zK zK zK zY (fun _ _ _ h=>h) (Or.inr ⟨zR,rfl⟩) hSS ?_;(try simp only[zQ]);refine zkr (i:=10) (v:=undef) rfl zK zK zK zY (fun _ _ _ h=>h) (Or.inr ⟨zR,rfl⟩) hSS ?_;(try simp only[zQ]);refine zkr (i:=11) (v:=undef) rfl zK zK zK zY (fun _ _ _ h=>h) (Or.inr ⟨zR,rfl⟩) hSS ?_;(try simp only[zQ]);refine zkr (i:=12) (v:=undef) rfl zK zK zK zY (fun _ _ _ h=>h) (Or.inr ⟨zR,rfl⟩) hSS ?_;try simp only[zQ]
   refine zkr (i:=13) (v:=undef) rfl zK zK zK zY (fun _ _ _ h=>h) (Or.inr ⟨zR,rfl⟩) hSS ?_;(try simp only[zQ]);refine zT 14 hSS ?_;refine zd ?_;refine NoPanic.normal ?_;clear hSS;go_wp2_with fail;go_ret;exact⟨by rw[di.out];rfl,HB.out.drew⟩
  | some j =>
   have e1:zlO p.prs ts=j:=by simp[zlO,hi2]
   rw[e1];have hj2:j<p.prs.length:=(List.findIdx?_eq_some_iff_getElem.1 hi2).1;have pq:j<L2:=by rw[<-HL2.out];exact hj2
   obtain⟨a,r,P1,d1,P2,d2,rfl,_,Hr,⟨_,q1,_⟩,hpr⟩:=(bV.out.later hbl).nd hj2;obtain⟨rl,hrl⟩:=zX (r.ps.length);have hlr:=zk1 hpr.lp;have zi:=zh hpr.row;rw[hrl]at q1 hlr;have HR3:=zh (show R=if tl=rl then(match r.ps[i]? with
     | none=>0
     | some q=>if vk=q.k/\vl=q.n then 0 else 7)else 0 by rw[HR2.out,hi2];simp only;rw[List.getElem?_eq_getElem hj2,Hr.out,<-hrl])
   have qf:=zh hrl;obtain⟨a0,a1,a2,a3,a4,a5⟩:=box6 hP;obtain⟨b0,b1,b2,b3⟩:=box4 hN;have bg:=zh hV;have HB:=zh hbl;have hj0:decide ((j:Int)<0)=false:=zS
   clear hi2 e1 hP hN hbl hrl hpr hV;go_wp2_with fail
   go_region_held3 (fun w'=>(w'.cell? ⟨w.heap.size+1,3,none⟩=some (.slice (some b) tl tc)/\w'.cell? ⟨w.heap.size,1,none⟩=some (.slice (some a) L2 c2)/\w'.cell? ⟨(a.add (j*6)).block,(a.add (j*6)).off+1,none⟩=some (.slice P1 rl d1))) (exact⟨b3,a1,q1⟩) (fail)
   by_cases hq:tl=rl
   ·have g1:(tl==rl)=true:=by simpa using hq
    have g2:(tl != rl)=false:=by simpa using hq
    have g3:((tl:Int)==(rl:Int))=true:=by simp;omega
    have g4:((tl:Int) != (rl:Int))=false:=by simp;omega
    have hir:i<r.ps.length:=by rw[qf.out];omega
    have hir':i<rl:=zO
    obtain⟨e,q,rfl,_,Hq,⟨y0,y1,y2⟩,xA⟩:=(zi.out.later zr.drew).nd hir;have HR4:=zh (show R=if vk=q.k/\vl=q.n then 0 else 7 by rw[HR3.out,if_pos hq,List.getElem?_eq_getElem hir,Hq.out]);obtain⟨qm,qk,ql⟩:=q;simp only at y0 y1 y2 HR4;have hV3:=box3 bg.out;obtain⟨x0,x1,x2⟩:=hV3;have bD:=zh (zkb HB.out.drew (.cells #[.string qm,.int .u8 qk,.int .i64 ql] 38));have hlt9:=zkf bg.out;clear hq Hq xA zi bg;by_cases hk1:vk=qk
    ·have k1:(vk==qk)=true:=by simpa using hk1
     have k2:(vk != qk)=false:=by simpa using hk1
     by_cases hk2:vl=ql
     ·have k3:(vl==ql)=true:=by simpa using hk2
      have k4:(vl != ql)=false:=by simpa using hk2
      have di:=zh (show R=0 by rw[HR4.out,if_pos ⟨hk1,hk2⟩]);clear hk1 hk2;go_wp2_with fail;go_ret;exact⟨by rw[di.out];rfl,bD.out⟩
     ·have k3:(vl==ql)=false:=by simpa using hk2
      have k4:(vl != ql)=true:=by simpa using hk2
      have di:=zh (show R=7 by rw[HR4.out,if_neg (fun h=>hk2 h.2)]);clear hk1 hk2;go_wp2_with fail;go_ret;exact⟨by rw[di.out];rfl,bD.out⟩
    ·have k1:(vk==qk)=false:=by simpa using hk1
     have k2:(vk != qk)=true:=by simpa using hk1
     have di:=zh (show R=7 by rw[HR4.out,if_neg (fun h=>hk1 h.1)]);clear hk1;go_wp2_with fail;go_ret;exact⟨by rw[di.out];rfl,bD.out⟩
   ·have g1:(tl==rl)=false:=by simpa using hq
    have g2:(tl != rl)=true:=by simpa using hq
    have g3:((tl:Int)==(rl:Int))=false:=by simp;omega
    have g4:((tl:Int) != (rl:Int))=true:=by simp;omega
    have di:=zh (show R=0 by rw[HR3.out,if_neg hq]);clear hq;go_wp2_with fail;go_ret;exact⟨by rw[di.out];rfl,HB.out.drew⟩
theorem zwV(A:Option Addr)(l c:Nat)(hlc:l<=c)(hl:l<=LI)(w:World):Calls prog 115 #[.slice A l c] w fun e w'=>e=.returned (.slice A l l)/\w=w':=by
 have hl':=zp0 hl;have h1:(l:Int)<=(c:Int):=zO
 clear hl;go_enter func115,ntmps115;go_wp2_with fail;go_ret;exact⟨rfl,rfl⟩
theorem zrA(A:Option Addr)(l c:Nat)(hlc:l<=c)(hl:l<=LV)(w:World):Calls prog 116 #[.slice A l c] w fun e w'=>e=.returned (.slice A l l)/\w=w':=by
 have hl':=zk1 hl;have h1:(l:Int)<=(c:Int):=zO
 clear hl;go_enter func116,ntmps116;go_wp2_with fail;go_ret;exact⟨rfl,rfl⟩
theorem zml{P:Program}{w:World}{ops:Array Oper}{o:Oper}{a:Act}{K:Act->World->Prop}{Q:Exit->Act->World->Prop}{F:Prop}(hgd:o.guard=none)(s x:Operand)(t:TypeId)
  (hop:o.op=Op.call { callee:=Callee.builtin Builtin.append,args := #[s,x],argTypes := #[t,t] })(e:TypeId)(i:TypeInfo)(z:Value)(size bytes:Nat)(h1:P.underlying t=some (.slice e))(h2:P.info? e=some i)(h3:i.zero=some z)(h4:i.size=size)(h5:i.bytes=bytes)(h6:z.cells.size=size)(h7:0<size)
  (ao:Option Addr)(n cap:Nat)(olds:List Value)(hs:a.eval s=.slice ao n cap)(hnone:ao=none->n=0/\cap=0)(hlo:olds.length=n*size)(holds:∀b,ao=some b->∀j u,olds[j]?=some u->w.cell? (b.add j)=some u)
  (ad:Addr)(m c:Nat)(news:List Value)(hx:a.eval x=.slice (some ad) m c)(hn:news.length=m*size)(hc:∀j u,news[j]?=some u->w.cell? (ad.add j)=some u)(h1c:∀u∈news,u.oneCell'=true)
  (hfull:cap<n+m)(b1:n+m<=maxLen)(b2:(n+m)*bytes<=140737488355328)
  (hK:∀v' w',w'.ownsRow w.heap.size e size v' (n+m) (olds++news)->w.grownBy w' none->K (a.put o.dst v') w') :
  if Region.wanted o (yielded ops a.tmps)=true then Oper.wp P o a w K Q else F:=by
 have hw:Region.wanted o (yielded ops a.tmps)=true:=by simp[Region.wanted,hgd]
 rw[if_pos hw]
 cases ao with
 | some b =>
  obtain⟨v',w',hrun,r1,r2⟩:=run_append_arg_grows (P:=P) w t o.type e i z size bytes h1 h2 h3 h4 h5 h6 h7 b n cap olds hlo (holds b rfl) ad m c news hn hc hfull b1 b2;unfold Oper.wp;simp[execOp,hop,resolve,invoke,builtin,hs,hx,hrun,Result.andThen];exact hK v' w' r1 r2
 | none =>
  obtain⟨rfl,rfl⟩:=hnone rfl;obtain rfl:olds=[]:=List.eq_nil_of_length_eq_zero (by simpa using hlo);obtain⟨v',w',hrun,r1,r2,_⟩:=run_append_own (P:=P) w w.heap.size t o.type e i z size bytes h1 h2 h3 h4 h5 h6 h7 zn 0 [] (World.ownsRow_nil w _ e size) ad m c news hn hc h1c b1 b2 zl;unfold Oper.wp;simp[execOp,hop,resolve,invoke,builtin,hs,hx,hrun,Result.andThen];exact hK v' w' r1 r2
theorem zpa(q:List Int)(A:Option Addr)(c:Nat)(i:Int)(hi:I64 i)(S:Nat->Prop)(w:World)(hrow:RowI w S A q)(hlc:q.length<=c)(hl:q.length<=100000) :
  Calls prog 89 #[.slice A q.length c,zi i] w (NewI w (q++[i])):=by
 obtain⟨i0,hi0,hz0,hz1,hz2⟩:=info_parts zn0;have ae:=zh hrow;have HI:=zh hi;have hbI:=zpb;have hm1:q.length+1<=maxLen:=by unfold maxLen;omega
 have hm2:(q.length+1)*8<=140737488355328:=zO
 have hnone:A=none->q.length=0/\q.length=0:=fun h=>by
  subst h
  cases q with
  | nil=>simp
  | cons x xs=>obtain⟨_,h,_⟩:=hrow 0 zS;cases h
 have hold:∀b,A=some b->∀(j:Nat) u,(q.map fun x=>Value.int .i64 x)[j]?=some u->(w.alloc (.cells #[zi i] 3)).cell? (b.add j)=some u:=fun b hb j u hj=>by
  subst hb;exact zkj (hrow.news.1 j u hj) _
 have hnew:∀(j:Nat) (u:Value),[Value.int .i64 i][j]?=some u->(w.alloc (.cells #[zi i] 3)).cell? ((⟨w.heap.size,0,none⟩:Addr).add j)=some u:=fun j u h=>by
  have:=zkU w 3 [Value.int .i64 i] j u h;simpa using this
 clear hrow hi;go_enter func89,ntmps89;go_wp2_with fail;refine(zwV A q.length c hlc (by unfold LI;omega) _).mono ?_;rintro e w' ⟨rfl,rfl⟩;go_wp2_with (at_builtin;refine wpList_append_grows (P:=prog) _ rfl (.tmp 6) (.tmp 8) 42 rfl 3 i0 _ 1 8 underlying42 hi0 hz0 hz1 hz2 rfl zY A q.length q.length _ rfl hnone zS hold ⟨w.heap.size,0,none⟩ 1 1 [zi i] rfl rfl hnew (by intro u hu;simp at hu;subst hu;rfl) zO hm1 hm2 ?_;intro v' w' h2 h3)
 have h2':w'.ownsRow (w.heap.size+1) 3 1 v' (q++[i]).length ((q++[i]).map (fun x=>Value.int .i64 x)):=by
  have:=h2;simp only[World.size_alloc]at this;simpa using this
 have hbl:zw w w':=((zs w).alloc zl _).grown h3 zS (fun g e=>by cases e);obtain⟨A',c',rfl,hcc,aT⟩:=zlp h2' (by
  intro x hx;simp only[List.mem_append,List.mem_singleton]at hx;rcases hx with hx|rfl
  ·exact ae.out.fits x hx
  ·exact HI.out)
 have bU:=zh (aT.mono (S':=From w.heap.size) fun b hb=>by have:=(h2'.lt b hb).1;show w.heap.size<=b;omega);have HB:=zh hbl;have HC:=zh hcc;clear h2 h2' h3 hbl hold hnew aT hcc hnone;go_wp2_with fail;go_ret;exact⟨A',c',rfl,bU.out,HC.out,HB.out⟩
theorem zKi(s:ByteArray)(k:Int)(w:World):(Instr.build 38 #[(0,.string s),(1,zj k)]).run prog w=.ok (.agg #[.string s,zj k,zi 0]) w:=zK
theorem zyi(a0 a1 a2:Value)(w:World):(Instr.buildSlice 24 1 #[(0,.agg #[a0,a1,a2])]).run prog w=.ok (.slice (some ⟨w.heap.size,0,none⟩) 1 1) (w.alloc (.cells #[a0,a1,a2] 38)):=zK
def zmc(k:Int)(s:ByteArray)(i:Nat)(vs:List VD):List VD:=if k=54/\i=1 then vs++[⟨s,1,0⟩]else if k=55/\i=0 then vs++[⟨s,3,0⟩]else vs
def zyB(w:World)(S:Nat->Prop)(vs:List VD)(e:Ending)(w':World):Prop:=∃A' c',e=.returned (.slice A' vs.length c')/\RowV w' (fun b=>S b\/w.heap.size<=b) A' vs/\vs.length<=c'/\zw w w'
theorem zqW{w w':World}{base:Nat}{E:TypeId}{v:Value}{vs:List VD}{u:VD}{news:List Value}(hn:∀i (hi:i<vs.length),news[i*3]?=some (.string vs[i].s)/\news[i*3+1]?=some (zj vs[i].k)/\news[i*3+2]?=some (zi vs[i].n))
  (hl:news.length=vs.length*3)(hf:∀i (hi:i<vs.length),FldV vs[i])(hu:FldV u)(h:w'.ownsRow base E 3 v (vs.length+1) (news++[.string u.s,zj u.k,zi u.n])) :
  ∃A c,v=.slice A (vs++[u]).length c/\(vs++[u]).length<=c/\RowV w' (fun b=>base<=b) A (vs++[u]):=by
 rcases h.2 with⟨_,h0⟩|⟨g,cap,cur,rfl,hb,hg,hc,hm,hz,hx⟩
 ·omega
 ·refine⟨some ⟨g,0,none⟩,cap,zS,by simpa using hc,fun i hi=>?_⟩;have ha:(⟨g,0,none⟩:Addr).add (i*3)=⟨g,i*3,none⟩:=by unfold Addr.add;split<;>simp_all
  have hcell:∀j x,(news++[Value.string u.s,zj u.k,zi u.n])[j]?=some x->w'.cell? ⟨g,j,none⟩=some x:=fun j x hj=>by
   have hlt:=(List.getElem?_eq_some_iff.1 hj).1;rw[h.cellAt j (by simp at hlt;omega)];exact hj
  refine⟨⟨g,0,none⟩,rfl,hb,?_,?_⟩
  ·rw[ha];by_cases e:i<vs.length
   ·obtain⟨e0,e1,e2⟩:=hn i e;rw[List.getElem_append_left e];exact⟨hcell (i*3) _ (by rw[List.getElem?_append_left zO];exact e0),hcell (i*3+1) _ (by rw[List.getElem?_append_left zO];exact e1),hcell (i*3+2) _ (by rw[List.getElem?_append_left zO];exact e2)⟩
   ·have e':i=vs.length:=by simp at hi;omega
    subst e';simp only[List.getElem_append_right zl,Nat.sub_self,List.getElem_cons_zero];exact⟨hcell (vs.length*3) _ (by rw[List.getElem?_append_right zO];simp[hl]),hcell (vs.length*3+1) _ (by rw[List.getElem?_append_right zO];simp[hl]),hcell (vs.length*3+2) _ (by rw[List.getElem?_append_right zO];simp[hl])⟩
  ·by_cases e:i<vs.length
   ·rw[List.getElem_append_left e];exact hf i e
   ·have e':i=vs.length:=by simp at hi;omega
    subst e';simpa using hu
theorem zvz(t:T)(i:Nat)(hi64:i<=4000000000)(vs:List VD)(A:Option Addr)(c:Nat)(S S':Nat->Prop)(v:Value)(w:World)(hv:NV w S' t v)(hrow:RowV w S A vs)(hlc:vs.length<=c)(hl:vs.length<=100000) :
  Calls prog 91 #[v,zi i,.slice A vs.length c] w (zyB w S (zmc t.k t.s i vs)):=by
 obtain⟨i0,hi0,hz0,hz1,hz2⟩:=info_parts zuu;obtain⟨B,tc,rfl,hft,-⟩:=hv.open_;have ae:=zh hrow;have jf:=zh hlc;have qB:=zh hft;have hb2:=zKi;have hbs:=zyi;have hm1:vs.length+1<=maxLen:=by unfold maxLen;omega
 have hm2:(vs.length+1)*32<=140737488355328:=zO
 have hlv:vs.length<=LV:=by unfold LV;omega
 obtain⟨news,hnl,hnc,hn1,kI⟩:∃news:List Value,news.length=vs.length*3/\(∀b,A=some b->∀(j:Nat) u,news[j]?=some u->w.cell? (b.add j)=some u)/\(A=none->vs.length=0/\vs.length=0)/\(∀i (hi:i<vs.length),news[i*3]?=some (.string vs[i].s)/\news[i*3+1]?=some (zj vs[i].k)/\news[i*3+2]?=some (zi vs[i].n)):=by
  cases A with
  | none =>
   have h0:vs=[]:=by
    cases vs with
    | nil=>rfl
    | cons x xs=>obtain⟨_,h,_⟩:=hrow 0 zS;cases h
   subst h0;exact⟨[],rfl,(fun b h=>by cases h),(fun _=>⟨rfl,rfl⟩),fun i hi=>absurd hi zS⟩
  | some a =>
   obtain⟨news,h1,h2,_,h4⟩:=hrow.news;exact⟨news,h1,(fun b h=>by injection h with h;subst h;exact h2),(fun h=>by cases h),h4⟩
 have jc:=zh kI;have CE:=zh (show ∀i (hi:i<vs.length),FldV vs[i]from fun i hi=>(hrow i hi).choose_spec.2.2.2);clear hrow hlc hft hv kI;generalize t.k=tk,t.n=tn,t.s=ts,t.ks.length=tl at *
 obtain⟨V,hV⟩:=zX (zmc tk ts i vs);rw[hV];have HV:=zh hV;clear hV;have key:∀(kd:Int) (hkd:kd=1\/kd=3) (W':World) (v':Value),(((w.alloc (.cells #[zj tk,zi tn,.string ts,.slice B tl tc] 28)).alloc (.cells #[.string ts,zj kd,zi 0] 38)).drew).grownBy W' none ->
   W'.ownsRow ((w.alloc (.cells #[zj tk,zi tn,.string ts,.slice B tl tc] 28)).alloc (.cells #[.string ts,zj kd,zi 0] 38)).drew.heap.size 38 3 v' (vs.length+1) (news++[.string ts,zj kd,zi 0])->V=vs++[⟨ts,kd,0⟩]->zyB w S V (.returned v') W':=by
  intro kd hkd W' v' hg ho hVV;subst hVV;obtain⟨A',c',rfl,hcc,hrr⟩:=zqW (w:=w) (u:=⟨ts,kd,0⟩) jc.out hnl CE.out ⟨qB.out.2.2,(show(0:Int)<=kd/\kd<256 by rcases hkd with rfl|rfl<;>decide),(by decide:(-9223372036854775808:Int)<=0/\(0:Int)<=9223372036854775807)⟩ ho;refine⟨A',c',rfl,hrr.mono fun b hb=>.inr ?_,hcc,?_⟩
  ·simp at hb;omega
  ·exact((((zs w).alloc zl _).alloc zS _).drew).grown hg (by simp;omega) (fun g e=>by cases e)
 have HKEY:=zh key;have hnc':∀o o' b,A=some b->∀(j:Nat) u,news[j]?=some u->((w.alloc o).alloc o').drew.cell? (b.add j)=some u:=fun o o' b hb j u hj=>zkj (zkj (hnc b hb j u hj) o) o';have hnw:∀(kd:Int) (j:Nat) (u:Value),[Value.string ts,zj kd,zi 0][j]?=some u->((w.alloc (.cells #[zj tk,zi tn,.string ts,.slice B tl tc] 28)).alloc (.cells #[.string ts,zj kd,zi 0] 38)).drew.cell? ((⟨w.heap.size+1,0,none⟩:Addr).add j)=some u:=fun kd j u h=>by
  have:=zkU (w.alloc (.cells #[zj tk,zi tn,.string ts,.slice B tl tc] 28)) 38 [Value.string ts,zj kd,zi 0] j u h;simpa using this
 have HNC:=zh hnc';have wQ:=zh hnw;clear key hnc hnc' hnw;by_cases eG:tk=54/\i=1
 ·obtain⟨rfl,rfl⟩:=eG;have xU:=zh (show V=vs++[⟨ts,1,0⟩] by rw[<-HV.out];simp[zmc]);go_enter func91,ntmps91;go_wp2_with fail
  go_region_held3 (fun w'=>w'.cell? ⟨w.heap.size,2,none⟩=some (.string ts))
   (first|exact hk5|(simp;done))
   (first
    | (refine zml zR (.tmp 16) (.tmp 20) 24 zR 38 i0 _ 3 32 underlying24 hi0 hz0 hz1 hz2 rfl zY A vs.length vs.length news zR hn1 hnl (HNC.out _ _) ⟨w.heap.size+1,0,none⟩ 1 1 [.string ts,zj 1,zi 0] zR rfl (wQ.out 1) (by intro u hu;simp at hu;rcases hu with rfl|rfl|rfl<;>rfl) zO hm1 hm2 ?_;intro v' w' h2 h3;have HF:=zh (HKEY.out 1 (.inl rfl) w' v' h3 h2 xU.out);have hk5:w'.cell? ⟨w.heap.size,2,none⟩=some (.string ts):=(World.cell?_of_block (a:=⟨w.heap.size,2,none⟩) (h3.block _ (by simp;omega) zS)).trans zS;clear h2 h3)
    | (go_at_call 116;refine(zrA A vs.length c jf.out hlv _).mono ?_;rintro e wq ⟨rfl,rfl⟩)
    | fail)
  all_goals
   clear hk5;go_wp2_with fail;go_ret;exact HF.out
 by_cases eZ:tk=55/\i=0
 ·obtain⟨rfl,rfl⟩:=eZ;have xU:=zh (show V=vs++[⟨ts,3,0⟩] by rw[<-HV.out];simp[zmc]);go_enter func91,ntmps91;go_wp2_with fail
  go_region_held3 (fun w'=>w'.cell? ⟨w.heap.size,2,none⟩=some (.string ts))
   (first|exact hk5|(simp;done))
   (first
    | (refine zml zR (.tmp 31) (.tmp 35) 24 zR 38 i0 _ 3 32 underlying24 hi0 hz0 hz1 hz2 rfl zY A vs.length vs.length news zR hn1 hnl (HNC.out _ _) ⟨w.heap.size+1,0,none⟩ 1 1 [.string ts,zj 3,zi 0] zR rfl (wQ.out 3) (by intro u hu;simp at hu;rcases hu with rfl|rfl|rfl<;>rfl) zO hm1 hm2 ?_;intro v' w' h2 h3;have HF:=zh (HKEY.out 3 (.inr rfl) w' v' h3 h2 xU.out);have hk5:w'.cell? ⟨w.heap.size,2,none⟩=some (.string ts):=(World.cell?_of_block (a:=⟨w.heap.size,2,none⟩) (h3.block _ (by simp;omega) zS)).trans zS;clear h2 h3)
    | (go_at_call 116;refine(zrA A vs.length c jf.out hlv _).mono ?_;rintro e wq ⟨rfl,rfl⟩)
    | fail)
  all_goals
   clear hk5;go_wp2_with fail;go_ret;exact HF.out
 have xU:=zh (show V=vs by rw[<-HV.out];unfold zmc;rw[if_neg eG,if_neg eZ]);have HF:=zh (show ∀o,zyB w S V (.returned (.slice A vs.length c)) (w.alloc o)from fun o=>by
  rw[xU.out];exact⟨A,c,rfl,(ae.out.later (zr.alloc zl _)).mono fun b hb=>.inl hb,jf.out,zr.alloc zl _⟩)
 by_cases Am:tk=54
 ·subst Am;have hne:¬ i=1:=fun e=>eG ⟨rfl,e⟩;have e1:(i==1)=false:=by simpa using hne
  have e2:((i:Int)==1)=false:=by simp;omega
  clear eG eZ hne;go_enter func91,ntmps91;go_wp2_with fail;go_ret;exact HF.out _
 have f54:(tk==54)=false:=by simpa using Am
 by_cases Ak:tk=55
 ·subst Ak;have hne:¬ i=0:=fun e=>eZ ⟨rfl,e⟩;have e1:(i==0)=false:=by simpa using hne
  have e2:((i:Int)==0)=false:=by simp;omega
  clear eG eZ hne;go_enter func91,ntmps91;go_wp2_with fail;go_ret;exact HF.out _
 have f55:(tk==55)=false:=by simpa using Ak
 clear eG eZ Am Ak;go_enter func91,ntmps91;go_wp2_with fail;go_ret;exact HF.out _
end
section
open Go
abbrev Fw(ro:Option Nat):Fence:={ Fence.wide with round:=ro }
def znW(ops:Array Oper):Bool:=ops.all fun o=>match o.op with|.defer _=>false|_=>true
theorem zlJ{ops:Array Oper}(h:znW ops=true){j:Nat}{o:Oper}(hj:ops[j]?=some o):∀c,o.op ≠ .defer c:=fun c e=>by
 have hm:o∈ops:=Array.mem_of_getElem? hj;have:=(Array.all_eq_true_iff_forall_mem.1 h) o hm;rw[e]at this
 cases this
section
variable {ro:Option Nat} {n:Nat} {P:Program} {ops:Array Oper} {Q:Exit->Act->World->Prop} {md:Region.Mode}
theorem zKV{row:String}{args:Array Value}{w:World}{R:Value->World->Prop}(h:Rows P row args w R):RowsIn (Fw ro) n P row args w R :=
 fun c cs _=>let ⟨v,w',r,s⟩:=h c cs;⟨v,w',r,stepsIn_wide.2 s⟩
theorem zpn{o:Oper}{a:Act}{w:World}{K:Act->World->Prop}(hnd:∀c,o.op ≠ .defer c)(h:o.wp P a w K Q):o.wpIn (Fw ro) n P a w K Q:=by
 refine⟨fun _ _=>trivial,?_⟩;rw[Oper.semAt_eq _ _ _ hnd];unfold Oper.wp at h;generalize (execOp a.eval o).run P w=r at *
 cases r with
 | ok x w' =>
  cases x<;>simp only[Oper.upon,Oper.uponIn]at h ⊢
  case value=>exact h
  case skip=>exact h
  case defer=>exact h
  case enter f args =>
   have h':CallsIn Fence.wide (n-1) P f args w' _:=callsIn_wide.2 h;exact⟨(fun e=>by cases e),h'⟩
  case row row args=>exact⟨(fun e=>by cases e),zKV h⟩
 | halt x w'=>cases x<;>simp only[Oper.upon,Oper.uponIn]at h ⊢ <;> exact h
theorem YieldsIf.wpOpI{S:World->Prop}{i:Nat}{o:Oper}{v:Value}{a:Act}(hnd:∀c,o.op ≠ .defer c)(hi:ops[i]?=some o)(hy:YieldsIf P ops S o v a)
  {K:Act->World->Prop}{w:World}(hS:S w)(h:K (a.put o.dst v) w):wpOpIn (Fw ro) n P ops Q i K a w:=by
 unfold Go.wpOpIn;simp only[hi];rcases hy with⟨hw,hv⟩|⟨hw,rfl⟩
 ·simp only[hw,if_true];refine zpn hnd ?_;simp only[Oper.wp,hv w hS,Oper.upon];exact h
 ·simp only[hw,Bool.false_eq_true,if_false];exact⟨fun _ _=>trivial,h⟩
theorem zrF{S:World->Prop}{j:Nat}{oi oj:Oper}{v:Value}(hnd:∀c,oj.op ≠ .defer c)(hj:ops[j]?=some oj)(hap:oi.apart ops oj=true)
  (hsi:∀cs b,oi.op ≠ .select cs b)(hsj:∀cs b,oj.op ≠ .select cs b)
  (hQ:∀c a w,Q (.panic c) (a.put oi.dst v) w->Q (.panic c) a w){K:Act->World->Prop}{a:Act}{w:World}
  (hy:YieldsIf P ops S oi v a)(h:wpOpIn (Fw ro) n P ops Q j K (a.put oi.dst v) w) :
  wpOpIn (Fw ro) n P ops Q j (fun a' w'=>YieldsIf P ops S oi v a'/\K (a'.put oi.dst v) w') a w:=by
 obtain⟨h1,h2,h3⟩:=Oper.apart_spec hap;have keep:∀(a:Act),YieldsIf P ops S oi v a->∀u,YieldsIf P ops S oi v (a.put oj.dst u):=fun a hy u =>
  hy.of_same (execOp_put oi hsi a oj.dst u h3) (wanted_put oi a oj.dst u h3)
 have keepD:∀d,YieldsIf P ops S oi v { a with defers:=d::a.defers }:=fun d=>hy.of_same rfl rfl;unfold wpOpIn at *
 simp only[hj]at *
 rw[wanted_put oj a oi.dst v h1]at h
 split
 ·rename_i hw;simp only[hw,if_true]at h;unfold Oper.wpIn at *
  refine⟨fun _ _=>trivial,?_⟩;have h:=h.2;rw[Oper.semAt_eq _ _ _ hnd,execOp_put oj hsj a oi.dst v h1]at h;rw[Oper.semAt_eq _ _ _ hnd];generalize (execOp a.eval oj).run P w=r at *
  cases r with
  | ok x w' =>
   cases x<;>simp only[Oper.uponIn]at h ⊢
   case value u=>exact⟨keep a hy u,by rw[<-Act.put_comm a v u h2];exact h⟩
   case skip=>exact⟨keep a hy _,by rw[<-Act.put_comm a v undef h2];exact h⟩
   case defer d =>
    refine⟨keep _ (keepD d) _,?_⟩;rw[<-Act.put_comm _ v undef h2,<-Act.put_defers];exact h
   case enter f args =>
    refine⟨h.1,CallsIn.mono h.2 fun e w'' he=>?_⟩
    cases e with
    | returned u=>exact⟨keep a hy u,by rw[<-Act.put_comm a v u h2];exact he⟩
    | panicked c=>exact hQ _ _ _ he
    | outgrown=>exact he
   case row row args=>exact⟨h.1,RowsIn.mono h.2 fun u w'' he=>⟨keep a hy u,by rw[<-Act.put_comm a v u h2];exact he⟩⟩
   case round l f tmps assign body =>
    refine⟨h.1,RoundIn.mono h.2 fun e w'' he=>?_⟩
    cases e with
    | returned u=>exact⟨keep a hy u,by rw[<-Act.put_comm a v u h2];exact he⟩
    | panicked c=>exact hQ _ _ _ he
    | outgrown=>exact he
  | halt x w' =>
   cases x<;>simp only[Oper.uponIn]at h ⊢
   case panic u=>exact hQ _ _ _ h
 ·rename_i hw;simp only[hw]at h;exact⟨fun _ _=>trivial,keep a hy _,by rw[<-Act.put_comm a v undef h2];exact h.2⟩
def wpI(ro:Option Nat)(n:Nat)(P:Program)(md:Region.Mode)(ops:Array Oper)(Q:Exit->Act->World->Prop)(S:World->Prop):Nat->Array Bool->Act->World->Prop
 | 0,listed,a,w=>Region.ready md ops listed=[]/\Q .normal a w
 | fuel+1,listed,a,w =>
  (Region.ready md ops listed=[]->Q .normal a w) /\
  ∀i∈Region.ready md ops listed,wpOpIn (Fw ro) n P ops Q i (fun a' w'=>S w'/\wpI ro n P md ops Q S fuel (listed.setIfInBounds i true) a' w') a w
variable {S:World->Prop}
theorem zpp:∀(fuel:Nat) (listed:Array Bool) (a:Act) (w:World),wpI ro n P md ops Q S fuel listed a w->wpAnyIn (Fw ro) n P md ops Q fuel listed a w
 | 0,_,_,_,h=>h
 | fuel+1,_,_,_,h=>⟨h.1,fun i hi=>wpOpIn_mono (fun a' w' h'=>zpp fuel _ a' w' h'.2) (h.2 i hi)⟩
theorem zum{i:Nat}{oi:Oper}{v:Value}(hnd:znW ops=true)(hi:ops[i]?=some oi)(hsel:∀(j:Nat) (o:Oper) cs b,ops[j]?=some o->o.op ≠ .select cs b)
  (hQ:∀c a w,Q (.panic c) (a.put oi.dst v) w->Q (.panic c) a w) :
  ∀(fuel:Nat) (listed:Array Bool) (a:Act) (w:World),
   (∀j oj,ops[j]?=some oj->j≠i->listed.getD j true=false->(∀e∈oj.after,Region.binds md e=true->e.on≠i)->oi.apart ops oj=true) ->
   i∈Region.ready md ops listed->YieldsIf P ops S oi v a->S w ->
   wpI ro n P md ops Q S fuel (listed.setIfInBounds i true) (a.put oi.dst v) w->wpI ro n P md ops Q S (fuel+1) listed a w:=by
 intro fuel
 induction fuel with
 | zero =>
  intro listed a w _ hr hy hS H;refine⟨fun h=>(by rw[h]at hr;cases hr),fun j hj=>?_⟩;by_cases hji:j=i
  ·subst hji;exact YieldsIf.wpOpI (zlJ hnd hi) hi hy hS ⟨hS,H⟩
  ·have:=ready_mono hj hji;rw[H.1]at this
   cases this
 | succ fuel ih =>
  intro listed a w hfree hr hy hS H;refine⟨fun h=>(by rw[h]at hr;cases hr),fun j hj=>?_⟩;by_cases hji:j=i
  ·subst hji;exact YieldsIf.wpOpI (zlJ hnd hi) hi hy hS ⟨hS,H⟩
  ·have h1:=H.2 j (ready_mono hj hji);obtain⟨hjun,oj,hoj,hall⟩:=mem_ready.1 hj;have hnot:∀e∈oj.after,Region.binds md e=true->e.on≠i:=fun e he hb heq=>by
    have h1:=hall e he hb;have h0:=(mem_ready.1 hr).1;rw[heq]at h1;rcases Nat.lt_or_ge i listed.size with h'|h'
    ·simp[h']at h0 h1;rw[h0]at h1;cases h1
    ·simp[Array.getElem?_eq_none h']at h1
   have h2:=zrF (zlJ hnd hoj) hoj (hfree j oj hoj hji hjun hnot) (fun cs b=>hsel i oi cs b hi) (fun cs b=>hsel j oj cs b hoj) hQ hy h1;have hfree':∀k ok,ops[k]?=some ok->k≠i->(listed.setIfInBounds j true).getD k true=false ->
     (∀e∈ok.after,Region.binds md e=true->e.on≠i)->oi.apart ops ok=true:=fun k ok hk hki hun hno=>by
    refine hfree k ok hk hki ?_ hno;by_cases hjk:j=k
    ·subst hjk;exact hjun
    ·rw[getD_set_ne true hjk]at hun;exact hun
   refine wpOpIn_mono (fun a' w' h3=>?_) h2;obtain⟨hy',hs1,hW⟩:=h3;refine⟨hs1,ih (listed.setIfInBounds j true) a' w' hfree' (ready_mono hr (Ne.symm hji)) hy' hs1 ?_⟩;rw[Array.setIfInBounds_comm _ _ hji];exact hW
theorem zwY{i:Nat}{oi:Oper}{v:Value}{fuel:Nat}{listed:Array Bool}{a:Act}{w:World}(hi:ops[i]?=some oi)(hnd:znW ops=true)
  (hs:Region.noSelect ops=true)(hf:Region.free md ops listed i=true)(hr:(Region.ready md ops listed).contains i=true)
  (hQ:∀c a w,Q (.panic c) (a.put oi.dst v) w->Q (.panic c) a w)(hy:YieldsIf P ops S oi v a)(hS:S w)
  (h:wpI ro n P md ops Q S fuel (listed.setIfInBounds i true) (a.put oi.dst v) w):wpI ro n P md ops Q S (fuel+1) listed a w :=
 zum hnd hi (Region.noSelect_spec hs) hQ fuel listed a w (Region.free_spec hi hf) (by simpa using hr) hy hS h
theorem znM{i:Nat}{o:Oper}{fuel:Nat}{listed:Array Bool}{a:Act}{w:World}(hr:Region.ready md ops listed=[i])(ho:ops[i]?=some o)(hnd:znW ops=true)
  (hw:Region.wanted o (yielded ops a.tmps)=true)
  (h:∀K':Act->World->Prop,Shut (∀a w,S w->wpI ro n P md ops Q S fuel (listed.setIfInBounds i true) a w->K' a w)->if Region.wanted o (yielded ops a.tmps)=true then Oper.wp P o a w K' Q else K' (a.put o.dst undef) w) :
  wpI ro n P md ops Q S (fuel+1) listed a w:=by
 refine⟨(fun h0=>by rw[hr]at h0;cases h0),fun j hj=>?_⟩;rw[hr]at hj;simp only[List.mem_singleton]at hj;subst hj;unfold wpOpIn;have:=h _ (fun a w hS hW=>(⟨hS,hW⟩:S w/\wpI ro n P md ops Q S fuel (listed.setIfInBounds j true) a w));rw[if_pos hw]at this;simp only[ho,hw,if_true];exact zpn (zlJ hnd ho) this
theorem zqC{i:Nat}{o:Oper}{fuel:Nat}{listed:Array Bool}{a:Act}{w:World}(hr:Region.ready md ops listed=[i])(ho:ops[i]?=some o)(hnd:znW ops=true)
  (hw:Region.wanted o (yielded ops a.tmps)=true){l:Nat}{f:FuncId}{tmps:Array Value}{assign body:Code}
  (hx:(execOp a.eval o).run P w=.ok (.round l f tmps assign body) w){R:Ending->World->Prop}(hR:RoundIn (Fw ro) (n-1) P l f tmps assign body w R)
  (h:∀e w',R e w'->∃v,e=.returned v/\S w'/\wpI ro n P md ops Q S fuel (listed.setIfInBounds i true) (a.put o.dst v) w') :
  wpI ro n P md ops Q S (fuel+1) listed a w:=by
 refine⟨(fun h0=>by rw[hr]at h0;cases h0),fun j hj=>?_⟩;rw[hr]at hj;simp only[List.mem_singleton]at hj;subst hj;unfold wpOpIn;simp only[ho,hw,if_true];refine⟨fun _ _=>trivial,?_⟩;rw[Oper.semAt_eq _ _ _ (zlJ hnd ho),hx];refine⟨(fun e=>by cases e),hR.mono fun e w' hr=>?_⟩;obtain⟨v,rfl,hS,hW⟩:=h e w' hr;exact⟨hS,hW⟩
theorem zoh{fuel:Nat}{listed:Array Bool}{a:Act}{w:World}(hr:Region.ready md ops listed=[])(h:Q .normal a w):wpI ro n P md ops Q S fuel listed a w:=by
 cases fuel with
 | zero=>exact⟨hr,h⟩
 | succ fuel=>exact⟨fun _=>h,fun i hi=>by rw[hr]at hi;cases hi⟩
theorem zms{id:Nat}{a:Act}{w:World}(S:World->Prop)(hm:P.follows .mixedOrders=true)
  (h:wpI ro n P .any ops Q S ops.size (Array.replicate ops.size false) a w.drew):(Code.region id ops true).wpIn (Fw ro) n P Q a w :=
 wpIn_region_any hm (zpp _ _ _ _ h)
end
section
variable {P:Program} {ops:Array Oper} {Q:Exit->Act->World->Prop} {md:Region.Mode} {S:World->Prop} {ro:Option Nat} {n:Nat}
theorem zI(i:Nat){oi:Oper}{v:Value}{fuel:Nat}{listed l':Array Bool}{a a':Act}{w:World}(hS:S w)(h:wpI ro n P md ops Q S fuel l' a' w)(hi:ops[i]?=some oi:=by rfl)(hnd:znW ops=true:=by kernel_rfl)(hs:Region.noSelect ops=true:=by kernel_rfl)(hf:Region.free md ops listed i=true:=by kernel_rfl)(hr:(Region.ready md ops listed).contains i=true:=by kernel_rfl)(hQ:∀c a w,Q (.panic c) (a.put oi.dst v) w->Q (.panic c) a w:=by exact fun _ _ _ h=>h)(hy:YieldsIf P ops S oi v a:=by (refine Or.inl ⟨by rfl,?_⟩;intro w hSw;(try dsimp only at hSw);(try simp only[zA,zB,zC]);go_simp;(try with_reducible rfl)))(ha:a.put oi.dst v=a':=by ((try simp only[zQ]);(try with_reducible rfl)))(hl:listed.setIfInBounds i true=l':=by ((try simp only[zQ]);(try with_reducible rfl))):wpI ro n P md ops Q S (fuel+1) listed a w:=by subst ha hl;exact zwY hi hnd hs hf hr hQ hy hS h
end
end
section
open Go Go.RowKit
structure Chg(C:Nat->Prop)(w w':World):Prop where
 os:w'.os=w.os
 tape:w'.tape=w.tape
 output:w'.output=w.output
 size:w.heap.size<=w'.heap.size
 block:∀b,b<w.heap.size->¬ C b->w'.heap[b]?=w.heap[b]?
section
variable {C C':Nat->Prop} {w w' w'':World}
theorem Chg.refl(C:Nat->Prop)(w:World):Chg C w w:=⟨rfl,rfl,rfl,zl,fun _ _ _=>rfl⟩
theorem Chg.trans(h:Chg C w w')(h':Chg C w' w''):Chg C w w'' :=
 ⟨h'.os.trans h.os,h'.tape.trans h.tape,h'.output.trans h.output,Nat.le_trans h.size h'.size,fun b hb hc=>(h'.block b (Nat.lt_of_lt_of_le hb h.size) hc).trans (h.block b hb hc)⟩
theorem Chg.mono(h:Chg C w w')(hC:∀b,b<w.heap.size->C b->C' b):Chg C' w w':=⟨h.os,h.tape,h.output,h.size,fun b hb hc=>h.block b hb fun h=>hc (hC b hb h)⟩
theorem Chg.trans2(h:Chg C w w')(h':Chg C' w' w'')(hC:∀b,b<w.heap.size->C' b->C b):Chg C w w'' :=
 ⟨h'.os.trans h.os,h'.tape.trans h.tape,h'.output.trans h.output,Nat.le_trans h.size h'.size,fun b hb hc=>(h'.block b (Nat.lt_of_lt_of_le hb h.size) fun h=>hc (hC b hb h)).trans (h.block b hb hc)⟩
theorem Chg.of_below(h:zw w w'):Chg C w w':=⟨h.os,h.tape,h.output,h.size,fun b hb _=>h.block b hb⟩
theorem Chg.alloc(h:Chg C w w')(o:Obj):Chg C w (w'.alloc o):=h.trans (Chg.of_below (zr.alloc zl o))
theorem Chg.drew(h:Chg C w w'):Chg C w w'.drew:=h.trans (Chg.of_below zr.drew)
theorem Chg.setCell(h:Chg C w w'){p:Addr}(hp:C p.block\/w.heap.size<=p.block)(v:Value):Chg C w (w'.setCell p v) :=
 have hs:Below p.block w' (w'.setCell p v):=zr.setCell zl v
 ⟨hs.os.trans h.os,hs.tape.trans h.tape,hs.output.trans h.output,Nat.le_trans h.size hs.size,fun b hb hc=>by
  rw[Below.heap_setCell _ _ _ _ (by rintro rfl;rcases hp with hp|hp;exact hc hp;omega)];exact h.block b hb hc⟩
theorem Chg.below{B:Nat}(h:Chg C w w')(hB:B<=w.heap.size)(hC:∀b,C b->B<=b):Below B w w' :=
 ⟨h.os,h.tape,h.output,h.size,fun b hb=>h.block b zO fun hc=>by have:=hC b hc;omega⟩
theorem Chg.putObj(w:World)(l:Nat)(o:Obj):Chg (· = l) w (w.putObj l o) :=
 ⟨rfl,rfl,rfl,by simp[World.putObj],fun b _ hc=>World.putObj_heap_other hc⟩
theorem Chg.keep{b:Nat}{o:Obj}(h:Chg C w w')(hb:w.heap[b]?=some o)(hc:¬ C b):w'.heap[b]?=some o :=
 (h.block b (Array.getElem?_eq_some_iff.1 hb).1 hc).trans hb
theorem Chg.row{row:Option Nat}(h:w.grownBy w' row):Chg (fun b=>row=some b) w w':=⟨h.os,h.tape,h.output,h.size,fun b hb hc=>h.block b hb fun e=>hc e.symm⟩
end
def zLA(n:Nat)(P:Program)(gf:FuncId)(lb:Array Value)(xs:List T)(R:Nat->Prop)(W:World):Prop :=
 ∀(l:Nat) (J Jx:List T->(Nat->Prop)->World->Prop) (C:Nat->Prop) (W1:World),l<W1.heap.size->(∀b,C b->¬ R b)->Chg C W W1 ->
  (∀pre C W W',J pre C W->Chg (fun b=>¬ C b) W W'->J pre C W')->(∀pre C W,J pre C W->∀b,C b->b<W.heap.size) ->
  (∀pre x C W pv v,J pre C W->(pre++[x]) <+: xs->(∃A m c,pv=.slice A m c)->NV W (fun b=>l<b) x v ->
   YieldAt (Fw none) (n-1) P l #[pv,v] W fun e W' =>
    (e=.returned (.bool true)/\∃C',J (pre++[x]) C' W'/\(∀b,C' b->C b\/W.heap.size<=b)/\Chg C W W') \/
    (e=.returned (.bool false)/\∃C',Jx (pre++[x]) C' W'/\Chg C W W')) ->
  J [] C W1 ->
  CallsIn (Fw none) n P gf (#[.func (.yield l) #[] #[]]++lb) W1 fun e W'=>(∃v,e=.returned v)/\((∃C',J xs C' W'/\Chg C W1 W')\/(∃pre C',Jx pre C' W'/\Chg C W1 W'))
def zK1(I Ix:List T->(Nat->Prop)->World->Prop)(pre:List T)(C:Nat->Prop)(W:World):Exit->Act->World->Prop
 | .normal,_,W'=>∃C',I pre C' W'/\(∀b,C' b->C b\/W.heap.size<=b)/\Chg C W W'
 | .ret,_,W'=>∃C',Ix pre C' W'/\(∀b,C' b->C b\/W.heap.size<=b)/\Chg C W W'
 | _,_,_=>False
theorem zpx{n:Nat}{P:Program}{g:Operand}{ps:Array Tmp}{assign body:Code}{Q:Exit->Act->World->Prop}{a:Act}{w:World}{gf:FuncId}{lb:Array Value}{xs:List T}{R:Nat->Prop}
  (hg:a.eval g=.func (.func gf) #[] lb)(eg:∀args w,(callFunc gf args).run P w=.ok (.enter gf args) w)(hseq:zLA (n-1) P gf lb xs R w)(hps:ps.size=2)
  (I Ix:List T->(Nat->Prop)->World->Prop)(C0:Nat->Prop)(hI:∀pre C W W',I pre C W->Chg (fun b=>¬ C b) W W'->I pre C W')(hIx:∀pre C W W',Ix pre C W->Chg (fun b=>¬ C b) W W'->Ix pre C W')
  (hIlt:∀pre C W,I pre C W->∀b,C b->b<W.heap.size)(hIxlt:∀pre C W,Ix pre C W->∀b,C b->b<W.heap.size)(hC:∀b,C0 b->¬ R b)(hRlt:∀b,R b->b<w.heap.size)(h0:I [] C0 w)
  (jo:∀l pre x C W pv v,I pre C W->¬ C l->w.heap.size<=l->l<W.heap.size->(pre++[x]) <+: xs->(∃A m c,pv=.slice A m c)->NV W (fun b=>l<b) x v ->
   assign.wpIn (Fw (some l)) (n-1-1) P (Exit.then (fun a1 W1=>Chg C W W1/\∀W2,Chg (· = l) W1 W2->body.wpIn (Fw (some l)) (n-1-1) P (zK1 I Ix (pre++[x]) C W2) a1 W2) (fun _ _ _=>False))
    { tmps:=(ps.zip #[pv,v]).foldl (fun t (p,v)=>t.setIfInBounds p v) a.tmps,defers:=[] } W)
  (hdone:∀D C W',w.heap.size<=D->I xs C W'->Chg C0 w W'->W'.heap[D]?=some (.deferred (some []))->Q .normal { a with defers:={ target:=.collected D,args := #[] }::a.defers } W')
  (hstop:∀D pre C W',w.heap.size<=D->Ix pre C W'->Chg C0 w W'->W'.heap[D]?=some (.deferred (some []))->Code.ret.wpIn (Fw none) n P Q { a with defers:={ target:=.collected D,args := #[] }::a.defers } W') :
  (Code.rangeFunc g ps assign body).wpIn (Fw none) n P Q a w:=by
 refine wpIn_rangeFunc ?_;intro fn hfn;obtain⟨rec,hrec⟩:∃rec:LoopState->Option Code->Loop,rec=fun st pe=>{ state:=st,pending:=pe,fn,tmps:=a.tmps,params:=ps,assign,body,defers:=w.heap.size }:=⟨_,rfl⟩
 obtain⟨W1,hW1⟩:=zX ((w.alloc (.deferred (some []))).alloc (.loop (rec .ready none)));have hL1:W1.heap[w.heap.size+1]?=some (.loop (rec .ready none)):=by
  rw[<-hW1];have:=World.alloc_heap_new (w.alloc (.deferred (some []))) (.loop (rec .ready none));rwa[World.size_alloc]at this
 have hK1:W1.heap[w.heap.size]?=some (.deferred (some [])):=by
  rw[<-hW1];exact(Below.heap_alloc _ _ _ zS).trans (World.alloc_heap_new w _)
 have hb1:zw w W1:=by rw[<-hW1];exact((Below.refl _ w).alloc zl _).alloc zS _
 have hI1:I [] C0 W1:=hI _ _ _ _ h0 (Chg.of_below hb1);have iI:∀b,C0 b->b<w.heap.size:=hIlt _ _ _ h0;refine⟨w.heap.size+1,[{ target:=.collected w.heap.size,args := #[] }],W1,{ target:=.fn (.func gf) lb,args := #[.func (.yield (w.heap.size+1)) #[] #[]] },W1,gf,
  #[.func (.yield (w.heap.size+1)) #[] #[]]++lb,W1,?_,?_,(fun _ _=>trivial),?_,(fun e=>by cases e),?_⟩
 ·rw[<-hW1,hrec];exact run_enterLoop_outer _ _ _ _ _
 ·simp only[resolve,hg];simp[go_sem]
 ·simp[invoke,go_sem,eg]
 ·refine(hseq (w.heap.size+1)
   (fun pre C' W=>∃C,(∀b,C' b↔C b\/b=w.heap.size+1\/b=w.heap.size)/\I pre C W/\¬ C (w.heap.size+1)/\¬ C w.heap.size/\(∀b,C b->b<w.heap.size->C0 b)/\W.heap[w.heap.size+1]?=some (.loop (rec .ready none))/\W.heap[w.heap.size]?=some (.deferred (some [])))
   (fun pre C' W=>∃C,Ix pre C W/\¬ C (w.heap.size+1)/\W.heap[w.heap.size+1]?=some (.loop (rec .done (some .ret)))/\W.heap[w.heap.size]?=some (.deferred (some [])))
   (fun b=>C0 b\/b=w.heap.size+1\/b=w.heap.size) W1 (Array.getElem?_eq_some_iff.1 hL1).1 ?_ (Chg.of_below hb1) ?_ ?_ ?_ ⟨C0,fun _=>Iff.rfl,hI1,(fun h=>by have:=iI _ h;omega),(fun h=>by have:=iI _ h;omega),(fun _ h _=>h),hL1,hK1⟩).mono ?_
  ·intro b hb hr;have:=hRlt b hr;rcases hb with hb|hb|hb
   ·exact hC b hb hr
   ·omega
   ·omega
  ·rintro pre C' W W' ⟨C,hC',hi,h1,h2,h3,hl,hk⟩ hch;refine⟨C,hC',hI _ _ _ _ hi (hch.mono fun b _ hb hc=>hb ((hC' b).2 (.inl hc))),h1,h2,h3,hch.keep hl (fun h=>h ((hC' _).2 (.inr (.inl rfl)))),hch.keep hk (fun h=>h ((hC' _).2 (.inr (.inr rfl))))⟩
  ·rintro pre C' W ⟨C,hC',hi,h1,h2,h3,hl,hk⟩ b hb;rcases(hC' b).1 hb with hb|rfl|rfl
   ·exact hIlt _ _ _ hi b hb
   ·exact(Array.getElem?_eq_some_iff.1 hl).1
   ·exact(Array.getElem?_eq_some_iff.1 hk).1
  ·rintro pre x C' W pv v ⟨C,hC',hi,h1,h2,h3,hl,hk⟩ hpre hpv hn;have hlt:w.heap.size+1<W.heap.size:=(Array.getElem?_eq_some_iff.1 hl).1;have hy:=run_yield (P:=P) (args := #[pv,v]) hl (by rw[hrec];exact hps.symm);rw[hrec]at hy;refine⟨fn,_,assign,body,hy,roundIn_of_wpIn hfn (wpIn_mono (jo (w.heap.size+1) pre x C W pv v hi h1 zO hlt hpre hpv hn) ?_)⟩;rintro e a1 Wa kK
   cases e with
   | normal =>
    obtain⟨tu,hbody⟩:=kK;have hl1:=tu.keep hl h1;have hk1:=tu.keep hk h2;have hlt1:w.heap.size+1<Wa.heap.size:=(Array.getElem?_eq_some_iff.1 hl1).1;refine⟨_,run_beginRound hl1 (by rw[hrec]),?_⟩;have hl2:(Wa.putObj (w.heap.size+1) (.loop { rec .ready none with state:=.busy })).heap[w.heap.size+1]?=some (.loop { rec .ready none with state:=.busy }):=World.putObj_heap_same hlt1;have hk2:(Wa.putObj (w.heap.size+1) (.loop { rec .ready none with state:=.busy })).heap[w.heap.size]?=some (.deferred (some [])):=(World.putObj_heap_other zO).trans hk1;have hc2:Chg (fun b=>C b\/b=w.heap.size+1) W (Wa.putObj (w.heap.size+1) (.loop { rec .ready none with state:=.busy })) :=
     (tu.mono fun _ _ h=>.inl h).trans2 (Chg.putObj Wa (w.heap.size+1) _) (fun b _ h=>.inr h)
    refine wpIn_mono (hbody _ (Chg.putObj _ _ _)) ?_;have fin:∀(jump:Option Code) (W3:World),Chg C (Wa.putObj (w.heap.size+1) (.loop { rec .ready none with state:=.busy })) W3 ->
      (Instr.endRound (w.heap.size+1) jump).run P W3=.ok (.bool jump.isNone) (W3.putObj (w.heap.size+1) (.loop (rec (if jump.isNone then .ready else .done) jump))) /\
      (W3.putObj (w.heap.size+1) (.loop (rec (if jump.isNone then .ready else .done) jump))).heap[w.heap.size+1]?=some (.loop (rec (if jump.isNone then .ready else .done) jump)) /\
      (W3.putObj (w.heap.size+1) (.loop (rec (if jump.isNone then .ready else .done) jump))).heap[w.heap.size]?=some (.deferred (some [])) /\
      Chg C' W (W3.putObj (w.heap.size+1) (.loop (rec (if jump.isNone then .ready else .done) jump))):=fun jump W3 hk3=>by
     have hl3:=hk3.keep hl2 h1;have:=run_endRound (P:=P) jump hl3;rw[hrec]at this ⊢;refine⟨this,World.putObj_heap_same (Array.getElem?_eq_some_iff.1 hl3).1,(World.putObj_heap_other zO).trans (hk3.keep hk2 h2),?_⟩;have hA:Chg (fun b=>C b\/b=w.heap.size+1) W W3:=by
      have:=hc2;rw[hrec]at this hk3;exact this.trans2 hk3 (fun b _ h=>.inl h)
     exact(hA.trans2 (Chg.putObj W3 (w.heap.size+1) _) (fun b _ h=>.inr h)).mono fun b _ hb=>(hC' b).2 (by rcases hb with hb|hb;exact .inl hb;exact .inr (.inl hb))
    rintro e3 a3 W3 hp;have hsz:W.heap.size<=(Wa.putObj (w.heap.size+1) (.loop { rec .ready none with state:=.busy })).heap.size:=hc2.size
    cases e3 with
    | normal =>
     obtain⟨C3,hi3,jG,jA⟩:=hp;have dh:∀b,C3 b->C b\/W.heap.size<=b:=fun b h=>(jG b h).imp id fun h'=>Nat.le_trans hsz h';obtain⟨hr,hl4,hk4,dn⟩:=fin none W3 jA;have dm:¬ C3 (w.heap.size+1):=fun h=>by rcases dh _ h with h|h;exact h1 h;omega
     have sF:¬ C3 w.heap.size:=fun h=>by rcases dh _ h with h|h;exact h2 h;omega
     refine⟨_,_,hr,.inl ⟨rfl,fun b=>C3 b\/b=w.heap.size+1\/b=w.heap.size,⟨C3,fun _=>Iff.rfl,hI _ _ _ _ hi3 ((Chg.putObj _ _ _).mono fun b _ hb hc=>dm (hb▸hc)),dm,sF,?_,hl4,hk4⟩,?_,dn⟩⟩
     ·intro b hb hlt';rcases dh b hb with hb|hb
      ·exact h3 b hb hlt'
      ·omega
     ·intro b hb;rcases hb with hb|hb
      ·rcases dh b hb with hb|hb
       ·exact .inl ((hC' b).2 (.inl hb))
       ·exact .inr zO
      ·exact .inl ((hC' b).2 (.inr hb))
    | ret =>
     obtain⟨C3,hi3,jG,jA⟩:=hp;have dh:∀b,C3 b->C b\/W.heap.size<=b:=fun b h=>(jG b h).imp id fun h'=>Nat.le_trans hsz h';obtain⟨hr,hl4,hk4,dn⟩:=fin (some .ret) W3 jA;have dm:¬ C3 (w.heap.size+1):=fun h=>by rcases dh _ h with h|h;exact h1 h;omega
     exact⟨_,_,hr,.inr ⟨rfl,fun _=>True,⟨C3,hIx _ _ _ _ hi3 ((Chg.putObj _ _ _).mono fun b _ hb hc=>dm (hb▸hc)),dm,hl4,hk4⟩,dn⟩⟩
    | exit id=>exact hp.elim
    | goto t=>exact hp.elim
    | panic ch=>exact hp.elim
    | outgrown=>exact hp.elim
   | exit id=>exact kK.elim
   | goto t=>exact kK.elim
   | ret=>exact kK.elim
   | panic ch=>exact kK.elim
   | outgrown=>exact kK.elim
  ·rintro e W2 ⟨⟨v,rfl⟩,(⟨C',⟨C,hC',hi,h1,h2,h3,hl,hk⟩,hch⟩|⟨pre,C',⟨C,hi,h1,hl,hk⟩,hch⟩)⟩
   all_goals
    have hw2:Chg C0 w W2:=((Chg.of_below hb1).trans2 hch fun b hb hc=>by rcases hc with hc|hc|hc;exact hc;omega;omega)
    have hfin:∀o,Chg C0 w (W2.putObj (w.heap.size+1) o):=fun o=>hw2.trans2 (Chg.putObj W2 (w.heap.size+1) o) fun b hb hc=>zO
   ·exact⟨none,_,by have:=run_endLoop (P:=P) hl (by rw[hrec];simp);rw[hrec]at this;exact this,hdone _ C _ zl (hI _ _ _ _ hi ((Chg.putObj W2 (w.heap.size+1) _).mono fun b _ (hb:b=w.heap.size+1) hc=>h1 (hb▸hc))) (hfin _) ((World.putObj_heap_other zO).trans hk)⟩
   ·exact⟨some .ret,_,by have:=run_endLoop (P:=P) hl (by rw[hrec];simp);rw[hrec]at this;exact this,hstop _ pre C _ zl (hIx _ _ _ _ hi ((Chg.putObj W2 (w.heap.size+1) _).mono fun b _ (hb:b=w.heap.size+1) hc=>h1 (hb▸hc))) (hfin _) ((World.putObj_heap_other zO).trans hk)⟩
mutual
/-- The nodes of a tree,in pre-order. -/
def po:T->List T
 | .nd k n s ks=>.nd k n s ks::pos ks
def pos:List T->List T
 | []=>[]
 | t::ts=>po t++pos ts
end
theorem znT:∀a b:List T,pos (a++b)=pos a++pos b
 | [],b=>by simp[pos]
 | t::ts,b=>by simp[pos,znT ts b]
theorem zsR{ks:List T}{j:Nat}(h:j<ks.length):pos (ks.take (j+1))=pos (ks.take j)++po ks[j]:=by
 rw[List.take_succ_eq_append_getElem h,znT];simp[pos]
theorem zzA{ks:List T}{j:Nat}(h:j<ks.length):pos (ks.take j)++po ks[j] <+: pos ks:=by
 have e:pos ks=pos (ks.take (j+1))++pos (ks.drop (j+1)):=by rw[<-znT,List.take_append_drop]
 rw[e,zsR h];exact⟨_,rfl⟩
mutual
/-- The depth of a tree. -/
def dep:T->Nat
 | .nd _ _ _ ks=>1+deps ks
def deps:List T->Nat
 | []=>0
 | t::ts=>max (dep t) (deps ts)
end
theorem zpV{t:T}:∀ {ks:List T},t∈ks->dep t<=deps ks
 | u::us,h=>by
  simp only[List.mem_cons]at h;rcases h with rfl|h
  ·simp only[deps];omega
  ·have:=zpV h;simp only[deps];omega
theorem zm1:IsFn prog 55 Tryz.f55:=⟨func55,zK,zK⟩
def zMc(w:World)(xs:List Int)(v:Value)(w':World):Prop:=∃A' c',v=.slice A' xs.length c'/\RowI w' (From w.heap.size) A' xs/\xs.length<=c'/\zw w w'
theorem znu{P:Program}{f:FuncId}{args:Array Value}{w:World}{xs:List Int}(h:Calls P f args w (NewI w xs)):Calls P f args w fun e w'=>∃v,e=.returned v/\zMc w xs v w' :=
 h.mono fun _ _ ⟨A,c,he,hn⟩=>⟨_,he,A,c,rfl,hn⟩
theorem zpu{P:Program}{ops:Array Oper}{o:Oper}{a:Act}{w:World}{K:Act->World->Prop}{Q:Exit->Act->World->Prop}{F:Prop}(hgd:o.guard=none)(x:Operand)(xs:Array Operand)(ats:Array TypeId)
  (ho:o.op=.call { callee:=.value x,args:=xs,argTypes:=ats })(f:FuncId)(fn:Func)(hf:IsFn P f fn)(cap:Array Value)(hv:a.eval x=.func (.func f) #[] cap)(args:Array Value)(hargs:xs.map a.eval++cap=args)(R:Value->World->Prop)
  (hc:Calls P f args w fun e w'=>∃v,e=.returned v/\R v w')(h:∀v w',R v w'->K (a.put o.dst v) w') :
  if Region.wanted o (yielded ops a.tmps)=true then Oper.wp P o a w K Q else F:=by
 have hw:Region.wanted o (yielded ops a.tmps)=true:=by simp[Region.wanted,hgd]
 rw[if_pos hw];subst hargs;have e:(execOp a.eval o).run P w=.ok (.enter f (xs.map a.eval++cap)) w:=by
  unfold execOp;simp only[ho,resolve,hv,Deferred.ofValue,Sem.run_bind,Sem.run_pure,Result.andThen_ok,invoke,zkH hf,Array.empty_append]
 unfold Oper.wp;rw[e,Oper.upon_enter];refine hc.mono ?_;rintro e w' ⟨v,rfl,hR⟩;exact h v w' hR
theorem zke{P:Program}{ops:Array Oper}{o:Oper}{a:Act}{w:World}{K:Act->World->Prop}{Q:Exit->Act->World->Prop}{F:Prop}(hgd:o.guard=none)(x:Operand)(xs:List Operand)(ats:Array TypeId)
  (ho:o.op=.call { callee:=.value x,args:=xs.toArray,argTypes:=ats })(f:FuncId)(fn:Func)(hf:IsFn P f fn)(hv:a.eval x=.func (.func f) #[] #[])(l:List Value)(hargs:xs.map a.eval=l)(R:Value->World->Prop)
  (hc:Calls P f l.toArray w fun e w'=>∃v,e=.returned v/\R v w')(h:∀v w',R v w'->K (a.put o.dst v) w') :
  if Region.wanted o (yielded ops a.tmps)=true then Oper.wp P o a w K Q else F :=
 zpu hgd x xs.toArray ats ho f fn hf #[] hv l.toArray (by rw[List.map_toArray,hargs,Array.append_empty]) R hc h
theorem zlo{P:Program}{ops:Array Oper}{o:Oper}{a:Act}{w:World}{K:Act->World->Prop}{Q:Exit->Act->World->Prop}{F:Prop}(hgd:o.guard=none)(x:Operand)(xs:List Operand)(ats:Array TypeId)
  (ho:o.op=.call { callee:=.value x,args:=xs.toArray,argTypes:=ats })(f:FuncId)(fn:Func)(hf:IsFn P f fn)(cap:Array Value)(hv:a.eval x=.func (.func f) #[] cap)(l:List Value)(hargs:xs.map a.eval=l)(R:Value->World->Prop)
  (hc:Calls P f (l.toArray++cap) w fun e w'=>∃v,e=.returned v/\R v w')(h:∀v w',R v w'->K (a.put o.dst v) w') :
  if Region.wanted o (yielded ops a.tmps)=true then Oper.wp P o a w K Q else F :=
 zpu hgd x xs.toArray ats ho f fn hf cap hv _ (by rw[List.map_toArray,hargs]) R hc h
def RowS(w:World)(A:Option Addr)(ss:List ByteArray):Prop:=∀i (hi:i<ss.length),∃a:Addr,A=some a/\w.cell? (a.add i)=some (.string ss[i])
theorem RowS.later{w w':World}{A:Option Addr}{ss:List ByteArray}(h:RowS w A ss)(hb:zw w w'):RowS w' A ss:=fun i hi =>
 let ⟨a,h1,h2⟩:=h i hi;⟨a,h1,zb hb h2⟩
theorem RowS.nd{w:World}{A:Option Addr}{ss:List ByteArray}(h:RowS w A ss){i:Nat}(hi:i<ss.length):∃(a:Addr) (s:ByteArray),A=some a/\Hid (ss[i]=s)/\w.cell? (a.add i)=some (.string s) :=
 let ⟨a,h1,h2⟩:=h i hi;⟨a,ss[i],h1,rfl,h2⟩
theorem zkM{B:Nat}{w w':World}(h:Below B w w')(n:Nat):Below B w (w'.drewN n):=⟨h.os,h.tape,h.output,h.size,h.block⟩
structure FS(W:World)(n0 fb N:Nat)(pv:Value):Prop where
 box:W.heap[fb]?=some (.cells #[pv] 68 (0,0))
 row:∃xs,W.ownsRow n0 104 4 pv N xs
 ge:n0<=fb
 ne:pv.ownBlock≠some fb
section
variable {W W':World} {n0 fb N N':Nat} {pv pv':Value}
theorem FS.lt(h:FS W n0 fb N pv):fb<W.heap.size/\∀b,pv.ownBlock=some b->n0<=b/\b<W.heap.size:=⟨zkf h.box,let ⟨_,hr⟩:=h.row;hr.lt⟩
theorem FS.chg{C:Nat->Prop}(h:FS W n0 fb N pv)(hc:Chg C W W')(hC:∀b,b=fb\/pv.ownBlock=some b->¬ C b):FS W' n0 fb N pv:=by
 refine⟨hc.keep h.box (hC _ (.inl rfl)),?_,h.ge,h.ne⟩;obtain⟨xs,e1,h2⟩:=h.row;refine⟨xs,e1,?_⟩;rcases h2 with h2|⟨g,cap,cur,rfl,hb,hg,h3⟩
 ·exact .inl h2
 ·exact .inr ⟨g,cap,cur,rfl,hb,hc.keep hg (hC _ (.inr rfl)),h3⟩
theorem FS.later(h:FS W n0 fb N pv)(hb:zw W W'):FS W' n0 fb N pv:=h.chg (C:=fun _=>False) (Chg.of_below hb) (fun _ _ h=>h)
theorem FS.put(h:FS W n0 fb N pv)(ho:∃xs,W'.ownsRow n0 104 4 pv' N' xs)(hg:W.grownBy W' pv.ownBlock)(aY:∀b,pv'.ownBlock=some b->pv.ownBlock=some b\/W.heap.size<=b) :
  FS (W'.setCell ⟨fb,0,none⟩ pv') n0 fb N' pv':=by
 have hp':W'.heap[fb]?=some (.cells #[pv] 68 (0,0)):=(hg.block _ (zkf h.box) (fun e=>h.ne e.symm)).trans h.box;have kJ:pv'.ownBlock≠some fb:=fun e=>by
  rcases aY _ e with e|e
  ·exact h.ne e
  ·have:=zkf h.box;omega
 refine⟨by have:=heap_setCell_same W' fb 0 _ _ pv' hp';simpa using this,?_,h.ge,kJ⟩;obtain⟨xs,e1,h2⟩:=ho;refine⟨xs,e1,?_⟩;rcases h2 with h2|⟨g,cap,cur,rfl,hb,hg',h3⟩
 ·exact .inl h2
 ·refine .inr ⟨g,cap,cur,rfl,hb,?_,h3⟩;rw[Below.heap_setCell _ _ _ _ (fun e=>kJ (by subst e;rfl))];exact hg'
theorem FS.slice(h:FS W n0 fb N pv):∃A c,pv=.slice A N c:=by
 obtain⟨xs,e1,h2⟩:=h.row;rcases h2 with⟨rfl,rfl⟩|⟨g,cap,cur,rfl,_⟩
 ·exact⟨_,_,rfl⟩
 ·exact⟨_,_,rfl⟩
end
def RepP(W:World)(n0 fb:Nat)(pv:Value)(N':Nat)(e:Ending)(W':World):Prop :=
 (∃v,e=.returned v)/\∃pv',FS W' n0 fb N' pv'/\(∀b,pv'.ownBlock=some b->pv.ownBlock=some b\/W.heap.size<=b)/\Chg (fun b=>b=fb\/pv.ownBlock=some b) W W'
def one1(e:Int):Nat:=if e=0 then 0 else 1
theorem zz7:(prog.info? 104).map (fun i=>(i.zero,i.size,i.bytes))=some (some (.agg #[zi 0,zn,zi 0,.string ⟨#[]⟩]),4,56):=zK
theorem zLq(p:Int)(A:Option Addr)(l c:Nat)(e:Int)(s:ByteArray)(w:World):(Instr.build 104 #[(0,zi p),(1,.slice A l c),(2,zi e),(3,.string s)]).run prog w=.ok (.agg #[zi p,.slice A l c,zi e,.string s]) w:=zK
theorem zKn(a0 a1 a2 a3:Value)(w:World):(Instr.buildSlice 68 1 #[(0,.agg #[a0,a1,a2,a3])]).run prog w=.ok (.slice (some ⟨w.heap.size,0,none⟩) 1 1) (w.alloc (.cells #[a0,a1,a2,a3] 104)):=zK
theorem zmX(n0 fb N:Nat)(pv:Value)(pr er:Int)(q:List Int)(A:Option Addr)(c:Nat)(s:ByteArray)(S:Nat->Prop)(W:World)(hfs:FS W n0 fb N pv)(hq:RowI W S A q)(lG:q.length<=100000)(hN:N<=1000000) :
  Calls prog 54 #[zi pr,.slice A q.length c,.string s,zi er,.pointer (some ⟨fb,0,none⟩)] W (RepP W n0 fb pv (N+one1 er)):=by
 obtain⟨i0,hi0,hz0,hz1,hz2⟩:=info_parts zz7;obtain⟨Ap,cp,rfl⟩:=hfs.slice;have qY:=zh hfs;have HQ:=zh hq;have hc0:W.cell? ⟨fb,0,none⟩=some (.slice Ap N cp):=zc hfs.box rfl;have hbf:=zLq;have hbs:=zKn;have hge:=hfs.ge;have hlf:=hfs.lt.1;clear hfs hq;by_cases he:er=0
 ·subst he;clear hc0;go_enter func54,ntmps54;go_wp2_with fail;go_end0;exact⟨⟨_,rfl⟩,_,qY.out,fun b hb=>.inl hb,Chg.refl _ _⟩
 ·have e1:(er==0)=false:=by simpa using he
  have e2:(er != 0)=true:=by simpa using he
  have HONE:=zh (show one1 er=1 by simp[one1,he]);rw[HONE.out];clear he;go_enter func54,ntmps54;go_upto_region 1 with fail;have hSS:zU W.drew/\(fun w':World=>zv w' fb 0 (.slice Ap N cp)) W.drew:=⟨trivial,hc0⟩
  refine wp_region_noPanic ?_;refine zkl zU (fun w':World=>zv w' fb 0 (.slice Ap N cp)) 8 zK ?_;refine zJ 0 hSS ?_;refine zT 1 hSS ?_;refine zT 2 hSS ?_;refine zT 4 hSS ?_;refine zT 5 hSS ?_;refine zo 3 fun K hK=>?_;refine zmj zR (.func 55) (.tmp 13) _ zR 55 _ zm1 zR _ zR _ (znu (zp2 q A c S _ (HQ.out.later zr.drew) (by unfold LI;omega))) ?_;rintro v2 w2 ⟨A2,c2,rfl,_,_,aj⟩;have b2:=zka (zs W).drew aj;have iD:=qY.out.later b2;have g2:w2.cell? ⟨fb,0,none⟩=some (.slice Ap N cp):=zc iD.box rfl;have aB:zU w2/\(fun w':World=>zv w' fb 0 (.slice Ap N cp)) w2:=⟨trivial,g2⟩
  refine hK.out _ _ aB ?_;clear hK K hSS;(try simp only[zQ]);refine zT 6 aB ?_;refine zo 7 fun K hK=>?_;(try simp only[zA,zB,zC]);go_simp;refine hK.out _ _ ⟨trivial,zkj g2 _⟩ ?_;clear hK K aB;(try simp only[zQ]);obtain⟨xs,hrow⟩:=iD.row;have hl2:=iD.lt;refine zp 8 fun K hK=>?_;refine zkY zR (.tmp 11) (.tmp 18) 68 zR n0 104 i0 _ 4 56 underlying68 hi0 hz0 hz1 hz2 rfl zY (.slice Ap N cp) N xs zR (hrow.alloc _) ⟨w2.heap.size,0,none⟩ 1 1 [zi pr,.slice A2 q.length c2,zi er,.string s] zR rfl (zkU w2 _ _) (by intro u hu;simp at hu;rcases hu with rfl|rfl|rfl|rfl<;>rfl) (by unfold maxLen;omega) zO (by simp;omega) ?_;intro v' w' h2 h3 h5
  have hput:=iD.put (W':=w') (pv':=v') (N':=N+1) ⟨_,h2⟩ ⟨h3.os,h3.tape,h3.output,Nat.le_trans zS h3.size,fun b hb hne=>(h3.block b (by simp;omega) hne).trans (Below.heap_alloc w2 _ b hb)⟩ (fun b hb=>by rcases h5 with h5|h5;exact .inl (h5▸hb);exact .inr (by rw[h5]at hb;injection hb with hb;simp at hb;omega));have rZ:∀b,v'.ownBlock=some b->(Value.slice Ap N cp).ownBlock=some b\/W.heap.size<=b:=fun b hb=>by
   have:=b2.size;rcases h5 with h5|h5
   ·exact .inl (h5▸hb)
   ·exact .inr (by rw[h5]at hb;injection hb with hb;simp at hb;omega)
  have hch:Chg (fun b=>b=fb\/(Value.slice Ap N cp).ownBlock=some b) W (w'.setCell ⟨fb,0,none⟩ v'):=(((Chg.of_below b2).alloc _).trans2 (Chg.row h3) (fun b _ h=>.inr h)).setCell (.inl (.inl rfl)) _;have hbx:=(h3.block _ (by have:=zkf iD.box;simp;omega) (fun e=>iD.ne e.symm)).trans (zkd iD.box _);have hy0:w'.cell? ⟨fb,0,none⟩=some (.slice Ap N cp):=zc hbx rfl;have hy1:w'.frozen? ⟨fb,0,none⟩=false:=zf hbx;obtain⟨g8,aA,rfl⟩:=ownsRow_succ h2;have HP:=zh hput;have HO:=zh rZ;have fP:=zh hch;clear hput rZ hch hbx h2 h3 h5 hrow iD;refine hK.out _ _ trivial ?_;clear hK K;(try simp only[zQ]);refine zp 9 fun K hK=>?_;(try simp only[zA,zB,zC]);go_simp;refine hK.out _ _ trivial ?_;clear hK K;(try simp only[zQ]);refine zd ?_;refine NoPanic.normal ?_;go_wp2_with fail;go_end0;exact⟨⟨_,rfl⟩,_,HP.out,HO.out,fP.out⟩
structure RepC(f:FuncId)(cap:Array Value)(Rd:World->Prop)(n0 fb:Nat):Prop where
 fn:∃fn,IsFn prog f fn
 keep:∀W W' pv N,Rd W->FS W n0 fb N pv->Chg (fun b=>b=fb\/pv.ownBlock=some b) W W'->Rd W'
 call:∀(N:Nat) (pv:Value) (er:Int) (q:List Int) (A:Option Addr) (c:Nat) (s:ByteArray) (S:Nat->Prop) (W:World),Rd W->FS W n0 fb N pv->RowI W S A q->q.length<=100000->N<=1000000 ->
  Calls prog f (#[.slice A q.length c,.string s,.int .i64 er]++cap) W (RepP W n0 fb pv (N+one1 er))
theorem FS.other{W:World}{n0 fb N:Nat}{pv:Value}{b:Nat}{cs:Array Value}{E:TypeId}(h:FS W n0 fb N pv)(hb:W.heap[b]?=some (.cells cs E (0,0)))(h1:E≠68)(h2:E≠104):¬ (b=fb\/pv.ownBlock=some b):=by
 rintro(rfl|ho)
 ·have:=h.box;rw[hb]at this;injection this with this;injection this with _ e;exact h1 e
 ·obtain⟨xs,e1,h2'⟩:=h.row;rcases h2' with⟨rfl,_⟩|⟨g,cap,cur,rfl,_,hg,_⟩
  ·simp[Value.ownBlock]at ho
  ·simp[Value.ownBlock]at ho;subst ho;rw[hb]at hg;injection hg with hg;injection hg with _ e;exact h2 e
theorem zLj:IsFn prog 59 f59:=⟨func59,zK,zK⟩
theorem zLi:IsFn prog 60 f60:=⟨func60,zK,zK⟩
theorem ztv(n0 fb rb ib:Nat)(k:Int):RepC 59 #[.pointer (some ⟨rb,0,none⟩),.pointer (some ⟨ib,0,none⟩)]
  (fun W=>W.heap[rb]?=some (.cells #[.func (.func 54) #[] #[.pointer (some ⟨fb,0,none⟩)]] 105 (0,0))/\W.heap[ib]?=some (.cells #[zi k] 3 (0,0))) n0 fb where
 fn:=⟨_,zLj⟩
 keep W W' pv N h hfs hc:=⟨hc.keep h.1 (hfs.other h.1 zY zY),hc.keep h.2 (hfs.other h.2 zY zY)⟩
 call N pv er q A c s S W h hfs hq lG hN:=by
  have x0:W.cell? ⟨rb,0,none⟩=some (.func (.func 54) #[] #[.pointer (some ⟨fb,0,none⟩)]):=zc h.1 rfl;have x1:W.cell? ⟨ib,0,none⟩=some (zi k):=zc h.2 rfl;have HC:=zh (zmX n0 fb N pv k er q A c s S W hfs hq lG hN);clear h hfs hq
  show Calls prog 59 #[.slice A q.length c,.string s,zi er,.pointer (some ⟨rb,0,none⟩),.pointer (some ⟨ib,0,none⟩)] W _
  go_enter func59,ntmps59;go_wp2_with fail;refine HC.out.mono ?_;rintro e W' ⟨⟨v,rfl⟩,hp⟩;have HP:=zh hp;clear hp;go_wp2_with fail;go_end0;exact⟨⟨_,rfl⟩,HP.out⟩
theorem zyP(n0 fb rb pb:Nat)(A1:Option Addr)(l1 c1:Nat)(A2:Option Addr)(l2 c2:Nat)(k n:Int)(sn:ByteArray)(A3:Option Addr)(l3 c3:Nat):RepC 60 #[.pointer (some ⟨rb,0,none⟩),.pointer (some ⟨pb,0,none⟩)]
  (fun W=>W.heap[rb]?=some (.cells #[.func (.func 54) #[] #[.pointer (some ⟨fb,0,none⟩)]] 105 (0,0))/\W.heap[pb]?=some (.cells #[.slice A1 l1 c1,.slice A2 l2 c2,zj k,zi n,.string sn,.slice A3 l3 c3] 30 (0,0))) n0 fb where
 fn:=⟨_,zLi⟩
 keep W W' pv N h hfs hc:=⟨hc.keep h.1 (hfs.other h.1 zY zY),hc.keep h.2 (hfs.other h.2 zY zY)⟩
 call N pv er q A c s S W h hfs hq lG hN:=by
  have x0:W.cell? ⟨rb,0,none⟩=some (.func (.func 54) #[] #[.pointer (some ⟨fb,0,none⟩)]):=zc h.1 rfl;have x1:W.cell? ⟨pb,1,none⟩=some (.slice A2 l2 c2):=zc h.2 rfl;have HC:=zh (zmX n0 fb N pv l2 er q A c s S W hfs hq lG hN);clear h hfs hq
  show Calls prog 60 #[.slice A q.length c,.string s,zi er,.pointer (some ⟨rb,0,none⟩),.pointer (some ⟨pb,0,none⟩)] W _
  go_enter func60,ntmps60;go_wp2_with fail;refine HC.out.mono ?_;rintro e W' ⟨⟨v,rfl⟩,hp⟩;have HP:=zh hp;clear hp;go_wp2_with fail;go_end0;exact⟨⟨_,rfl⟩,HP.out⟩
theorem zsc(k n:Int)(s:ByteArray)(ks:List T):isB (.nd k n s ks)=true↔k=57/\zko n s=true/\∀t∈ks,isS t=true:=by
 rw[isB];simp only[Bool.and_eq_true,decide_eq_true_eq,and_assoc];refine and_congr Iff.rfl (and_congr Iff.rfl ?_);rw[zqg 0,zkI]
 constructor
 ·intro h t ht;obtain⟨q,hq,rfl⟩:=List.getElem_of_mem ht;exact h q hq
 ·intro h q hq;exact h _ (List.getElem_mem hq)
theorem zxM{t:T}(h:isB t=true):t.k=57:=by cases t;exact((zsc _ _ _ _).1 h).1
theorem zlP{x:T}:∀ {l:List T},x∈pos l↔∃t∈l,x∈po t
 | []=>by simp[pos]
 | t::ts=>by simp[pos,zlP (l:=ts)]
theorem zvm:∀(ks:List T),(∀t∈ks,∀d l,lim t d l=if dep t<=d/\size t<=l then some (l-size t)else none)->∀d l,lims ks d l=if deps ks<=d/\zk0 ks<=l then some (l-zk0 ks)else none
 | [],_,d,l=>by simp[lims,deps,zk0]
 | t::ts,h,d,l=>by
  have e1:deps (t::ts)=max (dep t) (deps ts):=by rw[deps]
  have e2:zk0 (t::ts)=size t+zk0 ts:=by rw[zk0]
  rw[lims,h t zS d l];by_cases h1:dep t<=d/\size t<=l
  ·rw[if_pos h1];simp only;rw[zvm ts (fun u hu=>h u (by simp[hu])) d (l-size t)];by_cases h2:deps ts<=d/\zk0 ts<=l-size t
   ·rw[if_pos h2,if_pos ⟨zO,zO⟩];congr 1;omega
   ·rw[if_neg h2,if_neg zO]
  ·rw[if_neg h1];simp only;rw[if_neg zO]
theorem zyV(t:T):∀d l,lim t d l=if dep t<=d/\size t<=l then some (l-size t)else none:=by
 induction t using T.ind with
 | _ k n s ks ih =>
 intro d l;have e1:dep (.nd k n s ks)=1+deps ks:=by rw[dep]
 have e2:size (.nd k n s ks)=1+zk0 ks:=by rw[size]
 rw[lim];by_cases h:d=0\/l=0
 ·rw[if_pos h,if_neg zO]
 ·rw[if_neg h,zvm ks ih];by_cases h2:deps ks<=d-1/\zk0 ks<=l-1
  ·rw[if_pos h2,if_pos ⟨zO,zO⟩];congr 1;omega
  ·rw[if_neg h2,if_neg zO]
theorem zsb(t:T):zk4 t=true↔(dep t<=80/\size t<=2000)/\isB t=true:=by
 unfold zk4;rw[zyV,Bool.and_eq_true];by_cases h:dep t<=80/\size t<=2000
 ·rw[if_pos h];simp[h]
 ·rw[if_neg h];simp[h]
theorem zqh{k n:Int}{s:ByteArray}{ks:List T}(h:isE (.nd k n s ks)=true):∀t∈ks,isE t=true:=by
 have key:isEs ks=true->∀t∈ks,isE t=true:=by
  intro h t ht;rw[znZ 0,zkI]at h;obtain⟨i,hi,rfl⟩:=List.getElem_of_mem ht;exact h i hi
 have nil:decide (ks.length=0)=true->∀t∈ks,isE t=true:=by
  intro h t ht;have:ks=[]:=by simpa using h
  rw[this]at ht;cases ht
 rw[isE]at h
 split at h
 ·simp only[Bool.and_eq_true]at h;exact nil h.2
 split at h
 ·simp only[Bool.and_eq_true]at h;exact nil h.2
 split at h
 ·simp only[Bool.and_eq_true]at h;exact key h.2.2
 split at h
 ·simp only[Bool.and_eq_true]at h;exact key h.2.2
 split at h
 ·simp only[Bool.and_eq_true]at h;exact key h.2.2
 ·cases h
theorem zvx{t:T}(h:isP t=true):isE t=true:=by unfold isP at h;simp only[Bool.and_eq_true]at h;exact h.2
theorem zLX{t:T}(h:isV t=true):isE t=true:=by unfold isV at h;simp only[Bool.and_eq_true]at h;exact h.2
theorem znx{m:Nat}{p:Nat->T->Bool}{ks:List T}(h:zkE m p ks=true){t:T}(ht:t∈ks):∃i,p i t=true:=by
 unfold zkE at h;simp only[Bool.and_eq_true]at h;have:=(zkI p 0 ks).1 h.2;obtain⟨i,hi,rfl⟩:=List.getElem_of_mem ht;exact⟨0+i,this i hi⟩
theorem zqi{d:Nat}{ks:List T}(h:isEB d ks=true){t:T}(ht:t∈ks):isE t=true\/isB t=true:=by
 have h':isEB (d+0) ks=true:=h;rw[zmy d 0]at h';have:=(zkI _ 0 ks).1 h';obtain⟨i,hi,rfl⟩:=List.getElem_of_mem ht;have h2:=this i hi;unfold pEB at h2
 split at h2
 ·exact .inl h2
 ·exact .inr h2
theorem zs9{k n:Int}{s:ByteArray}{ks:List T}(h:isS (.nd k n s ks)=true):k≠57/\∀t∈ks,isE t=true\/isB t=true:=by
 rw[isS]at h
 split at h
 ·rename_i hk;simp only[Bool.and_eq_true]at h;refine⟨zO,fun t ht=>?_⟩;obtain⟨i,hi⟩:=znx h.2 ht
  split at hi
  ·exact .inl (zvx hi)
  ·exact .inl hi
 split at h
 ·rename_i hk;simp only[Bool.and_eq_true]at h;refine⟨zO,fun t ht=>?_⟩;obtain⟨i,hi⟩:=znx h.2 ht;exact .inl (zvx hi)
 split at h
 ·rename_i hk;simp only[Bool.and_eq_true]at h;refine⟨zO,fun t ht=>?_⟩;obtain⟨i,hi⟩:=znx h.2 ht;exact .inl (zvx hi)
 split at h
 ·rename_i hk;simp only[Bool.and_eq_true]at h;refine⟨zO,fun t ht=>?_⟩;obtain⟨i,hi⟩:=znx h.2 ht;exact .inl (zvx hi)
 split at h
 ·rename_i hk;simp only[Bool.and_eq_true]at h;refine⟨zO,fun t ht=>?_⟩;have:=(zkI _ 0 ks).1 h.2;obtain⟨i,hi,rfl⟩:=List.getElem_of_mem ht;exact .inl (zLX (this i hi))
 split at h
 ·rename_i hk;simp only[Bool.and_eq_true]at h;exact⟨zO,fun t ht=>zqi h.2.2 ht⟩
 split at h
 ·rename_i hk;simp only[Bool.and_eq_true]at h;exact⟨zO,fun t ht=>zqi h.2.2 ht⟩
 split at h
 ·rename_i hk;simp only[Bool.and_eq_true]at h;exact⟨zO,fun t ht=>zqi h.2.2 ht⟩
 ·cases h
theorem zmN{k n:Int}{s:ByteArray}{ks:List T}(h:isS (.nd k n s ks)=true) :
  ((k≠52/\k≠53/\k≠54/\k≠55/\k≠57)/\∀t∈ks,t.k≠57) \/
  ((k=52\/k=53)/\zko n s=true/\∃a b c d,ks=[a,b,c,d]/\isE a=true/\isB b=true/\isB c=true/\isE d=true) \/
  (k=54/\zkB n s=true/\∃a b c,ks=[a,b,c]/\isE a=true/\isB b=true/\isE c=true) \/
  (k=55/\zkB n s=true/\∃b,ks=[b]/\isB b=true):=by
 have key:∀(p:Nat->T->Bool),(∀j t,p j t=true->t.k≠57)->zkw p 0 ks=true->∀t∈ks,t.k≠57:=by
  intro p hp hk t ht;obtain⟨q,hq,rfl⟩:=List.getElem_of_mem ht;exact hp _ _ ((zkI p 0 ks).1 hk q hq)
 have kE:∀t,isE t=true->t.k≠57:=fun t h1=>by have:=ztT t h1;omega
 rw[isS]at h
 repeat' split at h
 ·simp only[zkE,Bool.and_eq_true]at h;exact .inl ⟨zO,key _ (fun j t hj=>by split at hj;exact zvw t hj;exact kE t hj) h.2.2⟩
 ·simp only[zkE,Bool.and_eq_true]at h;exact .inl ⟨zO,key _ (fun j t=>zvw t) h.2.2⟩
 ·simp only[zkE,Bool.and_eq_true]at h;exact .inl ⟨zO,key _ (fun j t=>zvw t) h.2.2⟩
 ·simp only[zkE,Bool.and_eq_true]at h;exact .inl ⟨zO,key _ (fun j t=>zvw t) h.2.2⟩
 ·simp only[Bool.and_eq_true]at h;exact .inl ⟨zO,key _ (fun j t=>zK8 t) h.2⟩
 ·rename_i hk;simp only[Bool.and_eq_true,decide_eq_true_eq]at h;obtain⟨h1,h2,h3⟩:=h
  match ks,h2 with
  | [a,b,c,d],_ =>
   simp only[isEB,Bool.and_eq_true,Bool.and_true]at h3;simp at h3;exact .inr (.inl ⟨hk,h1,a,b,c,d,rfl,h3.1,h3.2.1,h3.2.2.1,h3.2.2.2⟩)
 ·rename_i hk;simp only[Bool.and_eq_true,decide_eq_true_eq]at h;obtain⟨h1,h2,h3⟩:=h
  match ks,h2 with
  | [a,b,c],_ =>
   simp only[isEB,Bool.and_eq_true,Bool.and_true]at h3;simp at h3;exact .inr (.inr (.inl ⟨hk,h1,a,b,c,rfl,h3.1,h3.2.1,h3.2.2⟩))
 ·rename_i hk;simp only[Bool.and_eq_true,decide_eq_true_eq]at h;obtain⟨h1,h2,h3⟩:=h
  match ks,h2 with
  | [b],_ =>
   simp only[isEB,Bool.and_eq_true,Bool.and_true]at h3;simp at h3;exact .inr (.inr (.inr ⟨hk,h1,b,rfl,h3⟩))
 ·cases h
def zLE(f:FO)(us:List Value):Prop:=∃k n s A l c,us=[zj k,zi n,.string s,.slice A l c,zi f.v,.bool f.c]
inductive zqy:List FO->List Value->Prop
 | nil:zqy [] []
 | snoc {fs:List FO} {xs:List Value} {f:FO} {us:List Value}:zqy fs xs->zLE f us->zqy (fs++[f]) (xs++us)
theorem zqy.len{fs:List FO}{xs:List Value}(h:zqy fs xs):xs.length=fs.length*6:=by
 induction h with
 | nil=>rfl
 | snoc _ hc ih=>obtain⟨_,_,_,_,_,_,rfl⟩:=hc;simp[ih];omega
theorem zqy.get{fs:List FO}{xs:List Value}(h:zqy fs xs):∀i (hi:i<fs.length),∃us,zLE fs[i] us/\∀j,j<6->xs[i*6+j]?=us[j]?:=by
 induction h with
 | nil=>intro i hi;simp at hi
 | @snoc fs xs f us h hc ih =>
  intro i hi;have hl:=h.len;by_cases hlt:i<fs.length
  ·obtain⟨us',h1,h2⟩:=ih i hlt;rw[List.getElem_append_left hlt];refine⟨us',h1,fun j hj=>?_⟩;rw[List.getElem?_append_left zO];exact h2 j hj
  ·obtain rfl:i=fs.length:=by simp at hi;omega
   refine⟨us,by simpa using hc,fun j hj=>?_⟩;rw[List.getElem?_append_right zO,show fs.length*6+j-xs.length=j by omega]
theorem zqX{w:World}{base:Nat}{E:TypeId}{v:Value}{fs:List FO}{xs:List Value}(h:w.ownsRow base E 6 v fs.length xs)(hx:zqy fs xs)(hf:∀f∈fs,I64 f.v):∃A c,v=.slice A fs.length c/\fs.length<=c/\RowF w Any A fs:=by
 rcases h.2 with⟨rfl,h0⟩|⟨g,cap,cur,rfl,hb,hg,hc,hm,hz,hx'⟩
 ·exact⟨none,0,by rw[h0],zO,fun i hi=>absurd hi zO⟩
 ·refine⟨some ⟨g,0,none⟩,cap,rfl,hc,fun i hi=>?_⟩;have ha:(⟨g,0,none⟩:Addr).add (i*6)=⟨g,i*6,none⟩:=by unfold Addr.add;split<;>simp_all
  obtain⟨us,⟨k,n,s,A,l,c,rfl⟩,h2⟩:=hx.get i hi;have cc:∀j,j<6->w.cell? ⟨g,i*6+j,none⟩=([zj k,zi n,.string s,.slice A l c,zi fs[i].v,.bool fs[i].c]:List Value)[j]?:=fun j hj=>by
   rw[h.cellAt _ zO,h2 j hj]
  refine⟨⟨g,0,none⟩,rfl,trivial,?_,hf _ (List.getElem_mem hi)⟩;rw[ha];exact⟨k,n,s,A,l,c,by simpa using cc 0 zO,by simpa using cc 1 zO,by simpa using cc 2 zO,by simpa using cc 3 zO,by simpa using cc 4 zO,by simpa using cc 5 zO⟩
abbrev fv(k n:Int)(s:ByteArray)(A:Option Addr)(l c:Nat)(f:FO):Value:=.agg #[zj k,zi n,.string s,.slice A l c,zi f.v,.bool f.c]
def NewF(w:World)(f:FO)(e:Ending)(w':World):Prop:=∃k n s A l c,e=.returned (fv k n s A l c f)/\I64 f.v/\zw w w'
def zKL(t:T):Prop:=∀(v:Value) (w:World),NV w Any t v->Calls prog 164 #[v] w (NewF w (zlT t))
theorem zxR:(prog.info? 208).map (fun i=>(i.zero,i.size,i.bytes))=some (some (.agg #[zj 0,zi 0,.string ⟨#[]⟩,zn,zi 0,.bool false]),6,72):=zK
theorem zym(a0 a1 a2 a3 a4 a5:Value)(w:World):(Instr.buildSlice 217 1 #[(0,.agg #[a0,a1,a2,a3,a4,a5])]).run prog w=.ok (.slice (some ⟨w.heap.size,0,none⟩) 1 1) (w.alloc (.cells #[a0,a1,a2,a3,a4,a5] 208)):=zK
theorem zv4(ks:List T)(A:Option Addr)(c:Nat)(w:World)(hrow:zkS w Any A ks)(hl:ks.length<=8)(hF:∀kid∈ks,zKL kid) :
  Calls prog 176 #[.slice A ks.length c,.func (.func 164) #[] #[]] w fun e w'=>∃A' c',e=.returned (.slice A' ks.length c')/\RowF w' Any A' (ks.map zlT)/\zw w w':=by
 obtain⟨i0,hi0,hz0,hz1,hz2⟩:=info_parts zxR;have HF:=zh hF;have ae:=zh hrow;clear hF hrow;have hbs:=zym;go_enter func176,ntmps176;go_wp2_with fail
 go_loopw [5,10] (fun x i wr=>∃(j:Nat) (xs:List Value),j<=ks.length/\i=zi j/\wr.ownsRow w.heap.size 208 6 x j xs/\zqy ((ks.take j).map zlT) xs/\(∀f∈(ks.take j).map zlT,I64 f.v)/\zw w wr) (fun _ i _=>ks.length-(intOf i).toNat)
 case atStart=>exact⟨0,[],Nat.zero_le _,rfl,World.ownsRow_nil _ _ _ _,.nil,zS,zr⟩
 case round =>
  obtain⟨j,xs,hj,rfl,hown,hfl,hf64,hbw⟩:=hrel;have mg:∃A3 c3,u5=.slice A3 j c3:=by
   rcases hown.2 with⟨rfl,rfl⟩|⟨g,cap,cur,rfl,_⟩
   ·exact⟨_,_,rfl⟩
   ·exact⟨_,_,rfl⟩
  obtain⟨A3,c3,rfl⟩:=mg;have HOWN:=zh hown;have lV:=zh hfl;have HF64:=zh hf64;have aU:=zh hbw;clear hown hfl hf64;by_cases hlt:j<ks.length
  ·obtain⟨a,t,A1,c1,rfl,_,Ht,⟨q0,q1,q2,q3⟩,hn⟩:=(ae.out.later hbw).nd hlt;have hF1:=HF.out ks[j] (List.getElem_mem hlt);rw[Ht.out]at hF1;have q9:=zh hF1;have HN:=zh hn;clear hF1 hn hbw;go_wp2_with fail;refine(q9.out _ _ (HN.out.later (zr.alloc zl _))).mono ?_;rintro e w1 ⟨k',n',s',A',l',c',rfl,h64,aa⟩;have hb1:zw wr w1:=zka (zkb zr _) aa;have hown1:=(zkK HOWN.out hb1).alloc (.cells #[zj k',zi n',.string s',.slice A' l' c',zi (zlT t).v,.bool (zlT t).c] 208);have HB1:=zh hb1;have hbz:=aU.out.size;have hbz1:=hb1.size;have fA:=zh (zkU w1 208 [zj k',zi n',.string s',.slice A' l' c',zi (zlT t).v,.bool (zlT t).c]);clear q0 q1 q2 q3 aa
   go_wp2_with (at_builtin;refine wpList_append_own_at (P:=prog) _ rfl (.tmp 14) (.tmp 18) 217 rfl w.heap.size 208 i0 _ 6 72 underlying217 hi0 hz0 hz1 hz2 rfl zY (.slice A3 j c3) j xs rfl hown1 ⟨w1.heap.size,0,none⟩ 1 1 [zj k',zi n',.string s',.slice A' l' c',zi (zlT t).v,.bool (zlT t).c] rfl rfl fA.out (by intro u hu;simp at hu;rcases hu with rfl|rfl|rfl|rfl|rfl|rfl<;>rfl) (by unfold maxLen;omega) zO (by simp;omega) ?_;intro v' w' h2 h3 h4 h5)
   have hbl:zw w w':=(zkb (zka aU.out HB1.out) _).grown h3 (by simp;omega) (fun g e=>(hown1.lt g e).1);have e2:(ks.take (j+1)).map zlT=(ks.take j).map zlT++[zlT t]:=by rw[List.take_succ_eq_append_getElem hlt,Ht.out];simp
   refine⟨⟨j+1,_,zO,rfl,h2,?_,?_,hbl⟩,by simp[intOf];omega⟩
   ·rw[e2];exact lV.out.snoc ⟨_,_,_,_,_,_,rfl⟩
   ·intro f hf;rw[e2,List.mem_append]at hf;rcases hf with hf|hf
    ·exact HF64.out f hf
    ·simp at hf;rw[hf];exact h64
  ·obtain rfl:j=ks.length:=zO
   have e3:ks.take ks.length=ks:=List.take_of_length_le zl;have h1:=lV.out;have h2:=HF64.out;rw[e3]at h1 h2;have h3:=HOWN.out;rw[show ks.length=(ks.map zlT).length by simp]at h3;obtain⟨A4,c4,e4,hc4,hrf⟩:=zqX h3 h1 h2;have e5:A4=A3:=by injection e4 with e _ _;exact e.symm
   subst e5;have qR:=zh hrf;clear hbw h1 h2 h3 e4 hrf;go_wp2_with fail;go_ret;exact⟨_,_,rfl,qR.out,aU.out⟩
theorem zvD(k n:Int)(s:ByteArray)(A:Option Addr)(l c:Nat)(f:FO)(w:World):Calls prog 180 #[fv k n s A l c f] w (zKH w):=by
 go_enter func180,ntmps180;go_wp2_with fail;exact bodyPost_ret (v:=nv k n s A l c) (by simp[results,results180,go_sem]) rfl ⟨_,_,_,_,_,_,rfl,zkb (zkb zr _) _⟩
theorem zv3(fs:List FO)(A:Option Addr)(c:Nat)(S:Nat->Prop)(w:World)(hrow:RowF w S A fs)(hl:fs.length<=8) :
  Calls prog 179 #[.slice A fs.length c,.func (.func 180) #[] #[]] w fun e w'=>∃A' l' c',e=.returned (.slice A' l' c')/\zw w w':=by
 obtain⟨i0,hi0,hz0,hz1,hz2⟩:=info_parts zp9;have ae:=zh hrow;clear hrow;have hbs:=zwk;go_enter func179,ntmps179;go_wp2_with fail
 go_loopw [5,10] (fun x i wr=>∃(j:Nat) (xs:List Value),j<=fs.length/\i=zi j/\wr.ownsRow w.heap.size 28 4 x j xs/\zw w wr) (fun _ i _=>fs.length-(intOf i).toNat)
 case atStart=>exact⟨0,[],Nat.zero_le _,rfl,World.ownsRow_nil _ _ _ _,zr⟩
 case round =>
  obtain⟨j,xs,hj,rfl,hown,hbw⟩:=hrel;have mg:∃A3 c3,u5=.slice A3 j c3:=by
   rcases hown.2 with⟨rfl,rfl⟩|⟨g,cap,cur,rfl,_⟩
   ·exact⟨_,_,rfl⟩
   ·exact⟨_,_,rfl⟩
  obtain⟨A3,c3,rfl⟩:=mg;have HOWN:=zh hown;have aU:=zh hbw;clear hown;by_cases hlt:j<fs.length
  ·obtain⟨a,f,rfl,Hf,⟨k1,n1,s1,A1,l1,c1,q0,q1,q2,q3,q4,q5⟩,-⟩:=(ae.out.later hbw).nd hlt;clear hbw;go_wp2_with fail;refine(zvD k1 n1 s1 A1 l1 c1 f _).mono ?_;rintro e w1 ⟨k',n',s',A',l',c',rfl,aa⟩;have hb1:zw wr w1:=zka (zkb zr _) aa;have hown1:=(zkK HOWN.out hb1).alloc (.cells #[zj k',zi n',.string s',.slice A' l' c'] 28);have HB1:=zh hb1;have hbz:=aU.out.size;have hbz1:=hb1.size;have fA:=zh (zkU w1 28 [zj k',zi n',.string s',.slice A' l' c']);clear q0 q1 q2 q3 q4 q5 aa
   go_wp2_with (at_builtin;refine wpList_append_own_at (P:=prog) _ rfl (.tmp 14) (.tmp 18) 26 rfl w.heap.size 28 i0 _ 4 56 underlying26 hi0 hz0 hz1 hz2 rfl zY (.slice A3 j c3) j xs rfl hown1 ⟨w1.heap.size,0,none⟩ 1 1 [zj k',zi n',.string s',.slice A' l' c'] rfl rfl fA.out (by intro u hu;simp at hu;rcases hu with rfl|rfl|rfl|rfl<;>rfl) (by unfold maxLen;omega) zO (by simp;omega) ?_;intro v' w' h2 h3 h4 h5)
   have hbl:zw w w':=(zkb (zka aU.out HB1.out) _).grown h3 (by simp;omega) (fun g e=>(hown1.lt g e).1);exact⟨⟨j+1,_,zO,rfl,h2,hbl⟩,by simp[intOf];omega⟩
  ·obtain rfl:j=fs.length:=zO
   clear hbw;go_wp2_with fail;go_ret;exact⟨_,_,_,rfl,aU.out⟩
theorem zzg(t:T)(fs:List FO)(L:Nat)(hL:fs.length=L)(A:Option Addr)(c:Nat)(S:Nat->Prop)(v:Value)(w:World)(hv:NV w Any t v)(hrow:RowF w S A fs)(hl:L<=100000)(h1:t.k=6\/t.k=7->1<=L)(h2:8<=t.k->t.k<=23/\2<=L)(h0:1<=t.k)(g:FO)(hg:valE t.k t.n fs=g) :
  Calls prog 177 #[v,.slice A L c] w (zu (.tuple #[zi g.v,.bool g.c]) w):=by
 subst hL hg;exact zt7 t fs A c S v w hv hrow hl h1 h2 h0
theorem zKc(fs:List FO)(L:Nat)(hL:fs.length=L)(A:Option Addr)(c:Nat)(S:Nat->Prop)(w:World)(hrow:RowF w S A fs)(hl:L<=8) :
  Calls prog 179 #[.slice A L c,.func (.func 180) #[] #[]] w fun e w'=>∃A' l' c',e=.returned (.slice A' l' c')/\zw w w':=by
 subst hL;exact zv3 fs A c S w hrow hl
theorem zzh{k n:Int}{fs:List FO}(hn:I64 n)(hf:∀f∈fs,I64 f.v):I64 (valE k n fs).v:=by
 have h0:I64 (fs[0]?.elim 0 (·.v)):=by
  cases fs with
  | nil=>simp[I64]
  | cons f fs=>simpa using hf f zS
 unfold valE
 split
 ·split
  ·exact hn
  ·split
   ·simp[I64]
   ·split
    ·exact zKS
    ·exact zLw h0
 ·simp[I64]
theorem RowF.fits{w:World}{S:Nat->Prop}{A:Option Addr}{fs:List FO}(h:RowF w S A fs):∀f∈fs,I64 f.v:=fun f hf=>by
 obtain⟨i,hi,rfl⟩:=List.getElem_of_mem hf;obtain⟨_,_,_,_,h⟩:=h i hi;exact h
theorem zq8{k n:Int}{s:ByteArray}{ks:List T}(h:isE (.nd k n s ks)=true):1<=k/\k<=23/\ks.length<=2/\(k=6\/k=7->1<=ks.length)/\(8<=k->2<=ks.length):=by
 rw[isE]at h
 split at h
 ·simp only[Bool.and_eq_true,decide_eq_true_eq]at h;omega
 ·split at h
  ·simp only[Bool.and_eq_true,decide_eq_true_eq]at h;omega
  ·split at h
   ·simp only[Bool.and_eq_true,decide_eq_true_eq]at h;omega
   ·split at h
    ·simp only[Bool.and_eq_true,decide_eq_true_eq]at h;omega
    ·split at h
     ·simp only[Bool.and_eq_true,decide_eq_true_eq]at h;omega
     ·cases h
theorem zxQ(t:T)(hE:isE t=true):zKL t:=by
 revert hE;refine T.ind (p:=fun t=>isE t=true->zKL t) ?_ t;intro k n s ks ih hE v w hv;have hk:=zqh hE;have hsh:=zq8 hE;have HV:=zh hv;obtain⟨A,c,rfl,hf,hlk,hlc,hrow⟩:=hv.open_;simp only[zND]at *
 have qy:=zh (fun t ht=>ih t ht (hk t ht));have ae:=zh hrow;obtain⟨g,hg⟩:=zX (valE k n (ks.map zlT));have wy:zlT (.nd k n s ks)=nrm g:=by rw[zlT,zpI,hg]
 rw[wy];have HG:=zh hg;have uH:=zh hsh;have vK:=zh hf;clear ih hk hrow hg wy hsh hE hlk hlc hf;go_enter func164,ntmps164;go_wp2_with fail;refine(zv4 ks A c _ (ae.out.later (zkb (zkb zr _) _)) (by have:=uH.out;omega) qy.out).mono ?_;rintro e w1 ⟨A1,c1,rfl,hrf,aa⟩;have q1:zw w w1:=zka (zkb (zkb zr _) _) aa;have hN:=zkc (zkd (heap_alloc_new w (.cells #[zj k,zi n,.string s,.slice A ks.length c] 28)) _) aa;have hR:=zkc (heap_alloc_new (w.alloc (.cells #[zj k,zi n,.string s,.slice A ks.length c] 28)) (.cells #[zj 0,zi 0,.string ⟨#[]⟩,zn,zi 0,.bool false] 208)) aa;simp only[World.size_alloc]at hR;obtain⟨a0,a1,a2,a3⟩:=box4 hN;have HG64:=zh (show I64 g.v from HG.out▸zzh vK.out.2.1 hrf.fits);have HN:=zh hN;have HR:=zh hR;have qR:=zh hrf;clear aa hN hR hrf;go_wp2_with fail
 refine(zzg (.nd k n s ks) (ks.map zlT) ks.length zS A1 c1 Any _ _ (HV.out.later q1) qR.out (by have:=uH.out;omega) uH.out.2.2.2.1 (fun h=>⟨uH.out.2.1,uH.out.2.2.2.2 h⟩) uH.out.1 g HG.out).mono ?_;rintro e w2 ⟨rfl,aj⟩;have q2:=zka q1 aj;have hN:=zkc HN.out aj;have hR:=zkc HR.out aj;obtain⟨gv,gc⟩:=g;dsimp only at *
 cases gc
 ·clear a0 a1 a2 a3;obtain⟨a0,a1,a2,a3⟩:=box4 hN;have HN:=zh hN;have HR:=zh hR;have HRF2:=zh (qR.out.later aj);clear hN hR aj;go_wp2_with fail;refine(zKc (ks.map zlT) ks.length zS A1 c1 Any _ HRF2.out (by have:=uH.out;omega)).mono ?_;rintro e w3 ⟨A3,l3,c3,rfl,aO⟩;have q3:=zka q2 aO;have hN:=zkc HN.out aO;have hR:=zkc HR.out aO;have hz:w3.frozen? ⟨w.heap.size,3,none⟩=false:=zf hN;clear a0 a1 a2 a3;obtain⟨a0,a1,a2,a3⟩:=box4 hN;obtain⟨r0,r1,r2,r3,r4,r5⟩:=box6 hR;have rz:∀i,w3.frozen? ⟨w.heap.size+1,i,none⟩=false:=fun i=>zf hR;clear hN hR aO;go_wp2_with fail;refine bodyPost_ret (v:=fv k n s A3 l3 c3 ⟨0,false⟩) (by simp[results,results164,go_sem,r0,r1,r2,r3,r4,r5]) rfl ⟨_,_,_,_,_,_,rfl,by simp[nrm,I64],?_⟩
  exact(((((((q3.setCell zS _).setCell zS _).setCell zS _).setCell zS _).setCell zS _).setCell zS _).setCell zS _)
 ·clear a0 a1 a2 a3;obtain⟨r0,r1,r2,r3,r4,r5⟩:=box6 hR;have HN:=zh hN;have HR:=zh hR;clear hN hR aj;go_wp2_with fail;refine(zr8 gv HG64.out _).mono ?_;rintro e w3 ⟨k3,n3,s3,A3,l3,c3,rfl,aO⟩;have q3:=zka q2 aO;have hR:=zkc HR.out aO;clear r0 r1 r2 r3 r4 r5;obtain⟨r0,r1,r2,r3,r4,r5⟩:=box6 hR;have rz:∀i,w3.frozen? ⟨w.heap.size+1,i,none⟩=false:=fun i=>zf hR;clear hR aO;go_wp2_with fail;refine bodyPost_ret (v:=fv k3 n3 s3 A3 l3 c3 ⟨gv,true⟩) (by simp[results,results164,go_sem,r0,r1,r2,r3,r4,r5]) rfl ⟨_,_,_,_,_,_,rfl,HG64.out,?_⟩;exact((((((q3.setCell zS _).setCell zS _).setCell zS _).setCell zS _).setCell zS _).setCell zS _)
end
end Go.Proofs.YthjinpodhacleaaGreat
