/-
  Texts of the proof, put together without their remarks: Stf, Si, Sj, Ast3, Sk, Kg, Rcp.
-/
import Derived.Test.YtembgnhbpmfhpaaGreatY3
set_option linter.unusedSimpArgs false
set_option linter.unusedVariables false
set_option maxHeartbeats 8000000
set_option maxRecDepth 100000
namespace Go.Proofs.YtembgnhbpmfhpaaGreat
open Tryz
section
open Go Go.RowKit
def ownE(vs:List VD)(k:Int)(s:ByteArray):Int:=if zpI k=0 then 0 else match zlw vs s with
 | none=>6
 | some v=>if v.k=zpI k then 0 else 7
mutual
/-- frame.fault: the first fault in pre-order. -/
def fltE(vs:List VD):T->Int
 | .nd k _ s ks=>if ownE vs k s≠0 then ownE vs k s else zlq vs ks
def zlq(vs:List VD):List T->Int
 | []=>0
 | t::ts=>if fltE vs t≠0 then fltE vs t else zlq vs ts
end
theorem zmL{vs:List VD}:∀ {ks:List T} {j:Nat} (h:j<ks.length),zlq vs (ks.take j)=0->zlq vs (ks.take (j+1))=fltE vs ks[j]
 | t::ts,0,_,_=>by simp only[List.take,zlq,List.getElem_cons_zero];split<;>simp_all
 | t::ts,j+1,h,h0=>by
  simp only[List.take,zlq,List.getElem_cons_succ]at h0 ⊢
  split at h0
  ·contradiction
  ·rename_i h1;rw[if_neg h1];exact zmL (by simpa using h) h0
theorem zmM{vs:List VD}:∀ {ks:List T} {j:Nat} (h:j<ks.length),zlq vs (ks.take j)=0->fltE vs ks[j]≠0->zlq vs ks=fltE vs ks[j]
 | t::ts,0,_,_,h1=>by simp only[zlq,List.getElem_cons_zero]at *;rw[if_pos h1]
 | t::ts,j+1,h,h0,h1=>by
  simp only[List.take,zlq,List.getElem_cons_succ]at h0 h1 ⊢
  split at h0
  ·contradiction
  ·rename_i h2;rw[if_neg h2];exact zmM (by simpa using h) h0 h1
theorem zs4(vs:List VD)(A:Option Addr)(c:Nat)(fp:Addr)(hl:vs.length<=4398046511000)(t:T):∀(v:Value) (w:World),NV w Any t v->w.cell? fp=some (.slice A vs.length c)->RowV w Any A vs ->
  Calls prog 171 #[.pointer (some fp),v] w fun e w'=>e=.returned (.int .i64 (fltE vs t))/\Below w.heap.size w w':=by
 induction t using T.ind with
 | _ k n s ks ih =>
  intro v w hv hc hrow;obtain⟨B,d,rfl,hf,hlk,hlc,hks⟩:=hv.open_;simp only[T.k_nd,T.n_nd,T.s_nd,T.ks_nd]at *
  have aA:=zkI hlk;have xz:=zh ih;have nG:=zh hks;have HC:=zh hc;have af:=zh hrow;obtain⟨R,hR⟩:=zX (fltE vs (.nd k n s ks));rw[hR];rw[fltE]at hR;have HR:=zh hR;obtain⟨nk,hnk⟩:=zX (zpI k);have qw:=zh (hnk▸zt6 k);have ny:=zh hnk;obtain⟨VL,yc⟩:=zX (vs.length);have aZ:=zh (show ∀w',Below w.heap.size w w'->Calls prog 110 #[.slice A VL c,.string s] w' fun e w''=>e=.returned (fdV (zlw vs s))/\Below w'.heap.size w' w'' from fun w' hb=>yc▸zn9 vs A c s Any w' (hrow.later hb) (by unfold LV;omega));rw[yc]at HC;have hc':=fun o=>zks (o:=o) HC.out;have Bi:=zh yc;clear ih hv hf hlk hlc hks hc hrow hR hnk yc;go_enter func171,ntmps171;go_wp2_with fail;refine(qw.out _).mono ?_;rintro e w1 ⟨rfl,rfl⟩;have hbx:=heap_alloc_new w (.cells #[.int .u8 k,.int .i64 n,.string s,.slice B ks.length d] 41)
  have q1:Below w.heap.size w (w.alloc (.cells #[.int .u8 k,.int .i64 n,.string s,.slice B ks.length d] 41)):=zka zr _;obtain⟨W1,hW1⟩:=zX (w.alloc (.cells #[.int .u8 k,.int .i64 n,.string s,.slice B ks.length d] 41));have hcW:=hc' (.cells #[.int .u8 k,.int .i64 n,.string s,.slice B ks.length d] 41);rw[hW1]at hbx q1 hcW ⊢;have aX:=zh hbx;have dH:=zh q1;have HCW:=zh hcW;obtain⟨m0,m1,m2,m3⟩:=box4 hbx;clear hbx q1 hW1 hc';by_cases hn0:nk=0
  ·subst hn0;have HRR:=zh (show zlq vs ks=R by rw[<-HR.out,ownE,if_pos ny.out];simp);have rC:=dH;have qY:=aX;obtain⟨WX,lD⟩:=zX (W1);rw[lD]at m0 m1 m2 m3 rC qY hcW ⊢;clear lD HR ny qw aZ;go_wp2_with fail
   go_loopw [10,35] (fun _ i wr=>∃j:Nat,j<=ks.length/\i=.int .i64 j/\Below w.heap.size w wr/\wr.heap[w.heap.size]?=some (.cells #[.int .u8 k,.int .i64 n,.string s,.slice B ks.length d] 41 (0,0))/\Hid (zlq vs (ks.take j)=0)) (fun _ i _=>ks.length-(intOf i).toNat)
   case atStart=>exact⟨0,Nat.zero_le _,rfl,rC.out,qY.out,zh (by simp[zlq])⟩
   case round =>
    obtain⟨j,hj,rfl,hbl,hbx,HJ⟩:=hrel;have ah:=zh hbl;have wT:=zh hbx;by_cases hlt:j<ks.length
    ·obtain⟨a,t,A1,c1,rfl,_,Ht,⟨y0,y1,y2,y3⟩,hn⟩:=(nG.out.later hbl).nd hlt;obtain⟨re,hre⟩:=zX (fltE vs t);have dQ:=zh (show ∀(v:Value) (w:World),NV w Any t v->w.cell? fp=some (.slice A VL c)->RowV w Any A vs->Calls prog 171 #[.pointer (some fp),v] w fun e w'=>e=.returned (.int .i64 re)/\Below w.heap.size w w' from by
      have h1:=xz.out t (by rw[<-Ht.out];exact List.getElem_mem hlt);rw[hre,Bi.out]at h1;exact h1)
     have dD:=zh hre;have HN:=zh hn;have hal:=zka hbl (.cells #[.int .u8 t.k,.int .i64 t.n,.string t.s,.slice A1 t.ks.length c1] 41);have rR:=zh (dQ.out _ _ (HN.out.later (zka zr (.cells #[.int .u8 t.k,.int .i64 t.n,.string t.s,.slice A1 t.ks.length c1] 41))) (zb hal HC.out) (af.out.later hal));clear hn hbl hbx hre hal;go_wp2_with fail;refine rR.out.mono ?_;rintro e w5 ⟨rfl,fH⟩;have aQ:=zh (zkb (zka ah.out _) fH);have og:=zh (zkc (zkf wT.out _) fH);clear fH y0 y1 y2 y3;by_cases hr0:re=0
     ·subst hr0;have HJ2:Hid (zlq vs (ks.take (j+1))=0):=zh (by rw[zmL hlt HJ.out,Ht.out];exact dD.out);go_wp2_with fail
      go_roundw
      case rel=>exact⟨j+1,by omega,by go_num,aQ.out,og.out,HJ2⟩
      case measure=>simp[intOf];omega
     ·have e1:(re==0)=false:=by simpa using hr0
      have e2:(re != 0)=true:=by simpa using hr0
      have HF:=zh (show R=re by rw[<-HRR.out,zmM hlt HJ.out (by rw[Ht.out,dD.out];exact hr0),Ht.out,dD.out]);clear hr0;go_wp2_with fail;go_ret;exact⟨by rw[HF.out];rfl,aQ.out⟩
    ·obtain rfl:j=ks.length:=by omega
     have HF:=zh (show R=0 by
      have:=HJ.out;rw[List.take_of_length_le zl]at this;rw[<-HRR.out];exact this)
     clear hbl hbx;go_wp2_with fail;go_ret;exact⟨by rw[HF.out];rfl,ah.out⟩
  ·have e1:(nk==0)=false:=by simpa using hn0
   have e2:(nk != 0)=true:=by simpa using hn0
   obtain⟨fd,zP⟩:=zX (zlw vs s);rw[zP]at aZ;have xE:=zh zP;have az:=zh (show ∀w',Below W1.heap.size W1 w'->w'.cell? fp=some (.slice A VL c)/\w'.cell? ⟨w.heap.size,2,none⟩=some (.string s)from fun w' hb=>⟨zb hb hcW,zb hb m2⟩);have aJ:=zh (az.out _ zr.drew);clear hcW m0 m1 m2 m3 zP
   cases fd with
   | none =>
    go_upto_region 3 with fail
    go_region_held3 (fun w':World=>w'.cell? fp=some (.slice A VL c)/\zv w' w.heap.size 2 (.string s))
     (first|with_reducible exact aB.out|with_reducible exact aJ.out|(exact az.out _ (zka zr _).drew)|(exact az.out _ (zka b1 _))|(exact az.out _ (((b1.setCell (by simp) _).setCell (by simp) _).setCell (by simp) _)))
     (first
      | (go_at_call 110;refine(aZ.out _ (zkb dH.out (by first|exact zr.drew|exact(zka zr _).drew))).mono ?_;rintro e y1 ⟨rfl,dU⟩;have b1:Below W1.heap.size W1 y1:=zkb (by first|exact zr.drew|exact(zka zr _).drew) dU;have aB:=zh (az.out _ b1);(try (have hz:=zkc (show(W1.alloc (.cells #[.string ⟨#[]⟩,.int .u8 0,.int .i64 0] 57)).drew.heap[W1.heap.size]?=some (.cells #[.string ⟨#[]⟩,.int .u8 0,.int .i64 0] 57 (0,0))from heap_alloc_new W1 _) dU;have hz0:y1.cell? ⟨W1.heap.size,0,none⟩=some (.string ⟨#[]⟩):=zc hz rfl;have hz1:y1.cell? ⟨W1.heap.size,1,none⟩=some (.int .u8 0):=zc hz rfl;have hz2:y1.cell? ⟨W1.heap.size,2,none⟩=some (.int .i64 0):=zc hz rfl;have vX:∀i,y1.frozen? ⟨W1.heap.size,i,none⟩=false:=fun i=>zf hz)))
      | fail)
    all_goals
     have HRR:=zh (show R=6 by
      have:ownE vs k s=6:=by rw[ownE,if_neg (by rw[ny.out];exact hn0),xE.out]
      rw[<-HR.out,this];rfl)
     have HB1:=zh (zkb dH.out b1);have oJ:=zh (show Below W1.heap.size W1 _ from b1);(try clear hz hz0 hz1 hz2 vX);clear b1 dU aB HR hn0;go_wp2_with fail;go_ret
     first
      | exact⟨by rw[HRR.out];rfl,zka HB1.out _⟩
      | exact⟨by rw[HRR.out];rfl,zkb dH.out (((oJ.out.setCell (by simp) _).setCell (by simp) _).setCell (by simp) _)⟩
   | some vd =>
    obtain⟨vm,vk,vl⟩:=vd;go_upto_region 3 with fail
    go_region_held3 (fun w':World=>w'.cell? fp=some (.slice A VL c)/\zv w' w.heap.size 2 (.string s))
     (first|with_reducible exact aB.out|with_reducible exact aJ.out|(exact az.out _ (zka zr _).drew)|(exact az.out _ (zka b1 _))|(exact az.out _ (((b1.setCell (by simp) _).setCell (by simp) _).setCell (by simp) _)))
     (first
      | (go_at_call 110;refine(aZ.out _ (zkb dH.out (by first|exact zr.drew|exact(zka zr _).drew))).mono ?_;rintro e y1 ⟨rfl,dU⟩;have b1:Below W1.heap.size W1 y1:=zkb (by first|exact zr.drew|exact(zka zr _).drew) dU;have aB:=zh (az.out _ b1);(try (have hz:=zkc (show(W1.alloc (.cells #[.string ⟨#[]⟩,.int .u8 0,.int .i64 0] 57)).drew.heap[W1.heap.size]?=some (.cells #[.string ⟨#[]⟩,.int .u8 0,.int .i64 0] 57 (0,0))from heap_alloc_new W1 _) dU;have hz0:y1.cell? ⟨W1.heap.size,0,none⟩=some (.string ⟨#[]⟩):=zc hz rfl;have hz1:y1.cell? ⟨W1.heap.size,1,none⟩=some (.int .u8 0):=zc hz rfl;have hz2:y1.cell? ⟨W1.heap.size,2,none⟩=some (.int .i64 0):=zc hz rfl;have vX:∀i,y1.frozen? ⟨W1.heap.size,i,none⟩=false:=fun i=>zf hz)))
      | fail)
    ·obtain⟨WX,lD⟩:=zX (y1.alloc (.cells #[.string vm,.int .u8 vk,.int .i64 vl] 57));have hbX:Below W1.heap.size W1 WX:=lD▸zka b1 _;have hvk:WX.cell? ⟨y1.heap.size,1,none⟩=some (.int .u8 vk):=by rw[<-lD];simp
     rw[lD];have rC:=zh (zkb dH.out hbX);have qY:=zh (zkc aX.out hbX);obtain⟨m0,m1,m2,m3⟩:=box4 qY.out;clear b1 dU aB hbX lD;by_cases hk:vk=nk
     ·have HRR:=zh (show zlq vs ks=R by
       have:ownE vs k s=0:=by rw[ownE,if_neg (by rw[ny.out];exact hn0),xE.out];simp[ny.out,hk]
       rw[<-HR.out,this];simp)
      have e1:(vk==nk)=true:=by simpa using hk
      have e2:(vk != nk)=false:=by simpa using hk
      clear hn0 hk;go_wp2_with fail
      go_loopw [10,35] (fun _ i wr=>∃j:Nat,j<=ks.length/\i=.int .i64 j/\Below w.heap.size w wr/\wr.heap[w.heap.size]?=some (.cells #[.int .u8 k,.int .i64 n,.string s,.slice B ks.length d] 41 (0,0))/\Hid (zlq vs (ks.take j)=0)) (fun _ i _=>ks.length-(intOf i).toNat)
      case atStart=>exact⟨0,Nat.zero_le _,rfl,rC.out,qY.out,zh (by simp[zlq])⟩
      case round =>
       obtain⟨j,hj,rfl,hbl,hbx,HJ⟩:=hrel;have ah:=zh hbl;have wT:=zh hbx;by_cases hlt:j<ks.length
       ·obtain⟨a,t,A1,c1,rfl,_,Ht,⟨y0,y1,y2,y3⟩,hn⟩:=(nG.out.later hbl).nd hlt;obtain⟨re,hre⟩:=zX (fltE vs t);have dQ:=zh (show ∀(v:Value) (w:World),NV w Any t v->w.cell? fp=some (.slice A VL c)->RowV w Any A vs->Calls prog 171 #[.pointer (some fp),v] w fun e w'=>e=.returned (.int .i64 re)/\Below w.heap.size w w' from by
         have h1:=xz.out t (by rw[<-Ht.out];exact List.getElem_mem hlt);rw[hre,Bi.out]at h1;exact h1)
        have dD:=zh hre;have HN:=zh hn;have hal:=zka hbl (.cells #[.int .u8 t.k,.int .i64 t.n,.string t.s,.slice A1 t.ks.length c1] 41);have rR:=zh (dQ.out _ _ (HN.out.later (zka zr (.cells #[.int .u8 t.k,.int .i64 t.n,.string t.s,.slice A1 t.ks.length c1] 41))) (zb hal HC.out) (af.out.later hal));clear hn hbl hbx hre hal;go_wp2_with fail;refine rR.out.mono ?_;rintro e w5 ⟨rfl,fH⟩;have aQ:=zh (zkb (zka ah.out _) fH);have og:=zh (zkc (zkf wT.out _) fH);clear fH y0 y1 y2 y3;by_cases hr0:re=0
        ·subst hr0;have HJ2:Hid (zlq vs (ks.take (j+1))=0):=zh (by rw[zmL hlt HJ.out,Ht.out];exact dD.out);go_wp2_with fail
         go_roundw
         case rel=>exact⟨j+1,by omega,by go_num,aQ.out,og.out,HJ2⟩
         case measure=>simp[intOf];omega
        ·have e1:(re==0)=false:=by simpa using hr0
         have e2:(re != 0)=true:=by simpa using hr0
         have HF:=zh (show R=re by rw[<-HRR.out,zmM hlt HJ.out (by rw[Ht.out,dD.out];exact hr0),Ht.out,dD.out]);clear hr0;go_wp2_with fail;go_ret;exact⟨by rw[HF.out];rfl,aQ.out⟩
       ·obtain rfl:j=ks.length:=by omega
        have HF:=zh (show R=0 by
         have:=HJ.out;rw[List.take_of_length_le zl]at this;rw[<-HRR.out];exact this)
        clear hbl hbx;go_wp2_with fail;go_ret;exact⟨by rw[HF.out];rfl,ah.out⟩
     ·have HRR:=zh (show R=7 by
       have:ownE vs k s=7:=by rw[ownE,if_neg (by rw[ny.out];exact hn0),xE.out];simp[ny.out,hk]
       rw[<-HR.out,this];rfl)
      have e1:(vk==nk)=false:=by simpa using hk
      have e2:(vk != nk)=true:=by simpa using hk
      clear hn0 hk;go_wp2_with fail;go_ret;exact⟨by rw[HRR.out];rfl,rC.out⟩
    ·obtain⟨WX,lD⟩:=zX (((y1.setCell ⟨W1.heap.size,0,none⟩ (.string vm)).setCell ⟨W1.heap.size,1,none⟩ (.int .u8 vk)).setCell ⟨W1.heap.size,2,none⟩ (.int .i64 vl));have hbX:Below W1.heap.size W1 WX:=lD▸((b1.setCell (by simp) _).setCell (by simp) _).setCell (by simp) _;have hvk:WX.cell? ⟨W1.heap.size,1,none⟩=some (.int .u8 vk):=by rw[<-lD];exact zc (heap_setCell_same _ W1.heap.size 2 _ _ (.int .i64 vl) (heap_setCell_same _ W1.heap.size 1 _ _ (.int .u8 vk) (heap_setCell_same y1 W1.heap.size 0 _ _ (.string vm) hz))) (by simp)
     rw[lD];have rC:=zh (zkb dH.out hbX);have qY:=zh (zkc aX.out hbX);obtain⟨m0,m1,m2,m3⟩:=box4 qY.out;clear hz hz0 hz1 hz2 vX;clear b1 dU aB hbX lD;by_cases hk:vk=nk
     ·have HRR:=zh (show zlq vs ks=R by
       have:ownE vs k s=0:=by rw[ownE,if_neg (by rw[ny.out];exact hn0),xE.out];simp[ny.out,hk]
       rw[<-HR.out,this];simp)
      have e1:(vk==nk)=true:=by simpa using hk
      have e2:(vk != nk)=false:=by simpa using hk
      clear hn0 hk;go_wp2_with fail
      go_loopw [10,35] (fun _ i wr=>∃j:Nat,j<=ks.length/\i=.int .i64 j/\Below w.heap.size w wr/\wr.heap[w.heap.size]?=some (.cells #[.int .u8 k,.int .i64 n,.string s,.slice B ks.length d] 41 (0,0))/\Hid (zlq vs (ks.take j)=0)) (fun _ i _=>ks.length-(intOf i).toNat)
      case atStart=>exact⟨0,Nat.zero_le _,rfl,rC.out,qY.out,zh (by simp[zlq])⟩
      case round =>
       obtain⟨j,hj,rfl,hbl,hbx,HJ⟩:=hrel;have ah:=zh hbl;have wT:=zh hbx;by_cases hlt:j<ks.length
       ·obtain⟨a,t,A1,c1,rfl,_,Ht,⟨y0,y1,y2,y3⟩,hn⟩:=(nG.out.later hbl).nd hlt;obtain⟨re,hre⟩:=zX (fltE vs t);have dQ:=zh (show ∀(v:Value) (w:World),NV w Any t v->w.cell? fp=some (.slice A VL c)->RowV w Any A vs->Calls prog 171 #[.pointer (some fp),v] w fun e w'=>e=.returned (.int .i64 re)/\Below w.heap.size w w' from by
         have h1:=xz.out t (by rw[<-Ht.out];exact List.getElem_mem hlt);rw[hre,Bi.out]at h1;exact h1)
        have dD:=zh hre;have HN:=zh hn;have hal:=zka hbl (.cells #[.int .u8 t.k,.int .i64 t.n,.string t.s,.slice A1 t.ks.length c1] 41);have rR:=zh (dQ.out _ _ (HN.out.later (zka zr (.cells #[.int .u8 t.k,.int .i64 t.n,.string t.s,.slice A1 t.ks.length c1] 41))) (zb hal HC.out) (af.out.later hal));clear hn hbl hbx hre hal;go_wp2_with fail;refine rR.out.mono ?_;rintro e w5 ⟨rfl,fH⟩;have aQ:=zh (zkb (zka ah.out _) fH);have og:=zh (zkc (zkf wT.out _) fH);clear fH y0 y1 y2 y3;by_cases hr0:re=0
        ·subst hr0;have HJ2:Hid (zlq vs (ks.take (j+1))=0):=zh (by rw[zmL hlt HJ.out,Ht.out];exact dD.out);go_wp2_with fail
         go_roundw
         case rel=>exact⟨j+1,by omega,by go_num,aQ.out,og.out,HJ2⟩
         case measure=>simp[intOf];omega
        ·have e1:(re==0)=false:=by simpa using hr0
         have e2:(re != 0)=true:=by simpa using hr0
         have HF:=zh (show R=re by rw[<-HRR.out,zmM hlt HJ.out (by rw[Ht.out,dD.out];exact hr0),Ht.out,dD.out]);clear hr0;go_wp2_with fail;go_ret;exact⟨by rw[HF.out];rfl,aQ.out⟩
       ·obtain rfl:j=ks.length:=by omega
        have HF:=zh (show R=0 by
         have:=HJ.out;rw[List.take_of_length_le zl]at this;rw[<-HRR.out];exact this)
        clear hbl hbx;go_wp2_with fail;go_ret;exact⟨by rw[HF.out];rfl,ah.out⟩
     ·have HRR:=zh (show R=7 by
       have:ownE vs k s=7:=by rw[ownE,if_neg (by rw[ny.out];exact hn0),xE.out];simp[ny.out,hk]
       rw[<-HR.out,this];rfl)
      have e1:(vk==nk)=false:=by simpa using hk
      have e2:(vk != nk)=true:=by simpa using hk
      clear hn0 hk;go_wp2_with fail;go_ret;exact⟨by rw[HRR.out];rfl,rC.out⟩
def ST.setL(S:ST)(id:Nat)(l:List Int):ST:={ S with cell:=fun j=>if j=id then l else S.cell j }
def ST.el(S:ST)(id i:Nat):Int:=(S.cell id).getD i 0
def ST.put(S:ST)(id i:Nat)(x:Int):ST:=S.setL id ((S.cell id).set i x)
def updE(k x y:Int):Int:=if k=40 then wrap64 (x+y)else if k=41 then wrap64 (x-y)else bits BinOp.xor IntKind.i64 x y
def znB(S:ST)(k:Int)(id i ak:Nat):Int×ST :=
 if k=44 then(if 1000<=(S.cell ak).length then(5,S)else(0,(S.setL ak (S.cell ak++[S.el id i])).put id i 0))
 else if (S.cell ak).length=0 then(13,S)
 else if S.el id i≠0 then(14,S)
 else(0,(S.put id i (S.el ak ((S.cell ak).length-1))).setL ak ((S.cell ak).take ((S.cell ak).length-1)))
def zls(S:ST)(k:Int)(id i:Nat):Int×ST :=
 if k=46 then match S.tin with
  | []=>(17,S)
  | y::r=>if S.el id i≠0 then(14,S)else(0,({ S with tin:=r }:ST).put id i y)
 else if k=49 then(if S.tout=[]then(17,S)else if S.el id i≠0 then(14,S)else(0,({ S with tout:=S.tout.dropLast }:ST).put id i (S.tout.getLast?.getD 0)))
 else if k=47 then(if 4096<=S.tin.length then(5,S)else(0,({ S with tin:=S.el id i::S.tin }:ST).put id i 0))
 else(if 4096<=S.tout.length then(5,S)else(0,({ S with tout:=S.tout++[S.el id i] }:ST).put id i 0))
def CurK(S:ST)(id:Nat)(k:Int):Prop:=∃(i:Nat) (v:VD),S.cur.vs[i]?=some v/\S.cur.cs[i]?=some id/\v.k=k
theorem CurK.kd{S:ST}{id:Nat}{k:Int}(h:CurK S id k){kd:Nat->Int×Int}(hw:S.cur.WF kd S.nc):(kd id).1=k/\id<S.nc:=by
 obtain⟨i,v,h1,h2,h3⟩:=h;obtain⟨a1,a2⟩:=List.getElem?_eq_some_iff.1 h1;obtain⟨b1,b2⟩:=List.getElem?_eq_some_iff.1 h2;have:=hw.kind i a1 b1;rw[b2,a2]at this;exact⟨by rw[this];exact h3,b2▸hw.num _ (List.getElem_mem b1)⟩
theorem CurK.lt{S:ST}{id:Nat}{k:Int}(h:CurK S id k)(hw:S.WF):id<S.nc:=by
 obtain⟨kd,h1⟩:=hw.cur;exact(h.kd h1).2
theorem CurK.ne{S:ST}{id id':Nat}{k k':Int}(h:CurK S id k)(h':CurK S id' k')(hw:S.WF)(hk:k≠k'):id≠id':=fun e=>by
 obtain⟨kd,h1⟩:=hw.cur;subst e;exact hk ((h.kd h1).1.symm.trans (h'.kd h1).1)
theorem zzc{S:ST}(h:S.WF)(id:Nat)(l:List Int)(hl:l.length=(S.cell id).length)(hx:∀x∈l,I64 x):(S.setL id l).WF:=by
 obtain⟨kd,h1,h2,h3⟩:=h.ex;refine⟨⟨kd,h1,h2,fun i hi=>?_⟩,h.ncalls,fun i hi=>?_,h.tin,h.tout⟩
 ·have:=h3 i hi;simp only[ST.setL];by_cases e:i=id
  ·subst e;rw[if_pos rfl,hl];exact this
  ·rw[if_neg e];exact this
 ·have:=h.cells i hi;simp only[ST.setL];by_cases e:i=id
  ·subst e;rw[if_pos rfl,hl];exact⟨this.1,hx⟩
  ·rw[if_neg e];exact this
theorem zz7{S:ST}(h:S.WF)(id:Nat)(hk:CurK S id 3)(l:List Int)(hl:l.length<=1000)(hx:∀x∈l,I64 x):(S.setL id l).WF:=by
 obtain⟨kd,h1,h2,h3⟩:=h.ex;have hc:S.cur.WF kd S.nc:=by
  rcases Nat.eq_zero_or_pos S.calls.length with h0|h0
  ·rw[zni h0];exact h1
  ·rw[znh h0];exact h2 _ (List.getElem_mem _)
 have hk3:=(hk.kd hc).1;refine⟨⟨kd,h1,h2,fun i hi=>?_⟩,h.ncalls,fun i hi=>?_,h.tin,h.tout⟩
 ·have:=h3 i hi;simp only[ST.setL];by_cases e:i=id
  ·subst e;rw[if_pos rfl];exact⟨fun e=>by omega,fun e=>by omega,.inr (.inr hk3)⟩
  ·rw[if_neg e];exact this
 ·have:=h.cells i hi;simp only[ST.setL];by_cases e:i=id
  ·subst e;rw[if_pos rfl];exact⟨hl,hx⟩
  ·rw[if_neg e];exact this
theorem zqI{S:ST}(h:S.WF){id:Nat}(hid:id<S.nc)(i:Nat):I64 (S.el id i):=by
 unfold ST.el;rcases Nat.lt_or_ge i (S.cell id).length with hi|hi
 ·rw[List.getD_eq_getElem?_getD,List.getElem?_eq_getElem hi];exact(h.cells id hid).2 _ (List.getElem_mem hi)
 ·rw[List.getD_eq_getElem?_getD,List.getElem?_eq_none hi];exact⟨by decide,by decide⟩
theorem zz8{S:ST}(h:S.WF){id:Nat}(hid:id<S.nc)(i:Nat)(x:Int)(hx:I64 x):(S.put id i x).WF :=
 zzc h id _ (by simp) fun y hy=>by
  rcases List.mem_or_eq_of_mem_set hy with hy|rfl
  ·exact(h.cells id hid).2 y hy
  ·exact hx
def Ph.gI(P:Ph)(id:Nat):Nat:=(P.ci id).ownBlock.getD 0
def Ph.setI(P:Ph)(id:Nat)(vv:Value):Ph:={ P with ci:=fun j=>if j=id then vv else P.ci j }
theorem zuE(l:List Int)(i:Nat)(x:Int):zkg (l.set i x)=(zkg l).set i (.int .i64 x):=by simp[zkg,List.map_set]
theorem zrU(P:Ph)(S:ST)(id i:Nat)(x:Int)(hid:id<S.nc):rows P (S.put id i x)=updR (rows P S) (.ci id) { rows P S (.ci id)with xs:=(rows P S (.ci id)).xs.set i (.int .i64 x) }:=by
 funext r
 cases r with
 | ci j =>
  by_cases e:j=id
  ·subst e;simp[updR,rows,ST.put,ST.setL,hid,zuE]
  ·simp[updR,rows,ST.put,ST.setL,e]
 | cb j=>rfl
 | _=>simp[updR,rows,ST.put,ST.setL]
theorem ztM(P:Ph)(S:ST)(id:Nat)(vv:Value)(l:List Int)(hid:id<S.nc):rows (P.setI id vv) (S.setL id l)=updR (updR (rows P S) (.ci id) ⟨vv,3,1,l.length,zkg l⟩) (.cb id) { rows P S (.cb id)with xs:=(rows P S (.cb id)).xs.set 0 vv }:=by
 funext r
 cases r with
 | ci j =>
  by_cases e:j=id
  ·subst e;simp[updR,rows,Ph.setI,ST.setL,hid]
  ·simp[updR,rows,Ph.setI,ST.setL,e]
 | cb j =>
  by_cases e:j=id
  ·subst e;simp[updR,rows,Ph.setI,ST.setL,hid]
  ·simp[updR,rows,Ph.setI,ST.setL,e]
 | calls=>simp only[updR,reduceCtorEq,if_false,rows,ST.setL];rw[zlv (P:=P) (P':=P.setI id vv) rfl rfl];rfl
 | _=>simp[updR,rows,Ph.setI,ST.setL]
section
variable {W:World} {n0:Nat} {P:Ph} {S:ST}
theorem SR.plc(h:SR W n0 P S){id i:Nat}(hid:id<S.nc)(hi:i<(S.cell id).length):(∃c,P.ci id=.slice (some ⟨P.gI id,0,none⟩) (S.cell id).length c/\(S.cell id).length<=c)/\W.cell? ⟨P.gI id,i,none⟩=some (.int .i64 (S.el id i))/\W.frozen? ⟨P.gI id,i,none⟩=false:=by
 have hr:=h.rws.row (.ci id);simp only[rows,hid,if_true]at hr;obtain⟨g,c,hv,hc,_,hcell⟩:=zkV hr (by omega);have hg:P.gI id=g:=by simp[Ph.gI,hv,Value.ownBlock]
 refine⟨⟨c,by rw[hg];exact hv,hc⟩,?_,?_⟩
 ·rw[hg,hcell i (by omega)];simp[zkg,ST.el,hi]
 ·exact h.rws.frozen (.ci id) (by simp only[rows,hid,if_true];rw[hv,hg];rfl) i
theorem SR.own(h:SR W n0 P S){id i:Nat}(hid:id<S.nc)(hi:i<(S.cell id).length):(rows P S (.ci id)).v.ownBlock=some (P.gI id):=by
 obtain⟨⟨c,hv,_⟩,_⟩:=h.plc hid hi;simp only[rows,hid,if_true];rw[hv];rfl
theorem SR.put(h:SR W n0 P S){id i:Nat}(hid:id<S.nc)(hi:i<(S.cell id).length)(x:Int)(hx:I64 x):SStp n0 P S W P (S.put id i x) (W.setCell ⟨P.gI id,i,none⟩ (.int .i64 x)):=by
 refine⟨?_,zz8 h.wf hid i x hx⟩;have:=Stp.set (i:=Res.ci id) h.rws (g:=P.gI id) (h.own hid hi) (o:=i) (by simp only[rows,hid,if_true,zkx];exact hi) (.int .i64 x);exact this.cast (zrU P S id i x hid).symm
end
theorem SR.stk{W W2:World}{n0:Nat}{P:Ph}{S:ST}(h:SR W n0 P S)(ak:Nat)(hs:CurK S ak 3)(l:List Int)(vv:Value)(hl:l.length<=1000)(hx:∀x∈l,I64 x)(hc:Chg (fun b=>(P.ci ak).ownBlock=some b) W W2)(ho:W2.ownsRow n0 3 1 vv l.length (zkg l))(aj:∀b,vv.ownBlock=some b->(P.ci ak).ownBlock=some b\/W.heap.size<=b) :
  W2.cell? ⟨P.cb ak,0,none⟩=some (P.ci ak)/\W2.frozen? ⟨P.cb ak,0,none⟩=false/\SStp n0 P S W (P.setI ak vv) (S.setL ak l) (W2.setCell ⟨P.cb ak,0,none⟩ vv):=by
 have hid:=hs.lt h.wf;have ev:(rows P S (.ci ak)).v=P.ci ak:=by simp only[rows,hid,if_true]
 have s1:=Stp.upd (i:=Res.ci ak) (r:=⟨vv,3,1,l.length,zkg l⟩) h.rws (hc.mono fun b _ hb=>by rw[ev];exact hb) ho (fun b hb=>by rw[ev];exact aj b hb);have eb:updR (rows P S) (.ci ak) ⟨vv,3,1,l.length,zkg l⟩ (.cb ak)=rows P S (.cb ak):=zkj (by simp);have wQ:rows P S (.cb ak)=⟨boxV (P.cb ak),194,1,1,[P.ci ak]⟩:=by simp only[rows,hid,if_true]
 have s2:=Stp.set (i:=Res.cb ak) s1.rws (g:=P.cb ak) (by rw[eb,wQ];rfl) (o:=0) (by rw[eb,wQ];exact Nat.one_pos) vv;rw[eb]at s2;refine⟨s1.rws.cell (.cb ak) (g:=P.cb ak) (o:=0) (by rw[eb,wQ];rfl) (by rw[eb,wQ];rfl),s1.rws.frozen (.cb ak) (g:=P.cb ak) (by rw[eb,wQ];rfl) 0,⟨(s1.trans s2).cast (ztM P S ak vv l hid).symm,zz7 h.wf ak hs l hl hx⟩⟩
theorem zzF:(prog.info? 3).map (fun i=>(i.zero,i.size,i.bytes))=some (some (.int .i64 0),1,8):=zlO
theorem zwl{W:World}{n0:Nat}{P:Ph}{S:ST}(h:SR W n0 P S)(k:Int)(hk:k=44\/k=45)(id i ak:Nat)(hid:id<S.nc)(hi:i<(S.cell id).length)(hs:CurK S ak 3)(hne:id≠ak) :
  Calls prog 195 #[.int .u8 k,.pointer (some ⟨P.gI id,i,none⟩),.pointer (some ⟨P.cb ak,0,none⟩)] W fun e W'=>e=.returned (.int .i64 (znB S k id i ak).1)/\∃P',SStp n0 P S W P' (znB S k id i ak).2 W'/\P'.sb=P.sb:=by
 have dX:=hs.lt h.wf;obtain⟨R,hR⟩:=zX (znB S k id i ak);rw[hR];have HRR:=zh hR;have HS:=zh h;have HK:=zh hs;obtain⟨A,c,hci,hc,bA⟩:=h.items dX;have hcs:=h.wf.cells ak dX;have x0:W.cell? ⟨P.cb ak,0,none⟩=some (.slice A (S.cell ak).length c):=by rw[<-hci];exact zc (h.cbox dX) rfl
 obtain⟨-,p0,p1⟩:=h.plc hid hi;obtain⟨x,hx⟩:=zX (S.el id i);rw[hx]at p0;have HX:=zh hx;obtain⟨L,hL⟩:=zX ((S.cell ak).length);rw[hL]at x0;have HL:=zh hL;have hL1:L<=1000:=by rw[<-hL];exact hcs.1
 have xI:=zh hci;have dC:=zh bA;clear h hs hci bA hx hL hR hc;rcases hk with rfl|rfl
 ·by_cases hf:1000<=L
  ·have HN:=zh (show R=(5,S) by rw[<-HRR.out,znB,if_pos rfl,if_pos (by rw[HL.out];exact hf)]);obtain rfl:L=1000:=by omega
   go_enter func195,ntmps195;go_wp2_with fail;go_ret;exact⟨by rw[HN.out];rfl,P,by rw[HN.out];exact SStp.refl HS.out zr,rfl⟩
  ·have HN:=zh (show R=(0,(S.setL ak (S.cell ak++[x])).put id i 0) by rw[<-HRR.out,znB,if_pos rfl,if_neg (by rw[HL.out];exact hf),HX.out]);have hf1:¬ (1000:Int)<=(L:Int):=by omega
   obtain⟨i1,hi1,hz0,hz1,hz2⟩:=info_parts zzF;have hbi:=zpY;have uS:I64 x:=by rw[<-HX.out];exact zqI HS.out.wf hid i
   clear HRR;go_enter func195,ntmps195;go_upto_region 7 with fail;have hSS:(fun w':World=>zv w' (P.gI id) i (.int .i64 x)) W.drew/\(fun w':World=>zv w' (P.cb ak) 0 (.slice A L c)) W.drew:=⟨p0,x0⟩
   refine wp_region_noPanic ?_;refine zkk (fun w':World=>zv w' (P.gI id) i (.int .i64 x)) (fun w':World=>zv w' (P.cb ak) 0 (.slice A L c)) 9 (by kernel_rfl) ?_;refine zT 0 hSS ?_;refine zT 1 hSS ?_;refine zT 2 hSS ?_;refine zT 3 hSS ?_;refine zJ 4 hSS ?_;refine zT 5 hSS ?_;refine zT 6 hSS ?_;refine zT 7 hSS ?_;refine zo 8 fun K hK=>?_;(try simp only[zA,zB,zC]);go_simp;refine hK.out _ _ ⟨zks p0 _,zks x0 _⟩ ?_;clear hK K hSS;(try simp only[zQ]);obtain⟨W2,hW2⟩:=zX ((W.alloc (.cells #[.int .i64 x] 3)).drew);have hb2:Below W.heap.size W W2:=hW2▸(zka zr _).drew;have aI:=zh (show ∀j u,[Value.int .i64 x][j]?=some u->W2.cell? ((⟨W.heap.size,0,none⟩:Addr).add j)=some u from hW2▸zlD W 3 [.int .i64 x]);have wu:W2.ownsRow n0 3 1 (.slice A L c) L (zkg (S.cell ak)):=by
    have:=zko (HS.out.rws.row (.ci ak)) hb2;simp only[rows,dX,if_true]at this;rw[xI.out,HL.out]at this;exact this
   have hs2:=hb2.size;have d0:=zb hb2 p0;have hn0:=(HS.out.rws.lt .sb P.sb rfl)
   have HST:=zh (fun w3 vv=>SR.stk (W2:=w3) (HS.out.later hb2) ak HK.out (S.cell ak++[x]) vv (by rw[List.length_append,HL.out];simp;omega) (fun y hy=>by
    simp only[List.mem_append,List.mem_singleton]at hy;rcases hy with hy|rfl
    ·exact(hcs.2 y hy)
    ·exact uS))
   rw[hW2];have hnb:∀b,(P.ci ak).ownBlock=some b->b≠P.gI id:=fun b hb e=>by
    have h1:=HS.out.own hid hi;rw[<-e]at h1;exact HS.out.rws.sep (.ci id) (.ci ak) b (by simpa using hne) h1 (by simp only[rows,dX,if_true];exact hb)
   rw[xI.out]at HST hnb;rw[HL.out]at HST hnb;have HNB:=zh hnb;have dW:=zh hb2;clear hW2 hnb hb2;refine zp 9 fun K hK=>?_;refine zkP (by rfl) (.tmp 47) (.tmp 51) 30 (by rfl) n0 3 i1 _ 1 8 underlying30 hi1 hz0 hz1 hz2 rfl (by decide) (.slice A L c) L (zkg (S.cell ak)) (by rfl) wu ⟨W.heap.size,0,none⟩ 1 1 [.int .i64 x] (by rfl) rfl aI.out (by intro u hu;simp at hu;subst hu;rfl) (by unfold maxLen;omega) (by omega) (by omega) ?_;intro v' w3 h2 h3 h5;obtain⟨g8,aH,rfl⟩:=ownsRow_succ h2;have hll:(S.cell ak++[x]).length=L+1:=by rw[List.length_append,HL.out];rfl
   obtain⟨z0,zf,hfin⟩:=HST.out w3 _ (Chg.row h3) (by rw[hll,zmz];exact h2) (fun b hb=>by
    rcases h5 with h5|h5
    ·exact .inl (h5▸hb)
    ·exact .inr (by rw[h5]at hb;injection hb with hb;omega))
   have y0:w3.cell? ⟨P.gI id,i,none⟩=some (.int .i64 x):=zkU (Chg.row h3) d0 (fun e=>HNB.out _ e rfl);have hput:=SR.put (hfin.sr) (id:=id) (i:=i) hid (by show i<((S.setL ak _).cell id).length;simp only[ST.setL,if_neg hne];exact hi) 0 ⟨by decide,by decide⟩;have hgi:(P.setI ak (.slice (some ⟨g8,0,none⟩) (L+1) aH)).gI id=P.gI id:=by simp[Ph.gI,Ph.setI,hne]
   rw[hgi]at hput;have mD:P.cb ak≠P.gI id:=fun e=>by
    have h1:=HS.out.own hid hi;exact HS.out.rws.sep (.ci id) (.cb ak) (P.gI id) (by simp) h1 (by simp only[rows,dX,if_true];rw[e];rfl)
   have y1:(w3.setCell ⟨P.cb ak,0,none⟩ (.slice (some ⟨g8,0,none⟩) (L+1) aH)).cell? ⟨P.gI id,i,none⟩=some (.int .i64 x):=(World.cell?_setCell_far _ _ _ _ mD).trans y0;have aS:=zh (hfin.trans hput);have hfr:=hfin.sr.plc (id:=id) (i:=i) hid (by show i<((S.setL ak _).cell id).length;simp only[ST.setL,if_neg hne];exact hi);rw[hgi]at hfr;have yf:=hfr.2.2;refine hK.out _ _ y0 ?_;clear hK K h2 h3 h5 hfin hput wu aI d0 hfr;(try simp only[zQ]);refine zp 10 fun K hK=>?_;(try simp only[zA,zB,zC]);go_simp;refine hK.out _ _ y0 ?_;clear hK K;(try simp only[zQ]);refine zp 11 fun K hK=>?_;(try simp only[zA,zB,zC]);go_simp;refine hK.out _ _ y0 ?_;clear hK K;(try simp only[zQ]);refine zp 12 fun K hK=>?_;(try simp only[zA,zB,zC]);go_simp;refine hK.out _ _ y1 ?_;clear hK K;(try simp only[zQ]);refine zd ?_;refine NoPanic.normal ?_
   obtain⟨w4,hw4⟩:=zX (w3.setCell ⟨P.cb ak,0,none⟩ (.slice (some ⟨g8,0,none⟩) (L+1) aH));rw[hw4]at y1 yf aS ⊢;clear hw4 z0 zf y0;go_wp2_with fail;go_ret;refine⟨by rw[HN.out];rfl,P.setI ak (.slice (some ⟨g8,0,none⟩) (L+1) aH),?_,rfl⟩;rw[HN.out];exact⟨aS.out.st.after dW.out HS.out.rws,aS.out.wf⟩
 ·rcases Nat.eq_zero_or_pos L with h0|h0
  ·subst h0;have HN:=zh (show R=(13,S) by rw[<-HRR.out,znB,if_neg (by decide),if_pos HL.out]);go_enter func195,ntmps195;go_wp2_with fail;go_ret;exact⟨by rw[HN.out];rfl,P,by rw[HN.out];exact SStp.refl HS.out zr,rfl⟩
  ·obtain⟨m,rfl⟩:∃m,L=m+1:=⟨L-1,by omega⟩
   have hm0:¬ ((m:Int)+1=0):=by omega
   have hm1:(((m:Int)+1)==0)=false:=by simpa using hm0
   by_cases hx0:x=0
   ·subst hx0;obtain⟨a,rfl,hz⟩:=dC.out.nd (i:=m) (by rw[HL.out];omega);obtain⟨y,hy⟩:=zX ((S.cell ak).getD m 0);rw[hy]at hz;have HN:=zh (show R=(0,(S.put id i y).setL ak ((S.cell ak).take m)) by
     rw[<-HRR.out,znB,if_neg (by decide),if_neg (by rw[HL.out];omega),if_neg (by rw[HX.out];simp),HL.out];rw[show S.el ak (m+1-1)=y from hy];rfl)
    have rX:I64 y:=by rw[<-hy];exact zqI HS.out.wf dX m
    have s1:=HS.out.put hid hi y rX;obtain⟨g,c2,hv2,hc2,hm2,hcell2⟩:=zkV (HS.out.rws.row (.ci ak)) (by simp only[rows,dX,if_true];rw[HL.out];omega);simp only[rows,dX,if_true]at hv2 hc2;rw[HL.out]at hc2;rw[xI.out]at hv2;injection hv2 with a1 a2 a3;injection a1 with a1;subst a1 a3;rw[Addr.add_lit,Nat.zero_add]at hz;have mD:P.cb ak≠P.gI id:=fun e=>by
     have h1:=HS.out.own hid hi;exact HS.out.rws.sep (.ci id) (.cb ak) (P.gI id) (by simp) h1 (by simp only[rows,dX,if_true];rw[e];rfl)
    have x1:(W.setCell ⟨P.gI id,i,none⟩ (.int .i64 y)).cell? ⟨P.cb ak,0,none⟩=some (.slice (some ⟨g,0,none⟩) (m+1) c):=(World.cell?_setCell_far _ _ _ _ (Ne.symm mD)).trans x0;have hrow1:(W.setCell ⟨P.gI id,i,none⟩ (.int .i64 y)).ownsRow n0 3 1 (.slice (some ⟨g,0,none⟩) m c) m (zkg ((S.cell ak).take m)):=by
     have:=s1.st.rws.row (.ci ak);have e1:rows P (S.put id i y) (.ci ak)=⟨.slice (some ⟨g,0,none⟩) (m+1) c,3,1,m+1,zkg (S.cell ak)⟩:=by
      rw[zrU P S id i y hid,zkj (by simpa using Ne.symm hne)];simp only[rows,dX,if_true];rw[xI.out,HL.out]
     rw[e1]at this;have e2:zkg (S.cell ak)=zkg ((S.cell ak).take m)++(zkg (S.cell ak)).drop (m*1):=by rw[Nat.mul_one,zkg,zkg,List.map_take,List.take_append_drop]
     dsimp only at this;rw[e2]at this;exact ownsRow_pop (by rw[zkx,List.length_take,HL.out];omega) this
    have hltm:((S.cell ak).take m).length=m:=by rw[List.length_take,HL.out];omega
    have hcell1:(S.put id i y).cell ak=S.cell ak:=by simp[ST.put,ST.setL,Ne.symm hne]
    obtain⟨z0,zf,hfin⟩:=SR.stk (W2:=W.setCell ⟨P.gI id,i,none⟩ (.int .i64 y)) s1.sr ak HK.out ((S.cell ak).take m) (.slice (some ⟨g,0,none⟩) m c) (by omega) (fun q hq=>hcs.2 q (List.mem_of_mem_take hq)) (Chg.refl _ _) (by rw[hltm];exact hrow1) (fun b hb=>.inl (by rw[xI.out];exact hb));have aS:=zh (s1.trans hfin);have hw1:IntKind.i64.wrap (m:Int)=(m:Int):=IntWalk.i64_in _ (by omega);have hmc:(m:Int)<=(c:Int):=by omega
    have hmm:(m:Int)<(m:Int)+1:=by omega
    clear s1 hfin hrow1 z0 hcell2 HRR;go_enter func195,ntmps195;go_wp2_with fail;go_ret;refine⟨by rw[HN.out];rfl,P.setI ak (.slice (some ⟨g,0,none⟩) m c),?_,rfl⟩;rw[HN.out];exact aS.out
   ·have HN:=zh (show R=(14,S) by rw[<-HRR.out,znB,if_neg (by decide),if_neg (by rw[HL.out];omega),if_pos (by rw[HX.out];exact hx0)]);have hx1:(x != 0)=true:=by simpa using hx0
    have hx2:(x==0)=false:=by simpa using hx0
    go_enter func195,ntmps195;go_wp2_with fail;go_ret;exact⟨by rw[HN.out];rfl,P,by rw[HN.out];exact SStp.refl HS.out zr,rfl⟩
theorem zux:IsFn prog 213 f213:=⟨func213,by kernel_rfl,by kernel_rfl⟩
theorem zwC:IsFn prog 215 f215:=⟨func215,by kernel_rfl,by kernel_rfl⟩
theorem SR.tp{W:World}{n0:Nat}{P:Ph}{S:ST}(h:SR W n0 P S):W.cell? ⟨P.sb,4,none⟩=some (.pointer (some ⟨P.tb,0,none⟩)):=zc h.box rfl
theorem zqd{W:World}{n0:Nat}{P:Ph}{S:ST}(h:SR W n0 P S)(k:Int)(hk:k=46\/k=49\/k=47\/k=48)(id i:Nat)(hid:id<S.nc)(hi:i<(S.cell id).length) :
  Calls prog 196 #[.pointer (some ⟨P.sb,0,none⟩),.int .u8 k,.pointer (some ⟨P.gI id,i,none⟩)] W fun e W'=>e=.returned (.int .i64 (zls S k id i).1)/\∃P',SStp n0 P S W P' (zls S k id i).2 W'/\P'.sb=P.sb:=by
 obtain⟨R,hR⟩:=zX (zls S k id i);rw[hR];have HRR:=zh hR;have HS:=zh h;have x4:=h.tp;obtain⟨-,p0,p1⟩:=h.plc hid hi;obtain⟨x,hx⟩:=zX (S.el id i);rw[hx]at p0;have HX:=zh hx;have uS:I64 x:=by rw[<-hx];exact zqI h.wf hid i
 clear hR hx h;rcases hk with rfl|rfl|rfl|rfl
 ·have oh:=zh (zxk HS.out);go_enter func196,ntmps196;go_wp2_with fail;refine oh.out.mono ?_;rintro e w1 hh;rcases hh with⟨h0,rfl,hb⟩|⟨y,r,h0,rfl,vv,hst⟩
  ·have HN:=zh (show R=(17,S) by rw[<-HRR.out,zls,if_pos rfl,h0]);have HB:=zh hb;clear h0 hb;go_wp2_with fail;go_ret;exact⟨by rw[HN.out];rfl,P,by rw[HN.out];exact SStp.refl HS.out HB.out,rfl⟩
  ·have ht:=HS.out.wf.tin;rw[h0]at ht;have rX:I64 y:=ht.2 y (List.mem_cons_self ..);have y4:w1.cell? ⟨P.sb,4,none⟩=some (.pointer (some ⟨P.tb,0,none⟩)):=hst.sr.tp;obtain⟨-,r0,r1⟩:=hst.sr.plc (id:=id) (i:=i) hid hi;have r0':w1.cell? ⟨P.gI id,i,none⟩=some (.int .i64 x):=by rw[<-HX.out];exact r0
   have r1':w1.frozen? ⟨P.gI id,i,none⟩=false:=r1;by_cases hx0:x=0
   ·subst hx0;have HN:=zh (show R=(0,({ S with tin:=r }:ST).put id i y) by rw[<-HRR.out,zls,if_pos rfl,h0];dsimp only;rw[HX.out];simp);have mZ:=zh (hst.trans (hst.sr.put (id:=id) (i:=i) hid hi y rX));clear h0 hst ht r0 r1;go_wp2_with fail;go_ret;exact⟨by rw[HN.out];rfl,{ P with vI:=vv },by rw[HN.out];exact mZ.out,rfl⟩
   ·have HN:=zh (show R=(14,S) by rw[<-HRR.out,zls,if_pos rfl,h0];dsimp only;rw[HX.out,if_pos hx0]);have hx1:(x != 0)=true:=by simpa using hx0
    have hx2:(x==0)=false:=by simpa using hx0
    have Bj:=zh (zpq hst.sr y rX);have hrl:¬ 4096<=r.length:=by have:=ht.1;simp at this;omega
    have HST:=zh hst;have H0:=zh h0;clear h0 hst ht r0 r1;go_wp2_with fail;refine Bj.out.mono ?_;rintro e w2 hh;rcases hh with⟨h1,rfl,hb⟩|⟨h1,rfl,yV,lX⟩
    ·exact absurd h1 hrl
    ·have HS2:=zh lX;clear h1 lX;go_wp2_with fail;go_ret;refine⟨by rw[HN.out];rfl,{ P with vI:=yV },?_,rfl⟩;rw[HN.out];have h3:=HST.out.trans HS2.out;have e3:({ { S with tin:=r } with tin:=y::({ S with tin:=r }:ST).tin }:ST)=S:=by
      show({ S with tin:=y::r }:ST)=S
      rw[<-H0.out]
     rw[e3]at h3;exact h3
 ·have oh:=zh (zrw HS.out);go_enter func196,ntmps196;go_wp2_with fail;refine oh.out.mono ?_;rintro e w1 hh;rcases hh with⟨h0,rfl,hb⟩|⟨r,y,h0,rfl,vv,hst⟩
  ·have HN:=zh (show R=(17,S) by rw[<-HRR.out,zls,if_neg (by decide),if_pos rfl,if_pos h0]);have HB:=zh hb;clear h0 hb;go_wp2_with fail;go_ret;exact⟨by rw[HN.out];rfl,P,by rw[HN.out];exact SStp.refl HS.out HB.out,rfl⟩
  ·have ht:=HS.out.wf.tout;rw[h0]at ht;have rX:I64 y:=ht.2 y (by simp);have hne:S.tout≠[]:=by rw[h0];simp
   have hdl:S.tout.dropLast=r:=by rw[h0];simp
   have hgl:S.tout.getLast?.getD 0=y:=by rw[h0];simp
   have y4:w1.cell? ⟨P.sb,4,none⟩=some (.pointer (some ⟨P.tb,0,none⟩)):=hst.sr.tp;obtain⟨-,r0,r1⟩:=hst.sr.plc (id:=id) (i:=i) hid hi;have r0':w1.cell? ⟨P.gI id,i,none⟩=some (.int .i64 x):=by rw[<-HX.out];exact r0
   have r1':w1.frozen? ⟨P.gI id,i,none⟩=false:=r1;by_cases hx0:x=0
   ·subst hx0;have HN:=zh (show R=(0,({ S with tout:=r }:ST).put id i y) by rw[<-HRR.out,zls,if_neg (by decide),if_pos rfl,if_neg hne,hdl,hgl,HX.out];simp);have mZ:=zh (hst.trans (hst.sr.put (id:=id) (i:=i) hid hi y rX));clear h0 hst ht r0 r1 hne hdl hgl;go_wp2_with fail;go_ret;exact⟨by rw[HN.out];rfl,{ P with vO:=vv },by rw[HN.out];exact mZ.out,rfl⟩
   ·have HN:=zh (show R=(14,S) by rw[<-HRR.out,zls,if_neg (by decide),if_pos rfl,if_neg hne,HX.out,if_pos hx0]);have hx1:(x != 0)=true:=by simpa using hx0
    have hx2:(x==0)=false:=by simpa using hx0
    have Bj:=zh (zqQ hst.sr y rX);have hrl:¬ 4096<=r.length:=by have:=ht.1;simp at this;omega
    have HST:=zh hst;have H0:=zh h0;clear h0 hst ht r0 r1 hne hdl hgl;go_wp2_with fail;refine Bj.out.mono ?_;rintro e w2 hh;rcases hh with⟨h1,rfl,hb⟩|⟨h1,rfl,yV,lX⟩
    ·exact absurd h1 hrl
    ·have HS2:=zh lX;clear h1 lX;go_wp2_with fail;go_ret;refine⟨by rw[HN.out];rfl,{ P with vO:=yV },?_,rfl⟩;rw[HN.out];have h3:=HST.out.trans HS2.out;have e3:({ { S with tout:=r } with tout:=({ S with tout:=r }:ST).tout++[y] }:ST)=S:=by
      show({ S with tout:=r++[y] }:ST)=S
      rw[<-H0.out]
     rw[e3]at h3;exact h3
 ·skip
  have had:Calls prog 213 [.pointer (some ⟨P.tb,0,none⟩),.int .i64 x].toArray W.drew fun e W'=>∃u,e=.returned u/\∃y,u=.int .i64 y /\
    ((y=5/\R=(5,S)/\Below W.heap.size W W')\/(y=0/\R=(0,({ S with tin:=x::S.tin }:ST).put id i 0)/\∃vv,SStp n0 P S W { P with vI:=vv } ({ S with tin:=x::S.tin }:ST) W')):=by
   refine(zpq (HS.out.later zr.drew) x uS).mono ?_;rintro e W' hh;rcases hh with⟨h0,rfl,hb⟩|⟨h0,rfl,vv,hst⟩
   ·exact⟨_,rfl,5,rfl,.inl ⟨rfl,by rw[<-HRR.out,zls,if_neg (by decide),if_neg (by decide),if_pos rfl,if_pos h0],zkb zr.drew hb⟩⟩
   ·exact⟨_,rfl,0,rfl,.inr ⟨rfl,by rw[<-HRR.out,zls,if_neg (by decide),if_neg (by decide),if_pos rfl,if_neg (by omega),HX.out],vv,⟨hst.st.after zr.drew HS.out.rws,hst.wf⟩⟩⟩
  go_enter func196,ntmps196;go_upto_region 17 with fail;have hSS:zW (fun w':World=>zv w' P.sb 4 (.pointer (some ⟨P.tb,0,none⟩))/\zv w' (P.gI id) i (.int .i64 x)) zU W.drew:=⟨⟨x4,p0⟩,trivial⟩
  refine wp_region_noPanic ?_;refine zG hSS 7 ?_;refine zT 0 hSS ?_;refine zT 1 hSS ?_;refine zT 2 hSS ?_;refine zT 3 hSS ?_;refine zT 4 hSS ?_;refine zT 5 hSS ?_;refine zT 6 hSS ?_;refine zp 7 fun K hK=>?_;refine zke (by rfl) (.func 213) [.tmp 72,.tmp 75] _ (by rfl) 213 _ zux (by rfl) _ (by rfl) _ had ?_;rintro v4 w4 ⟨y,rfl,hh⟩;have HH:=zh hh;have mG:w4.cell? ⟨P.sb,4,none⟩=some (.pointer (some ⟨P.tb,0,none⟩))/\w4.cell? ⟨P.gI id,i,none⟩=some (.int .i64 x)/\w4.frozen? ⟨P.gI id,i,none⟩=false:=by
   rcases hh with⟨_,_,hb⟩|⟨_,_,vv,hst⟩
   ·exact⟨zb hb x4,zb hb p0,((HS.out.later hb).plc hid hi).2.2⟩
   ·have h9:=hst.sr.plc (id:=id) (i:=i) hid hi;exact⟨hst.sr.tp,by rw[<-HX.out];exact h9.2.1,h9.2.2⟩
  obtain⟨b4,b5,b6⟩:=mG;refine hK.out _ _ ⟨b4,b5⟩ ?_;clear hK K hSS had hh;(try simp only[zQ]);refine zp 8 fun K hK=>?_;(try simp only[zA,zB,zC]);go_simp;refine hK.out _ _ ⟨b4,b5⟩ ?_;clear hK K;(try simp only[zQ]);refine zd ?_;refine NoPanic.normal ?_;rcases HH.out with⟨rfl,h1,hb⟩|⟨rfl,h1,vv,hst⟩
  ·have HN:=zh h1;have HB:=zh hb;clear HH h1 hb;go_wp2_with fail;go_ret;exact⟨by rw[HN.out];rfl,P,by rw[HN.out];exact SStp.refl HS.out HB.out,rfl⟩
  ·have HN:=zh h1;have mZ:=zh (hst.trans (hst.sr.put (id:=id) (i:=i) hid hi 0 ⟨by decide,by decide⟩));clear HH h1 hst;go_wp2_with fail;go_ret;exact⟨by rw[HN.out];rfl,{ P with vI:=vv },by rw[HN.out];exact mZ.out,rfl⟩
 ·skip
  have had:Calls prog 215 [.pointer (some ⟨P.tb,0,none⟩),.int .i64 x].toArray W.drew fun e W'=>∃u,e=.returned u/\∃y,u=.int .i64 y /\
    ((y=5/\R=(5,S)/\Below W.heap.size W W')\/(y=0/\R=(0,({ S with tout:=S.tout++[x] }:ST).put id i 0)/\∃vv,SStp n0 P S W { P with vO:=vv } ({ S with tout:=S.tout++[x] }:ST) W')):=by
   refine(zqQ (HS.out.later zr.drew) x uS).mono ?_;rintro e W' hh;rcases hh with⟨h0,rfl,hb⟩|⟨h0,rfl,vv,hst⟩
   ·exact⟨_,rfl,5,rfl,.inl ⟨rfl,by rw[<-HRR.out,zls,if_neg (by decide),if_neg (by decide),if_neg (by decide),if_pos h0],zkb zr.drew hb⟩⟩
   ·exact⟨_,rfl,0,rfl,.inr ⟨rfl,by rw[<-HRR.out,zls,if_neg (by decide),if_neg (by decide),if_neg (by decide),if_neg (by omega),HX.out],vv,⟨hst.st.after zr.drew HS.out.rws,hst.wf⟩⟩⟩
  go_enter func196,ntmps196;go_upto_region 19 with fail;have hSS:zW (fun w':World=>zv w' P.sb 4 (.pointer (some ⟨P.tb,0,none⟩))/\zv w' (P.gI id) i (.int .i64 x)) zU W.drew:=⟨⟨x4,p0⟩,trivial⟩
  refine wp_region_noPanic ?_;refine zG hSS 7 ?_;refine zT 0 hSS ?_;refine zT 1 hSS ?_;refine zT 2 hSS ?_;refine zT 3 hSS ?_;refine zT 4 hSS ?_;refine zT 5 hSS ?_;refine zT 6 hSS ?_;refine zp 7 fun K hK=>?_;refine zke (by rfl) (.func 215) [.tmp 82,.tmp 85] _ (by rfl) 215 _ zwC (by rfl) _ (by rfl) _ had ?_;rintro v4 w4 ⟨y,rfl,hh⟩;have HH:=zh hh;have mG:w4.cell? ⟨P.sb,4,none⟩=some (.pointer (some ⟨P.tb,0,none⟩))/\w4.cell? ⟨P.gI id,i,none⟩=some (.int .i64 x)/\w4.frozen? ⟨P.gI id,i,none⟩=false:=by
   rcases hh with⟨_,_,hb⟩|⟨_,_,vv,hst⟩
   ·exact⟨zb hb x4,zb hb p0,((HS.out.later hb).plc hid hi).2.2⟩
   ·have h9:=hst.sr.plc (id:=id) (i:=i) hid hi;exact⟨hst.sr.tp,by rw[<-HX.out];exact h9.2.1,h9.2.2⟩
  obtain⟨b4,b5,b6⟩:=mG;refine hK.out _ _ ⟨b4,b5⟩ ?_;clear hK K hSS had hh;(try simp only[zQ]);refine zp 8 fun K hK=>?_;(try simp only[zA,zB,zC]);go_simp;refine hK.out _ _ ⟨b4,b5⟩ ?_;clear hK K;(try simp only[zQ]);refine zd ?_;refine NoPanic.normal ?_;rcases HH.out with⟨rfl,h1,hb⟩|⟨rfl,h1,vv,hst⟩
  ·have HN:=zh h1;have HB:=zh hb;clear HH h1 hb;go_wp2_with fail;go_ret;exact⟨by rw[HN.out];rfl,P,by rw[HN.out];exact SStp.refl HS.out HB.out,rfl⟩
  ·have HN:=zh h1;have mZ:=zh (hst.trans (hst.sr.put (id:=id) (i:=i) hid hi 0 ⟨by decide,by decide⟩));clear HH h1 hst;go_wp2_with fail;go_ret;exact⟨by rw[HN.out];rfl,{ P with vO:=vv },by rw[HN.out];exact mZ.out,rfl⟩
theorem zs6(k x y:Int)(hk:k=40\/k=41\/k=42)(w:World):Calls prog 194 #[.int .u8 k,.int .i64 x,.int .i64 y] w fun e w'=>e=.returned (.tuple #[.int .i64 (updE k x y),.int .i64 0])/\w'=w:=by
 rcases hk with rfl|rfl|rfl
 ·rw[show updE 40 x y=wrap64 (x+y) by simp[updE]];go_enter func194,ntmps194;go_wp2_with fail;go_ret2;exact⟨rfl,rfl⟩
 ·rw[show updE 41 x y=wrap64 (x-y) by simp[updE]];go_enter func194,ntmps194;go_wp2_with fail;go_ret2;exact⟨rfl,rfl⟩
 ·rw[show updE 42 x y=bits BinOp.xor IntKind.i64 x y by simp[updE]];go_enter func194,ntmps194;go_wp2_with fail;go_ret2;exact⟨rfl,rfl⟩
theorem ztn(x:Int):I64 (IntKind.i64.wrap x):=by
 rw[IntKind.wrap_i64];unfold I64;omega
theorem zx5(k x y:Int):I64 (updE k x y):=by
 unfold updE
 split
 ·unfold wrap64 I64;omega
 ·split
  ·unfold wrap64 I64;omega
  ·exact ztn _
theorem zpl:∀(vs:List VD) (s:ByteArray) (j:Nat),j<=vs.length->zlw (vs.take j) s=(zmm vs s j).bind fun i=>vs[i]?
 | vs,s,0,_=>by simp[zlw,zmm]
 | vs,s,j+1,h=>by
  rw[zpk (by omega),zo9 (by omega),zpl vs s j (by omega)];by_cases e:vs[j].s.toList=s.toList
  ·have e':(vs[j].s.toList==s.toList)=true:=by simpa using e
   have hj:j<vs.length:=by omega
   rw[if_pos e,if_pos e'];simp[hj]
  ·have e':¬ (vs[j].s.toList==s.toList)=true:=by simpa using e
   rw[if_neg e,if_neg e']
theorem zwO(f:FR)(s:ByteArray):zlw f.vs s=(f.at s).bind fun i=>f.vs[i]?:=by
 have:=zpl f.vs s f.vs.length zl;rw[List.take_of_length_le zl]at this;exact this
theorem zt3{S:ST}(h:S.WF){s:ByteArray}{v:VD}(hv:zlw S.cur.vs s=some v):∃id,S.num s=some id/\CurK S id v.k:=by
 rw[zwO,Option.bind_eq_some_iff]at hv;obtain⟨i,h1,h2⟩:=hv;obtain⟨kd,hw⟩:=h.cur;have hi:=FR.at_lt h1;have hc:i<S.cur.cs.length:=by rw[hw.len];exact hi
 refine⟨S.cur.cs[i],by rw[ST.num,h1];simp[hc],i,v,h2,List.getElem?_eq_getElem hc,rfl⟩
theorem zuC{vs:List VD}{k n:Int}{s:ByteArray}{ks:List T}(h:fltE vs (.nd k n s ks)=0):ownE vs k s=0/\zlq vs ks=0:=by
 rw[fltE]at h
 split at h
 ·contradiction
 ·next h1=>exact⟨Classical.not_not.1 h1,h⟩
theorem zne{vs:List VD}:∀ {ks:List T},zlq vs ks=0->∀t∈ks,fltE vs t=0
 | t::ts,h,u,hu=>by
  rw[zlq]at h
  split at h
  ·contradiction
  ·next h1 =>
   rcases List.mem_cons.1 hu with rfl|hu
   ·exact Classical.not_not.1 h1
   ·exact zne h u hu
theorem zpF{vs:List VD}{k:Int}{s:ByteArray}(h:ownE vs k s=0)(hn:zpI k≠0):∃v,zlw vs s=some v/\v.k=zpI k:=by
 rw[ownE,if_neg hn]at h
 cases hf:zlw vs s with
 | none=>rw[hf]at h;cases h
 | some v =>
  rw[hf]at h;dsimp only at h
  split at h
  ·next h1=>exact⟨v,rfl,h1⟩
  ·cases h
theorem zpE{S:ST}(h:S.WF){p:T}(hp:isP p=true)(hf:fltE S.cur.vs p=0):∃id k,S.num p.s=some id/\CurK S id k/\k≠3:=by
 obtain⟨k,n,s,ks⟩:=p;simp only[isP,T.k_nd,Bool.and_eq_true,Bool.or_eq_true,beq_iff_eq]at hp;obtain⟨h1,_⟩:=zuC hf;rcases hp.1 with rfl|rfl
 ·obtain⟨v,h2,h3⟩:=zpF h1 (by decide);obtain⟨id,h4,h5⟩:=zt3 h h2;exact⟨id,v.k,h4,h5,by rw[h3];decide⟩
 ·obtain⟨v,h2,h3⟩:=zpF h1 (by decide);obtain⟨id,h4,h5⟩:=zt3 h h2;exact⟨id,v.k,h4,h5,by rw[h3];decide⟩
def zvY(S:ST)(id i jd j:Nat):ST:=(S.put id i (S.el jd j)).put jd j (S.el id i)
def znG(S:ST)(k:Int)(s qs:ByteArray)(r2:Int)(id i:Nat):Int×ST :=
 if k=40\/k=41\/k=42 then(0,S.put id i (updE k (S.el id i) r2))
 else if k=43 then match S.num qs with
  | none=>(0,S)
  | some jd=>if 0<=r2/\r2<(S.cell jd).length then(0,zvY S id i jd r2.toNat)else(12,S)
 else if k=44\/k=45 then match S.num s with
  | none=>(0,S)
  | some ak=>znB S k id i ak
 else zls S k id i
def znM(S:ST)(k:Int)(q:T):Int×Int:=if k=43 then indE S.look q else if k=40\/k=41\/k=42 then zlP S.look q else(0,0)
def znV(S:ST)(k:Int)(s ps qs:ByteArray)(r1:Int)(r2:Int×Int):Int×ST :=
 if r2.2≠0 then(r2.2,S)else match S.num ps with
  | none=>(0,S)
  | some id=>if 0<=r1/\r1<(S.cell id).length then znG S k s qs r2.1 id r1.toNat else(12,S)
def zlr(S:ST)(k:Int)(s:ByteArray)(p q:T)(r1 r2:Int×Int):Int×ST:=if r1.2≠0 then(r1.2,S)else znV S k s p.s q.s r1.1 r2
def nil0:T:=.nd 0 0 ⟨#[]⟩ []
def zpV(S:ST):T->Int×ST
 | .nd k _ s ks=>zlr S k s (ks.getD 0 nil0) (ks.getD 1 nil0) (indE S.look (ks.getD 0 nil0)) (znM S k (ks.getD 1 nil0))
def doE(S:ST)(t:T):Int×ST :=
 if isS t=false then(3,S)else if t.k=56 then(9,S)else if basB t.k=false then(7,S)else if fltE S.cur.vs t≠0 then(fltE S.cur.vs t,S)else zpV S t
def zod(S:ST):T->Int×ST
 | .nd k n s ks=>doE S (.nd (zsX k) n s ks)
theorem zuy:IsFn prog 193 f193:=⟨func193,by kernel_rfl,by kernel_rfl⟩
theorem zxL:IsFn prog 195 f195:=⟨func195,by kernel_rfl,by kernel_rfl⟩
theorem zwR{W:World}{n0:Nat}{P:Ph}{S:ST}(h:SR W n0 P S)(k n:Int)(s:ByteArray)(p:T)(v:Value)(hv:NV W Any (.nd k n s [p]) v)(hk:44<=k/\k<=49)(id:Nat)(hid:S.num p.s=some id)(kp:Int)(hck:CurK S id kp)(hkp:kp≠3)
  (hst:k=44\/k=45->∃ak,S.num s=some ak/\CurK S ak 3) :
  Calls prog 172 #[.pointer (some ⟨P.sb,0,none⟩),v] W fun e W'=>e=.returned (.int .i64 (zlr S k s p nil0 (indE S.look p) (0,0)).1)/\∃P',SStp n0 P S W P' (zlr S k s p nil0 (indE S.look p) (0,0)).2 W'/\P'.sb=P.sb:=by
 obtain⟨A,c,rfl,hf,hlk,hlc,hrow⟩:=hv.open_;simp only[T.k_nd,T.n_nd,T.s_nd,T.ks_nd]at *
 obtain⟨R,hR⟩:=zX (zlr S k s p nil0 (indE S.look p) (0,0));rw[hR];have HRR:=zh hR;have HS:=zh h;have HL:=zh (zuc n0 P S h.wf);obtain⟨a,t0,A2,c2,rfl,_,Ht,⟨y0,y1,y2,y3⟩,hn0⟩:=hrow.nd (i:=0) (by simp);simp only[Nat.zero_mul,Addr.add_zero',List.length_cons,List.length_nil,Nat.zero_add]at *
 have ht0:t0=p:=Ht.out.symm;subst ht0;have hbx:=box4 (heap_alloc_new W (.cells #[.int .u8 k,.int .i64 n,.string s,.slice (some a) 1 c] 41));have aC:=zh (heap_alloc_new W (.cells #[.int .u8 k,.int .i64 n,.string s,.slice (some a) 1 c] 41));obtain⟨W0,hW0⟩:=zX (W.alloc (.cells #[.int .u8 k,.int .i64 n,.string s,.slice (some a) 1 c] 41));have q0:Below W.heap.size W W0:=hW0▸zka zr _;rw[hW0]at hbx aC;have gV:=zh q0;have z0:=zb q0 y0;have z1:=zb q0 y1;have z2:=zb q0 y2;have z3:=zb q0 y3;obtain⟨⟨iv,ie⟩,hiv⟩:=zX (indE S.look t0);have rJ:=zh (znp HL.out t0 _ W0 (hn0.later q0) (h.later q0));rw[hiv]at rJ;have kN:=zh (show R=zlr S k s t0 nil0 (iv,ie) (0,0) by rw[<-hR,hiv]);have xJ:=zh (fun W' (hb:Below W.heap.size W W')=>zmq (h.later hb) t0.s id hid);obtain⟨x0,x1,x2,x3⟩:=hbx;have aL:=hck.lt h.wf;have dJ:=zh hck;have vN:=zh hid
 clear hR hiv h hv hn0 hrow hlk hlc y0 y1 y2 y3 q0 hf hck hid;have k40:(k==40)=false:=by simp;omega
 have k41:(k==41)=false:=by simp;omega
 have k42:(k==42)=false:=by simp;omega
 have k43:(k==43)=false:=by simp;omega
 go_enter func172,ntmps172;go_wp2_with fail;refine rJ.out.mono ?_;rintro e w1 ⟨rfl,ae⟩;have HB1:=zh (zkb gV.out ae);have aB:=zh (zkc aC.out ae);have u0:=zb ae z0;have u1:=zb ae z1;have u2:=zb ae z2;have u3:=zb ae z3;have v0:=zb ae x0;have v2:=zb ae x2;have v3:=zb ae x3;clear ae z0 z1 z2 z3 x0 x1 x2 x3;dsimp only;by_cases he:ie=0
 ·subst he;have HR1:=zh (show R=znV S k s t0.s nil0.s iv (0,0) by rw[kN.out,zlr,if_neg (by simp)]);go_wp2_with fail;refine(xJ.out _ HB1.out).mono ?_;rintro e w2 ⟨rfl,au⟩;have HB2:=zh (zkb HB1.out au);have aR:=zh (zkc aB.out au);have r0:=zb au v0;have r2:=zb au v2;have HS2:=zh (HS.out.later HB2.out);clear u0 u1 u2 u3 v0 v2 v3 au;have HR2:=zh (show R=if 0<=iv/\iv<(S.cell id).length then znG S k s nil0.s 0 id iv.toNat else(12,S) by
   rw[HR1.out,znV,if_neg (by simp),vN.out])
  by_cases hr:0<=iv/\iv<((S.cell id).length:Int)
  ·obtain⟨i,rfl⟩:∃i:Nat,iv=i:=⟨iv.toNat,by omega⟩
   have hi:i<(S.cell id).length:=by omega
   have HR3:=zh (show R=znG S k s nil0.s 0 id i by rw[HR2.out,if_pos hr];rfl);obtain⟨⟨c3,hci,hc3⟩,p0,p1⟩:=HS2.out.plc aL hi;have w0:w2.cell? ⟨P.cb id,0,none⟩=some (.slice (some ⟨P.gI id,0,none⟩) (S.cell id).length c3):=by rw[<-hci];exact zc (HS2.out.cbox aL) rfl
   obtain⟨m,hm⟩:=zX ((S.cell id).length);have HM:=zh hm;rw[hm]at w0;have hi1:¬ (i:Int)<0:=by omega
   have hi2:¬ (m:Int)<=(i:Int):=by omega
   have hi3:(i:Int)<(m:Int):=by omega
   clear HR1 HR2 hr hci hc3 hm;by_cases h45:k=44\/k=45
   ·obtain⟨ak,hs1,hs2⟩:=hst h45;have hne:=dJ.out.ne hs2 HS.out.wf hkp;have HR4:=zh (show R=znB S k id i ak by
     rw[HR3.out,znG,if_neg (by omega),if_neg (by omega),if_pos h45,hs1])
    have HMV:=zh (fun W' (hb:Below W.heap.size W W')=>zwl (HS.out.later hb) k h45 id i ak aL hi hs2 hne);have rz:=zh (fun W' (hb:Below W.heap.size W W')=>zmq (HS.out.later hb) s ak hs1);have kk:(k==44||k==45)=true:=by rcases h45 with rfl|rfl<;>rfl
    clear hs1 hs2 HR3 vN;rcases h45 with rfl|rfl
    ·skip
     go_upto_region 34 with fail;have hSS:zW (fun w':World=>zv w' W.heap.size 0 (.int .u8 44)/\zv w' W.heap.size 2 (.string s)) zU w2.drew:=⟨⟨r0,r2⟩,trivial⟩
     refine wp_region_noPanic ?_;refine zG hSS 7 ?_;refine zT 0 hSS ?_;refine zT 1 hSS ?_;refine zT 2 hSS ?_;refine zT 3 hSS ?_;refine zT 4 hSS ?_;refine zT 5 hSS ?_;have had:Calls prog 193 [.pointer (some ⟨P.sb,0,none⟩),.string s].toArray w2.drew fun e W'=>∃u,e=.returned u/\u=.pointer (some ⟨P.cb ak,0,none⟩)/\Below w2.drew.heap.size w2.drew W' :=
      (rz.out _ HB2.out.drew).mono fun e W' hh=>⟨_,hh.1,rfl,hh.2⟩
     refine zo 6 fun K hK=>?_;refine zke (by rfl) (.func 193) [.tmp 138,.tmp 140] _ (by rfl) 193 _ zuy (by rfl) _ (by rfl) _ had ?_;rintro v4 w4 ⟨rfl,hb4⟩;have aG:=zh (zkb HB2.out.drew hb4);have t0':=zb hb4 (show w2.drew.cell? _=_ from r0);have t2':=zb hb4 (show w2.drew.cell? _=_ from r2);refine hK.out _ _ ⟨⟨t0',t2'⟩,trivial⟩ ?_;clear hK K hSS had hb4;(try simp only[zQ]);have had:Calls prog 195 [.int .u8 44,.pointer (some ⟨P.gI id,i,none⟩),.pointer (some ⟨P.cb ak,0,none⟩)].toArray w4 fun e W'=>∃u,e=.returned u/\u=.int .i64 R.1/\∃P',SStp n0 P S w4 P' R.2 W'/\P'.sb=P.sb:=by
      refine(HMV.out _ aG.out).mono ?_;rintro e W' ⟨h1,h2⟩;rw[<-HR4.out]at h1 h2;exact⟨_,h1,rfl,h2⟩
     refine zp 7 fun K hK=>?_;refine zke (by rfl) (.func 195) [.tmp 136,.tmp 137,.tmp 141] _ (by rfl) 195 _ zxL (by rfl) _ (by rfl) _ had ?_;rintro v5 w5 ⟨rfl,P',hs5,wy⟩;have hno:¬ OwnB (rows P S) W.heap.size:=fun⟨q,hq⟩=>by have:=(HS.out.rws.lt q _ hq).2;omega
     have HF:=zh hs5;have HP:=zh wy;have b0:=zkU hs5.st.chg t0' hno;have b2:=zkU hs5.st.chg t2' hno;refine hK.out _ _ ⟨b0,b2⟩ ?_;clear hK K had hs5 wy;(try simp only[zQ]);refine zp 8 fun K hK=>?_;(try simp only[zA,zB,zC]);go_simp;refine hK.out _ _ ⟨b0,b2⟩ ?_;clear hK K;(try simp only[zQ]);refine zd ?_;refine NoPanic.normal ?_;go_wp2_with fail;go_ret;exact⟨rfl,P',⟨HF.out.st.after aG.out HS.out.rws,HF.out.wf⟩,HP.out⟩
    ·skip
     go_upto_region 34 with fail;have hSS:zW (fun w':World=>zv w' W.heap.size 0 (.int .u8 45)/\zv w' W.heap.size 2 (.string s)) zU w2.drew:=⟨⟨r0,r2⟩,trivial⟩
     refine wp_region_noPanic ?_;refine zG hSS 7 ?_;refine zT 0 hSS ?_;refine zT 1 hSS ?_;refine zT 2 hSS ?_;refine zT 3 hSS ?_;refine zT 4 hSS ?_;refine zT 5 hSS ?_;have had:Calls prog 193 [.pointer (some ⟨P.sb,0,none⟩),.string s].toArray w2.drew fun e W'=>∃u,e=.returned u/\u=.pointer (some ⟨P.cb ak,0,none⟩)/\Below w2.drew.heap.size w2.drew W' :=
      (rz.out _ HB2.out.drew).mono fun e W' hh=>⟨_,hh.1,rfl,hh.2⟩
     refine zo 6 fun K hK=>?_;refine zke (by rfl) (.func 193) [.tmp 138,.tmp 140] _ (by rfl) 193 _ zuy (by rfl) _ (by rfl) _ had ?_;rintro v4 w4 ⟨rfl,hb4⟩;have aG:=zh (zkb HB2.out.drew hb4);have t0':=zb hb4 (show w2.drew.cell? _=_ from r0);have t2':=zb hb4 (show w2.drew.cell? _=_ from r2);refine hK.out _ _ ⟨⟨t0',t2'⟩,trivial⟩ ?_;clear hK K hSS had hb4;(try simp only[zQ]);have had:Calls prog 195 [.int .u8 45,.pointer (some ⟨P.gI id,i,none⟩),.pointer (some ⟨P.cb ak,0,none⟩)].toArray w4 fun e W'=>∃u,e=.returned u/\u=.int .i64 R.1/\∃P',SStp n0 P S w4 P' R.2 W'/\P'.sb=P.sb:=by
      refine(HMV.out _ aG.out).mono ?_;rintro e W' ⟨h1,h2⟩;rw[<-HR4.out]at h1 h2;exact⟨_,h1,rfl,h2⟩
     refine zp 7 fun K hK=>?_;refine zke (by rfl) (.func 195) [.tmp 136,.tmp 137,.tmp 141] _ (by rfl) 195 _ zxL (by rfl) _ (by rfl) _ had ?_;rintro v5 w5 ⟨rfl,P',hs5,wy⟩;have hno:¬ OwnB (rows P S) W.heap.size:=fun⟨q,hq⟩=>by have:=(HS.out.rws.lt q _ hq).2;omega
     have HF:=zh hs5;have HP:=zh wy;have b0:=zkU hs5.st.chg t0' hno;have b2:=zkU hs5.st.chg t2' hno;refine hK.out _ _ ⟨b0,b2⟩ ?_;clear hK K had hs5 wy;(try simp only[zQ]);refine zp 8 fun K hK=>?_;(try simp only[zA,zB,zC]);go_simp;refine hK.out _ _ ⟨b0,b2⟩ ?_;clear hK K;(try simp only[zQ]);refine zd ?_;refine NoPanic.normal ?_;go_wp2_with fail;go_ret;exact⟨rfl,P',⟨HF.out.st.after aG.out HS.out.rws,HF.out.wf⟩,HP.out⟩
   ·have yl:k=46\/k=49\/k=47\/k=48:=by omega
    have k44:(k==44)=false:=by simp;omega
    have k45:(k==45)=false:=by simp;omega
    have HR4:=zh (show R=zls S k id i by rw[HR3.out,znG,if_neg (by omega),if_neg (by omega),if_neg h45]);have q9:=zh (zqd HS2.out k yl id i aL hi);rw[<-HR4.out]at q9;clear HR3 p0 p1;go_wp2_with fail;refine q9.out.mono ?_;rintro e w3 ⟨rfl,P',hs3,hp3⟩;have HF:=zh hs3;have HP:=zh hp3;clear hs3 hp3;go_wp2_with fail;go_ret;exact⟨rfl,P',⟨HF.out.st.after HB2.out HS.out.rws,HF.out.wf⟩,HP.out⟩
  ·have HN:=zh (show R=(12,S) by rw[HR2.out,if_neg hr]);obtain⟨A3,c3,hci,hc3,bA⟩:=HS2.out.items aL;have w0:w2.cell? ⟨P.cb id,0,none⟩=some (.slice A3 (S.cell id).length c3):=by rw[<-hci];exact zc (HS2.out.cbox aL) rfl
   obtain⟨m,hm⟩:=zX ((S.cell id).length);rw[hm]at w0 hr;clear HR1 HR2 hci hc3 bA hm;by_cases hneg:iv<0
   ·go_wp2_with fail;go_ret;exact⟨by rw[HN.out];rfl,P,by rw[HN.out];exact SStp.refl HS.out HB2.out,rfl⟩
   ·have hge:(m:Int)<=iv:=by omega
    go_wp2_with fail;go_ret;exact⟨by rw[HN.out];rfl,P,by rw[HN.out];exact SStp.refl HS.out HB2.out,rfl⟩
 ·have HN:=zh (show R=(ie,S) by rw[kN.out,zlr,if_pos he]);have e1:(ie==0)=false:=by simpa using he
  have e2:(ie != 0)=true:=by simpa using he
  clear he;go_wp2_with fail;go_ret;exact⟨by rw[HN.out];rfl,P,by rw[HN.out];exact SStp.refl HS.out HB1.out,rfl⟩
theorem zwB:IsFn prog 194 f194:=⟨func194,by kernel_rfl,by kernel_rfl⟩
theorem zz5(a:Addr):a.add (1*4)=⟨a.block,a.off+4,none⟩:=by unfold Addr.add;split<;>simp_all
theorem zwQ{W:World}{n0:Nat}{P:Ph}{S:ST}(h:SR W n0 P S)(k n:Int)(s:ByteArray)(p q:T)(v:Value)(hv:NV W Any (.nd k n s [p,q]) v)(hk:k=40\/k=41\/k=42)(id:Nat)(hid:S.num p.s=some id)(kp:Int)(hck:CurK S id kp) :
  Calls prog 172 #[.pointer (some ⟨P.sb,0,none⟩),v] W fun e W'=>e=.returned (.int .i64 (zlr S k s p q (indE S.look p) (zlP S.look q)).1)/\∃P',SStp n0 P S W P' (zlr S k s p q (indE S.look p) (zlP S.look q)).2 W'/\P'.sb=P.sb:=by
 obtain⟨A,c,rfl,hf,hlk,hlc,hrow⟩:=hv.open_;simp only[T.k_nd,T.n_nd,T.s_nd,T.ks_nd]at *
 obtain⟨R,hR⟩:=zX (zlr S k s p q (indE S.look p) (zlP S.look q));rw[hR];have HRR:=zh hR;have HS:=zh h;have HL:=zh (zuc n0 P S h.wf);obtain⟨a,t0,A2,c2,rfl,_,Ht,h4,hn0⟩:=hrow.nd (i:=0) (by simp);obtain⟨a',t1,A3,c3,ea,_,Hu,h5,hn1⟩:=hrow.nd (i:=1) (by simp);injection ea with ea;subst ea;have ha:a.add (1*4)=⟨a.block,a.off+4,none⟩:=zz5 a;rw[ha]at h5;have ht0:t0=p:=Ht.out.symm;subst ht0;have ht1:t1=q:=Hu.out.symm;subst ht1;simp only[Nat.zero_mul,Nat.one_mul,Addr.add_zero',List.length_cons,List.length_nil,Nat.zero_add,Nat.reduceAdd]at *
 have hbx:=box4 (heap_alloc_new W (.cells #[.int .u8 k,.int .i64 n,.string s,.slice (some a) 2 c] 41));have aC:=zh (heap_alloc_new W (.cells #[.int .u8 k,.int .i64 n,.string s,.slice (some a) 2 c] 41));obtain⟨W0,hW0⟩:=zX (W.alloc (.cells #[.int .u8 k,.int .i64 n,.string s,.slice (some a) 2 c] 41));have q0:Below W.heap.size W W0:=hW0▸zka zr _;rw[hW0]at hbx aC;have gV:=zh q0;have H4:=zh h4;have H5:=zh h5;have g4:=znn q0 h4;obtain⟨z0,z1,z2,z3⟩:=g4;obtain⟨⟨iv,ie⟩,hiv⟩:=zX (indE S.look t0);obtain⟨⟨jv,je⟩,di⟩:=zX (zlP S.look t1);have rJ:=zh (znp HL.out t0 _ W0 (hn0.later q0) (h.later q0));rw[hiv]at rJ;have BQ:=zh (show ∀W',Below W.heap.size W W'->Calls prog 167 #[nv t1.k t1.n t1.s A3 t1.ks.length c3,.func (.func 190) #[.pointer (some ⟨P.sb,0,none⟩)] #[]] W' (NumE (jv,je) W')from fun W' hb=>di▸zp6 HL.out t1 _ W' (hn1.later hb) (h.later hb))
 have kN:=zh (show R=zlr S k s t0 t1 (iv,ie) (jv,je) by rw[<-hR,hiv,di]);have xJ:=zh (fun W' (hb:Below W.heap.size W W')=>zmq (h.later hb) t0.s id hid);obtain⟨x0,x1,x2,x3⟩:=hbx;have aL:=hck.lt h.wf;have vN:=zh hid;clear hR hiv di hv hn0 hn1 hrow hlk hlc q0 hf hck hid h4 h5;clear h;have k43:(k==43)=false:=by simp;omega
 obtain⟨kk,hkk⟩:∃x,x=k:=⟨_,rfl⟩
 have vB:=zh (fun x w=>zs6 kk x jv (hkk▸hk) w);go_enter func172,ntmps172;go_wp2_with fail;refine rJ.out.mono ?_;rintro e w1 ⟨rfl,ae⟩;have HB1:=zh (zkb gV.out ae);have aB:=zh (zkc aC.out ae);have v0:=zb ae x0;have v3:=zb ae x3;obtain⟨y0,y1,y2,y3⟩:=znn HB1.out H5.out;clear ae z0 z1 z2 z3 x0 x1 x2 x3;dsimp only;by_cases he:ie=0
 ·subst he;have HR1:=zh (show R=znV S k s t0.s t1.s iv (jv,je) by rw[kN.out,zlr,if_neg (by simp)]);rcases hk with rfl|rfl|rfl
  all_goals
    go_wp2_with fail;refine(BQ.out _ HB1.out).mono ?_;rintro e w2 ⟨rfl,au⟩;have HB2:=zh (zkb HB1.out au);have aR:=zh (zkc aB.out au);have r0:=zb au v0;have r3:=zb au v3;obtain⟨z0,z1,z2,z3⟩:=znn HB2.out H4.out;clear au y0 y1 y2 y3 v0 v3;dsimp only;by_cases mg:je=0
    ·subst mg;go_wp2_with fail;refine(xJ.out _ HB2.out).mono ?_;rintro e w3 ⟨rfl,bW⟩;have HB3:=zh (zkb HB2.out bW);have Hkk:=zh (zkc aR.out bW);have s0:=zb bW r0;have s3:=zb bW r3;have HS2:=zh (HS.out.later HB3.out);clear r0 r3 bW z0 z1 z2 z3;have HR2:=zh (show R=if 0<=iv/\iv<(S.cell id).length then znG S kk s t1.s jv id iv.toNat else(12,S) by
      rw[HR1.out,znV,if_neg (by simp),vN.out,hkk])
     by_cases hr:0<=iv/\iv<((S.cell id).length:Int)
     ·obtain⟨i,rfl⟩:∃i:Nat,iv=i:=⟨iv.toNat,by omega⟩
      have hi:i<(S.cell id).length:=by omega
      have HR3:=zh (show R=(0,S.put id i (updE kk (S.el id i) jv)) by rw[HR2.out,if_pos hr,znG,if_pos (by omega)];rfl);obtain⟨⟨c4,hci,hc4⟩,p0,p1⟩:=HS2.out.plc aL hi;have w0:w3.cell? ⟨P.cb id,0,none⟩=some (.slice (some ⟨P.gI id,0,none⟩) (S.cell id).length c4):=by rw[<-hci];exact zc (HS2.out.cbox aL) rfl
      have mZ:=zh (fun W' (hb:Below W.heap.size W W')=>(HS.out.later hb).put aL hi (updE kk (S.el id i) jv) (zx5 _ _ _));obtain⟨x,hx⟩:=zX (S.el id i);rw[hx]at p0 HR3 mZ;obtain⟨m,hm⟩:=zX ((S.cell id).length);rw[hm]at w0;have hi1:¬ (i:Int)<0:=by omega
      have hi2:¬ (m:Int)<=(i:Int):=by omega
      have hi3:(i:Int)<(m:Int):=by omega
      clear HR1 HR2 hr hci hc4 hm hx;obtain⟨U,hU⟩:=zX (updE kk x jv);rw[hU]at HR3 mZ;have HUU:=zh (hU▸vB.out x);clear hU;have s0':w3.cell? ⟨W.heap.size,0,none⟩=some (.int .u8 kk):=by rw[hkk];exact s0
      clear hkk;go_upto_region 22 with fail;have hSS:zW (fun w':World=>zv w' W.heap.size 0 (.int .u8 kk)/\zv w' (P.gI id) i (.int .i64 x)) zU w3.drew:=⟨⟨s0',p0⟩,trivial⟩
      refine wp_region_noPanic ?_;refine zG hSS 11 ?_;refine zT 0 hSS ?_;refine zT 1 hSS ?_;refine zT 2 hSS ?_;refine zT 3 hSS ?_;refine zT 4 hSS ?_;refine zT 5 hSS ?_;have had:Calls prog 194 [.int .u8 kk,.int .i64 x,.int .i64 jv].toArray w3.drew fun e W'=>∃u,e=.returned u/\u=.tuple #[.int .i64 U,.int .i64 0]/\W'=w3.drew :=
       (HUU.out w3.drew).mono fun e W' hh=>⟨_,hh.1,rfl,hh.2⟩
      refine zo 6 fun K hK=>?_;refine zke (by rfl) (.func 194) [.tmp 86,.tmp 89,.tmp 90] _ (by rfl) 194 _ zwB (by rfl) _ (by rfl) _ had ?_;rintro v4 w4 ⟨rfl,rfl⟩;refine hK.out _ _ hSS ?_;clear hK K had;(try simp only[zQ]);refine zT 7 hSS ?_;refine zT 8 hSS ?_;refine zT 9 hSS ?_;refine zT 10 hSS ?_;refine zp 11 fun K hK=>?_;(try simp only[zA,zB,zC]);go_simp;refine hK.out _ _ hSS.1 ?_;clear hK K hSS;(try simp only[zQ]);refine zd ?_;refine NoPanic.normal ?_;go_wp2_with fail;go_ret;refine⟨by rw[HR3.out];rfl,P,?_,rfl⟩;rw[HR3.out];have:=mZ.out _ HB3.out.drew;exact⟨this.st.after HB3.out.drew HS.out.rws,this.wf⟩
     ·skip
      have HN:=zh (show R=(12,S) by rw[HR2.out,if_neg hr]);obtain⟨A3,c3,hci,hc3,bA⟩:=HS2.out.items aL;have w0:w3.cell? ⟨P.cb id,0,none⟩=some (.slice A3 (S.cell id).length c3):=by rw[<-hci];exact zc (HS2.out.cbox aL) rfl
      obtain⟨m,hm⟩:=zX ((S.cell id).length);rw[hm]at w0 hr;clear HR2 hci hc3 bA hm;by_cases hneg:iv<0
      ·go_wp2_with fail;go_ret;exact⟨by rw[HN.out];rfl,P,by rw[HN.out];exact SStp.refl HS.out HB3.out,rfl⟩
      ·have hge:(m:Int)<=iv:=by omega
       go_wp2_with fail;go_ret;exact⟨by rw[HN.out];rfl,P,by rw[HN.out];exact SStp.refl HS.out HB3.out,rfl⟩
    ·skip
     have HN:=zh (show R=(je,S) by rw[HR1.out,znV,if_pos mg]);have e1:(je==0)=false:=by simpa using mg
     have e2:(je != 0)=true:=by simpa using mg
     clear mg;go_wp2_with fail;go_ret;exact⟨by rw[HN.out];rfl,P,by rw[HN.out];exact SStp.refl HS.out HB2.out,rfl⟩
 ·skip
  have HN:=zh (show R=(ie,S) by rw[kN.out,zlr,if_pos he]);have e1:(ie==0)=false:=by simpa using he
  have e2:(ie != 0)=true:=by simpa using he
  clear he;go_wp2_with fail;go_ret;exact⟨by rw[HN.out];rfl,P,by rw[HN.out];exact SStp.refl HS.out HB1.out,rfl⟩
theorem zuJ{W:World}{n0:Nat}{P:Ph}{S:ST}(h:SR W n0 P S)(k n:Int)(s:ByteArray)(p q:T)(v:Value)(hv:NV W Any (.nd k n s [p,q]) v)(hk:k=43)(id:Nat)(hid:S.num p.s=some id)(kp:Int)(hck:CurK S id kp)(jd:Nat)(hjd:S.num q.s=some jd)(kq:Int)(hcq:CurK S jd kq) :
  Calls prog 172 #[.pointer (some ⟨P.sb,0,none⟩),v] W fun e W'=>e=.returned (.int .i64 (zlr S k s p q (indE S.look p) (indE S.look q)).1)/\∃P',SStp n0 P S W P' (zlr S k s p q (indE S.look p) (indE S.look q)).2 W'/\P'.sb=P.sb:=by
 obtain⟨A,c,rfl,hf,hlk,hlc,hrow⟩:=hv.open_;simp only[T.k_nd,T.n_nd,T.s_nd,T.ks_nd]at *
 obtain⟨R,hR⟩:=zX (zlr S k s p q (indE S.look p) (indE S.look q));rw[hR];have HRR:=zh hR;have HS:=zh h;have HL:=zh (zuc n0 P S h.wf);obtain⟨a,t0,A2,c2,rfl,_,Ht,h4,hn0⟩:=hrow.nd (i:=0) (by simp);obtain⟨a',t1,A3,c3,ea,_,Hu,h5,hn1⟩:=hrow.nd (i:=1) (by simp);injection ea with ea;subst ea;have ha:a.add (1*4)=⟨a.block,a.off+4,none⟩:=zz5 a;rw[ha]at h5;have ht0:t0=p:=Ht.out.symm;subst ht0;have ht1:t1=q:=Hu.out.symm;subst ht1;simp only[Nat.zero_mul,Nat.one_mul,Addr.add_zero',List.length_cons,List.length_nil,Nat.zero_add,Nat.reduceAdd]at *
 have hbx:=box4 (heap_alloc_new W (.cells #[.int .u8 k,.int .i64 n,.string s,.slice (some a) 2 c] 41));have aC:=zh (heap_alloc_new W (.cells #[.int .u8 k,.int .i64 n,.string s,.slice (some a) 2 c] 41));obtain⟨W0,hW0⟩:=zX (W.alloc (.cells #[.int .u8 k,.int .i64 n,.string s,.slice (some a) 2 c] 41));have q0:Below W.heap.size W W0:=hW0▸zka zr _;rw[hW0]at hbx aC;have gV:=zh q0;have H4:=zh h4;have H5:=zh h5;have g4:=znn q0 h4;obtain⟨z0,z1,z2,z3⟩:=g4;obtain⟨⟨iv,ie⟩,hiv⟩:=zX (indE S.look t0);obtain⟨⟨jv,je⟩,di⟩:=zX (indE S.look t1);have rJ:=zh (znp HL.out t0 _ W0 (hn0.later q0) (h.later q0));rw[hiv]at rJ;have BQ:=zh (show ∀W',Below W.heap.size W W'->Calls prog 165 #[nv t1.k t1.n t1.s A3 t1.ks.length c3,.func (.func 190) #[.pointer (some ⟨P.sb,0,none⟩)] #[]] W' (NumE (jv,je) W')from fun W' hb=>di▸znp HL.out t1 _ W' (hn1.later hb) (h.later hb))
 have kN:=zh (show R=zlr S k s t0 t1 (iv,ie) (jv,je) by rw[<-hR,hiv,di]);have xJ:=zh (fun W' (hb:Below W.heap.size W W')=>zmq (h.later hb) t0.s id hid);obtain⟨x0,x1,x2,x3⟩:=hbx;have aL:=hck.lt h.wf;have vN:=zh hid;clear hR hiv di hv hn0 hn1 hrow hlk hlc q0 hf hck hid h4 h5;have jl:=hcq.lt h.wf;have HCQ:=zh (fun W' (hb:Below W.heap.size W W')=>zmq (h.later hb) t1.s jd hjd);have HJD:=zh hjd;subst hk;clear h hcq hjd;go_enter func172,ntmps172;go_wp2_with fail;refine rJ.out.mono ?_;rintro e w1 ⟨rfl,ae⟩;have HB1:=zh (zkb gV.out ae);have aB:=zh (zkc aC.out ae);have v0:=zb ae x0;have v3:=zb ae x3;obtain⟨y0,y1,y2,y3⟩:=znn HB1.out H5.out;clear ae z0 z1 z2 z3 x0 x1 x2 x3;dsimp only;by_cases he:ie=0
 ·subst he;have HR1:=zh (show R=znV S 43 s t0.s t1.s iv (jv,je) by rw[kN.out,zlr,if_neg (by simp)]);go_wp2_with fail;refine(BQ.out _ HB1.out).mono ?_;rintro e w2 ⟨rfl,au⟩;have HB2:=zh (zkb HB1.out au);have aR:=zh (zkc aB.out au);have r0:=zb au v0;have r3:=zb au v3;obtain⟨z0,z1,z2,z3⟩:=znn HB2.out H4.out;clear au y0 y1 y2 y3 v0 v3;dsimp only;by_cases mg:je=0
  ·subst mg;go_wp2_with fail;refine(xJ.out _ HB2.out).mono ?_;rintro e w3 ⟨rfl,bW⟩;have HB3:=zh (zkb HB2.out bW);have H43:=zh (zkc aR.out bW);have s0:=zb bW r0;have s3:=zb bW r3;have HS2:=zh (HS.out.later HB3.out);clear r0 r3 bW z0 z1 z2 z3;have HR2:=zh (show R=if 0<=iv/\iv<(S.cell id).length then znG S 43 s t1.s jv id iv.toNat else(12,S) by
    rw[HR1.out,znV,if_neg (by simp),vN.out])
   by_cases hr:0<=iv/\iv<((S.cell id).length:Int)
   ·obtain⟨i,rfl⟩:∃i:Nat,iv=i:=⟨iv.toNat,by omega⟩
    have hi:i<(S.cell id).length:=by omega
    have HR3:=zh (show R=if 0<=jv/\jv<(S.cell jd).length then(0,zvY S id i jd jv.toNat)else(12,S) by
     rw[HR2.out,if_pos hr,znG,if_neg (by decide),if_pos rfl,HJD.out];rfl)
    obtain⟨⟨c4,hci,hc4⟩,p0,p1⟩:=HS2.out.plc aL hi;have w0:w3.cell? ⟨P.cb id,0,none⟩=some (.slice (some ⟨P.gI id,0,none⟩) (S.cell id).length c4):=by rw[<-hci];exact zc (HS2.out.cbox aL) rfl
    obtain⟨m,hm⟩:=zX ((S.cell id).length);rw[hm]at w0;have hi1:¬ (i:Int)<0:=by omega
    have hi2:¬ (m:Int)<=(i:Int):=by omega
    have hi3:(i:Int)<(m:Int):=by omega
    obtain⟨y0,y1,y2,y3⟩:=znn HB3.out H5.out;clear HR1 HR2 hr hci hc4 hm p0 p1;go_wp2_with fail;refine(HCQ.out _ HB3.out).mono ?_;rintro e w4 ⟨rfl,wR⟩;have aG:=zh (zkb HB3.out wR);have kM:=zh (HS.out.later aG.out);clear wR y0 y1 y2 y3 w0;by_cases hr2:0<=jv/\jv<((S.cell jd).length:Int)
    ·obtain⟨j,rfl⟩:∃j:Nat,jv=j:=⟨jv.toNat,by omega⟩
     have hj:j<(S.cell jd).length:=by omega
     have HR4:=zh (show R=(0,zvY S id i jd j) by rw[HR3.out,if_pos hr2];rfl);obtain⟨-,p0,p1⟩:=kM.out.plc aL hi;obtain⟨⟨c5,hcj,bQ⟩,q0,q1⟩:=kM.out.plc jl hj;have w5:w4.cell? ⟨P.cb jd,0,none⟩=some (.slice (some ⟨P.gI jd,0,none⟩) (S.cell jd).length c5):=by rw[<-hcj];exact zc (kM.out.cbox jl) rfl
     have s1:=(kM.out.later zr.drew).put aL hi (S.el jd j) (zqI HS.out.wf jl j);have hj':j<((S.put id i (S.el jd j)).cell jd).length:=by
      simp only[ST.put,ST.setL]
      split
      ·next e=>rw[List.length_set,<-e];exact hj
      ·exact hj
     obtain⟨-,g0,g1⟩:=s1.sr.plc (id:=jd) (i:=j) jl hj';have s2:=s1.sr.put (id:=jd) (i:=j) jl hj' (S.el id i) (zqI HS.out.wf aL i);have aS:=zh (s1.trans s2);obtain⟨xi,hxi⟩:=zX (S.el id i);obtain⟨xj,hxj⟩:=zX (S.el jd j);rw[hxi]at p0 aS;rw[hxj]at q0 g0 g1 aS;have kP:=zh (show R=(0,(S.put id i xj).put jd j xi) by rw[HR4.out,zvY,hxi,hxj]);obtain⟨y,hy⟩:=zX ((S.put id i xj).el jd j);rw[hy]at g0;obtain⟨m2,hm2⟩:=zX ((S.cell jd).length);rw[hm2]at w5;have hj1:¬ (j:Int)<0:=by omega
     have hj2:¬ (m2:Int)<=(j:Int):=by omega
     have xX:(j:Int)<(m2:Int):=by omega
     clear HR3 HR4 hr2 hcj bQ hm2 s1 s2 hxi hxj hy;go_upto_region 30 with fail;have hSS:zU w4.drew/\(fun w':World=>zv w' (P.gI id) i (.int .i64 xi)/\zv w' (P.gI jd) j (.int .i64 xj)) w4.drew:=⟨trivial,p0,q0⟩
     refine wp_region_noPanic ?_;refine zkk zU (fun w':World=>zv w' (P.gI id) i (.int .i64 xi)/\zv w' (P.gI jd) j (.int .i64 xj)) 11 (by kernel_rfl) ?_;refine zT 0 hSS ?_;refine zT 1 hSS ?_;refine zT 2 hSS ?_;refine zT 3 hSS ?_;refine zT 4 hSS ?_;refine zT 5 hSS ?_;refine zJ 6 hSS ?_;refine zT 7 hSS ?_;refine zT 8 hSS ?_;refine zJ 9 hSS ?_;refine zo 10 fun K hK=>?_;(try simp only[zA,zB,zC]);go_simp;refine hK.out _ _ hSS ?_;clear hK K;(try simp only[zQ]);refine zp 11 fun K hK=>?_;(try simp only[zA,zB,zC]);have p1':w4.drew.frozen? ⟨P.gI id,i,none⟩=false:=p1;have p0':w4.drew.cell? ⟨P.gI id,i,none⟩=some (.int .i64 xi):=p0;go_simp;refine hK.out _ _ trivial ?_;clear hK K hSS;(try simp only[zQ]);have g0':(w4.setCell ⟨P.gI id,i,none⟩ (.int .i64 xj)).cell? ⟨P.gI jd,j,none⟩=some (.int .i64 y):=g0;have g1':(w4.setCell ⟨P.gI id,i,none⟩ (.int .i64 xj)).frozen? ⟨P.gI jd,j,none⟩=false:=g1
     refine zp 12 fun K hK=>?_;(try simp only[zA,zB,zC]);go_simp;refine hK.out _ _ trivial ?_;clear hK K;(try simp only[zQ]);refine zp 13 fun K hK=>?_;(try simp only[zA,zB,zC]);go_simp;refine hK.out _ _ trivial ?_;clear hK K;(try simp only[zQ]);refine zd ?_;refine NoPanic.normal ?_;clear p0 p1 p0' p1' q0 q1 g0 g1 g0' g1';go_wp2_with fail;go_ret;refine⟨by rw[kP.out];rfl,P,?_,rfl⟩;rw[kP.out];exact⟨aS.out.st.after aG.out.drew HS.out.rws,aS.out.wf⟩
    ·have HN:=zh (show R=(12,S) by rw[HR3.out,if_neg hr2]);obtain⟨A5,c5,hcj,bQ,hrj⟩:=kM.out.items jl;have w5:w4.cell? ⟨P.cb jd,0,none⟩=some (.slice A5 (S.cell jd).length c5):=by rw[<-hcj];exact zc (kM.out.cbox jl) rfl
     obtain⟨m2,hm2⟩:=zX ((S.cell jd).length);rw[hm2]at w5 hr2;clear HR3 hcj bQ hrj hm2;by_cases hneg:jv<0
     ·go_wp2_with fail;go_ret;exact⟨by rw[HN.out];rfl,P,by rw[HN.out];exact SStp.refl HS.out aG.out,rfl⟩
     ·have hge:(m2:Int)<=jv:=by omega
      go_wp2_with fail;go_ret;exact⟨by rw[HN.out];rfl,P,by rw[HN.out];exact SStp.refl HS.out aG.out,rfl⟩
   ·skip
    have HN:=zh (show R=(12,S) by rw[HR2.out,if_neg hr]);obtain⟨A3,c3,hci,hc3,bA⟩:=HS2.out.items aL;have w0:w3.cell? ⟨P.cb id,0,none⟩=some (.slice A3 (S.cell id).length c3):=by rw[<-hci];exact zc (HS2.out.cbox aL) rfl
    obtain⟨m,hm⟩:=zX ((S.cell id).length);rw[hm]at w0 hr;clear HR2 hci hc3 bA hm;by_cases hneg:iv<0
    ·go_wp2_with fail;go_ret;exact⟨by rw[HN.out];rfl,P,by rw[HN.out];exact SStp.refl HS.out HB3.out,rfl⟩
    ·have hge:(m:Int)<=iv:=by omega
     go_wp2_with fail;go_ret;exact⟨by rw[HN.out];rfl,P,by rw[HN.out];exact SStp.refl HS.out HB3.out,rfl⟩
  ·skip
   have HN:=zh (show R=(je,S) by rw[HR1.out,znV,if_pos mg]);have e1:(je==0)=false:=by simpa using mg
   have e2:(je != 0)=true:=by simpa using mg
   clear mg;go_wp2_with fail;go_ret;exact⟨by rw[HN.out];rfl,P,by rw[HN.out];exact SStp.refl HS.out HB2.out,rfl⟩
 ·skip
  have HN:=zh (show R=(ie,S) by rw[kN.out,zlr,if_pos he]);have e1:(ie==0)=false:=by simpa using he
  have e2:(ie != 0)=true:=by simpa using he
  clear he;go_wp2_with fail;go_ret;exact⟨by rw[HN.out];rfl,P,by rw[HN.out];exact SStp.refl HS.out HB1.out,rfl⟩
end
section
open Go.RowKit
def zlW(t:T):Prop:=∀(v:Value) (w:World),NV w Any t v->Calls prog 121 #[v] w fun e w'=>e=.returned (.bool (isS t))/\Below w.heap.size w w'
def zlp(t:T):Prop:=∀(v:Value) (w:World),NV w Any t v->Calls prog 109 #[v] w fun e w'=>e=.returned (.bool (isB t))/\Below w.heap.size w w'
theorem zvC(n:Int)(s:ByteArray)(ks:List T)(aN:∀t∈ks,zlp t):zlW (.nd 40 n s ks):=by
 intro v w hv;have HX:=zh (show isS (.nd 40 n s ks)=(zkr n s&&zkG 2 (fun i=>if i=0 then isP else isE) ks) by simp[isS]);have IH:=zh aN;have HV:=zh hv;obtain⟨Ad,c,rfl,hf,hlk,hlc,hrow⟩:=hv.open_;simp only[T.k_nd,T.n_nd,T.s_nd,T.ks_nd]at *
 have aA:=zkI hlk;clear hf hv hlk hrow hlc aN;by_cases hnb:zkr n s=true
 ·go_enter func121,ntmps121;go_wp2_with fail;refine(zkn _ _ _ _ _ _ _).mono ?_;rintro e w1 ⟨rfl,hb1⟩;obtain⟨hc1,hf1⟩:=zly hb1;have hbb:Below w.heap.size w w1:=zAB hb1;go_wp2_with fail;refine(zkM (.nd 40 n s ks) _ _ (HV.out.later (hbb.alloc hbb.size _)) _ 2 (fun i=>if i=0 then 161 else 162) (fun i=>if i=0 then f161 else f162) (fun i=>if i=0 then isP else isE) (by decide) (by simp) (fun i hi=>zmj (by rcases i with _|_|_|_|i<;>first|omega|rfl)) (fun i hi=>by rcases i with _|i;exact zk0;exact zkZ) (fun hl i hi=>by rcases i with _|i;exact zkL _;exact zkJ _)).mono ?_;rintro e w2 ⟨rfl,hb2⟩;have hbc:Below w.heap.size w w2:=zAC hbb hb2;go_wp2_with fail;go_ret;exact⟨by rw[HX.out];simp[*],hbc⟩
 ·have hnb':zkr n s=false:=by simpa using hnb
  clear hnb;go_enter func121,ntmps121;go_wp2_with fail;refine(zkn _ _ _ _ _ _ _).mono ?_;rintro e w1 ⟨rfl,hb1⟩;have hbb:Below w.heap.size w w1:=zAB hb1;go_wp2_with fail;go_ret;exact⟨by rw[HX.out];simp[*],hbb⟩
theorem zvB(n:Int)(s:ByteArray)(ks:List T)(aN:∀t∈ks,zlp t):zlW (.nd 41 n s ks):=by
 intro v w hv;have HX:=zh (show isS (.nd 41 n s ks)=(zkr n s&&zkG 2 (fun i=>if i=0 then isP else isE) ks) by simp[isS]);have IH:=zh aN;have HV:=zh hv;obtain⟨Ad,c,rfl,hf,hlk,hlc,hrow⟩:=hv.open_;simp only[T.k_nd,T.n_nd,T.s_nd,T.ks_nd]at *
 have aA:=zkI hlk;clear hf hv hlk hrow hlc aN;by_cases hnb:zkr n s=true
 ·go_enter func121,ntmps121;go_wp2_with fail;refine(zkn _ _ _ _ _ _ _).mono ?_;rintro e w1 ⟨rfl,hb1⟩;obtain⟨hc1,hf1⟩:=zly hb1;have hbb:Below w.heap.size w w1:=zAB hb1;go_wp2_with fail;refine(zkM (.nd 41 n s ks) _ _ (HV.out.later (hbb.alloc hbb.size _)) _ 2 (fun i=>if i=0 then 161 else 162) (fun i=>if i=0 then f161 else f162) (fun i=>if i=0 then isP else isE) (by decide) (by simp) (fun i hi=>zmj (by rcases i with _|_|_|_|i<;>first|omega|rfl)) (fun i hi=>by rcases i with _|i;exact zk0;exact zkZ) (fun hl i hi=>by rcases i with _|i;exact zkL _;exact zkJ _)).mono ?_;rintro e w2 ⟨rfl,hb2⟩;have hbc:Below w.heap.size w w2:=zAC hbb hb2;go_wp2_with fail;go_ret;exact⟨by rw[HX.out];simp[*],hbc⟩
 ·have hnb':zkr n s=false:=by simpa using hnb
  clear hnb;go_enter func121,ntmps121;go_wp2_with fail;refine(zkn _ _ _ _ _ _ _).mono ?_;rintro e w1 ⟨rfl,hb1⟩;have hbb:Below w.heap.size w w1:=zAB hb1;go_wp2_with fail;go_ret;exact⟨by rw[HX.out];simp[*],hbb⟩
theorem zvA(n:Int)(s:ByteArray)(ks:List T)(aN:∀t∈ks,zlp t):zlW (.nd 42 n s ks):=by
 intro v w hv;have HX:=zh (show isS (.nd 42 n s ks)=(zkr n s&&zkG 2 (fun i=>if i=0 then isP else isE) ks) by simp[isS]);have IH:=zh aN;have HV:=zh hv;obtain⟨Ad,c,rfl,hf,hlk,hlc,hrow⟩:=hv.open_;simp only[T.k_nd,T.n_nd,T.s_nd,T.ks_nd]at *
 have aA:=zkI hlk;clear hf hv hlk hrow hlc aN;by_cases hnb:zkr n s=true
 ·go_enter func121,ntmps121;go_wp2_with fail;refine(zkn _ _ _ _ _ _ _).mono ?_;rintro e w1 ⟨rfl,hb1⟩;obtain⟨hc1,hf1⟩:=zly hb1;have hbb:Below w.heap.size w w1:=zAB hb1;go_wp2_with fail;refine(zkM (.nd 42 n s ks) _ _ (HV.out.later (hbb.alloc hbb.size _)) _ 2 (fun i=>if i=0 then 161 else 162) (fun i=>if i=0 then f161 else f162) (fun i=>if i=0 then isP else isE) (by decide) (by simp) (fun i hi=>zmj (by rcases i with _|_|_|_|i<;>first|omega|rfl)) (fun i hi=>by rcases i with _|i;exact zk0;exact zkZ) (fun hl i hi=>by rcases i with _|i;exact zkL _;exact zkJ _)).mono ?_;rintro e w2 ⟨rfl,hb2⟩;have hbc:Below w.heap.size w w2:=zAC hbb hb2;go_wp2_with fail;go_ret;exact⟨by rw[HX.out];simp[*],hbc⟩
 ·have hnb':zkr n s=false:=by simpa using hnb
  clear hnb;go_enter func121,ntmps121;go_wp2_with fail;refine(zkn _ _ _ _ _ _ _).mono ?_;rintro e w1 ⟨rfl,hb1⟩;have hbb:Below w.heap.size w w1:=zAB hb1;go_wp2_with fail;go_ret;exact⟨by rw[HX.out];simp[*],hbb⟩
theorem zvm(n:Int)(s:ByteArray)(ks:List T)(aN:∀t∈ks,zlp t):zlW (.nd 56 n s ks):=by
 intro v w hv;have HX:=zh (show isS (.nd 56 n s ks)=(zkr n s&&zkG 2 (fun i=>if i=0 then isP else isE) ks) by simp[isS]);have IH:=zh aN;have HV:=zh hv;obtain⟨Ad,c,rfl,hf,hlk,hlc,hrow⟩:=hv.open_;simp only[T.k_nd,T.n_nd,T.s_nd,T.ks_nd]at *
 have aA:=zkI hlk;clear hf hv hlk hrow hlc aN;by_cases hnb:zkr n s=true
 ·go_enter func121,ntmps121;go_wp2_with fail;refine(zkn _ _ _ _ _ _ _).mono ?_;rintro e w1 ⟨rfl,hb1⟩;obtain⟨hc1,hf1⟩:=zly hb1;have hbb:Below w.heap.size w w1:=zAB hb1;go_wp2_with fail;refine(zkM (.nd 56 n s ks) _ _ (HV.out.later (hbb.alloc hbb.size _)) _ 2 (fun i=>if i=0 then 161 else 162) (fun i=>if i=0 then f161 else f162) (fun i=>if i=0 then isP else isE) (by decide) (by simp) (fun i hi=>zmj (by rcases i with _|_|_|_|i<;>first|omega|rfl)) (fun i hi=>by rcases i with _|i;exact zk0;exact zkZ) (fun hl i hi=>by rcases i with _|i;exact zkL _;exact zkJ _)).mono ?_;rintro e w2 ⟨rfl,hb2⟩;have hbc:Below w.heap.size w w2:=zAC hbb hb2;go_wp2_with fail;go_ret;exact⟨by rw[HX.out];simp[*],hbc⟩
 ·have hnb':zkr n s=false:=by simpa using hnb
  clear hnb;go_enter func121,ntmps121;go_wp2_with fail;refine(zkn _ _ _ _ _ _ _).mono ?_;rintro e w1 ⟨rfl,hb1⟩;have hbb:Below w.heap.size w w1:=zAB hb1;go_wp2_with fail;go_ret;exact⟨by rw[HX.out];simp[*],hbb⟩
theorem zvz(n:Int)(s:ByteArray)(ks:List T)(aN:∀t∈ks,zlp t):zlW (.nd 43 n s ks):=by
 intro v w hv;have HX:=zh (show isS (.nd 43 n s ks)=(zkr n s&&zkG 2 (fun _=>isP) ks) by simp[isS]);have IH:=zh aN;have HV:=zh hv;obtain⟨Ad,c,rfl,hf,hlk,hlc,hrow⟩:=hv.open_;simp only[T.k_nd,T.n_nd,T.s_nd,T.ks_nd]at *
 have aA:=zkI hlk;clear hf hv hlk hrow hlc aN;by_cases hnb:zkr n s=true
 ·go_enter func121,ntmps121;go_wp2_with fail;refine(zkn _ _ _ _ _ _ _).mono ?_;rintro e w1 ⟨rfl,hb1⟩;obtain⟨hc1,hf1⟩:=zly hb1;have hbb:Below w.heap.size w w1:=zAB hb1;go_wp2_with fail;refine(zkM (.nd 43 n s ks) _ _ (HV.out.later (hbb.alloc hbb.size _)) _ 2 (fun _=>161) (fun _=>f161) (fun _=>isP) (by decide) (by simp) (fun i hi=>zmj (by rcases i with _|_|_|_|i<;>first|omega|rfl)) (fun _ _=>zk0) (fun hl i hi=>zkL _)).mono ?_;rintro e w2 ⟨rfl,hb2⟩;have hbc:Below w.heap.size w w2:=zAC hbb hb2;go_wp2_with fail;go_ret;exact⟨by rw[HX.out];simp[*],hbc⟩
 ·have hnb':zkr n s=false:=by simpa using hnb
  clear hnb;go_enter func121,ntmps121;go_wp2_with fail;refine(zkn _ _ _ _ _ _ _).mono ?_;rintro e w1 ⟨rfl,hb1⟩;have hbb:Below w.heap.size w w1:=zAB hb1;go_wp2_with fail;go_ret;exact⟨by rw[HX.out];simp[*],hbb⟩
theorem zvy(n:Int)(s:ByteArray)(ks:List T)(aN:∀t∈ks,zlp t):zlW (.nd 44 n s ks):=by
 intro v w hv;have HX:=zh (show isS (.nd 44 n s ks)=(zkC n s&&zkG 1 (fun _=>isP) ks) by simp[isS]);have IH:=zh aN;have HV:=zh hv;obtain⟨Ad,c,rfl,hf,hlk,hlc,hrow⟩:=hv.open_;simp only[T.k_nd,T.n_nd,T.s_nd,T.ks_nd]at *
 have aA:=zkI hlk;clear hf hv hlk hrow hlc aN;by_cases hnb:zkC n s=true
 ·go_enter func121,ntmps121;go_wp2_with fail;refine(zkw _ _ _ _ _ _ _).mono ?_;rintro e w1 ⟨rfl,hb1⟩;obtain⟨hc1,hf1⟩:=zly hb1;have hbb:Below w.heap.size w w1:=zAB hb1;go_wp2_with fail;refine(zkM (.nd 44 n s ks) _ _ (HV.out.later (hbb.alloc hbb.size _)) _ 1 (fun _=>161) (fun _=>f161) (fun _=>isP) (by decide) (by simp) (fun i hi=>zmj (by rcases i with _|_|_|_|i<;>first|omega|rfl)) (fun _ _=>zk0) (fun hl i hi=>zkL _)).mono ?_;rintro e w2 ⟨rfl,hb2⟩;have hbc:Below w.heap.size w w2:=zAC hbb hb2;go_wp2_with fail;go_ret;exact⟨by rw[HX.out];simp[*],hbc⟩
 ·have hnb':zkC n s=false:=by simpa using hnb
  clear hnb;go_enter func121,ntmps121;go_wp2_with fail;refine(zkw _ _ _ _ _ _ _).mono ?_;rintro e w1 ⟨rfl,hb1⟩;have hbb:Below w.heap.size w w1:=zAB hb1;go_wp2_with fail;go_ret;exact⟨by rw[HX.out];simp[*],hbb⟩
theorem zvx(n:Int)(s:ByteArray)(ks:List T)(aN:∀t∈ks,zlp t):zlW (.nd 45 n s ks):=by
 intro v w hv;have HX:=zh (show isS (.nd 45 n s ks)=(zkC n s&&zkG 1 (fun _=>isP) ks) by simp[isS]);have IH:=zh aN;have HV:=zh hv;obtain⟨Ad,c,rfl,hf,hlk,hlc,hrow⟩:=hv.open_;simp only[T.k_nd,T.n_nd,T.s_nd,T.ks_nd]at *
 have aA:=zkI hlk;clear hf hv hlk hrow hlc aN;by_cases hnb:zkC n s=true
 ·go_enter func121,ntmps121;go_wp2_with fail;refine(zkw _ _ _ _ _ _ _).mono ?_;rintro e w1 ⟨rfl,hb1⟩;obtain⟨hc1,hf1⟩:=zly hb1;have hbb:Below w.heap.size w w1:=zAB hb1;go_wp2_with fail;refine(zkM (.nd 45 n s ks) _ _ (HV.out.later (hbb.alloc hbb.size _)) _ 1 (fun _=>161) (fun _=>f161) (fun _=>isP) (by decide) (by simp) (fun i hi=>zmj (by rcases i with _|_|_|_|i<;>first|omega|rfl)) (fun _ _=>zk0) (fun hl i hi=>zkL _)).mono ?_;rintro e w2 ⟨rfl,hb2⟩;have hbc:Below w.heap.size w w2:=zAC hbb hb2;go_wp2_with fail;go_ret;exact⟨by rw[HX.out];simp[*],hbc⟩
 ·have hnb':zkC n s=false:=by simpa using hnb
  clear hnb;go_enter func121,ntmps121;go_wp2_with fail;refine(zkw _ _ _ _ _ _ _).mono ?_;rintro e w1 ⟨rfl,hb1⟩;have hbb:Below w.heap.size w w1:=zAB hb1;go_wp2_with fail;go_ret;exact⟨by rw[HX.out];simp[*],hbb⟩
theorem zvw(n:Int)(s:ByteArray)(ks:List T)(aN:∀t∈ks,zlp t):zlW (.nd 46 n s ks):=by
 intro v w hv;have HX:=zh (show isS (.nd 46 n s ks)=(zkr n s&&zkG 1 (fun _=>isP) ks) by simp[isS]);have IH:=zh aN;have HV:=zh hv;obtain⟨Ad,c,rfl,hf,hlk,hlc,hrow⟩:=hv.open_;simp only[T.k_nd,T.n_nd,T.s_nd,T.ks_nd]at *
 have aA:=zkI hlk;clear hf hv hlk hrow hlc aN;by_cases hnb:zkr n s=true
 ·go_enter func121,ntmps121;go_wp2_with fail;refine(zkn _ _ _ _ _ _ _).mono ?_;rintro e w1 ⟨rfl,hb1⟩;obtain⟨hc1,hf1⟩:=zly hb1;have hbb:Below w.heap.size w w1:=zAB hb1;go_wp2_with fail;refine(zkM (.nd 46 n s ks) _ _ (HV.out.later (hbb.alloc hbb.size _)) _ 1 (fun _=>161) (fun _=>f161) (fun _=>isP) (by decide) (by simp) (fun i hi=>zmj (by rcases i with _|_|_|_|i<;>first|omega|rfl)) (fun _ _=>zk0) (fun hl i hi=>zkL _)).mono ?_;rintro e w2 ⟨rfl,hb2⟩;have hbc:Below w.heap.size w w2:=zAC hbb hb2;go_wp2_with fail;go_ret;exact⟨by rw[HX.out];simp[*],hbc⟩
 ·have hnb':zkr n s=false:=by simpa using hnb
  clear hnb;go_enter func121,ntmps121;go_wp2_with fail;refine(zkn _ _ _ _ _ _ _).mono ?_;rintro e w1 ⟨rfl,hb1⟩;have hbb:Below w.heap.size w w1:=zAB hb1;go_wp2_with fail;go_ret;exact⟨by rw[HX.out];simp[*],hbb⟩
theorem zvv(n:Int)(s:ByteArray)(ks:List T)(aN:∀t∈ks,zlp t):zlW (.nd 47 n s ks):=by
 intro v w hv;have HX:=zh (show isS (.nd 47 n s ks)=(zkr n s&&zkG 1 (fun _=>isP) ks) by simp[isS]);have IH:=zh aN;have HV:=zh hv;obtain⟨Ad,c,rfl,hf,hlk,hlc,hrow⟩:=hv.open_;simp only[T.k_nd,T.n_nd,T.s_nd,T.ks_nd]at *
 have aA:=zkI hlk;clear hf hv hlk hrow hlc aN;by_cases hnb:zkr n s=true
 ·go_enter func121,ntmps121;go_wp2_with fail;refine(zkn _ _ _ _ _ _ _).mono ?_;rintro e w1 ⟨rfl,hb1⟩;obtain⟨hc1,hf1⟩:=zly hb1;have hbb:Below w.heap.size w w1:=zAB hb1;go_wp2_with fail;refine(zkM (.nd 47 n s ks) _ _ (HV.out.later (hbb.alloc hbb.size _)) _ 1 (fun _=>161) (fun _=>f161) (fun _=>isP) (by decide) (by simp) (fun i hi=>zmj (by rcases i with _|_|_|_|i<;>first|omega|rfl)) (fun _ _=>zk0) (fun hl i hi=>zkL _)).mono ?_;rintro e w2 ⟨rfl,hb2⟩;have hbc:Below w.heap.size w w2:=zAC hbb hb2;go_wp2_with fail;go_ret;exact⟨by rw[HX.out];simp[*],hbc⟩
 ·have hnb':zkr n s=false:=by simpa using hnb
  clear hnb;go_enter func121,ntmps121;go_wp2_with fail;refine(zkn _ _ _ _ _ _ _).mono ?_;rintro e w1 ⟨rfl,hb1⟩;have hbb:Below w.heap.size w w1:=zAB hb1;go_wp2_with fail;go_ret;exact⟨by rw[HX.out];simp[*],hbb⟩
theorem zvu(n:Int)(s:ByteArray)(ks:List T)(aN:∀t∈ks,zlp t):zlW (.nd 48 n s ks):=by
 intro v w hv;have HX:=zh (show isS (.nd 48 n s ks)=(zkr n s&&zkG 1 (fun _=>isP) ks) by simp[isS]);have IH:=zh aN;have HV:=zh hv;obtain⟨Ad,c,rfl,hf,hlk,hlc,hrow⟩:=hv.open_;simp only[T.k_nd,T.n_nd,T.s_nd,T.ks_nd]at *
 have aA:=zkI hlk;clear hf hv hlk hrow hlc aN;by_cases hnb:zkr n s=true
 ·go_enter func121,ntmps121;go_wp2_with fail;refine(zkn _ _ _ _ _ _ _).mono ?_;rintro e w1 ⟨rfl,hb1⟩;obtain⟨hc1,hf1⟩:=zly hb1;have hbb:Below w.heap.size w w1:=zAB hb1;go_wp2_with fail;refine(zkM (.nd 48 n s ks) _ _ (HV.out.later (hbb.alloc hbb.size _)) _ 1 (fun _=>161) (fun _=>f161) (fun _=>isP) (by decide) (by simp) (fun i hi=>zmj (by rcases i with _|_|_|_|i<;>first|omega|rfl)) (fun _ _=>zk0) (fun hl i hi=>zkL _)).mono ?_;rintro e w2 ⟨rfl,hb2⟩;have hbc:Below w.heap.size w w2:=zAC hbb hb2;go_wp2_with fail;go_ret;exact⟨by rw[HX.out];simp[*],hbc⟩
 ·have hnb':zkr n s=false:=by simpa using hnb
  clear hnb;go_enter func121,ntmps121;go_wp2_with fail;refine(zkn _ _ _ _ _ _ _).mono ?_;rintro e w1 ⟨rfl,hb1⟩;have hbb:Below w.heap.size w w1:=zAB hb1;go_wp2_with fail;go_ret;exact⟨by rw[HX.out];simp[*],hbb⟩
theorem zvt(n:Int)(s:ByteArray)(ks:List T)(aN:∀t∈ks,zlp t):zlW (.nd 49 n s ks):=by
 intro v w hv;have HX:=zh (show isS (.nd 49 n s ks)=(zkr n s&&zkG 1 (fun _=>isP) ks) by simp[isS]);have IH:=zh aN;have HV:=zh hv;obtain⟨Ad,c,rfl,hf,hlk,hlc,hrow⟩:=hv.open_;simp only[T.k_nd,T.n_nd,T.s_nd,T.ks_nd]at *
 have aA:=zkI hlk;clear hf hv hlk hrow hlc aN;by_cases hnb:zkr n s=true
 ·go_enter func121,ntmps121;go_wp2_with fail;refine(zkn _ _ _ _ _ _ _).mono ?_;rintro e w1 ⟨rfl,hb1⟩;obtain⟨hc1,hf1⟩:=zly hb1;have hbb:Below w.heap.size w w1:=zAB hb1;go_wp2_with fail;refine(zkM (.nd 49 n s ks) _ _ (HV.out.later (hbb.alloc hbb.size _)) _ 1 (fun _=>161) (fun _=>f161) (fun _=>isP) (by decide) (by simp) (fun i hi=>zmj (by rcases i with _|_|_|_|i<;>first|omega|rfl)) (fun _ _=>zk0) (fun hl i hi=>zkL _)).mono ?_;rintro e w2 ⟨rfl,hb2⟩;have hbc:Below w.heap.size w w2:=zAC hbb hb2;go_wp2_with fail;go_ret;exact⟨by rw[HX.out];simp[*],hbc⟩
 ·have hnb':zkr n s=false:=by simpa using hnb
  clear hnb;go_enter func121,ntmps121;go_wp2_with fail;refine(zkn _ _ _ _ _ _ _).mono ?_;rintro e w1 ⟨rfl,hb1⟩;have hbb:Below w.heap.size w w1:=zAB hb1;go_wp2_with fail;go_ret;exact⟨by rw[HX.out];simp[*],hbb⟩
theorem zvq(n:Int)(s:ByteArray)(ks:List T)(aN:∀t∈ks,zlp t):zlW (.nd 52 n s ks):=by
 intro v w hv;have HX:=zh (show isS (.nd 52 n s ks)=(zkr n s&&zkG 4 (pEB 0) ks) by simp[isS,zkG,<-znE]);have IH:=zh aN;have HV:=zh hv;obtain⟨Ad,c,rfl,hf,hlk,hlc,hrow⟩:=hv.open_;simp only[T.k_nd,T.n_nd,T.s_nd,T.ks_nd]at *
 have aA:=zkI hlk;clear hf hv hlk hrow hlc aN;by_cases hnb:zkr n s=true
 ·go_enter func121,ntmps121;go_wp2_with fail;refine(zkn _ _ _ _ _ _ _).mono ?_;rintro e w1 ⟨rfl,hb1⟩;obtain⟨hc1,hf1⟩:=zly hb1;have hbb:Below w.heap.size w w1:=zAB hb1;go_wp2_with fail;refine(zkM (.nd 52 n s ks) _ _ (HV.out.later (hbb.alloc hbb.size _)) _ 4 (fun i=>if i=0\/i=3 then 162 else 109) (fun i=>if i=0\/i=3 then f162 else f109) (pEB 0) (by decide) (by simp) (fun i hi=>zmj (by rcases i with _|_|_|_|i<;>first|omega|rfl)) (fun i hi=>by rcases i with _|_|_|_|i;exact zkZ;exact zl8;exact zl8;exact zkZ;omega) (fun hl i hi=>by rcases i with _|_|_|_|i;exact zkJ _;exact IH.out _ (List.getElem_mem hi);exact IH.out _ (List.getElem_mem hi);exact zkJ _;exact absurd hi (by simp only[T.ks_nd]at hl ⊢;omega))).mono ?_;rintro e w2 ⟨rfl,hb2⟩;have hbc:Below w.heap.size w w2:=zAC hbb hb2;go_wp2_with fail;go_ret
  exact⟨by rw[HX.out];simp[*],hbc⟩
 ·have hnb':zkr n s=false:=by simpa using hnb
  clear hnb;go_enter func121,ntmps121;go_wp2_with fail;refine(zkn _ _ _ _ _ _ _).mono ?_;rintro e w1 ⟨rfl,hb1⟩;have hbb:Below w.heap.size w w1:=zAB hb1;go_wp2_with fail;go_ret;exact⟨by rw[HX.out];simp[*],hbb⟩
theorem zvp(n:Int)(s:ByteArray)(ks:List T)(aN:∀t∈ks,zlp t):zlW (.nd 53 n s ks):=by
 intro v w hv;have HX:=zh (show isS (.nd 53 n s ks)=(zkr n s&&zkG 4 (pEB 0) ks) by simp[isS,zkG,<-znE]);have IH:=zh aN;have HV:=zh hv;obtain⟨Ad,c,rfl,hf,hlk,hlc,hrow⟩:=hv.open_;simp only[T.k_nd,T.n_nd,T.s_nd,T.ks_nd]at *
 have aA:=zkI hlk;clear hf hv hlk hrow hlc aN;by_cases hnb:zkr n s=true
 ·go_enter func121,ntmps121;go_wp2_with fail;refine(zkn _ _ _ _ _ _ _).mono ?_;rintro e w1 ⟨rfl,hb1⟩;obtain⟨hc1,hf1⟩:=zly hb1;have hbb:Below w.heap.size w w1:=zAB hb1;go_wp2_with fail;refine(zkM (.nd 53 n s ks) _ _ (HV.out.later (hbb.alloc hbb.size _)) _ 4 (fun i=>if i=0\/i=3 then 162 else 109) (fun i=>if i=0\/i=3 then f162 else f109) (pEB 0) (by decide) (by simp) (fun i hi=>zmj (by rcases i with _|_|_|_|i<;>first|omega|rfl)) (fun i hi=>by rcases i with _|_|_|_|i;exact zkZ;exact zl8;exact zl8;exact zkZ;omega) (fun hl i hi=>by rcases i with _|_|_|_|i;exact zkJ _;exact IH.out _ (List.getElem_mem hi);exact IH.out _ (List.getElem_mem hi);exact zkJ _;exact absurd hi (by simp only[T.ks_nd]at hl ⊢;omega))).mono ?_;rintro e w2 ⟨rfl,hb2⟩;have hbc:Below w.heap.size w w2:=zAC hbb hb2;go_wp2_with fail;go_ret
  exact⟨by rw[HX.out];simp[*],hbc⟩
 ·have hnb':zkr n s=false:=by simpa using hnb
  clear hnb;go_enter func121,ntmps121;go_wp2_with fail;refine(zkn _ _ _ _ _ _ _).mono ?_;rintro e w1 ⟨rfl,hb1⟩;have hbb:Below w.heap.size w w1:=zAB hb1;go_wp2_with fail;go_ret;exact⟨by rw[HX.out];simp[*],hbb⟩
theorem zvo(n:Int)(s:ByteArray)(ks:List T)(aN:∀t∈ks,zlp t):zlW (.nd 54 n s ks):=by
 intro v w hv;have HX:=zh (show isS (.nd 54 n s ks)=(zkC n s&&zkG 3 (pEB 4) ks) by simp[isS,zkG,<-znE]);have IH:=zh aN;have HV:=zh hv;obtain⟨Ad,c,rfl,hf,hlk,hlc,hrow⟩:=hv.open_;simp only[T.k_nd,T.n_nd,T.s_nd,T.ks_nd]at *
 have aA:=zkI hlk;clear hf hv hlk hrow hlc aN;by_cases hnb:zkC n s=true
 ·go_enter func121,ntmps121;go_wp2_with fail;refine(zkw _ _ _ _ _ _ _).mono ?_;rintro e w1 ⟨rfl,hb1⟩;obtain⟨hc1,hf1⟩:=zly hb1;have hbb:Below w.heap.size w w1:=zAB hb1;go_wp2_with fail;refine(zkM (.nd 54 n s ks) _ _ (HV.out.later (hbb.alloc hbb.size _)) _ 3 (fun i=>if i=1 then 109 else 162) (fun i=>if i=1 then f109 else f162) (pEB 4) (by decide) (by simp) (fun i hi=>zmj (by rcases i with _|_|_|_|i<;>first|omega|rfl)) (fun i hi=>by rcases i with _|_|_|i;exact zkZ;exact zl8;exact zkZ;omega) (fun hl i hi=>by rcases i with _|_|_|i;exact zkJ _;exact IH.out _ (List.getElem_mem hi);exact zkJ _;exact absurd hi (by simp only[T.ks_nd]at hl ⊢;omega))).mono ?_;rintro e w2 ⟨rfl,hb2⟩;have hbc:Below w.heap.size w w2:=zAC hbb hb2;go_wp2_with fail;go_ret;exact⟨by rw[HX.out];simp[*],hbc⟩
 ·have hnb':zkC n s=false:=by simpa using hnb
  clear hnb;go_enter func121,ntmps121;go_wp2_with fail;refine(zkw _ _ _ _ _ _ _).mono ?_;rintro e w1 ⟨rfl,hb1⟩;have hbb:Below w.heap.size w w1:=zAB hb1;go_wp2_with fail;go_ret;exact⟨by rw[HX.out];simp[*],hbb⟩
theorem zvn(n:Int)(s:ByteArray)(ks:List T)(aN:∀t∈ks,zlp t):zlW (.nd 55 n s ks):=by
 intro v w hv;have HX:=zh (show isS (.nd 55 n s ks)=(zkC n s&&zkG 1 (pEB 7) ks) by simp[isS,zkG,<-znE]);have IH:=zh aN;have HV:=zh hv;obtain⟨Ad,c,rfl,hf,hlk,hlc,hrow⟩:=hv.open_;simp only[T.k_nd,T.n_nd,T.s_nd,T.ks_nd]at *
 have aA:=zkI hlk;clear hf hv hlk hrow hlc aN;by_cases hnb:zkC n s=true
 ·go_enter func121,ntmps121;go_wp2_with fail;refine(zkw _ _ _ _ _ _ _).mono ?_;rintro e w1 ⟨rfl,hb1⟩;obtain⟨hc1,hf1⟩:=zly hb1;have hbb:Below w.heap.size w w1:=zAB hb1;go_wp2_with fail;refine(zkM (.nd 55 n s ks) _ _ (HV.out.later (hbb.alloc hbb.size _)) _ 1 (fun _=>109) (fun _=>f109) (pEB 7) (by decide) (by simp) (fun i hi=>zmj (by rcases i with _|_|_|_|i<;>first|omega|rfl)) (fun _ _=>zl8) (fun hl i hi=>by rcases i with _|i;exact IH.out _ (List.getElem_mem hi);exact absurd hi (by simp only[T.ks_nd]at hl ⊢;omega))).mono ?_;rintro e w2 ⟨rfl,hb2⟩;have hbc:Below w.heap.size w w2:=zAC hbb hb2;go_wp2_with fail;go_ret;exact⟨by rw[HX.out];simp[*],hbc⟩
 ·have hnb':zkC n s=false:=by simpa using hnb
  clear hnb;go_enter func121,ntmps121;go_wp2_with fail;refine(zkw _ _ _ _ _ _ _).mono ?_;rintro e w1 ⟨rfl,hb1⟩;have hbb:Below w.heap.size w w1:=zAB hb1;go_wp2_with fail;go_ret;exact⟨by rw[HX.out];simp[*],hbb⟩
theorem zvs(n:Int)(s:ByteArray)(ks:List T):zlW (.nd 50 n s ks):=by
 intro v w hv;have HX:=zh (show isS (.nd 50 n s ks)=(zkC n s&&decide (ks.length<=8)&&zkA (fun _=>isV) 0 ks) by simp[isS]);have HV:=zh hv;obtain⟨Ad,c,rfl,hf,hlk,hlc,hrow⟩:=hv.open_;simp only[T.k_nd,T.n_nd,T.s_nd,T.ks_nd]at *
 have aA:=zkI hlk;clear hf hv hlc;by_cases hnb:zkC n s=true
 ·by_cases zN:ks.length<=8
  ·go_enter func121,ntmps121;go_wp2_with fail;refine(zkw _ _ _ _ _ _ _).mono ?_;rintro e w1 ⟨rfl,hb1⟩;obtain⟨hc1,hf1⟩:=zly hb1;have hbb:Below w.heap.size w w1:=zAB hb1;go_wp2_with fail;refine(zoB ks _ _ _ (hrow.later hbb) hlk _ _ zuA isV (fun i hi=>zqz _)).mono ?_;rintro e w2 ⟨rfl,hb2⟩;have hbc:Below w.heap.size w w2:=hbb.trans (hb2.mono hbb.size);go_wp2_with fail;go_ret;exact⟨by rw[HX.out];simp[*],hbc⟩
  ·have hl9:8<ks.length:=by omega
   clear zN;go_enter func121,ntmps121;go_wp2_with fail;refine(zkw _ _ _ _ _ _ _).mono ?_;rintro e w1 ⟨rfl,hb1⟩;obtain⟨hc1,hf1⟩:=zly hb1;have hbb:Below w.heap.size w w1:=zAB hb1;go_wp2_with fail;go_ret;exact⟨by rw[HX.out];simp[show ¬ ks.length<=8 by omega],hbb⟩
 ·have hnb':zkC n s=false:=by simpa using hnb
  clear hnb;go_enter func121,ntmps121;go_wp2_with fail;refine(zkw _ _ _ _ _ _ _).mono ?_;rintro e w1 ⟨rfl,hb1⟩;have hbb:Below w.heap.size w w1:=zAB hb1;go_wp2_with fail;go_ret;exact⟨by rw[HX.out];simp[*],hbb⟩
theorem zvr(n:Int)(s:ByteArray)(ks:List T):zlW (.nd 51 n s ks):=by
 intro v w hv;have HX:=zh (show isS (.nd 51 n s ks)=(zkC n s&&decide (ks.length<=8)&&zkA (fun _=>isV) 0 ks) by simp[isS]);have HV:=zh hv;obtain⟨Ad,c,rfl,hf,hlk,hlc,hrow⟩:=hv.open_;simp only[T.k_nd,T.n_nd,T.s_nd,T.ks_nd]at *
 have aA:=zkI hlk;clear hf hv hlc;by_cases hnb:zkC n s=true
 ·by_cases zN:ks.length<=8
  ·go_enter func121,ntmps121;go_wp2_with fail;refine(zkw _ _ _ _ _ _ _).mono ?_;rintro e w1 ⟨rfl,hb1⟩;obtain⟨hc1,hf1⟩:=zly hb1;have hbb:Below w.heap.size w w1:=zAB hb1;go_wp2_with fail;refine(zoB ks _ _ _ (hrow.later hbb) hlk _ _ zuA isV (fun i hi=>zqz _)).mono ?_;rintro e w2 ⟨rfl,hb2⟩;have hbc:Below w.heap.size w w2:=hbb.trans (hb2.mono hbb.size);go_wp2_with fail;go_ret;exact⟨by rw[HX.out];simp[*],hbc⟩
  ·have hl9:8<ks.length:=by omega
   clear zN;go_enter func121,ntmps121;go_wp2_with fail;refine(zkw _ _ _ _ _ _ _).mono ?_;rintro e w1 ⟨rfl,hb1⟩;obtain⟨hc1,hf1⟩:=zly hb1;have hbb:Below w.heap.size w w1:=zAB hb1;go_wp2_with fail;go_ret;exact⟨by rw[HX.out];simp[show ¬ ks.length<=8 by omega],hbb⟩
 ·have hnb':zkC n s=false:=by simpa using hnb
  clear hnb;go_enter func121,ntmps121;go_wp2_with fail;refine(zkw _ _ _ _ _ _ _).mono ?_;rintro e w1 ⟨rfl,hb1⟩;have hbb:Below w.heap.size w w1:=zAB hb1;go_wp2_with fail;go_ret;exact⟨by rw[HX.out];simp[*],hbb⟩
theorem ztc(k n:Int)(s:ByteArray)(ks:List T)(n40:(k==40)=false)(n41:(k==41)=false)(n42:(k==42)=false)(n43:(k==43)=false)(n44:(k==44)=false)(n45:(k==45)=false)(n46:(k==46)=false)(n47:(k==47)=false)(n48:(k==48)=false)(n49:(k==49)=false)(n50:(k==50)=false)(n51:(k==51)=false)(n52:(k==52)=false)(n53:(k==53)=false)(n54:(k==54)=false)(n55:(k==55)=false)(n56:(k==56)=false):zlW (.nd k n s ks):=by
 intro v w hv;obtain⟨Ad,c,rfl,hf,hlk,hlc,hrow⟩:=hv.open_;simp only[T.k_nd,T.n_nd,T.s_nd,T.ks_nd]at *
 have aA:=zkI hlk;have HX:=zh (show isS (.nd k n s ks)=false by
  simp only[beq_eq_false_iff_ne,ne_eq]at n40 n41 n42 n43 n44 n45 n46 n47 n48 n49 n50 n51 n52 n53 n54 n55 n56;rw[isS,if_neg (by omega),if_neg (by omega),if_neg (by omega),if_neg (by omega),if_neg (by omega),if_neg (by omega),if_neg (by omega),if_neg (by omega)])
 clear hf hv hlk hrow hlc;go_enter func121,ntmps121;go_wp2;go_ret;exact⟨by rw[HX.out];rfl,zr.alloc zl _⟩
theorem ztg(k n:Int)(s:ByteArray)(ks:List T)(ih:∀t∈ks,zlW t):zlp (.nd k n s ks):=by
 intro v w hv;have HX:=zh (show isB (.nd k n s ks)=((k==57)&&zkr n s&&zkA (fun _=>isS) 0 ks) by rw[isB,zpP 0];rfl);have IH:=zh ih;obtain⟨Ad,c,rfl,hf,hlk,hlc,hrow⟩:=hv.open_;simp only[T.k_nd,T.n_nd,T.s_nd,T.ks_nd]at *
 have aA:=zkI hlk;clear hf hv hlc ih;by_cases hk:(k==57)=true
 ·by_cases hnb:zkr n s=true
  ·go_enter func109,ntmps109;go_wp2_with fail;refine(zkn _ _ _ _ _ _ _).mono ?_;rintro e w1 ⟨rfl,hb1⟩;obtain⟨hc1,hf1⟩:=zly hb1;have hbb:Below w.heap.size w w1:=zAB hb1;go_wp2_with fail;refine(zoB ks _ _ _ (hrow.later hbb) hlk _ _ zwI isS (fun i hi=>IH.out _ (List.getElem_mem hi))).mono ?_;rintro e w2 ⟨rfl,hb2⟩;have hbc:Below w.heap.size w w2:=hbb.trans (hb2.mono hbb.size);go_wp2_with fail;go_ret;exact⟨by rw[HX.out];simp[*],hbc⟩
  ·have hnb':zkr n s=false:=by simpa using hnb
   clear hnb;go_enter func109,ntmps109;go_wp2_with fail;refine(zkn _ _ _ _ _ _ _).mono ?_;rintro e w1 ⟨rfl,hb1⟩;have hbb:Below w.heap.size w w1:=zAB hb1;go_wp2_with fail;go_ret;exact⟨by rw[HX.out];simp[*],hbb⟩
 ·have hk':(k==57)=false:=by simpa using hk
  clear hk;go_enter func109,ntmps109;go_wp2_with fail;go_ret;exact⟨by rw[HX.out];simp[*],zr.alloc zl _⟩
theorem zsx(t:T):zlW t/\zlp t:=by
 induction t using T.ind with
 | _ k n s ks ih =>
 have ihS:∀t∈ks,zlW t:=fun t ht=>(ih t ht).1;have aN:∀t∈ks,zlp t:=fun t ht=>(ih t ht).2;refine⟨?_,ztg k n s ks ihS⟩;by_cases h40:k=40
 ·subst h40;exact zvC n s ks aN
 by_cases h41:k=41
 ·subst h41;exact zvB n s ks aN
 by_cases h42:k=42
 ·subst h42;exact zvA n s ks aN
 by_cases h43:k=43
 ·subst h43;exact zvz n s ks aN
 by_cases tZ:k=44
 ·subst tZ;exact zvy n s ks aN
 by_cases h45:k=45
 ·subst h45;exact zvx n s ks aN
 by_cases h46:k=46
 ·subst h46;exact zvw n s ks aN
 by_cases h47:k=47
 ·subst h47;exact zvv n s ks aN
 by_cases h48:k=48
 ·subst h48;exact zvu n s ks aN
 by_cases yl:k=49
 ·subst yl;exact zvt n s ks aN
 by_cases h50:k=50
 ·subst h50;exact zvs n s ks
 by_cases lI:k=51
 ·subst lI;exact zvr n s ks
 by_cases lH:k=52
 ·subst lH;exact zvq n s ks aN
 by_cases mJ:k=53
 ·subst mJ;exact zvp n s ks aN
 by_cases eB:k=54
 ·subst eB;exact zvo n s ks aN
 by_cases eU:k=55
 ·subst eU;exact zvn n s ks aN
 by_cases qV:k=56
 ·subst qV;exact zvm n s ks aN
 exact ztc k n s ks (by simpa using h40) (by simpa using h41) (by simpa using h42) (by simpa using h43) (by simpa using tZ) (by simpa using h45) (by simpa using h46) (by simpa using h47) (by simpa using h48) (by simpa using yl) (by simpa using h50) (by simpa using lI) (by simpa using lH) (by simpa using mJ) (by simpa using eB) (by simpa using eU) (by simpa using qV)
theorem ztd(t:T):zlW t:=(zsx t).1
theorem zrA(t:T):zlp t:=(zsx t).2
end
section
open Go Go.RowKit
theorem zxH{f:Nat->T->Bool}{ks:List T}(h:zkG 1 f ks=true):∃p,ks=[p]/\f 0 p=true:=by
 match ks with
 | [p]=>simp[zkG,zkA]at h;exact⟨p,rfl,h⟩
 | []=>simp[zkG]at h
 | a::b::l=>simp[zkG]at h
theorem zxG{f:Nat->T->Bool}{ks:List T}(h:zkG 2 f ks=true):∃p q,ks=[p,q]/\f 0 p=true/\f 1 q=true:=by
 match ks with
 | [p,q]=>simp[zkG,zkA]at h;exact⟨p,q,rfl,h⟩
 | []=>simp[zkG]at h
 | [a]=>simp[zkG]at h
 | a::b::c::l=>simp[zkG]at h
theorem zuq{k n:Int}{s:ByteArray}{ks:List T}(h:isS (.nd k n s ks)=true)(hb:basB k=true) :
  ((k=40\/k=41\/k=42)/\∃p q,ks=[p,q]/\isP p=true/\isE q=true)\/(k=43/\∃p q,ks=[p,q]/\isP p=true/\isP q=true)\/((44<=k/\k<=49)/\∃p,ks=[p]/\isP p=true):=by
 have hr:=of_decide_eq_true hb;rw[isS]at h;by_cases h1:k=40\/k=41\/k=42\/k=56
 ·rw[if_pos h1,Bool.and_eq_true]at h;obtain⟨p,q,e,a,b⟩:=zxG h.2;exact .inl ⟨by omega,p,q,e,by simpa using a,by simpa using b⟩
 ·rw[if_neg h1]at h;by_cases h2:k=43
  ·rw[if_pos h2,Bool.and_eq_true]at h;obtain⟨p,q,e,a,b⟩:=zxG h.2;exact .inr (.inl ⟨h2,p,q,e,a,b⟩)
  ·rw[if_neg h2]at h;by_cases h3:k=44\/k=45
   ·rw[if_pos h3,Bool.and_eq_true]at h;obtain⟨p,e,a⟩:=zxH h.2;exact .inr (.inr ⟨by omega,p,e,a⟩)
   ·rw[if_neg h3,if_pos (by omega),Bool.and_eq_true]at h;obtain⟨p,e,a⟩:=zxH h.2;exact .inr (.inr ⟨by omega,p,e,a⟩)
def DoP(n0:Nat)(P:Ph)(S:ST)(W:World)(R:Int×ST)(e:Ending)(W':World):Prop:=e=.returned (.int .i64 R.1)/\∃P',SStp n0 P S W P' R.2 W'/\P'.sb=P.sb
theorem zrl{W:World}{n0:Nat}{P:Ph}{S:ST}(h:SR W n0 P S)(t:T)(v:Value)(hv:NV W Any t v)(hs:isS t=true)(hb:basB t.k=true)(hf:fltE S.cur.vs t=0) :
  Calls prog 172 #[.pointer (some ⟨P.sb,0,none⟩),v] W (DoP n0 P S W (zpV S t)):=by
 obtain⟨k,n,s,ks⟩:=t;obtain⟨fo,fk⟩:=zuC hf;rcases zuq hs hb with⟨hk,p,q,rfl,hp,hq⟩|⟨rfl,p,q,rfl,hp,hq⟩|⟨hk,p,rfl,hp⟩
 ·obtain⟨id,kp,h1,h2,h3⟩:=zpE h.wf hp (zne fk p (by simp));have:=zwQ h k n s p q v hv hk id h1 kp h2;have e:zpV S (.nd k n s [p,q])=zlr S k s p q (indE S.look p) (zlP S.look q):=by
   show zlr S k s p q (indE S.look p) (znM S k q)=_
   rw[znM,if_neg (by omega),if_pos hk]
  unfold DoP;rw[e];exact this
 ·obtain⟨id,kp,h1,h2,h3⟩:=zpE h.wf hp (zne fk p (by simp));obtain⟨jd,kq,h4,h5,h6⟩:=zpE h.wf hq (zne fk q (by simp));have:=zuJ h 43 n s p q v hv rfl id h1 kp h2 jd h4 kq h5;have e:zpV S (.nd 43 n s [p,q])=zlr S 43 s p q (indE S.look p) (indE S.look q):=by
   show zlr S 43 s p q (indE S.look p) (znM S 43 q)=_
   rw[znM,if_pos rfl]
  unfold DoP;rw[e];exact this
 ·obtain⟨id,kp,h1,h2,h3⟩:=zpE h.wf hp (zne fk p (by simp));have hst:k=44\/k=45->∃ak,S.num s=some ak/\CurK S ak 3:=fun h45=>by
   have hn:zpI k=3:=by rcases h45 with rfl|rfl<;>rfl
   obtain⟨u,h4,h5⟩:=zpF fo (by rw[hn];decide);obtain⟨ak,h6,h7⟩:=zt3 h.wf h4;exact⟨ak,h6,by rw[h5,hn]at h7;exact h7⟩
  have:=zwR h k n s p v hv hk id h1 kp h2 h3 hst;have e:zpV S (.nd k n s [p])=zlr S k s p nil0 (indE S.look p) (0,0):=by
   show zlr S k s p nil0 (indE S.look p) (znM S k nil0)=_
   rw[znM,if_neg (by omega),if_neg (by omega)]
  unfold DoP;rw[e];exact this
theorem zuB:IsFn prog 170 f170:=⟨func170,by kernel_rfl,by kernel_rfl⟩
theorem zwL:IsFn prog 171 f171:=⟨func171,by kernel_rfl,by kernel_rfl⟩
theorem zxY{W:World}{n0:Nat}{P:Ph}{S:ST}(h:SR W n0 P S)(t:T)(v:Value)(hv:NV W Any t v) :
  Calls prog 123 #[.pointer (some ⟨P.sb,0,none⟩),v] W (DoP n0 P S W (doE S t)):=by
 obtain⟨R,hR⟩:=zX (doE S t);rw[hR];have HRR:=zh hR;have HS:=zh h;have HV:=zh hv;obtain⟨A,c,rfl,-,-,-,-⟩:=hv.open_;obtain⟨b,hb⟩:=zX (isS t);have HIS:=zh (show ∀(v:Value) (w:World),NV w Any t v->Calls prog 121 #[v] w fun e w'=>e=.returned (.bool b)/\Below w.heap.size w w' from fun v w h=>hb▸ztd t v w h);have rP:=zh hb;have rM:=zh (show ∀(v:Value) (W':World),NV W' Any t v->Below W.heap.size W W'->isS t=true->basB t.k=true->fltE S.cur.vs t=0->doE S t=zpV S t->Calls prog 172 #[.pointer (some ⟨P.sb,0,none⟩),v] W' (DoP n0 P S W R)from fun v W' hv' hbl h1 h2 h3 h4=>by
  refine(zrl (h.later hbl) t v hv' h1 h2 h3).mono ?_;rintro e W2 ⟨a1,P',a2,a3⟩;rw[<-h4,hR]at a1 a2;exact⟨a1,P',⟨a2.st.after hbl h.rws,a2.wf⟩,a3⟩)
 obtain⟨kd,hw⟩:=h.curWF;obtain⟨A0,c0,hcv,hc,hrow⟩:=h.curVs;obtain⟨h3,h4,h5⟩:=h.cur3;rw[hcv]at h3;have dh:=zh (fun W' (hb:Below W.heap.size W W')=>zlf (h.later hb));have BZ:=zh (fun(v:Value) W' (hb:Below W.heap.size W W') (hv':NV W' Any t v)=>zs4 S.cur.vs A0 c0 (curP P S) hw.lim t v W' hv' (zb hb h3) (hrow.later hb));obtain⟨cp,hcp⟩:=zX (curP P S);rw[hcp]at dh BZ;obtain⟨fe,hfe⟩:=zX (fltE S.cur.vs t);rw[hfe]at BZ rM;have rQ:=zh (fun w=>zu5 t.k w);obtain⟨bb,hbb⟩:=zX (basB t.k);rw[hbb]at rQ rM;have HD:=zh (show R=if b=false then(3,S)else if t.k=56 then(9,S)else if bb=false then(7,S)else if fe≠0 then(fe,S)else zpV S t by rw[<-hR,doE,hb,hbb,hfe]);have uN:=zh (show doE S t=R from hR);obtain⟨k,hk⟩:=zX (t.k);obtain⟨n,hn⟩:=zX (t.n);obtain⟨s,hs⟩:=zX (t.s);obtain⟨m,hm⟩:=zX (t.ks.length);rw[hk,hn,hs,hm]at HV ⊢;rw[hk]at rQ HD
 clear h hv hR hb hw hcv hc hrow h3 h4 h5 hcp hfe hbb hk hn hs hm;have hbx:=box4 (heap_alloc_new W (.cells #[.int .u8 k,.int .i64 n,.string s,.slice A m c] 41));have aC:=zh (heap_alloc_new W (.cells #[.int .u8 k,.int .i64 n,.string s,.slice A m c] 41));obtain⟨W0,hW0⟩:=zX (W.alloc (.cells #[.int .u8 k,.int .i64 n,.string s,.slice A m c] 41));have q0:Below W.heap.size W W0:=hW0▸zka zr _;rw[hW0]at hbx aC;have gV:=zh q0;obtain⟨x0,x1,x2,x3⟩:=hbx;clear q0;go_enter func123,ntmps123;go_wp2_with fail;refine(HIS.out _ _ (HV.out.later gV.out)).mono ?_;rintro e w1 ⟨rfl,ae⟩;have HB1:=zh (zkb gV.out ae);have aB:=zh (zkc aC.out ae);obtain⟨y0,y1,y2,y3⟩:=box4 aB.out;clear ae x0 x1 x2 x3
 cases b
 ·have HN:=zh (show R=(3,S) by rw[HD.out,if_pos rfl]);go_wp2_with fail;go_ret;exact⟨by rw[HN.out];rfl,P,by rw[HN.out];exact SStp.refl HS.out HB1.out,rfl⟩
 ·by_cases qV:k=56
  ·have HN:=zh (show R=(9,S) by rw[HD.out,if_neg (by decide),if_pos qV]);subst qV;go_wp2_with fail;go_ret;exact⟨by rw[HN.out];rfl,P,by rw[HN.out];exact SStp.refl HS.out HB1.out,rfl⟩
  ·have k56:(k==56)=false:=by simpa using qV
   go_wp2_with fail;refine(rQ.out _).mono ?_;rintro e w2 ⟨rfl,rfl⟩
   cases bb
   ·have HN:=zh (show R=(7,S) by rw[HD.out,if_neg (by decide),if_neg qV,if_pos rfl]);go_wp2_with fail;go_ret;exact⟨by rw[HN.out];rfl,P,by rw[HN.out];exact SStp.refl HS.out HB1.out,rfl⟩
   ·have HD2:=zh (show R=if fe≠0 then(fe,S)else zpV S t by rw[HD.out,if_neg (by decide),if_neg qV,if_neg (by decide)]);clear HD rQ;go_upto_region 9 with fail;have hSS:zW (fun w':World=>zN4 w' W.heap.size (.int .u8 k) (.int .i64 n) (.string s) (.slice A m c)) zU w2.drew:=⟨⟨y0,y1,y2,y3⟩,trivial⟩
    refine wp_region_noPanic ?_;refine zG hSS 3 ?_;refine zT 0 hSS ?_;refine zT 2 hSS ?_;have had:Calls prog 170 [.pointer (some ⟨P.sb,0,none⟩)].toArray w2.drew fun e W'=>∃u,e=.returned u/\u=.pointer (some cp)/\W'=w2.drew :=
     (dh.out _ HB1.out.drew).mono fun e W' hh=>⟨_,hh.1,rfl,hh.2⟩
    refine zo 1 fun K hK=>?_;refine zke (by rfl) (.func 170) [.tmp 22] _ (by rfl) 170 _ zuB (by rfl) _ (by rfl) _ had ?_;rintro v4 w4 ⟨rfl,rfl⟩;refine hK.out _ _ hSS ?_;clear hK K had;(try simp only[zQ]);have had:Calls prog 171 [.pointer (some cp),nv k n s A m c].toArray w2.drew fun e W'=>∃u,e=.returned u/\u=.int .i64 fe/\Below w2.drew.heap.size w2.drew W' :=
     (BZ.out _ _ HB1.out.drew ((HV.out.later HB1.out).later zr.drew)).mono fun e W' hh=>⟨_,hh.1,rfl,hh.2⟩
    refine zp 3 fun K hK=>?_;refine zke (by rfl) (.func 171) [.tmp 23,.tmp 24] _ (by rfl) 171 _ zwL (by rfl) _ (by rfl) _ had ?_;rintro v5 w5 ⟨rfl,hb5⟩;have aQ:=zh (zkb HB1.out.drew hb5);have iI:=zh (zkc (show w2.drew.heap[W.heap.size]?=_ from aB.out) hb5);obtain⟨u0,u1,u2,u3⟩:=box4 iI.out;refine hK.out _ _ ⟨u0,u1,u2,u3⟩ ?_;clear hK K had hb5 hSS y0 y1 y2 y3;(try simp only[zQ]);refine zp 4 fun K hK=>?_;(try simp only[zA,zB,zC]);go_simp;refine hK.out _ _ ⟨u0,u1,u2,u3⟩ ?_;clear hK K;(try simp only[zQ]);refine zd ?_;refine NoPanic.normal ?_;by_cases hfe:fe=0
    ·subst hfe;have aP:=zh (rM.out (nv k n s A m c) w5 (HV.out.later aQ.out) aQ.out rP.out (by first|rfl|trivial) (by first|rfl|trivial) (by rw[uN.out,HD2.out];simp));clear HD2 rM;go_wp2_with fail;refine aP.out.mono ?_;rintro e w6 ⟨rfl,hh⟩;have HH:=zh hh;clear hh;go_wp2_with fail;go_ret;exact⟨rfl,HH.out⟩
    ·have HN:=zh (show R=(fe,S) by rw[HD2.out,if_pos hfe]);have e1:(fe==0)=false:=by simpa using hfe
     have e2:(fe != 0)=true:=by simpa using hfe
     clear HD2;go_wp2_with fail;go_ret;exact⟨by rw[HN.out];rfl,P,by rw[HN.out];exact SStp.refl HS.out aQ.out,rfl⟩
theorem zxe{W:World}{n0:Nat}{P:Ph}{S:ST}(h:SR W n0 P S)(t:T)(v:Value)(hv:NV W Any t v) :
  Calls prog 184 #[.pointer (some ⟨P.sb,0,none⟩),v] W (DoP n0 P S W (zod S t)):=by
 obtain⟨k,n,s,ks⟩:=t;obtain⟨A,c,rfl,hf,hlk,hlc,hrow⟩:=hv.open_;simp only[T.k_nd,T.n_nd,T.s_nd,T.ks_nd]at *
 obtain⟨k',hk'⟩:∃k',zsX k=k':=⟨_,rfl⟩
 have hf':Fld k' n s:=by
  refine⟨?_,hf.2⟩;rw[<-hk'];unfold zsX;have:=hf.1
  split
  ·omega
  ·split
   ·omega
   ·split
    ·omega
    ·split
     ·omega
     ·split
      ·omega
      ·split
       ·omega
       ·split
        ·omega
        ·split
         ·omega
         ·exact this
 obtain⟨R,hR⟩:=zX (zod S (.nd k n s ks));rw[hR];have HDO:=zh (show ∀W',Below W.heap.size W W'->Calls prog 123 #[.pointer (some ⟨P.sb,0,none⟩),nv k' n s A ks.length c] W' (DoP n0 P S W R)from fun W' hb=>by
  have e:doE S (.nd k' n s ks)=R:=by rw[<-hR,<-hk'];rfl
  have:=zxY (h.later hb) (.nd k' n s ks) (nv k' n s A ks.length c) (NV.shut hf' hlk hlc (hrow.later hb));rw[e]at this;refine this.mono ?_;rintro e W2 ⟨a1,P',a2,a3⟩;exact⟨a1,P',⟨a2.st.after hb h.rws,a2.wf⟩,a3⟩)
 have qE:=zh (fun w=>hk'▸zri k w);obtain⟨m,hm⟩:=zX (ks.length);rw[hm]at HDO ⊢;clear h hv hR hf hf' hrow hlk hlc hm hk';go_enter func184,ntmps184;go_wp2_with fail;refine(qE.out _).mono ?_;rintro e w1 ⟨rfl,rfl⟩;go_wp2_with fail;refine(HDO.out _ (zka zr _)).mono ?_;rintro e w6 ⟨rfl,hh⟩;have HH:=zh hh;clear hh;go_wp2_with fail;go_ret;exact⟨rfl,HH.out⟩
def FrK(S S':ST):Prop:=S'.base=S.base/\S'.calls=S.calls/\S'.nc=S.nc
theorem zwm(S:ST)(k:Int)(id i ak:Nat):FrK S (znB S k id i ak).2:=by
 unfold znB
 repeat' split
 all_goals exact⟨rfl,rfl,rfl⟩
theorem ztB(S:ST)(k:Int)(id i:Nat):FrK S (zls S k id i).2:=by
 unfold zls
 repeat' split
 all_goals exact⟨rfl,rfl,rfl⟩
theorem zwT(S:ST)(k:Int)(s qs:ByteArray)(r2:Int)(id i:Nat):FrK S (znG S k s qs r2 id i).2:=by
 unfold znG
 repeat' split
 all_goals first|exact zwm _ _ _ _ _|exact ztB _ _ _ _|exact⟨rfl,rfl,rfl⟩
theorem zwU(S:ST)(k:Int)(s ps qs:ByteArray)(r1:Int)(r2:Int×Int):FrK S (znV S k s ps qs r1 r2).2:=by
 unfold znV
 repeat' split
 all_goals first|exact zwT _ _ _ _ _ _ _|exact⟨rfl,rfl,rfl⟩
theorem zwV(S:ST)(k:Int)(s:ByteArray)(p q:T)(r1 r2:Int×Int):FrK S (zlr S k s p q r1 r2).2:=by
 unfold zlr;by_cases h:r1.2≠0
 ·rw[if_pos h];exact⟨rfl,rfl,rfl⟩
 ·rw[if_neg h];exact zwU _ _ _ _ _ _ _
theorem zxR(S:ST)(t:T):FrK S (doE S t).2:=by
 unfold doE
 repeat' split
 all_goals first|exact⟨rfl,rfl,rfl⟩|skip
 obtain⟨k,n,s,ks⟩:=t;exact zwV _ _ _ _ _ _ _
theorem zvU(S:ST)(t:T):FrK S (zod S t).2:=by
 obtain⟨k,n,s,ks⟩:=t;exact zxR _ _
theorem zst{f:FR}:∀(l:List (VD×ByteArray)) (acc g:FR),entL f acc l=.ok g->g.vs.length=acc.vs.length+l.length
 | [],acc,g,h=>by rw[entL]at h;injection h with h;subst h;simp
 | (v,a)::r,acc,g,h=>by
  rw[entL]at h
  split at h
  ·cases h
  ·split at h
   ·have:=zst r _ _ h;simp at this ⊢;omega
   ·cases h
theorem zky{w:World}{b:Nat}{E:TypeId}{u0 u1 u2:Value}(h:w.heap[b]?=some (.cells #[u0,u1,u2] E (0,0))):w.cell? ⟨b,0,none⟩=some u0/\w.cell? ⟨b,1,none⟩=some u1/\w.cell? ⟨b,2,none⟩=some u2 :=
 ⟨zc h rfl,zc h rfl,zc h rfl⟩
theorem zrV{W:World}{n0:Nat}{E:TypeId}{v:Value}{l:List Int}(h:W.ownsRow n0 E 1 v l.length (zkg l))(hf:∀x∈l,I64 x):∃A c,v=.slice A l.length c/\l.length<=c/\RowI W (fun b=>n0<=b) A l:=by
 obtain⟨A,c,e,hc,hr⟩:=zlA (xs:=l) h hf;exact⟨A,c,e,hc,hr.keep (fun b hb _=>(h.lt b hb).1) (fun _ _ _=>rfl)⟩
theorem OwnS.svR{W:World}{n0:Nat}{s:SS}{v:Value}(h:OwnS W n0 s v)(hl:s.Lim):SV W (fun b=>n0<=b) s v:=by
 obtain⟨vc,vi,vo,fc,rfl,hr,h1,h2,h3⟩:=h;obtain⟨AI,cI,e2,k2,r2⟩:=zrV (hr.row .inp) h2;obtain⟨AO,cO,e3,k3,r3⟩:=zrV (hr.row .out) h3;change vi=_ at e2;change vo=_ at e3;have key:∃A c,vc=.slice A s.cells.length c/\s.cells.length<=c/\zlo W (fun b=>n0<=b) A s.cells:=by
  rcases Nat.eq_zero_or_pos s.cells.length with h0|h0
  ·obtain⟨A,c,e1,hc,_⟩:=zkd (hr.row .all);exact⟨A,c,e1,hc,fun i hi=>by omega⟩
  ·obtain⟨g,c,e1,hc,_,hcell⟩:=zkV (hr.row .all) h0;change vc=_ at e1;have hg:n0<=g:=(hr.lt .all g (by show vc.ownBlock=some g;rw[e1];rfl)).1;refine⟨_,c,e1,hc,fun i hi=>?_⟩;have bA:=hr.row (.el i);simp only[zlm,hi,if_true,List.getD_eq_getElem?_getD,List.getElem?_eq_getElem hi,Option.getD_some]at bA;obtain⟨A',c',e4,k4,r4⟩:=zrV bA (h1 _ (List.getElem_mem hi));have ha:(⟨g,0,none⟩:Addr).add i=⟨g,i,none⟩:=by rw[Addr.add_lit,Nat.zero_add]
   refine⟨⟨g,0,none⟩,A',c',rfl,hg,?_,k4,r4⟩;rw[ha,<-e4,hcell i (by show i<s.cells.length*1;omega)];simp[zlm,hi]
 obtain⟨A,c,e1,k1,r1⟩:=key;exact⟨A,c,AI,cI,AO,cO,by rw[e1,e2,e3],r1,r2,r3,k1,k2,k3,hl⟩
theorem SV.any{W:World}{S:Nat->Prop}{s:SS}{v:Value}(h:SV W S s v):SV W Any s v:=h.keep (fun _ _ _=>trivial) fun _ _ _=>rfl
theorem SR.n0le{W:World}{n0:Nat}{P:Ph}{S:ST}(h:SR W n0 P S):n0<=W.heap.size:=by have:=h.rws.lt .sb _ rfl;omega
theorem SR.own_lt{W:World}{n0:Nat}{P:Ph}{S:ST}(h:SR W n0 P S){b:Nat}(hb:OwnB (rows P S) b):n0<=b/\b<W.heap.size:=by
 obtain⟨q,hq⟩:=hb;exact h.rws.lt q b hq
theorem SStp.frame{w W W':World}{n0:Nat}{P P':Ph}{S S':ST}(hst:SStp n0 P S W P' S' W')(hs:SR W n0 P S)(hb:Below w.heap.size w W)(hn:w.heap.size<=n0):Below w.heap.size w W' :=
 hb.trans (hst.st.chg.below (Nat.le_trans hn hs.n0le) fun _ ho=>Nat.le_trans hn (hs.own_lt ho).1)
theorem SStp.no{W W':World}{n0:Nat}{P P':Ph}{S S':ST}{b:Nat}(hst:SStp n0 P S W P' S' W')(hlt:b<W.heap.size)(hno:¬ OwnB (rows P S) b):¬ OwnB (rows P' S') b:=fun ho=>by
 rcases hst.st.own _ ho with h|h
 ·exact hno h
 ·omega
theorem zlg{P:Program}{ops:Array Oper}{o:Oper}{a:Act}{w:World}{K:Act->World->Prop}{Q:Exit->Act->World->Prop}{F:Prop}(hw:Region.wanted o (yielded ops a.tmps)=true)(x:Operand)(xs:List Operand)(ats:Array TypeId)
  (ho:o.op=.call { callee:=.value x,args:=xs.toArray,argTypes:=ats })(f:FuncId)(fn:Func)(hf:IsFn P f fn)(hv:a.eval x=.func (.func f) #[] #[])(l:List Value)(hargs:xs.map a.eval=l)(R:Value->World->Prop)
  (hc:Calls P f l.toArray w fun e w'=>∃v,e=.returned v/\R v w')(h:∀v w',R v w'->K (a.put o.dst v) w') :
  if Region.wanted o (yielded ops a.tmps)=true then Oper.wp P o a w K Q else F:=by
 rw[if_pos hw];subst hargs;have e:(execOp a.eval o).run P w=.ok (.enter f (xs.map a.eval).toArray) w:=by
  unfold execOp;simp only[ho,resolve,hv,Deferred.ofValue,Sem.run_bind,Sem.run_pure,Result.andThen_ok,invoke,zkN hf,Array.empty_append,List.map_toArray,Array.append_empty]
 unfold Oper.wp;rw[e,Oper.upon_enter];refine hc.mono ?_;rintro e w' ⟨v,rfl,hR⟩;exact h v w' hR
structure KS(w:World)(n0 sb:Nat)(kb:Nat->Prop)(W:World)(S:ST):Prop where
 bl:Below w.heap.size w W
 hn:w.heap.size<=n0
 sr:∃P,SR W n0 P S/\P.sb=sb/\∀b,kb b->b<W.heap.size/\¬ OwnB (rows P S) b
structure Kpt(n0:Nat)(kb:Nat->Prop)(W W':World):Prop where
 size:W.heap.size<=W'.heap.size
 kept:∀b,b<W.heap.size->(b<n0\/kb b)->W'.heap[b]?=W.heap[b]?
section
variable {w W W' W'':World} {n0 sb:Nat} {kb kb':Nat->Prop} {S S':ST}
theorem Kpt.refl(n0:Nat)(kb:Nat->Prop)(W:World):Kpt n0 kb W W:=⟨zl,fun _ _ _=>rfl⟩
theorem Kpt.trans(h:Kpt n0 kb W W')(h':Kpt n0 kb W' W''):Kpt n0 kb W W'':=⟨Nat.le_trans h.size h'.size,fun b hb hk=>(h'.kept b (Nat.lt_of_lt_of_le hb h.size) hk).trans (h.kept b hb hk)⟩
theorem Kpt.of_below(h:Below W.heap.size W W'):Kpt n0 kb W W':=⟨h.size,fun b hb _=>h.block b hb⟩
theorem Kpt.cell{b o:Nat}{u:Value}(h:Kpt n0 kb W W')(hk:b<n0\/kb b)(hc:W.cell? ⟨b,o,none⟩=some u):W'.cell? ⟨b,o,none⟩=some u :=
 zkK hc (h.kept b (World.block_lt_of_cell? W _ hc) hk)
theorem Kpt.blk{b:Nat}{o:Obj}(h:Kpt n0 kb W W')(hk:b<n0\/kb b)(hc:W.heap[b]?=some o):W'.heap[b]?=some o:=(h.kept b (zkp hc) hk).trans hc
theorem KS.wf(h:KS w n0 sb kb W S):S.WF:=by obtain⟨P,hs,_⟩:=h.sr;exact hs.wf
theorem KS.later(h:KS w n0 sb kb W S)(hb:Below W.heap.size W W'):KS w n0 sb kb W' S:=by
 obtain⟨P,hs,e,hk⟩:=h.sr;exact⟨zkb h.bl hb,h.hn,P,hs.later hb,e,fun b hb'=>⟨Nat.lt_of_lt_of_le (hk b hb').1 hb.size,(hk b hb').2⟩⟩
theorem KS.also(h:KS w n0 sb kb W S)(hb:Below W.heap.size W W')(hkb:∀b,kb' b->kb b\/(W.heap.size<=b/\b<W'.heap.size)):KS w n0 sb kb' W' S:=by
 obtain⟨P,hs,e,hk⟩:=h.sr;refine⟨zkb h.bl hb,h.hn,P,hs.later hb,e,fun b hb'=>?_⟩;rcases hkb b hb' with h1|⟨h1,h2⟩
 ·exact⟨Nat.lt_of_lt_of_le (hk b h1).1 hb.size,(hk b h1).2⟩
 ·exact⟨h2,fun ho=>by have:=(hs.own_lt ho).2;omega⟩
theorem KS.less(h:KS w n0 sb kb W S)(hkb:∀b,kb' b->kb b):KS w n0 sb kb' W S:=h.also zr fun b hb=>.inl (hkb b hb)
theorem KS.new{P:Ph}{vs:List VD}{s:SS}{W0:World}(h0:Below w.heap.size w W0)(hb:Below W0.heap.size W0 W)(hs:SR W W0.heap.size P (newS vs s)):KS w W0.heap.size P.sb (fun _=>False) W (newS vs s) :=
 ⟨zkb h0 hb,h0.size,P,hs,rfl,fun _ h=>h.elim⟩
def KP(w:World)(n0 sb:Nat)(kb:Nat->Prop)(W:World)(R:Int×ST)(e:Ending)(W':World):Prop:=e=.returned (.int .i64 R.1)/\KS w n0 sb kb W' R.2/\Kpt n0 kb W W'
theorem KS.stp{P P':Ph}(hbl:Below w.heap.size w W)(hn0:w.heap.size<=n0)(hs:SR W n0 P S)(hk:∀b,kb b->b<W.heap.size/\¬ OwnB (rows P S) b)(hst:SStp n0 P S W P' S' W')(hsb:P'.sb=sb):KS w n0 sb kb W' S'/\Kpt n0 kb W W':=by
 refine⟨⟨hst.frame hs hbl hn0,hn0,P',hst.sr,hsb,fun b hb=>⟨Nat.lt_of_lt_of_le (hk b hb).1 hst.st.chg.size,hst.no (hk b hb).1 (hk b hb).2⟩⟩,hst.st.chg.size,fun b hlt hb=>hst.st.chg.block b hlt fun ho=>?_⟩;rcases hb with hb|hb
 ·have:=(hs.own_lt ho).1;omega
 ·exact(hk b hb).2 ho
theorem KS.dop(h:KS w n0 sb kb W S){f:FuncId}{args:Array Value}{R:Int×ST}(hc:∀P,SR W n0 P S->P.sb=sb->Calls prog f args W (DoP n0 P S W R)):Calls prog f args W (KP w n0 sb kb W R):=by
 obtain⟨P,hs,e,hk⟩:=h.sr;refine(hc P hs e).mono ?_;rintro e' W2 ⟨a1,P',a2,a3⟩;exact⟨a1,KS.stp h.bl h.hn hs hk a2 (a3.trans e)⟩
theorem KS.do_(h:KS w n0 sb kb W S)(t:T)(v:Value)(hv:NV W Any t v):Calls prog 123 #[.pointer (some ⟨sb,0,none⟩),v] W (KP w n0 sb kb W (doE S t)) :=
 h.dop fun _ hs e=>e▸zxY hs t v hv
theorem KS.undo(h:KS w n0 sb kb W S)(t:T)(v:Value)(hv:NV W Any t v):Calls prog 184 #[.pointer (some ⟨sb,0,none⟩),v] W (KP w n0 sb kb W (zod S t)) :=
 h.dop fun _ hs e=>e▸zxe hs t v hv
theorem KS.open_(h:KS w n0 sb kb W S)(v:VD)(hfv:FldV v)(x:Int)(hx:I64 x)(hlim:S.cur.vs.length+1<=4398046511000):Calls prog 181 #[.pointer (some ⟨sb,0,none⟩),.agg #[.string v.s,.int .u8 v.k,.int .i64 v.n],.int .i64 x] W (KP w n0 sb kb W (zlV S v x)) :=
 h.dop fun _ hs e=>e▸zxm hs v hfv x hx hlim
theorem KS.close(h:KS w n0 sb kb W S)(s:ByteArray)(x:Int):Calls prog 182 #[.pointer (some ⟨sb,0,none⟩),.string s,.int .i64 x] W (KP w n0 sb kb W (zk8 S s x)) :=
 h.dop fun _ hs e=>e▸zvG hs s x
theorem KS.enter(h:KS w n0 sb kb W S)(ps:List VD)(ss:List ByteArray)(A D:Option Addr)(c d:Nat)(hp:RowV W Any A ps)(hs:RowS W D ss)(hlp:ps.length<=4398046511000)(hls:ss.length<=17592186044416):Calls prog 203 #[.pointer (some ⟨sb,0,none⟩),.slice A ps.length c,.slice D ss.length d] W (KP w n0 sb kb W (zlQ S ps ss)) :=
 h.dop fun _ hs' e=>e▸zvF hs' ps ss A D c d hp hs hlp hls
theorem KS.leave(h:KS w n0 sb kb W S):Calls prog 204 #[.pointer (some ⟨sb,0,none⟩)] W (KP w n0 sb kb W (zl1 S)) :=
 h.dop fun _ hs e=>e▸zvl hs
theorem KS.cell(h:KS w n0 sb kb W S)(s:ByteArray):Calls prog 166 #[.pointer (some ⟨sb,0,none⟩),.string s] W (zKf W S s):=by
 obtain⟨P,hs,rfl,-⟩:=h.sr;exact zvj hs s
theorem KS.state(h:KS w n0 sb kb W S):Calls prog 102 #[.pointer (some ⟨sb,0,none⟩)] W fun e W'=>∃v,e=.returned v/\OwnS W' W.heap.size S.state v/\Below W.heap.size W W':=by
 obtain⟨P,hs,rfl,-⟩:=h.sr;exact zvh hs
end
theorem KS.chg{w W W':World}{n0 sb:Nat}{kb C:Nat->Prop}{S:ST}(h:KS w n0 sb kb W S)(hc:Chg C W W')(hC:∀b,b<W.heap.size->C b->w.heap.size<=b/\(b<n0\/kb b)):KS w n0 sb kb W' S:=by
 obtain⟨P,hs,e,hk⟩:=h.sr;have hno:∀b,OwnB (rows P S) b->¬ C b:=fun b ho hcb=>by
  obtain⟨-,h2⟩:=hC b (hs.own_lt ho).2 hcb;rcases h2 with h2|h2
  ·have:=(hs.own_lt ho).1;omega
  ·exact(hk b h2).2 ho
 refine⟨?_,h.hn,P,⟨hs.rws.chg hc fun i b hb=>hno b ⟨i,hb⟩,hs.wf⟩,e,fun b hb=>⟨Nat.lt_of_lt_of_le (hk b hb).1 hc.size,(hk b hb).2⟩⟩;exact⟨hc.os.trans h.bl.os,hc.tape.trans h.bl.tape,hc.output.trans h.bl.output,Nat.le_trans h.bl.size hc.size,fun b hb=>by
  rw[hc.block b (Nat.lt_of_lt_of_le hb h.bl.size) fun hcb=>by have:=(hC b (Nat.lt_of_lt_of_le hb h.bl.size) hcb).1;omega];exact h.bl.block b hb⟩
theorem zz1(A:Option Addr)(l c:Nat)(w:World):(Instr.buildSlice 29 1 #[(0,.slice A l c)]).run prog w=.ok (.slice (some ⟨w.heap.size,0,none⟩) 1 1) (w.alloc (.cells #[.slice A l c] 30)):=by kernel_rfl
theorem bS12(B C:Option Addr)(m d n e:Nat)(w:World):(Instr.build 32 #[(1,.slice B m d),(2,.slice C n e)]).run prog w=.ok (.agg #[.slice none 0 0,.slice B m d,.slice C n e]) w:=by kernel_rfl
section
variable {P:Program} {ops:Array Oper} {Q:Exit->Act->World->Prop} {md:Region.Mode} {S1 S2:World->Prop} {k:Nat}
theorem zp9(I:Nat->Array Bool->Act->World->Prop)(hS:∀f l a w,I f l a w->S1 w/\S2 w)
  (h:∀f l a w,I f l a w->wpG P md ops Q S1 S2 k f l a w\/∃f',f=f'+1/\Region.ready md ops l≠[]/\∀i∈Region.ready md ops l,wpOp P ops Q i (fun a' w'=>I f' (l.setIfInBounds i true) a' w') a w) :
  ∀f l a w,I f l a w->wpG P md ops Q S1 S2 k f l a w
 | 0,l,a,w,hi=>by
  rcases h 0 l a w hi with h1|⟨f',h1,_⟩
  ·exact h1
  ·omega
 | f+1,l,a,w,hi=>by
  rcases h (f+1) l a w hi with h1|⟨f',h1,h2,h3⟩
  ·exact h1
  ·obtain rfl:f=f':=by omega
   exact⟨fun h0=>absurd h0 h2,fun i hm=>wpOp_mono (fun a' w' h'=>⟨⟨(hS _ _ _ _ h').1,fun _=>(hS _ _ _ _ h').2⟩,zp9 I hS h f _ a' w' h'⟩) (h3 i hm)⟩
theorem zrF{a0:Act}{f0:Nat}{l0:Array Bool}{w0:World}(I:Act->Nat->Array Bool->Act->World->Prop)(hS:∀A f l a w,I A f l a w->S1 w/\S2 w)
  (h:∀A,A=a0->∀f l a w,I A f l a w->wpG P md ops Q S1 S2 k f l a w\/∃f',f=f'+1/\Region.ready md ops l≠[]/\∀i∈Region.ready md ops l,wpOp P ops Q i (fun a' w'=>I A f' (l.setIfInBounds i true) a' w') a w)
  (h0:I a0 f0 l0 a0 w0):wpG P md ops Q S1 S2 k f0 l0 a0 w0:=zp9 (I a0) (hS a0) (h a0 rfl) _ _ _ _ h0
end
def zoJ(l0 l3 l4 l7 l9:Bool)(v5 v8 v9 v12:Value)(b3:Nat)(s:SS):Option SI->RowD
 | none=>if l9=true then⟨boxV b3,32,3,1,[.slice none 0 0,.slice none 0 0,.slice none 0 0]⟩else nilR
 | some .inp=>if l3=true then⟨v8,3,1,s.tin.length,zkg s.tin⟩else if l0=true then⟨v5,3,1,0,[]⟩else nilR
 | some .out=>if l7=true then⟨v12,3,1,s.tout.length,zkg s.tout⟩else if l4=true then⟨v9,3,1,0,[]⟩else nilR
 | some _=>nilR
def zlU(vc vi vo:Value)(fc:Nat->Value)(b3:Nat)(s:SS)(j:Nat):Option SI->RowD
 | none=>⟨boxV b3,32,3,1,[vc,vi,vo]⟩
 | some .all=>⟨vc,30,1,j,(List.range j).map fc⟩
 | some (.el i)=>if i<j then⟨fc i,3,1,(s.cells.getD i []).length,zkg (s.cells.getD i [])⟩else nilR
 | some .inp=>⟨vi,3,1,s.tin.length,zkg s.tin⟩
 | some .out=>⟨vo,3,1,s.tout.length,zkg s.tout⟩
theorem zyq(w:World)(n0:Nat)(v5 v8 v9 v12:Value)(b3:Nat)(s:SS):Rws w n0 (zoJ false false false false false v5 v8 v9 v12 b3 s):=by
 have e:∀i,zoJ false false false false false v5 v8 v9 v12 b3 s i=nilR:=by
  intro i;rcases i with _|i
  ·rfl
  ·cases i<;>rfl
 refine⟨fun i=>by rw[e];exact zlZ w n0,fun i j b _ hi _=>?_⟩;rw[e]at hi;simp[nilR,Value.ownBlock]at hi
theorem zwd(w:World)(n0:Nat)(h:n0<=w.heap.size)(a b c:Value)(E:TypeId):(w.alloc (.cells #[a,b,c] E)).ownsRow n0 E 3 (boxV w.heap.size) 1 [a,b,c] :=
 ⟨rfl,.inr ⟨w.heap.size,1,#[a,b,c],rfl,h,heap_alloc_new w _,zl,by unfold maxLen;omega,rfl,rfl⟩⟩
theorem zsQ(vc iP vi vo:Value)(fc:Nat->Value)(b3:Nat)(s:SS)(j:Nat)(l:List Int)(v8 r5:Value)(hl:s.cells.getD j []=l) :
  updR (updR (updR (updR (zlU vc vi vo fc b3 s j) (some (.el j)) ⟨r5,3,1,0,[]⟩) (some (.el j)) ⟨v8,3,1,l.length,zkg l⟩) (some .all) ⟨iP,30,1,j+1,(List.range j).map fc++[v8]⟩) none ⟨boxV b3,32,3,1,[iP,vi,vo]⟩=zlU iP vi vo (fun i=>if i=j then v8 else fc i) b3 s (j+1):=by
 funext i;rcases i with _|i
 ·rfl
 ·cases i with
  | all =>
   simp only[updR,zlU,reduceCtorEq,if_false,if_true,RowD.mk.injEq,true_and];rw[List.range_succ,List.map_append];congr 1
   ·refine List.map_congr_left fun i hi=>?_;have:i≠j:=by have:=List.mem_range.1 hi;omega
    simp[this]
   ·simp
  | inp=>rfl
  | out=>rfl
  | el i =>
   by_cases e:i=j
   ·subst e;simp[updR,zlU,<-hl]
   ·have e2:(i<j+1)↔(i<j):=by omega
    simp[updR,zlU,e,e2]
theorem zqo{W:World}{n0:Nat}{vc vi vo:Value}{fc:Nat->Value}{b3:Nat}{s:SS}(h:Rws W n0 (zlU vc vi vo fc b3 s s.cells.length)):Rws W n0 (zlm vc vi vo fc s):=by
 have e:∀i,zlm vc vi vo fc s i=zlU vc vi vo fc b3 s s.cells.length (some i):=fun i=>by cases i<;>rfl
 refine⟨fun i=>by rw[e];exact h.row (some i),fun i j b hij hi hj=>?_⟩;rw[e]at hi hj;exact h.sep (some i) (some j) b (fun e'=>hij (by injection e')) hi hj
theorem ztY{w:World}{n0 b:Nat}{x y z:Value}{E:TypeId}(hn:n0<=b)(h:w.heap[b]?=some (.cells #[x,y,z] E (0,0))):w.ownsRow n0 E 3 (boxV b) 1 [x,y,z] :=
 ⟨rfl,.inr ⟨b,1,#[x,y,z],rfl,hn,h,zl,by unfold maxLen;omega,rfl,rfl⟩⟩
theorem zrb(w:World)(n0:Nat)(E:TypeId):w.ownsRow n0 E 1 (.slice none 0 0) 0 []:=⟨rfl,.inl ⟨rfl,rfl⟩⟩
end
end Go.Proofs.YtembgnhbpmfhpaaGreat
