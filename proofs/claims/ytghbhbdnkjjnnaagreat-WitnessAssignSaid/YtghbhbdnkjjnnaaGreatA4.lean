/-
  Texts of the proof, put together without their remarks: Stf, Si, Sj, Ast3, Sk, Kg.
-/
import Derived.Test.YtghbhbdnkjjnnaaGreatA3
set_option linter.unusedSimpArgs false
set_option linter.unusedVariables false
set_option maxHeartbeats 8000000
set_option maxRecDepth 100000
namespace Go.Proofs.YtghbhbdnkjjnnaaGreat
section
open Go Go.RowKit
def ownE(vs:List VD)(k:Int)(s:ByteArray):Int:=if zol k=0 then 0 else match zlp vs s with
 | none=>6
 | some v=>if v.k=zol k then 0 else 7
mutual
/-- frame.fault: the first fault in pre-order. -/
def fltE(vs:List VD):T->Int
 | .nd k _ s ks=>if ownE vs k s≠0 then ownE vs k s else zlB vs ks
def zlB(vs:List VD):List T->Int
 | []=>0
 | t::ts=>if fltE vs t≠0 then fltE vs t else zlB vs ts
end
theorem zmA{vs:List VD}:∀ {ks:List T} {j:Nat} (h:j<ks.length),zlB vs (ks.take j)=0->zlB vs (ks.take (j+1))=fltE vs ks[j]
 | t::ts,0,_,_=>by simp only[List.take,zlB,List.getElem_cons_zero];split<;>simp_all
 | t::ts,j+1,h,h0=>by
  simp only[List.take,zlB,List.getElem_cons_succ]at h0 ⊢
  split at h0
  ·contradiction
  ·rename_i h1;rw[if_neg h1];exact zmA (by simpa using h) h0
theorem zmB{vs:List VD}:∀ {ks:List T} {j:Nat} (h:j<ks.length),zlB vs (ks.take j)=0->fltE vs ks[j]≠0->zlB vs ks=fltE vs ks[j]
 | t::ts,0,_,_,h1=>by simp only[zlB,List.getElem_cons_zero]at *;rw[if_pos h1]
 | t::ts,j+1,h,h0,h1=>by
  simp only[List.take,zlB,List.getElem_cons_succ]at h0 h1 ⊢
  split at h0
  ·contradiction
  ·rename_i h2;rw[if_neg h2];exact zmB (by simpa using h) h0 h1
theorem zrS(vs:List VD)(A:Option Addr)(c:Nat)(fp:Addr)(hl:vs.length<=4398046511000)(t:T):∀(v:Value) (w:World),NV w Any t v->w.cell? fp=some (.slice A vs.length c)->RowV w Any A vs ->
  Calls Tryz.prog 63 #[.pointer (some fp),v] w fun e w'=>e=.returned (.int .i64 (fltE vs t))/\Below w.heap.size w w':=by
 induction t using T.ind with
 | _ k n s ks ih =>
  intro v w hv hc hrow;obtain⟨B,d,rfl,hf,hlk,hlc,hks⟩:=hv.open_;simp only[T.k_nd,T.n_nd,T.s_nd,T.ks_nd]at *
  have aA:=zkK hlk;have xe:=zh ih;have aS:=zh hks;have HC:=zh hc;have aa:=zh hrow;obtain⟨R,hR⟩:=zX (fltE vs (.nd k n s ks));rw[hR];rw[fltE]at hR;have HR:=zh hR;obtain⟨nk,hnk⟩:=zX (zol k);have wT:=zh (hnk▸zsP k);have ng:=zh hnk;obtain⟨VL,xJ⟩:=zX (vs.length);have bz:=zh (show ∀w',Below w.heap.size w w'->Calls Tryz.prog 89 #[.slice A VL c,.string s] w' fun e w''=>e=.returned (fdV (zlp vs s))/\Below w'.heap.size w' w'' from fun w' hb=>xJ▸znL vs A c s Any w' (hrow.later hb) (by unfold LV;omega));rw[xJ]at HC;have hc':=fun o=>zks (o:=o) HC.out;have ze:=zh xJ;clear ih hv hf hlk hlc hks hc hrow hR hnk xJ;go_enter Tryz.func63,Tryz.ntmps63;go_wp2_with fail;refine(wT.out _).mono ?_;rintro e w1 ⟨rfl,rfl⟩;have hbx:=heap_alloc_new w (.cells #[.int .u8 k,.int .i64 n,.string s,.slice B ks.length d] 24)
  have q1:Below w.heap.size w (w.alloc (.cells #[.int .u8 k,.int .i64 n,.string s,.slice B ks.length d] 24)):=zkc zr _;obtain⟨W1,hW1⟩:=zX (w.alloc (.cells #[.int .u8 k,.int .i64 n,.string s,.slice B ks.length d] 24));have hcW:=hc' (.cells #[.int .u8 k,.int .i64 n,.string s,.slice B ks.length d] 24);rw[hW1]at hbx q1 hcW ⊢;have aO:=zh hbx;have dK:=zh q1;have HCW:=zh hcW;obtain⟨m0,m1,m2,m3⟩:=box4 hbx;clear hbx q1 hW1 hc';by_cases hn0:nk=0
  ·subst hn0;have HRR:=zh (show zlB vs ks=R by rw[<-HR.out,ownE,if_pos ng.out];simp);have qD:=dK;have qy:=aO;obtain⟨WX,lQ⟩:=zX (W1);rw[lQ]at m0 m1 m2 m3 qD qy hcW ⊢;clear lQ HR ng wT bz;go_wp2_with fail
   go_loopw [10,35] (fun _ i wr=>∃j:Nat,j<=ks.length/\i=.int .i64 j/\Below w.heap.size w wr/\wr.heap[w.heap.size]?=some (.cells #[.int .u8 k,.int .i64 n,.string s,.slice B ks.length d] 24 (0,0))/\Hid (zlB vs (ks.take j)=0)) (fun _ i _=>ks.length-(intOf i).toNat)
   case atStart=>exact⟨0,Nat.zero_le _,rfl,qD.out,qy.out,zh (by simp[zlB])⟩
   case round =>
    obtain⟨j,hj,rfl,hbl,hbx,HJ⟩:=hrel;have af:=zh hbl;have wH:=zh hbx;by_cases hlt:j<ks.length
    ·obtain⟨a,t,A1,c1,rfl,_,Ht,⟨y0,y1,y2,y3⟩,hn⟩:=(aS.out.later hbl).nd hlt;obtain⟨re,hre⟩:=zX (fltE vs t);have bJ:=zh (show ∀(v:Value) (w:World),NV w Any t v->w.cell? fp=some (.slice A VL c)->RowV w Any A vs->Calls Tryz.prog 63 #[.pointer (some fp),v] w fun e w'=>e=.returned (.int .i64 re)/\Below w.heap.size w w' from by
      have h1:=xe.out t (by rw[<-Ht.out];exact List.getElem_mem hlt);rw[hre,ze.out]at h1;exact h1)
     have fM:=zh hre;have HN:=zh hn;have hal:=zkc hbl (.cells #[.int .u8 t.k,.int .i64 t.n,.string t.s,.slice A1 t.ks.length c1] 24);have qN:=zh (bJ.out _ _ (HN.out.later (zkc zr (.cells #[.int .u8 t.k,.int .i64 t.n,.string t.s,.slice A1 t.ks.length c1] 24))) (zb hal HC.out) (aa.out.later hal));clear hn hbl hbx hre hal;go_wp2_with fail;refine qN.out.mono ?_;rintro e w5 ⟨rfl,gp⟩;have ay:=zh (zkb (zkc af.out _) gp);have sP:=zh (zka (zkg wH.out _) gp);clear gp y0 y1 y2 y3;by_cases hr0:re=0
     ·subst hr0;have HJ2:Hid (zlB vs (ks.take (j+1))=0):=zh (by rw[zmA hlt HJ.out,Ht.out];exact fM.out);go_wp2_with fail
      go_roundw
      case rel=>exact⟨j+1,by omega,by go_num,ay.out,sP.out,HJ2⟩
      case measure=>simp[intOf];omega
     ·have e1:(re==0)=false:=by simpa using hr0
      have e2:(re != 0)=true:=by simpa using hr0
      have HF:=zh (show R=re by rw[<-HRR.out,zmB hlt HJ.out (by rw[Ht.out,fM.out];exact hr0),Ht.out,fM.out]);clear hr0;go_wp2_with fail;go_ret;exact⟨by rw[HF.out];rfl,ay.out⟩
    ·obtain rfl:j=ks.length:=by omega
     have HF:=zh (show R=0 by
      have:=HJ.out;rw[List.take_of_length_le zl]at this;rw[<-HRR.out];exact this)
     clear hbl hbx;go_wp2_with fail;go_ret;exact⟨by rw[HF.out];rfl,af.out⟩
  ·have e1:(nk==0)=false:=by simpa using hn0
   have e2:(nk != 0)=true:=by simpa using hn0
   obtain⟨fd,yI⟩:=zX (zlp vs s);rw[yI]at bz;have xh:=zh yI;have ax:=zh (show ∀w',Below W1.heap.size W1 w'->w'.cell? fp=some (.slice A VL c)/\w'.cell? ⟨w.heap.size,2,none⟩=some (.string s)from fun w' hb=>⟨zb hb hcW,zb hb m2⟩);have aN:=zh (ax.out _ zr.drew);clear hcW m0 m1 m2 m3 yI
   cases fd with
   | none =>
    go_upto_region 3 with fail
    go_region_held3 (fun w':World=>w'.cell? fp=some (.slice A VL c)/\zv w' w.heap.size 2 (.string s))
     (first|with_reducible exact aB.out|with_reducible exact aN.out|(exact ax.out _ (zkc zr _).drew)|(exact ax.out _ (zkc b1 _))|(exact ax.out _ (((b1.setCell (by simp) _).setCell (by simp) _).setCell (by simp) _)))
     (first
      | (go_at_call 89;refine(bz.out _ (zkb dK.out (by first|exact zr.drew|exact(zkc zr _).drew))).mono ?_;rintro e y1 ⟨rfl,dZ⟩;have b1:Below W1.heap.size W1 y1:=zkb (by first|exact zr.drew|exact(zkc zr _).drew) dZ;have aB:=zh (ax.out _ b1);(try (have hz:=zka (show(W1.alloc (.cells #[.string ⟨#[]⟩,.int .u8 0,.int .i64 0] 76)).drew.heap[W1.heap.size]?=some (.cells #[.string ⟨#[]⟩,.int .u8 0,.int .i64 0] 76 (0,0))from heap_alloc_new W1 _) dZ;have hz0:y1.cell? ⟨W1.heap.size,0,none⟩=some (.string ⟨#[]⟩):=zc hz rfl;have hz1:y1.cell? ⟨W1.heap.size,1,none⟩=some (.int .u8 0):=zc hz rfl;have hz2:y1.cell? ⟨W1.heap.size,2,none⟩=some (.int .i64 0):=zc hz rfl;have vB:∀i,y1.frozen? ⟨W1.heap.size,i,none⟩=false:=fun i=>zf hz)))
      | fail)
    all_goals
     have HRR:=zh (show R=6 by
      have:ownE vs k s=6:=by rw[ownE,if_neg (by rw[ng.out];exact hn0),xh.out]
      rw[<-HR.out,this];rfl)
     have HB1:=zh (zkb dK.out b1);have kv:=zh (show Below W1.heap.size W1 _ from b1);(try clear hz hz0 hz1 hz2 vB);clear b1 dZ aB HR hn0;go_wp2_with fail;go_ret
     first
      | exact⟨by rw[HRR.out];rfl,zkc HB1.out _⟩
      | exact⟨by rw[HRR.out];rfl,zkb dK.out (((kv.out.setCell (by simp) _).setCell (by simp) _).setCell (by simp) _)⟩
   | some vd =>
    obtain⟨vm,vk,vl⟩:=vd;go_upto_region 3 with fail
    go_region_held3 (fun w':World=>w'.cell? fp=some (.slice A VL c)/\zv w' w.heap.size 2 (.string s))
     (first|with_reducible exact aB.out|with_reducible exact aN.out|(exact ax.out _ (zkc zr _).drew)|(exact ax.out _ (zkc b1 _))|(exact ax.out _ (((b1.setCell (by simp) _).setCell (by simp) _).setCell (by simp) _)))
     (first
      | (go_at_call 89;refine(bz.out _ (zkb dK.out (by first|exact zr.drew|exact(zkc zr _).drew))).mono ?_;rintro e y1 ⟨rfl,dZ⟩;have b1:Below W1.heap.size W1 y1:=zkb (by first|exact zr.drew|exact(zkc zr _).drew) dZ;have aB:=zh (ax.out _ b1);(try (have hz:=zka (show(W1.alloc (.cells #[.string ⟨#[]⟩,.int .u8 0,.int .i64 0] 76)).drew.heap[W1.heap.size]?=some (.cells #[.string ⟨#[]⟩,.int .u8 0,.int .i64 0] 76 (0,0))from heap_alloc_new W1 _) dZ;have hz0:y1.cell? ⟨W1.heap.size,0,none⟩=some (.string ⟨#[]⟩):=zc hz rfl;have hz1:y1.cell? ⟨W1.heap.size,1,none⟩=some (.int .u8 0):=zc hz rfl;have hz2:y1.cell? ⟨W1.heap.size,2,none⟩=some (.int .i64 0):=zc hz rfl;have vB:∀i,y1.frozen? ⟨W1.heap.size,i,none⟩=false:=fun i=>zf hz)))
      | fail)
    ·obtain⟨WX,lQ⟩:=zX (y1.alloc (.cells #[.string vm,.int .u8 vk,.int .i64 vl] 76));have hbX:Below W1.heap.size W1 WX:=lQ▸zkc b1 _;have hvk:WX.cell? ⟨y1.heap.size,1,none⟩=some (.int .u8 vk):=by rw[<-lQ];simp
     rw[lQ];have qD:=zh (zkb dK.out hbX);have qy:=zh (zka aO.out hbX);obtain⟨m0,m1,m2,m3⟩:=box4 qy.out;clear b1 dZ aB hbX lQ;by_cases hk:vk=nk
     ·have HRR:=zh (show zlB vs ks=R by
       have:ownE vs k s=0:=by rw[ownE,if_neg (by rw[ng.out];exact hn0),xh.out];simp[ng.out,hk]
       rw[<-HR.out,this];simp)
      have e1:(vk==nk)=true:=by simpa using hk
      have e2:(vk != nk)=false:=by simpa using hk
      clear hn0 hk;go_wp2_with fail
      go_loopw [10,35] (fun _ i wr=>∃j:Nat,j<=ks.length/\i=.int .i64 j/\Below w.heap.size w wr/\wr.heap[w.heap.size]?=some (.cells #[.int .u8 k,.int .i64 n,.string s,.slice B ks.length d] 24 (0,0))/\Hid (zlB vs (ks.take j)=0)) (fun _ i _=>ks.length-(intOf i).toNat)
      case atStart=>exact⟨0,Nat.zero_le _,rfl,qD.out,qy.out,zh (by simp[zlB])⟩
      case round =>
       obtain⟨j,hj,rfl,hbl,hbx,HJ⟩:=hrel;have af:=zh hbl;have wH:=zh hbx;by_cases hlt:j<ks.length
       ·obtain⟨a,t,A1,c1,rfl,_,Ht,⟨y0,y1,y2,y3⟩,hn⟩:=(aS.out.later hbl).nd hlt;obtain⟨re,hre⟩:=zX (fltE vs t);have bJ:=zh (show ∀(v:Value) (w:World),NV w Any t v->w.cell? fp=some (.slice A VL c)->RowV w Any A vs->Calls Tryz.prog 63 #[.pointer (some fp),v] w fun e w'=>e=.returned (.int .i64 re)/\Below w.heap.size w w' from by
         have h1:=xe.out t (by rw[<-Ht.out];exact List.getElem_mem hlt);rw[hre,ze.out]at h1;exact h1)
        have fM:=zh hre;have HN:=zh hn;have hal:=zkc hbl (.cells #[.int .u8 t.k,.int .i64 t.n,.string t.s,.slice A1 t.ks.length c1] 24);have qN:=zh (bJ.out _ _ (HN.out.later (zkc zr (.cells #[.int .u8 t.k,.int .i64 t.n,.string t.s,.slice A1 t.ks.length c1] 24))) (zb hal HC.out) (aa.out.later hal));clear hn hbl hbx hre hal;go_wp2_with fail;refine qN.out.mono ?_;rintro e w5 ⟨rfl,gp⟩;have ay:=zh (zkb (zkc af.out _) gp);have sP:=zh (zka (zkg wH.out _) gp);clear gp y0 y1 y2 y3;by_cases hr0:re=0
        ·subst hr0;have HJ2:Hid (zlB vs (ks.take (j+1))=0):=zh (by rw[zmA hlt HJ.out,Ht.out];exact fM.out);go_wp2_with fail
         go_roundw
         case rel=>exact⟨j+1,by omega,by go_num,ay.out,sP.out,HJ2⟩
         case measure=>simp[intOf];omega
        ·have e1:(re==0)=false:=by simpa using hr0
         have e2:(re != 0)=true:=by simpa using hr0
         have HF:=zh (show R=re by rw[<-HRR.out,zmB hlt HJ.out (by rw[Ht.out,fM.out];exact hr0),Ht.out,fM.out]);clear hr0;go_wp2_with fail;go_ret;exact⟨by rw[HF.out];rfl,ay.out⟩
       ·obtain rfl:j=ks.length:=by omega
        have HF:=zh (show R=0 by
         have:=HJ.out;rw[List.take_of_length_le zl]at this;rw[<-HRR.out];exact this)
        clear hbl hbx;go_wp2_with fail;go_ret;exact⟨by rw[HF.out];rfl,af.out⟩
     ·have HRR:=zh (show R=7 by
       have:ownE vs k s=7:=by rw[ownE,if_neg (by rw[ng.out];exact hn0),xh.out];simp[ng.out,hk]
       rw[<-HR.out,this];rfl)
      have e1:(vk==nk)=false:=by simpa using hk
      have e2:(vk != nk)=true:=by simpa using hk
      clear hn0 hk;go_wp2_with fail;go_ret;exact⟨by rw[HRR.out];rfl,qD.out⟩
    ·obtain⟨WX,lQ⟩:=zX (((y1.setCell ⟨W1.heap.size,0,none⟩ (.string vm)).setCell ⟨W1.heap.size,1,none⟩ (.int .u8 vk)).setCell ⟨W1.heap.size,2,none⟩ (.int .i64 vl));have hbX:Below W1.heap.size W1 WX:=lQ▸((b1.setCell (by simp) _).setCell (by simp) _).setCell (by simp) _;have hvk:WX.cell? ⟨W1.heap.size,1,none⟩=some (.int .u8 vk):=by rw[<-lQ];exact zc (heap_setCell_same _ W1.heap.size 2 _ _ (.int .i64 vl) (heap_setCell_same _ W1.heap.size 1 _ _ (.int .u8 vk) (heap_setCell_same y1 W1.heap.size 0 _ _ (.string vm) hz))) (by simp)
     rw[lQ];have qD:=zh (zkb dK.out hbX);have qy:=zh (zka aO.out hbX);obtain⟨m0,m1,m2,m3⟩:=box4 qy.out;clear hz hz0 hz1 hz2 vB;clear b1 dZ aB hbX lQ;by_cases hk:vk=nk
     ·have HRR:=zh (show zlB vs ks=R by
       have:ownE vs k s=0:=by rw[ownE,if_neg (by rw[ng.out];exact hn0),xh.out];simp[ng.out,hk]
       rw[<-HR.out,this];simp)
      have e1:(vk==nk)=true:=by simpa using hk
      have e2:(vk != nk)=false:=by simpa using hk
      clear hn0 hk;go_wp2_with fail
      go_loopw [10,35] (fun _ i wr=>∃j:Nat,j<=ks.length/\i=.int .i64 j/\Below w.heap.size w wr/\wr.heap[w.heap.size]?=some (.cells #[.int .u8 k,.int .i64 n,.string s,.slice B ks.length d] 24 (0,0))/\Hid (zlB vs (ks.take j)=0)) (fun _ i _=>ks.length-(intOf i).toNat)
      case atStart=>exact⟨0,Nat.zero_le _,rfl,qD.out,qy.out,zh (by simp[zlB])⟩
      case round =>
       obtain⟨j,hj,rfl,hbl,hbx,HJ⟩:=hrel;have af:=zh hbl;have wH:=zh hbx;by_cases hlt:j<ks.length
       ·obtain⟨a,t,A1,c1,rfl,_,Ht,⟨y0,y1,y2,y3⟩,hn⟩:=(aS.out.later hbl).nd hlt;obtain⟨re,hre⟩:=zX (fltE vs t);have bJ:=zh (show ∀(v:Value) (w:World),NV w Any t v->w.cell? fp=some (.slice A VL c)->RowV w Any A vs->Calls Tryz.prog 63 #[.pointer (some fp),v] w fun e w'=>e=.returned (.int .i64 re)/\Below w.heap.size w w' from by
         have h1:=xe.out t (by rw[<-Ht.out];exact List.getElem_mem hlt);rw[hre,ze.out]at h1;exact h1)
        have fM:=zh hre;have HN:=zh hn;have hal:=zkc hbl (.cells #[.int .u8 t.k,.int .i64 t.n,.string t.s,.slice A1 t.ks.length c1] 24);have qN:=zh (bJ.out _ _ (HN.out.later (zkc zr (.cells #[.int .u8 t.k,.int .i64 t.n,.string t.s,.slice A1 t.ks.length c1] 24))) (zb hal HC.out) (aa.out.later hal));clear hn hbl hbx hre hal;go_wp2_with fail;refine qN.out.mono ?_;rintro e w5 ⟨rfl,gp⟩;have ay:=zh (zkb (zkc af.out _) gp);have sP:=zh (zka (zkg wH.out _) gp);clear gp y0 y1 y2 y3;by_cases hr0:re=0
        ·subst hr0;have HJ2:Hid (zlB vs (ks.take (j+1))=0):=zh (by rw[zmA hlt HJ.out,Ht.out];exact fM.out);go_wp2_with fail
         go_roundw
         case rel=>exact⟨j+1,by omega,by go_num,ay.out,sP.out,HJ2⟩
         case measure=>simp[intOf];omega
        ·have e1:(re==0)=false:=by simpa using hr0
         have e2:(re != 0)=true:=by simpa using hr0
         have HF:=zh (show R=re by rw[<-HRR.out,zmB hlt HJ.out (by rw[Ht.out,fM.out];exact hr0),Ht.out,fM.out]);clear hr0;go_wp2_with fail;go_ret;exact⟨by rw[HF.out];rfl,ay.out⟩
       ·obtain rfl:j=ks.length:=by omega
        have HF:=zh (show R=0 by
         have:=HJ.out;rw[List.take_of_length_le zl]at this;rw[<-HRR.out];exact this)
        clear hbl hbx;go_wp2_with fail;go_ret;exact⟨by rw[HF.out];rfl,af.out⟩
     ·have HRR:=zh (show R=7 by
       have:ownE vs k s=7:=by rw[ownE,if_neg (by rw[ng.out];exact hn0),xh.out];simp[ng.out,hk]
       rw[<-HR.out,this];rfl)
      have e1:(vk==nk)=false:=by simpa using hk
      have e2:(vk != nk)=true:=by simpa using hk
      clear hn0 hk;go_wp2_with fail;go_ret;exact⟨by rw[HRR.out];rfl,qD.out⟩
def ST.setL(S:ST)(id:Nat)(l:List Int):ST:={ S with cell:=fun j=>if j=id then l else S.cell j }
def ST.el(S:ST)(id i:Nat):Int:=(S.cell id).getD i 0
def ST.put(S:ST)(id i:Nat)(x:Int):ST:=S.setL id ((S.cell id).set i x)
def updE(k x y:Int):Int:=if k=40 then wrap64 (x+y)else if k=41 then wrap64 (x-y)else bits BinOp.xor IntKind.i64 x y
def zmX(S:ST)(k:Int)(id i ah:Nat):Int×ST :=
 if k=44 then(if 1000<=(S.cell ah).length then(5,S)else(0,(S.setL ah (S.cell ah++[S.el id i])).put id i 0))
 else if (S.cell ah).length=0 then(13,S)
 else if S.el id i≠0 then(14,S)
 else(0,(S.put id i (S.el ah ((S.cell ah).length-1))).setL ah ((S.cell ah).take ((S.cell ah).length-1)))
def zlf(S:ST)(k:Int)(id i:Nat):Int×ST :=
 if k=46 then match S.tin with
  | []=>(17,S)
  | y::r=>if S.el id i≠0 then(14,S)else(0,({ S with tin:=r }:ST).put id i y)
 else if k=49 then(if S.tout=[]then(17,S)else if S.el id i≠0 then(14,S)else(0,({ S with tout:=S.tout.dropLast }:ST).put id i (S.tout.getLast?.getD 0)))
 else if k=47 then(if 4096<=S.tin.length then(5,S)else(0,({ S with tin:=S.el id i::S.tin }:ST).put id i 0))
 else(if 4096<=S.tout.length then(5,S)else(0,({ S with tout:=S.tout++[S.el id i] }:ST).put id i 0))
def CurK(S:ST)(id:Nat)(k:Int):Prop:=∃(i:Nat) (v:VD),S.cur.vs[i]?=some v/\S.cur.cs[i]?=some id/\v.k=k
theorem CurK.kd{S:ST}{id:Nat}{k:Int}(h:CurK S id k){kd:Nat->Int×Int}(hw:S.cur.WF kd S.nc):(kd id).1=k/\id<S.nc:=by
 obtain⟨i,v,h1,h2,h3⟩:=h;obtain⟨a1,a2⟩:=List.getElem?_eq_some_iff.1 h1;obtain⟨b1,b2⟩:=List.getElem?_eq_some_iff.1 h2;have:=hw.kind i a1 b1;rw[b2,a2]at this;exact⟨by rw[this];exact h3,b2▸hw.num _ (List.getElem_mem b1)⟩
theorem CurK.lt{S:ST}{id:Nat}{k:Int}(h:CurK S id k)(hw:S.WF):id<S.nc:=by
 obtain⟨kd,h1⟩:=hw.cur;exact(h.kd h1).2
theorem CurK.ne{S:ST}{id id':Nat}{k k':Int}(h:CurK S id k)(h':CurK S id' k')(hw:S.WF)(hk:k≠k'):id≠id':=fun e=>by
 obtain⟨kd,h1⟩:=hw.cur;subst e;exact hk ((h.kd h1).1.symm.trans (h'.kd h1).1)
theorem zxw{S:ST}(h:S.WF)(id:Nat)(l:List Int)(hl:l.length=(S.cell id).length)(hx:∀x∈l,I64 x):(S.setL id l).WF:=by
 obtain⟨kd,h1,h2,h3⟩:=h.ex;refine⟨⟨kd,h1,h2,fun i hi=>?_⟩,h.ncalls,fun i hi=>?_,h.tin,h.tout⟩
 ·have:=h3 i hi;simp only[ST.setL];by_cases e:i=id
  ·subst e;rw[if_pos rfl,hl];exact this
  ·rw[if_neg e];exact this
 ·have:=h.cells i hi;simp only[ST.setL];by_cases e:i=id
  ·subst e;rw[if_pos rfl,hl];exact⟨this.1,hx⟩
  ·rw[if_neg e];exact this
theorem ztM{S:ST}(h:S.WF)(id:Nat)(hk:CurK S id 3)(l:List Int)(hl:l.length<=1000)(hx:∀x∈l,I64 x):(S.setL id l).WF:=by
 obtain⟨kd,h1,h2,h3⟩:=h.ex;have hc:S.cur.WF kd S.nc:=by
  rcases Nat.eq_zero_or_pos S.calls.length with h0|h0
  ·rw[zm8 h0];exact h1
  ·rw[zm7 h0];exact h2 _ (List.getElem_mem _)
 have hk3:=(hk.kd hc).1;refine⟨⟨kd,h1,h2,fun i hi=>?_⟩,h.ncalls,fun i hi=>?_,h.tin,h.tout⟩
 ·have:=h3 i hi;simp only[ST.setL];by_cases e:i=id
  ·subst e;rw[if_pos rfl];exact⟨fun e=>by omega,fun e=>by omega,.inr (.inr hk3)⟩
  ·rw[if_neg e];exact this
 ·have:=h.cells i hi;simp only[ST.setL];by_cases e:i=id
  ·subst e;rw[if_pos rfl];exact⟨hl,hx⟩
  ·rw[if_neg e];exact this
theorem zmq{S:ST}(h:S.WF){id:Nat}(hid:id<S.nc)(i:Nat):I64 (S.el id i):=by
 unfold ST.el;rcases Nat.lt_or_ge i (S.cell id).length with hi|hi
 ·rw[List.getD_eq_getElem?_getD,List.getElem?_eq_getElem hi];exact(h.cells id hid).2 _ (List.getElem_mem hi)
 ·rw[List.getD_eq_getElem?_getD,List.getElem?_eq_none hi];exact⟨by decide,by decide⟩
theorem zmH{S:ST}(h:S.WF){id:Nat}(hid:id<S.nc)(i:Nat)(x:Int)(hx:I64 x):(S.put id i x).WF :=
 zxw h id _ (by simp) fun y hy=>by
  rcases List.mem_or_eq_of_mem_set hy with hy|rfl
  ·exact(h.cells id hid).2 y hy
  ·exact hx
def Ph.gI(P:Ph)(id:Nat):Nat:=(P.ci id).ownBlock.getD 0
def Ph.setI(P:Ph)(id:Nat)(vv:Value):Ph:={ P with ci:=fun j=>if j=id then vv else P.ci j }
theorem zti(l:List Int)(i:Nat)(x:Int):zkf (l.set i x)=(zkf l).set i (.int .i64 x):=by simp[zkf,List.map_set]
theorem zqW(P:Ph)(S:ST)(id i:Nat)(x:Int)(hid:id<S.nc):rows P (S.put id i x)=updR (rows P S) (.ci id) { rows P S (.ci id)with xs:=(rows P S (.ci id)).xs.set i (.int .i64 x) }:=by
 funext r
 cases r with
 | ci j =>
  by_cases e:j=id
  ·subst e;simp[updR,rows,ST.put,ST.setL,hid,zti]
  ·simp[updR,rows,ST.put,ST.setL,e]
 | cb j=>rfl
 | _=>simp[updR,rows,ST.put,ST.setL]
theorem zsx(P:Ph)(S:ST)(id:Nat)(vv:Value)(l:List Int)(hid:id<S.nc):rows (P.setI id vv) (S.setL id l)=updR (updR (rows P S) (.ci id) ⟨vv,3,1,l.length,zkf l⟩) (.cb id) { rows P S (.cb id)with xs:=(rows P S (.cb id)).xs.set 0 vv }:=by
 funext r
 cases r with
 | ci j =>
  by_cases e:j=id
  ·subst e;simp[updR,rows,Ph.setI,ST.setL,hid]
  ·simp[updR,rows,Ph.setI,ST.setL,e]
 | cb j =>
  by_cases e:j=id
  ·subst e;simp[updR,rows,Ph.setI,ST.setL,hid]
  ·simp[updR,rows,Ph.setI,ST.setL,e]
 | calls=>simp only[updR,reduceCtorEq,if_false,rows,ST.setL];rw[zlm (P:=P) (P':=P.setI id vv) rfl rfl];rfl
 | _=>simp[updR,rows,Ph.setI,ST.setL]
section
variable {W:World} {n0:Nat} {P:Ph} {S:ST}
theorem SR.plc(h:SR W n0 P S){id i:Nat}(hid:id<S.nc)(hi:i<(S.cell id).length):(∃c,P.ci id=.slice (some ⟨P.gI id,0,none⟩) (S.cell id).length c/\(S.cell id).length<=c)/\W.cell? ⟨P.gI id,i,none⟩=some (.int .i64 (S.el id i))/\W.frozen? ⟨P.gI id,i,none⟩=false:=by
 have hr:=h.rws.row (.ci id);simp only[rows,hid,if_true]at hr;obtain⟨g,c,hv,hc,_,hcell⟩:=zk4 hr (by omega);have hg:P.gI id=g:=by simp[Ph.gI,hv,Value.ownBlock]
 refine⟨⟨c,by rw[hg];exact hv,hc⟩,?_,?_⟩
 ·rw[hg,hcell i (by omega)];simp[zkf,ST.el,hi]
 ·exact h.rws.frozen (.ci id) (by simp only[rows,hid,if_true];rw[hv,hg];rfl) i
theorem SR.own(h:SR W n0 P S){id i:Nat}(hid:id<S.nc)(hi:i<(S.cell id).length):(rows P S (.ci id)).v.ownBlock=some (P.gI id):=by
 obtain⟨⟨c,hv,_⟩,_⟩:=h.plc hid hi;simp only[rows,hid,if_true];rw[hv];rfl
theorem SR.put(h:SR W n0 P S){id i:Nat}(hid:id<S.nc)(hi:i<(S.cell id).length)(x:Int)(hx:I64 x):SStp n0 P S W P (S.put id i x) (W.setCell ⟨P.gI id,i,none⟩ (.int .i64 x)):=by
 refine⟨?_,zmH h.wf hid i x hx⟩;have:=Stp.set (i:=Res.ci id) h.rws (g:=P.gI id) (h.own hid hi) (o:=i) (by simp only[rows,hid,if_true,zkw];exact hi) (.int .i64 x);exact this.cast (zqW P S id i x hid).symm
end
theorem SR.stk{W W2:World}{n0:Nat}{P:Ph}{S:ST}(h:SR W n0 P S)(ah:Nat)(hs:CurK S ah 3)(l:List Int)(vv:Value)(hl:l.length<=1000)(hx:∀x∈l,I64 x)(hc:Chg (fun b=>(P.ci ah).ownBlock=some b) W W2)(ho:W2.ownsRow n0 3 1 vv l.length (zkf l))(aR:∀b,vv.ownBlock=some b->(P.ci ah).ownBlock=some b\/W.heap.size<=b) :
  W2.cell? ⟨P.cb ah,0,none⟩=some (P.ci ah)/\W2.frozen? ⟨P.cb ah,0,none⟩=false/\SStp n0 P S W (P.setI ah vv) (S.setL ah l) (W2.setCell ⟨P.cb ah,0,none⟩ vv):=by
 have hid:=hs.lt h.wf;have ev:(rows P S (.ci ah)).v=P.ci ah:=by simp only[rows,hid,if_true]
 have s1:=Stp.upd (i:=Res.ci ah) (r:=⟨vv,3,1,l.length,zkf l⟩) h.rws (hc.mono fun b _ hb=>by rw[ev];exact hb) ho (fun b hb=>by rw[ev];exact aR b hb);have eb:updR (rows P S) (.ci ah) ⟨vv,3,1,l.length,zkf l⟩ (.cb ah)=rows P S (.cb ah):=zkj (by simp);have wE:rows P S (.cb ah)=⟨boxV (P.cb ah),117,1,1,[P.ci ah]⟩:=by simp only[rows,hid,if_true]
 have s2:=Stp.set (i:=Res.cb ah) s1.rws (g:=P.cb ah) (by rw[eb,wE];rfl) (o:=0) (by rw[eb,wE];exact Nat.one_pos) vv;rw[eb]at s2;refine⟨s1.rws.cell (.cb ah) (g:=P.cb ah) (o:=0) (by rw[eb,wE];rfl) (by rw[eb,wE];rfl),s1.rws.frozen (.cb ah) (g:=P.cb ah) (by rw[eb,wE];rfl) 0,⟨(s1.trans s2).cast (zsx P S ah vv l hid).symm,ztM h.wf ah hs l hl hx⟩⟩
theorem zxS:(Tryz.prog.info? 3).map (fun i=>(i.zero,i.size,i.bytes))=some (some (.int .i64 0),1,8):=znn
theorem zuN{W:World}{n0:Nat}{P:Ph}{S:ST}(h:SR W n0 P S)(k:Int)(hk:k=44\/k=45)(id i ah:Nat)(hid:id<S.nc)(hi:i<(S.cell id).length)(hs:CurK S ah 3)(hne:id≠ah) :
  Calls Tryz.prog 92 #[.int .u8 k,.pointer (some ⟨P.gI id,i,none⟩),.pointer (some ⟨P.cb ah,0,none⟩)] W fun e W'=>e=.returned (.int .i64 (zmX S k id i ah).1)/\∃P',SStp n0 P S W P' (zmX S k id i ah).2 W'/\P'.sb=P.sb:=by
 have bX:=hs.lt h.wf;obtain⟨R,hR⟩:=zX (zmX S k id i ah);rw[hR];have HRR:=zh hR;have HS:=zh h;have HK:=zh hs;obtain⟨A,c,hci,hc,aQ⟩:=h.items bX;have hcs:=h.wf.cells ah bX;have x0:W.cell? ⟨P.cb ah,0,none⟩=some (.slice A (S.cell ah).length c):=by rw[<-hci];exact zc (h.cbox bX) rfl
 obtain⟨-,p0,p1⟩:=h.plc hid hi;obtain⟨x,hx⟩:=zX (S.el id i);rw[hx]at p0;have HX:=zh hx;obtain⟨L,hL⟩:=zX ((S.cell ah).length);rw[hL]at x0;have HL:=zh hL;have hL1:L<=1000:=by rw[<-hL];exact hcs.1
 have qf:=zh hci;have df:=zh aQ;clear h hs hci aQ hx hL hR hc;rcases hk with rfl|rfl
 ·by_cases hf:1000<=L
  ·have HN:=zh (show R=(5,S) by rw[<-HRR.out,zmX,if_pos rfl,if_pos (by rw[HL.out];exact hf)]);obtain rfl:L=1000:=by omega
   go_enter Tryz.func92,Tryz.ntmps92;go_wp2_with fail;go_ret;exact⟨by rw[HN.out];rfl,P,by rw[HN.out];exact SStp.refl HS.out zr,rfl⟩
  ·have HN:=zh (show R=(0,(S.setL ah (S.cell ah++[x])).put id i 0) by rw[<-HRR.out,zmX,if_pos rfl,if_neg (by rw[HL.out];exact hf),HX.out]);have hf1:¬ (1000:Int)<=(L:Int):=by omega
   obtain⟨i1,hi1,hz0,hz1,hz2⟩:=info_parts zxS;have hbi:=zpr;have uA:I64 x:=by rw[<-HX.out];exact zmq HS.out.wf hid i
   clear HRR;go_enter Tryz.func92,Tryz.ntmps92;go_upto_region 7 with fail;have hSS:(fun w':World=>zv w' (P.gI id) i (.int .i64 x)) W.drew/\(fun w':World=>zv w' (P.cb ah) 0 (.slice A L c)) W.drew:=⟨p0,x0⟩
   refine wp_region_noPanic ?_;refine zkk (fun w':World=>zv w' (P.gI id) i (.int .i64 x)) (fun w':World=>zv w' (P.cb ah) 0 (.slice A L c)) 9 (by kernel_rfl) ?_;refine zT 0 hSS ?_;refine zT 1 hSS ?_;refine zT 2 hSS ?_;refine zT 3 hSS ?_;refine zJ 4 hSS ?_;refine zT 5 hSS ?_;refine zT 6 hSS ?_;refine zT 7 hSS ?_;refine zo 8 fun K hK=>?_;(try simp only[zA,zB,zC]);go_simp;refine hK.out _ _ ⟨zks p0 _,zks x0 _⟩ ?_;clear hK K hSS;(try simp only[zQ]);obtain⟨W2,hW2⟩:=zX ((W.alloc (.cells #[.int .i64 x] 3)).drew);have hb2:Below W.heap.size W W2:=hW2▸(zkc zr _).drew;have aI:=zh (show ∀j u,[Value.int .i64 x][j]?=some u->W2.cell? ((⟨W.heap.size,0,none⟩:Addr).add j)=some u from hW2▸zlv W 3 [.int .i64 x]);have vH:W2.ownsRow n0 3 1 (.slice A L c) L (zkf (S.cell ah)):=by
    have:=zky (HS.out.rws.row (.ci ah)) hb2;simp only[rows,bX,if_true]at this;rw[qf.out,HL.out]at this;exact this
   have hs2:=hb2.size;have d0:=zb hb2 p0;have hn0:=(HS.out.rws.lt .sb P.sb rfl)
   have HST:=zh (fun w3 vv=>SR.stk (W2:=w3) (HS.out.later hb2) ah HK.out (S.cell ah++[x]) vv (by rw[List.length_append,HL.out];simp;omega) (fun y hy=>by
    simp only[List.mem_append,List.mem_singleton]at hy;rcases hy with hy|rfl
    ·exact(hcs.2 y hy)
    ·exact uA))
   rw[hW2];have hnb:∀b,(P.ci ah).ownBlock=some b->b≠P.gI id:=fun b hb e=>by
    have h1:=HS.out.own hid hi;rw[<-e]at h1;exact HS.out.rws.sep (.ci id) (.ci ah) b (by simpa using hne) h1 (by simp only[rows,bX,if_true];exact hb)
   rw[qf.out]at HST hnb;rw[HL.out]at HST hnb;have HNB:=zh hnb;have dA:=zh hb2;clear hW2 hnb hb2;refine zp 9 fun K hK=>?_;refine zkR (by rfl) (.tmp 47) (.tmp 51) 32 (by rfl) n0 3 i1 _ 1 8 Tryz.underlying32 hi1 hz0 hz1 hz2 rfl (by decide) (.slice A L c) L (zkf (S.cell ah)) (by rfl) vH ⟨W.heap.size,0,none⟩ 1 1 [.int .i64 x] (by rfl) rfl aI.out (by intro u hu;simp at hu;subst hu;rfl) (by unfold maxLen;omega) (by omega) (by omega) ?_;intro v' w3 h2 h3 h5;obtain⟨g8,aG,rfl⟩:=ownsRow_succ h2;have hll:(S.cell ah++[x]).length=L+1:=by rw[List.length_append,HL.out];rfl
   obtain⟨z0,zf,hfin⟩:=HST.out w3 _ (Chg.row h3) (by rw[hll,zlL];exact h2) (fun b hb=>by
    rcases h5 with h5|h5
    ·exact .inl (h5▸hb)
    ·exact .inr (by rw[h5]at hb;injection hb with hb;omega))
   have y0:w3.cell? ⟨P.gI id,i,none⟩=some (.int .i64 x):=zkS (Chg.row h3) d0 (fun e=>HNB.out _ e rfl);have hput:=SR.put (hfin.sr) (id:=id) (i:=i) hid (by show i<((S.setL ah _).cell id).length;simp only[ST.setL,if_neg hne];exact hi) 0 ⟨by decide,by decide⟩;have hgi:(P.setI ah (.slice (some ⟨g8,0,none⟩) (L+1) aG)).gI id=P.gI id:=by simp[Ph.gI,Ph.setI,hne]
   rw[hgi]at hput;have mG:P.cb ah≠P.gI id:=fun e=>by
    have h1:=HS.out.own hid hi;exact HS.out.rws.sep (.ci id) (.cb ah) (P.gI id) (by simp) h1 (by simp only[rows,bX,if_true];rw[e];rfl)
   have y1:(w3.setCell ⟨P.cb ah,0,none⟩ (.slice (some ⟨g8,0,none⟩) (L+1) aG)).cell? ⟨P.gI id,i,none⟩=some (.int .i64 x):=(World.cell?_setCell_far _ _ _ _ mG).trans y0;have aC:=zh (hfin.trans hput);have hfr:=hfin.sr.plc (id:=id) (i:=i) hid (by show i<((S.setL ah _).cell id).length;simp only[ST.setL,if_neg hne];exact hi);rw[hgi]at hfr;have yf:=hfr.2.2;refine hK.out _ _ y0 ?_;clear hK K h2 h3 h5 hfin hput vH aI d0 hfr;(try simp only[zQ]);refine zp 10 fun K hK=>?_;(try simp only[zA,zB,zC]);go_simp;refine hK.out _ _ y0 ?_;clear hK K;(try simp only[zQ]);refine zp 11 fun K hK=>?_;(try simp only[zA,zB,zC]);go_simp;refine hK.out _ _ y0 ?_;clear hK K;(try simp only[zQ]);refine zp 12 fun K hK=>?_;(try simp only[zA,zB,zC]);go_simp;refine hK.out _ _ y1 ?_;clear hK K;(try simp only[zQ]);refine zd ?_;refine NoPanic.normal ?_
   obtain⟨w4,hw4⟩:=zX (w3.setCell ⟨P.cb ah,0,none⟩ (.slice (some ⟨g8,0,none⟩) (L+1) aG));rw[hw4]at y1 yf aC ⊢;clear hw4 z0 zf y0;go_wp2_with fail;go_ret;refine⟨by rw[HN.out];rfl,P.setI ah (.slice (some ⟨g8,0,none⟩) (L+1) aG),?_,rfl⟩;rw[HN.out];exact⟨aC.out.st.after dA.out HS.out.rws,aC.out.wf⟩
 ·rcases Nat.eq_zero_or_pos L with h0|h0
  ·subst h0;have HN:=zh (show R=(13,S) by rw[<-HRR.out,zmX,if_neg (by decide),if_pos HL.out]);go_enter Tryz.func92,Tryz.ntmps92;go_wp2_with fail;go_ret;exact⟨by rw[HN.out];rfl,P,by rw[HN.out];exact SStp.refl HS.out zr,rfl⟩
  ·obtain⟨m,rfl⟩:∃m,L=m+1:=⟨L-1,by omega⟩
   have hm0:¬ ((m:Int)+1=0):=by omega
   have hm1:(((m:Int)+1)==0)=false:=by simpa using hm0
   by_cases hx0:x=0
   ·subst hx0;obtain⟨a,rfl,hz⟩:=df.out.nd (i:=m) (by rw[HL.out];omega);obtain⟨y,hy⟩:=zX ((S.cell ah).getD m 0);rw[hy]at hz;have HN:=zh (show R=(0,(S.put id i y).setL ah ((S.cell ah).take m)) by
     rw[<-HRR.out,zmX,if_neg (by decide),if_neg (by rw[HL.out];omega),if_neg (by rw[HX.out];simp),HL.out];rw[show S.el ah (m+1-1)=y from hy];rfl)
    have qU:I64 y:=by rw[<-hy];exact zmq HS.out.wf bX m
    have s1:=HS.out.put hid hi y qU;obtain⟨g,c2,hv2,hc2,hm2,hcell2⟩:=zk4 (HS.out.rws.row (.ci ah)) (by simp only[rows,bX,if_true];rw[HL.out];omega);simp only[rows,bX,if_true]at hv2 hc2;rw[HL.out]at hc2;rw[qf.out]at hv2;injection hv2 with a1 a2 a3;injection a1 with a1;subst a1 a3;rw[Addr.add_lit,Nat.zero_add]at hz;have mG:P.cb ah≠P.gI id:=fun e=>by
     have h1:=HS.out.own hid hi;exact HS.out.rws.sep (.ci id) (.cb ah) (P.gI id) (by simp) h1 (by simp only[rows,bX,if_true];rw[e];rfl)
    have x1:(W.setCell ⟨P.gI id,i,none⟩ (.int .i64 y)).cell? ⟨P.cb ah,0,none⟩=some (.slice (some ⟨g,0,none⟩) (m+1) c):=(World.cell?_setCell_far _ _ _ _ (Ne.symm mG)).trans x0;have hrow1:(W.setCell ⟨P.gI id,i,none⟩ (.int .i64 y)).ownsRow n0 3 1 (.slice (some ⟨g,0,none⟩) m c) m (zkf ((S.cell ah).take m)):=by
     have:=s1.st.rws.row (.ci ah);have e1:rows P (S.put id i y) (.ci ah)=⟨.slice (some ⟨g,0,none⟩) (m+1) c,3,1,m+1,zkf (S.cell ah)⟩:=by
      rw[zqW P S id i y hid,zkj (by simpa using Ne.symm hne)];simp only[rows,bX,if_true];rw[qf.out,HL.out]
     rw[e1]at this;have e2:zkf (S.cell ah)=zkf ((S.cell ah).take m)++(zkf (S.cell ah)).drop (m*1):=by rw[Nat.mul_one,zkf,zkf,List.map_take,List.take_append_drop]
     dsimp only at this;rw[e2]at this;exact ownsRow_pop (by rw[zkw,List.length_take,HL.out];omega) this
    have hltm:((S.cell ah).take m).length=m:=by rw[List.length_take,HL.out];omega
    have hcell1:(S.put id i y).cell ah=S.cell ah:=by simp[ST.put,ST.setL,Ne.symm hne]
    obtain⟨z0,zf,hfin⟩:=SR.stk (W2:=W.setCell ⟨P.gI id,i,none⟩ (.int .i64 y)) s1.sr ah HK.out ((S.cell ah).take m) (.slice (some ⟨g,0,none⟩) m c) (by omega) (fun q hq=>hcs.2 q (List.mem_of_mem_take hq)) (Chg.refl _ _) (by rw[hltm];exact hrow1) (fun b hb=>.inl (by rw[qf.out];exact hb));have aC:=zh (s1.trans hfin);have hw1:IntKind.i64.wrap (m:Int)=(m:Int):=IntWalk.i64_in _ (by omega);have hmc:(m:Int)<=(c:Int):=by omega
    have hmm:(m:Int)<(m:Int)+1:=by omega
    clear s1 hfin hrow1 z0 hcell2 HRR;go_enter Tryz.func92,Tryz.ntmps92;go_wp2_with fail;go_ret;refine⟨by rw[HN.out];rfl,P.setI ah (.slice (some ⟨g,0,none⟩) m c),?_,rfl⟩;rw[HN.out];exact aC.out
   ·have HN:=zh (show R=(14,S) by rw[<-HRR.out,zmX,if_neg (by decide),if_neg (by rw[HL.out];omega),if_pos (by rw[HX.out];exact hx0)]);have hx1:(x != 0)=true:=by simpa using hx0
    have hx2:(x==0)=false:=by simpa using hx0
    go_enter Tryz.func92,Tryz.ntmps92;go_wp2_with fail;go_ret;exact⟨by rw[HN.out];rfl,P,by rw[HN.out];exact SStp.refl HS.out zr,rfl⟩
theorem zta:IsFn Tryz.prog 122 Tryz.f122:=⟨Tryz.func122,by kernel_rfl,by kernel_rfl⟩
theorem zu4:IsFn Tryz.prog 124 Tryz.f124:=⟨Tryz.func124,by kernel_rfl,by kernel_rfl⟩
theorem SR.tp{W:World}{n0:Nat}{P:Ph}{S:ST}(h:SR W n0 P S):W.cell? ⟨P.sb,4,none⟩=some (.pointer (some ⟨P.tb,0,none⟩)):=zc h.box rfl
theorem zpA{W:World}{n0:Nat}{P:Ph}{S:ST}(h:SR W n0 P S)(k:Int)(hk:k=46\/k=49\/k=47\/k=48)(id i:Nat)(hid:id<S.nc)(hi:i<(S.cell id).length) :
  Calls Tryz.prog 93 #[.pointer (some ⟨P.sb,0,none⟩),.int .u8 k,.pointer (some ⟨P.gI id,i,none⟩)] W fun e W'=>e=.returned (.int .i64 (zlf S k id i).1)/\∃P',SStp n0 P S W P' (zlf S k id i).2 W'/\P'.sb=P.sb:=by
 obtain⟨R,hR⟩:=zX (zlf S k id i);rw[hR];have HRR:=zh hR;have HS:=zh h;have x4:=h.tp;obtain⟨-,p0,p1⟩:=h.plc hid hi;obtain⟨x,hx⟩:=zX (S.el id i);rw[hx]at p0;have HX:=zh hx;have uA:I64 x:=by rw[<-hx];exact zmq h.wf hid i
 clear hR hx h;rcases hk with rfl|rfl|rfl|rfl
 ·have lW:=zh (zvS HS.out);go_enter Tryz.func93,Tryz.ntmps93;go_wp2_with fail;refine lW.out.mono ?_;rintro e w1 hh;rcases hh with⟨h0,rfl,hb⟩|⟨y,r,h0,rfl,vv,hst⟩
  ·have HN:=zh (show R=(17,S) by rw[<-HRR.out,zlf,if_pos rfl,h0]);have HB:=zh hb;clear h0 hb;go_wp2_with fail;go_ret;exact⟨by rw[HN.out];rfl,P,by rw[HN.out];exact SStp.refl HS.out HB.out,rfl⟩
  ·have ht:=HS.out.wf.tin;rw[h0]at ht;have qU:I64 y:=ht.2 y (List.mem_cons_self ..);have y4:w1.cell? ⟨P.sb,4,none⟩=some (.pointer (some ⟨P.tb,0,none⟩)):=hst.sr.tp;obtain⟨-,r0,r1⟩:=hst.sr.plc (id:=id) (i:=i) hid hi;have r0':w1.cell? ⟨P.gI id,i,none⟩=some (.int .i64 x):=by rw[<-HX.out];exact r0
   have r1':w1.frozen? ⟨P.gI id,i,none⟩=false:=r1;by_cases hx0:x=0
   ·subst hx0;have HN:=zh (show R=(0,({ S with tin:=r }:ST).put id i y) by rw[<-HRR.out,zlf,if_pos rfl,h0];dsimp only;rw[HX.out];simp);have mZ:=zh (hst.trans (hst.sr.put (id:=id) (i:=i) hid hi y qU));clear h0 hst ht r0 r1;go_wp2_with fail;go_ret;exact⟨by rw[HN.out];rfl,{ P with vI:=vv },by rw[HN.out];exact mZ.out,rfl⟩
   ·have HN:=zh (show R=(14,S) by rw[<-HRR.out,zlf,if_pos rfl,h0];dsimp only;rw[HX.out,if_pos hx0]);have hx1:(x != 0)=true:=by simpa using hx0
    have hx2:(x==0)=false:=by simpa using hx0
    have zg:=zh (zoX hst.sr y qU);have hrl:¬ 4096<=r.length:=by have:=ht.1;simp at this;omega
    have HST:=zh hst;have H0:=zh h0;clear h0 hst ht r0 r1;go_wp2_with fail;refine zg.out.mono ?_;rintro e w2 hh;rcases hh with⟨h1,rfl,hb⟩|⟨h1,rfl,yj,mg⟩
    ·exact absurd h1 hrl
    ·have HS2:=zh mg;clear h1 mg;go_wp2_with fail;go_ret;refine⟨by rw[HN.out];rfl,{ P with vI:=yj },?_,rfl⟩;rw[HN.out];have h3:=HST.out.trans HS2.out;have e3:({ { S with tin:=r } with tin:=y::({ S with tin:=r }:ST).tin }:ST)=S:=by
      show({ S with tin:=y::r }:ST)=S
      rw[<-H0.out]
     rw[e3]at h3;exact h3
 ·have lW:=zh (zqF HS.out);go_enter Tryz.func93,Tryz.ntmps93;go_wp2_with fail;refine lW.out.mono ?_;rintro e w1 hh;rcases hh with⟨h0,rfl,hb⟩|⟨r,y,h0,rfl,vv,hst⟩
  ·have HN:=zh (show R=(17,S) by rw[<-HRR.out,zlf,if_neg (by decide),if_pos rfl,if_pos h0]);have HB:=zh hb;clear h0 hb;go_wp2_with fail;go_ret;exact⟨by rw[HN.out];rfl,P,by rw[HN.out];exact SStp.refl HS.out HB.out,rfl⟩
  ·have ht:=HS.out.wf.tout;rw[h0]at ht;have qU:I64 y:=ht.2 y (by simp);have hne:S.tout≠[]:=by rw[h0];simp
   have hdl:S.tout.dropLast=r:=by rw[h0];simp
   have hgl:S.tout.getLast?.getD 0=y:=by rw[h0];simp
   have y4:w1.cell? ⟨P.sb,4,none⟩=some (.pointer (some ⟨P.tb,0,none⟩)):=hst.sr.tp;obtain⟨-,r0,r1⟩:=hst.sr.plc (id:=id) (i:=i) hid hi;have r0':w1.cell? ⟨P.gI id,i,none⟩=some (.int .i64 x):=by rw[<-HX.out];exact r0
   have r1':w1.frozen? ⟨P.gI id,i,none⟩=false:=r1;by_cases hx0:x=0
   ·subst hx0;have HN:=zh (show R=(0,({ S with tout:=r }:ST).put id i y) by rw[<-HRR.out,zlf,if_neg (by decide),if_pos rfl,if_neg hne,hdl,hgl,HX.out];simp);have mZ:=zh (hst.trans (hst.sr.put (id:=id) (i:=i) hid hi y qU));clear h0 hst ht r0 r1 hne hdl hgl;go_wp2_with fail;go_ret;exact⟨by rw[HN.out];rfl,{ P with vO:=vv },by rw[HN.out];exact mZ.out,rfl⟩
   ·have HN:=zh (show R=(14,S) by rw[<-HRR.out,zlf,if_neg (by decide),if_pos rfl,if_neg hne,HX.out,if_pos hx0]);have hx1:(x != 0)=true:=by simpa using hx0
    have hx2:(x==0)=false:=by simpa using hx0
    have zg:=zh (zp1 hst.sr y qU);have hrl:¬ 4096<=r.length:=by have:=ht.1;simp at this;omega
    have HST:=zh hst;have H0:=zh h0;clear h0 hst ht r0 r1 hne hdl hgl;go_wp2_with fail;refine zg.out.mono ?_;rintro e w2 hh;rcases hh with⟨h1,rfl,hb⟩|⟨h1,rfl,yj,mg⟩
    ·exact absurd h1 hrl
    ·have HS2:=zh mg;clear h1 mg;go_wp2_with fail;go_ret;refine⟨by rw[HN.out];rfl,{ P with vO:=yj },?_,rfl⟩;rw[HN.out];have h3:=HST.out.trans HS2.out;have e3:({ { S with tout:=r } with tout:=({ S with tout:=r }:ST).tout++[y] }:ST)=S:=by
      show({ S with tout:=r++[y] }:ST)=S
      rw[<-H0.out]
     rw[e3]at h3;exact h3
 ·skip
  have had:Calls Tryz.prog 122 [.pointer (some ⟨P.tb,0,none⟩),.int .i64 x].toArray W.drew fun e W'=>∃u,e=.returned u/\∃y,u=.int .i64 y /\
    ((y=5/\R=(5,S)/\Below W.heap.size W W')\/(y=0/\R=(0,({ S with tin:=x::S.tin }:ST).put id i 0)/\∃vv,SStp n0 P S W { P with vI:=vv } ({ S with tin:=x::S.tin }:ST) W')):=by
   refine(zoX (HS.out.later zr.drew) x uA).mono ?_;rintro e W' hh;rcases hh with⟨h0,rfl,hb⟩|⟨h0,rfl,vv,hst⟩
   ·exact⟨_,rfl,5,rfl,.inl ⟨rfl,by rw[<-HRR.out,zlf,if_neg (by decide),if_neg (by decide),if_pos rfl,if_pos h0],zkb zr.drew hb⟩⟩
   ·exact⟨_,rfl,0,rfl,.inr ⟨rfl,by rw[<-HRR.out,zlf,if_neg (by decide),if_neg (by decide),if_pos rfl,if_neg (by omega),HX.out],vv,⟨hst.st.after zr.drew HS.out.rws,hst.wf⟩⟩⟩
  go_enter Tryz.func93,Tryz.ntmps93;go_upto_region 17 with fail;have hSS:zW (fun w':World=>zv w' P.sb 4 (.pointer (some ⟨P.tb,0,none⟩))/\zv w' (P.gI id) i (.int .i64 x)) zU W.drew:=⟨⟨x4,p0⟩,trivial⟩
  refine wp_region_noPanic ?_;refine zG hSS 7 ?_;refine zT 0 hSS ?_;refine zT 1 hSS ?_;refine zT 2 hSS ?_;refine zT 3 hSS ?_;refine zT 4 hSS ?_;refine zT 5 hSS ?_;refine zT 6 hSS ?_;refine zp 7 fun K hK=>?_;refine zke (by rfl) (.func 122) [.tmp 72,.tmp 75] _ (by rfl) 122 _ zta (by rfl) _ (by rfl) _ had ?_;rintro v4 w4 ⟨y,rfl,hh⟩;have HH:=zh hh;have jr:w4.cell? ⟨P.sb,4,none⟩=some (.pointer (some ⟨P.tb,0,none⟩))/\w4.cell? ⟨P.gI id,i,none⟩=some (.int .i64 x)/\w4.frozen? ⟨P.gI id,i,none⟩=false:=by
   rcases hh with⟨_,_,hb⟩|⟨_,_,vv,hst⟩
   ·exact⟨zb hb x4,zb hb p0,((HS.out.later hb).plc hid hi).2.2⟩
   ·have h9:=hst.sr.plc (id:=id) (i:=i) hid hi;exact⟨hst.sr.tp,by rw[<-HX.out];exact h9.2.1,h9.2.2⟩
  obtain⟨b4,b5,b6⟩:=jr;refine hK.out _ _ ⟨b4,b5⟩ ?_;clear hK K hSS had hh;(try simp only[zQ]);refine zp 8 fun K hK=>?_;(try simp only[zA,zB,zC]);go_simp;refine hK.out _ _ ⟨b4,b5⟩ ?_;clear hK K;(try simp only[zQ]);refine zd ?_;refine NoPanic.normal ?_;rcases HH.out with⟨rfl,h1,hb⟩|⟨rfl,h1,vv,hst⟩
  ·have HN:=zh h1;have HB:=zh hb;clear HH h1 hb;go_wp2_with fail;go_ret;exact⟨by rw[HN.out];rfl,P,by rw[HN.out];exact SStp.refl HS.out HB.out,rfl⟩
  ·have HN:=zh h1;have mZ:=zh (hst.trans (hst.sr.put (id:=id) (i:=i) hid hi 0 ⟨by decide,by decide⟩));clear HH h1 hst;go_wp2_with fail;go_ret;exact⟨by rw[HN.out];rfl,{ P with vI:=vv },by rw[HN.out];exact mZ.out,rfl⟩
 ·skip
  have had:Calls Tryz.prog 124 [.pointer (some ⟨P.tb,0,none⟩),.int .i64 x].toArray W.drew fun e W'=>∃u,e=.returned u/\∃y,u=.int .i64 y /\
    ((y=5/\R=(5,S)/\Below W.heap.size W W')\/(y=0/\R=(0,({ S with tout:=S.tout++[x] }:ST).put id i 0)/\∃vv,SStp n0 P S W { P with vO:=vv } ({ S with tout:=S.tout++[x] }:ST) W')):=by
   refine(zp1 (HS.out.later zr.drew) x uA).mono ?_;rintro e W' hh;rcases hh with⟨h0,rfl,hb⟩|⟨h0,rfl,vv,hst⟩
   ·exact⟨_,rfl,5,rfl,.inl ⟨rfl,by rw[<-HRR.out,zlf,if_neg (by decide),if_neg (by decide),if_neg (by decide),if_pos h0],zkb zr.drew hb⟩⟩
   ·exact⟨_,rfl,0,rfl,.inr ⟨rfl,by rw[<-HRR.out,zlf,if_neg (by decide),if_neg (by decide),if_neg (by decide),if_neg (by omega),HX.out],vv,⟨hst.st.after zr.drew HS.out.rws,hst.wf⟩⟩⟩
  go_enter Tryz.func93,Tryz.ntmps93;go_upto_region 19 with fail;have hSS:zW (fun w':World=>zv w' P.sb 4 (.pointer (some ⟨P.tb,0,none⟩))/\zv w' (P.gI id) i (.int .i64 x)) zU W.drew:=⟨⟨x4,p0⟩,trivial⟩
  refine wp_region_noPanic ?_;refine zG hSS 7 ?_;refine zT 0 hSS ?_;refine zT 1 hSS ?_;refine zT 2 hSS ?_;refine zT 3 hSS ?_;refine zT 4 hSS ?_;refine zT 5 hSS ?_;refine zT 6 hSS ?_;refine zp 7 fun K hK=>?_;refine zke (by rfl) (.func 124) [.tmp 82,.tmp 85] _ (by rfl) 124 _ zu4 (by rfl) _ (by rfl) _ had ?_;rintro v4 w4 ⟨y,rfl,hh⟩;have HH:=zh hh;have jr:w4.cell? ⟨P.sb,4,none⟩=some (.pointer (some ⟨P.tb,0,none⟩))/\w4.cell? ⟨P.gI id,i,none⟩=some (.int .i64 x)/\w4.frozen? ⟨P.gI id,i,none⟩=false:=by
   rcases hh with⟨_,_,hb⟩|⟨_,_,vv,hst⟩
   ·exact⟨zb hb x4,zb hb p0,((HS.out.later hb).plc hid hi).2.2⟩
   ·have h9:=hst.sr.plc (id:=id) (i:=i) hid hi;exact⟨hst.sr.tp,by rw[<-HX.out];exact h9.2.1,h9.2.2⟩
  obtain⟨b4,b5,b6⟩:=jr;refine hK.out _ _ ⟨b4,b5⟩ ?_;clear hK K hSS had hh;(try simp only[zQ]);refine zp 8 fun K hK=>?_;(try simp only[zA,zB,zC]);go_simp;refine hK.out _ _ ⟨b4,b5⟩ ?_;clear hK K;(try simp only[zQ]);refine zd ?_;refine NoPanic.normal ?_;rcases HH.out with⟨rfl,h1,hb⟩|⟨rfl,h1,vv,hst⟩
  ·have HN:=zh h1;have HB:=zh hb;clear HH h1 hb;go_wp2_with fail;go_ret;exact⟨by rw[HN.out];rfl,P,by rw[HN.out];exact SStp.refl HS.out HB.out,rfl⟩
  ·have HN:=zh h1;have mZ:=zh (hst.trans (hst.sr.put (id:=id) (i:=i) hid hi 0 ⟨by decide,by decide⟩));clear HH h1 hst;go_wp2_with fail;go_ret;exact⟨by rw[HN.out];rfl,{ P with vO:=vv },by rw[HN.out];exact mZ.out,rfl⟩
theorem zrY(k x y:Int)(hk:k=40\/k=41\/k=42)(w:World):Calls Tryz.prog 91 #[.int .u8 k,.int .i64 x,.int .i64 y] w fun e w'=>e=.returned (.tuple #[.int .i64 (updE k x y),.int .i64 0])/\w'=w:=by
 rcases hk with rfl|rfl|rfl
 ·rw[show updE 40 x y=wrap64 (x+y) by simp[updE]];go_enter Tryz.func91,Tryz.ntmps91;go_wp2_with fail;go_ret2;exact⟨rfl,rfl⟩
 ·rw[show updE 41 x y=wrap64 (x-y) by simp[updE]];go_enter Tryz.func91,Tryz.ntmps91;go_wp2_with fail;go_ret2;exact⟨rfl,rfl⟩
 ·rw[show updE 42 x y=bits BinOp.xor IntKind.i64 x y by simp[updE]];go_enter Tryz.func91,Tryz.ntmps91;go_wp2_with fail;go_ret2;exact⟨rfl,rfl⟩
theorem zp9(x:Int):I64 (IntKind.i64.wrap x):=by
 rw[IntKind.wrap_i64];unfold I64;omega
theorem zww(k x y:Int):I64 (updE k x y):=by
 unfold updE
 split
 ·unfold wrap64 I64;omega
 ·split
  ·unfold wrap64 I64;omega
  ·exact zp9 _
theorem zoT:∀(vs:List VD) (s:ByteArray) (j:Nat),j<=vs.length->zlp (vs.take j) s=(zlw vs s j).bind fun i=>vs[i]?
 | vs,s,0,_=>by simp[zlp,zlw]
 | vs,s,j+1,h=>by
  rw[zoS (by omega),znk (by omega),zoT vs s j (by omega)];by_cases e:vs[j].s.toList=s.toList
  ·have e':(vs[j].s.toList==s.toList)=true:=by simpa using e
   have hj:j<vs.length:=by omega
   rw[if_pos e,if_pos e'];simp[hj]
  ·have e':¬ (vs[j].s.toList==s.toList)=true:=by simpa using e
   rw[if_neg e,if_neg e']
theorem zve(f:FR)(s:ByteArray):zlp f.vs s=(f.at s).bind fun i=>f.vs[i]?:=by
 have:=zoT f.vs s f.vs.length zl;rw[List.take_of_length_le zl]at this;exact this
theorem zq2{S:ST}(h:S.WF){s:ByteArray}{v:VD}(hv:zlp S.cur.vs s=some v):∃id,S.num s=some id/\CurK S id v.k:=by
 rw[zve,Option.bind_eq_some_iff]at hv;obtain⟨i,h1,h2⟩:=hv;obtain⟨kd,hw⟩:=h.cur;have hi:=FR.at_lt h1;have hc:i<S.cur.cs.length:=by rw[hw.len];exact hi
 refine⟨S.cur.cs[i],by rw[ST.num,h1];simp[hc],i,v,h2,List.getElem?_eq_getElem hc,rfl⟩
theorem zph{vs:List VD}{k n:Int}{s:ByteArray}{ks:List T}(h:fltE vs (.nd k n s ks)=0):ownE vs k s=0/\zlB vs ks=0:=by
 rw[fltE]at h
 split at h
 ·contradiction
 ·next h1=>exact⟨Classical.not_not.1 h1,h⟩
theorem zmz{vs:List VD}:∀ {ks:List T},zlB vs ks=0->∀t∈ks,fltE vs t=0
 | t::ts,h,u,hu=>by
  rw[zlB]at h
  split at h
  ·contradiction
  ·next h1 =>
   rcases List.mem_cons.1 hu with rfl|hu
   ·exact Classical.not_not.1 h1
   ·exact zmz h u hu
theorem znB{vs:List VD}{k:Int}{s:ByteArray}(h:ownE vs k s=0)(hn:zol k≠0):∃v,zlp vs s=some v/\v.k=zol k:=by
 rw[ownE,if_neg hn]at h
 cases hf:zlp vs s with
 | none=>rw[hf]at h;cases h
 | some v =>
  rw[hf]at h;dsimp only at h
  split at h
  ·next h1=>exact⟨v,rfl,h1⟩
  ·cases h
theorem znU{S:ST}(h:S.WF){p:T}(hp:isP p=true)(hf:fltE S.cur.vs p=0):∃id k,S.num p.s=some id/\CurK S id k/\k≠3:=by
 obtain⟨k,n,s,ks⟩:=p;simp only[isP,T.k_nd,Bool.and_eq_true,Bool.or_eq_true,beq_iff_eq]at hp;obtain⟨h1,_⟩:=zph hf;rcases hp.1 with rfl|rfl
 ·obtain⟨v,h2,h3⟩:=znB h1 (by decide);obtain⟨id,h4,h5⟩:=zq2 h h2;exact⟨id,v.k,h4,h5,by rw[h3];decide⟩
 ·obtain⟨v,h2,h3⟩:=znB h1 (by decide);obtain⟨id,h4,h5⟩:=zq2 h h2;exact⟨id,v.k,h4,h5,by rw[h3];decide⟩
def zuu(S:ST)(id i jd j:Nat):ST:=(S.put id i (S.el jd j)).put jd j (S.el id i)
def zno(S:ST)(k:Int)(s qs:ByteArray)(r2:Int)(id i:Nat):Int×ST :=
 if k=40\/k=41\/k=42 then(0,S.put id i (updE k (S.el id i) r2))
 else if k=43 then match S.num qs with
  | none=>(0,S)
  | some jd=>if 0<=r2/\r2<(S.cell jd).length then(0,zuu S id i jd r2.toNat)else(12,S)
 else if k=44\/k=45 then match S.num s with
  | none=>(0,S)
  | some ah=>zmX S k id i ah
 else zlf S k id i
def zmc(S:ST)(k:Int)(q:T):Int×Int:=if k=43 then indE S.look q else if k=40\/k=41\/k=42 then zk7 S.look q else(0,0)
def zm4(S:ST)(k:Int)(s ps qs:ByteArray)(r1:Int)(r2:Int×Int):Int×ST :=
 if r2.2≠0 then(r2.2,S)else match S.num ps with
  | none=>(0,S)
  | some id=>if 0<=r1/\r1<(S.cell id).length then zno S k s qs r2.1 id r1.toNat else(12,S)
def zk8(S:ST)(k:Int)(s:ByteArray)(p q:T)(r1 r2:Int×Int):Int×ST:=if r1.2≠0 then(r1.2,S)else zm4 S k s p.s q.s r1.1 r2
def nil0:T:=.nd 0 0 ⟨#[]⟩ []
def zon(S:ST):T->Int×ST
 | .nd k _ s ks=>zk8 S k s (ks.getD 0 nil0) (ks.getD 1 nil0) (indE S.look (ks.getD 0 nil0)) (zmc S k (ks.getD 1 nil0))
def doE(S:ST)(t:T):Int×ST :=
 if isS t=false then(3,S)else if t.k=56 then(9,S)else if basB t.k=false then(7,S)else if fltE S.cur.vs t≠0 then(fltE S.cur.vs t,S)else zon S t
def zoh(S:ST):T->Int×ST
 | .nd k n s ks=>doE S (.nd (zrL k) n s ks)
theorem ztb:IsFn Tryz.prog 90 Tryz.f90:=⟨Tryz.func90,by kernel_rfl,by kernel_rfl⟩
theorem zwi:IsFn Tryz.prog 92 Tryz.f92:=⟨Tryz.func92,by kernel_rfl,by kernel_rfl⟩
theorem zvg{W:World}{n0:Nat}{P:Ph}{S:ST}(h:SR W n0 P S)(k n:Int)(s:ByteArray)(p:T)(v:Value)(hv:NV W Any (.nd k n s [p]) v)(hk:44<=k/\k<=49)(id:Nat)(hid:S.num p.s=some id)(kp:Int)(hck:CurK S id kp)(hkp:kp≠3)
  (hst:k=44\/k=45->∃ah,S.num s=some ah/\CurK S ah 3) :
  Calls Tryz.prog 64 #[.pointer (some ⟨P.sb,0,none⟩),v] W fun e W'=>e=.returned (.int .i64 (zk8 S k s p nil0 (indE S.look p) (0,0)).1)/\∃P',SStp n0 P S W P' (zk8 S k s p nil0 (indE S.look p) (0,0)).2 W'/\P'.sb=P.sb:=by
 obtain⟨A,c,rfl,hf,hlk,hlc,hrow⟩:=hv.open_;simp only[T.k_nd,T.n_nd,T.s_nd,T.ks_nd]at *
 obtain⟨R,hR⟩:=zX (zk8 S k s p nil0 (indE S.look p) (0,0));rw[hR];have HRR:=zh hR;have HS:=zh h;have HL:=zh (zsS n0 P S h.wf);obtain⟨a,t0,A2,c2,rfl,_,Ht,⟨y0,y1,y2,y3⟩,hn0⟩:=hrow.nd (i:=0) (by simp);simp only[Nat.zero_mul,Addr.add_zero',List.length_cons,List.length_nil,Nat.zero_add]at *
 have ht0:t0=p:=Ht.out.symm;subst ht0;have hbx:=box4 (heap_alloc_new W (.cells #[.int .u8 k,.int .i64 n,.string s,.slice (some a) 1 c] 24));have aj:=zh (heap_alloc_new W (.cells #[.int .u8 k,.int .i64 n,.string s,.slice (some a) 1 c] 24));obtain⟨W0,hW0⟩:=zX (W.alloc (.cells #[.int .u8 k,.int .i64 n,.string s,.slice (some a) 1 c] 24));have q0:Below W.heap.size W W0:=hW0▸zkc zr _;rw[hW0]at hbx aj;have iq:=zh q0;have z0:=zb q0 y0;have z1:=zb q0 y1;have z2:=zb q0 y2;have z3:=zb q0 y3;obtain⟨⟨iv,ie⟩,hiv⟩:=zX (indE S.look t0);have iB:=zh (zl5 HL.out t0 _ W0 (hn0.later q0) (h.later q0));rw[hiv]at iB;have qA:=zh (show R=zk8 S k s t0 nil0 (iv,ie) (0,0) by rw[<-hR,hiv]);have xn:=zh (fun W' (hb:Below W.heap.size W W')=>zmj (h.later hb) t0.s id hid);obtain⟨x0,x1,x2,x3⟩:=hbx;have aJ:=hck.lt h.wf;have bP:=zh hck;have uX:=zh hid
 clear hR hiv h hv hn0 hrow hlk hlc y0 y1 y2 y3 q0 hf hck hid;have k40:(k==40)=false:=by simp;omega
 have k41:(k==41)=false:=by simp;omega
 have k42:(k==42)=false:=by simp;omega
 have k43:(k==43)=false:=by simp;omega
 go_enter Tryz.func64,Tryz.ntmps64;go_wp2_with fail;refine iB.out.mono ?_;rintro e w1 ⟨rfl,ae⟩;have HB1:=zh (zkb iq.out ae);have aB:=zh (zka aj.out ae);have u0:=zb ae z0;have u1:=zb ae z1;have u2:=zb ae z2;have u3:=zb ae z3;have v0:=zb ae x0;have v2:=zb ae x2;have v3:=zb ae x3;clear ae z0 z1 z2 z3 x0 x1 x2 x3;dsimp only;by_cases he:ie=0
 ·subst he;have HR1:=zh (show R=zm4 S k s t0.s nil0.s iv (0,0) by rw[qA.out,zk8,if_neg (by simp)]);go_wp2_with fail;refine(xn.out _ HB1.out).mono ?_;rintro e w2 ⟨rfl,ak⟩;have HB2:=zh (zkb HB1.out ak);have aL:=zh (zka aB.out ak);have r0:=zb ak v0;have r2:=zb ak v2;have HS2:=zh (HS.out.later HB2.out);clear u0 u1 u2 u3 v0 v2 v3 ak;have HR2:=zh (show R=if 0<=iv/\iv<(S.cell id).length then zno S k s nil0.s 0 id iv.toNat else(12,S) by
   rw[HR1.out,zm4,if_neg (by simp),uX.out])
  by_cases hr:0<=iv/\iv<((S.cell id).length:Int)
  ·obtain⟨i,rfl⟩:∃i:Nat,iv=i:=⟨iv.toNat,by omega⟩
   have hi:i<(S.cell id).length:=by omega
   have HR3:=zh (show R=zno S k s nil0.s 0 id i by rw[HR2.out,if_pos hr];rfl);obtain⟨⟨c3,hci,hc3⟩,p0,p1⟩:=HS2.out.plc aJ hi;have w0:w2.cell? ⟨P.cb id,0,none⟩=some (.slice (some ⟨P.gI id,0,none⟩) (S.cell id).length c3):=by rw[<-hci];exact zc (HS2.out.cbox aJ) rfl
   obtain⟨m,hm⟩:=zX ((S.cell id).length);have HM:=zh hm;rw[hm]at w0;have hi1:¬ (i:Int)<0:=by omega
   have hi2:¬ (m:Int)<=(i:Int):=by omega
   have hi3:(i:Int)<(m:Int):=by omega
   clear HR1 HR2 hr hci hc3 hm;by_cases h45:k=44\/k=45
   ·obtain⟨ah,hs1,hs2⟩:=hst h45;have hne:=bP.out.ne hs2 HS.out.wf hkp;have HR4:=zh (show R=zmX S k id i ah by
     rw[HR3.out,zno,if_neg (by omega),if_neg (by omega),if_pos h45,hs1])
    have HMV:=zh (fun W' (hb:Below W.heap.size W W')=>zuN (HS.out.later hb) k h45 id i ah aJ hi hs2 hne);have HSC:=zh (fun W' (hb:Below W.heap.size W W')=>zmj (HS.out.later hb) s ah hs1);have kk:(k==44||k==45)=true:=by rcases h45 with rfl|rfl<;>rfl
    clear hs1 hs2 HR3 uX;rcases h45 with rfl|rfl
    ·skip
     go_upto_region 34 with fail;have hSS:zW (fun w':World=>zv w' W.heap.size 0 (.int .u8 44)/\zv w' W.heap.size 2 (.string s)) zU w2.drew:=⟨⟨r0,r2⟩,trivial⟩
     refine wp_region_noPanic ?_;refine zG hSS 7 ?_;refine zT 0 hSS ?_;refine zT 1 hSS ?_;refine zT 2 hSS ?_;refine zT 3 hSS ?_;refine zT 4 hSS ?_;refine zT 5 hSS ?_;have had:Calls Tryz.prog 90 [.pointer (some ⟨P.sb,0,none⟩),.string s].toArray w2.drew fun e W'=>∃u,e=.returned u/\u=.pointer (some ⟨P.cb ah,0,none⟩)/\Below w2.drew.heap.size w2.drew W' :=
      (HSC.out _ HB2.out.drew).mono fun e W' hh=>⟨_,hh.1,rfl,hh.2⟩
     refine zo 6 fun K hK=>?_;refine zke (by rfl) (.func 90) [.tmp 138,.tmp 140] _ (by rfl) 90 _ ztb (by rfl) _ (by rfl) _ had ?_;rintro v4 w4 ⟨rfl,hb4⟩;have av:=zh (zkb HB2.out.drew hb4);have t0':=zb hb4 (show w2.drew.cell? _=_ from r0);have t2':=zb hb4 (show w2.drew.cell? _=_ from r2);refine hK.out _ _ ⟨⟨t0',t2'⟩,trivial⟩ ?_;clear hK K hSS had hb4;(try simp only[zQ]);have had:Calls Tryz.prog 92 [.int .u8 44,.pointer (some ⟨P.gI id,i,none⟩),.pointer (some ⟨P.cb ah,0,none⟩)].toArray w4 fun e W'=>∃u,e=.returned u/\u=.int .i64 R.1/\∃P',SStp n0 P S w4 P' R.2 W'/\P'.sb=P.sb:=by
      refine(HMV.out _ av.out).mono ?_;rintro e W' ⟨h1,h2⟩;rw[<-HR4.out]at h1 h2;exact⟨_,h1,rfl,h2⟩
     refine zp 7 fun K hK=>?_;refine zke (by rfl) (.func 92) [.tmp 136,.tmp 137,.tmp 141] _ (by rfl) 92 _ zwi (by rfl) _ (by rfl) _ had ?_;rintro v5 w5 ⟨rfl,P',hs5,vK⟩;have hno:¬ OwnB (rows P S) W.heap.size:=fun⟨q,hq⟩=>by have:=(HS.out.rws.lt q _ hq).2;omega
     have HF:=zh hs5;have HP:=zh vK;have b0:=zkS hs5.st.chg t0' hno;have b2:=zkS hs5.st.chg t2' hno;refine hK.out _ _ ⟨b0,b2⟩ ?_;clear hK K had hs5 vK;(try simp only[zQ]);refine zp 8 fun K hK=>?_;(try simp only[zA,zB,zC]);go_simp;refine hK.out _ _ ⟨b0,b2⟩ ?_;clear hK K;(try simp only[zQ]);refine zd ?_;refine NoPanic.normal ?_;go_wp2_with fail;go_ret;exact⟨rfl,P',⟨HF.out.st.after av.out HS.out.rws,HF.out.wf⟩,HP.out⟩
    ·skip
     go_upto_region 34 with fail;have hSS:zW (fun w':World=>zv w' W.heap.size 0 (.int .u8 45)/\zv w' W.heap.size 2 (.string s)) zU w2.drew:=⟨⟨r0,r2⟩,trivial⟩
     refine wp_region_noPanic ?_;refine zG hSS 7 ?_;refine zT 0 hSS ?_;refine zT 1 hSS ?_;refine zT 2 hSS ?_;refine zT 3 hSS ?_;refine zT 4 hSS ?_;refine zT 5 hSS ?_;have had:Calls Tryz.prog 90 [.pointer (some ⟨P.sb,0,none⟩),.string s].toArray w2.drew fun e W'=>∃u,e=.returned u/\u=.pointer (some ⟨P.cb ah,0,none⟩)/\Below w2.drew.heap.size w2.drew W' :=
      (HSC.out _ HB2.out.drew).mono fun e W' hh=>⟨_,hh.1,rfl,hh.2⟩
     refine zo 6 fun K hK=>?_;refine zke (by rfl) (.func 90) [.tmp 138,.tmp 140] _ (by rfl) 90 _ ztb (by rfl) _ (by rfl) _ had ?_;rintro v4 w4 ⟨rfl,hb4⟩;have av:=zh (zkb HB2.out.drew hb4);have t0':=zb hb4 (show w2.drew.cell? _=_ from r0);have t2':=zb hb4 (show w2.drew.cell? _=_ from r2);refine hK.out _ _ ⟨⟨t0',t2'⟩,trivial⟩ ?_;clear hK K hSS had hb4;(try simp only[zQ]);have had:Calls Tryz.prog 92 [.int .u8 45,.pointer (some ⟨P.gI id,i,none⟩),.pointer (some ⟨P.cb ah,0,none⟩)].toArray w4 fun e W'=>∃u,e=.returned u/\u=.int .i64 R.1/\∃P',SStp n0 P S w4 P' R.2 W'/\P'.sb=P.sb:=by
      refine(HMV.out _ av.out).mono ?_;rintro e W' ⟨h1,h2⟩;rw[<-HR4.out]at h1 h2;exact⟨_,h1,rfl,h2⟩
     refine zp 7 fun K hK=>?_;refine zke (by rfl) (.func 92) [.tmp 136,.tmp 137,.tmp 141] _ (by rfl) 92 _ zwi (by rfl) _ (by rfl) _ had ?_;rintro v5 w5 ⟨rfl,P',hs5,vK⟩;have hno:¬ OwnB (rows P S) W.heap.size:=fun⟨q,hq⟩=>by have:=(HS.out.rws.lt q _ hq).2;omega
     have HF:=zh hs5;have HP:=zh vK;have b0:=zkS hs5.st.chg t0' hno;have b2:=zkS hs5.st.chg t2' hno;refine hK.out _ _ ⟨b0,b2⟩ ?_;clear hK K had hs5 vK;(try simp only[zQ]);refine zp 8 fun K hK=>?_;(try simp only[zA,zB,zC]);go_simp;refine hK.out _ _ ⟨b0,b2⟩ ?_;clear hK K;(try simp only[zQ]);refine zd ?_;refine NoPanic.normal ?_;go_wp2_with fail;go_ret;exact⟨rfl,P',⟨HF.out.st.after av.out HS.out.rws,HF.out.wf⟩,HP.out⟩
   ·have xM:k=46\/k=49\/k=47\/k=48:=by omega
    have k44:(k==44)=false:=by simp;omega
    have k45:(k==45)=false:=by simp;omega
    have HR4:=zh (show R=zlf S k id i by rw[HR3.out,zno,if_neg (by omega),if_neg (by omega),if_neg h45]);have xU:=zh (zpA HS2.out k xM id i aJ hi);rw[<-HR4.out]at xU;clear HR3 p0 p1;go_wp2_with fail;refine xU.out.mono ?_;rintro e w3 ⟨rfl,P',hs3,hp3⟩;have HF:=zh hs3;have HP:=zh hp3;clear hs3 hp3;go_wp2_with fail;go_ret;exact⟨rfl,P',⟨HF.out.st.after HB2.out HS.out.rws,HF.out.wf⟩,HP.out⟩
  ·have HN:=zh (show R=(12,S) by rw[HR2.out,if_neg hr]);obtain⟨A3,c3,hci,hc3,aQ⟩:=HS2.out.items aJ;have w0:w2.cell? ⟨P.cb id,0,none⟩=some (.slice A3 (S.cell id).length c3):=by rw[<-hci];exact zc (HS2.out.cbox aJ) rfl
   obtain⟨m,hm⟩:=zX ((S.cell id).length);rw[hm]at w0 hr;clear HR1 HR2 hci hc3 aQ hm;by_cases hneg:iv<0
   ·go_wp2_with fail;go_ret;exact⟨by rw[HN.out];rfl,P,by rw[HN.out];exact SStp.refl HS.out HB2.out,rfl⟩
   ·have hge:(m:Int)<=iv:=by omega
    go_wp2_with fail;go_ret;exact⟨by rw[HN.out];rfl,P,by rw[HN.out];exact SStp.refl HS.out HB2.out,rfl⟩
 ·have HN:=zh (show R=(ie,S) by rw[qA.out,zk8,if_pos he]);have e1:(ie==0)=false:=by simpa using he
  have e2:(ie != 0)=true:=by simpa using he
  clear he;go_wp2_with fail;go_ret;exact⟨by rw[HN.out];rfl,P,by rw[HN.out];exact SStp.refl HS.out HB1.out,rfl⟩
theorem zu3:IsFn Tryz.prog 91 Tryz.f91:=⟨Tryz.func91,by kernel_rfl,by kernel_rfl⟩
theorem zyd(a:Addr):a.add (1*4)=⟨a.block,a.off+4,none⟩:=by unfold Addr.add;split<;>simp_all
theorem zvf{W:World}{n0:Nat}{P:Ph}{S:ST}(h:SR W n0 P S)(k n:Int)(s:ByteArray)(p q:T)(v:Value)(hv:NV W Any (.nd k n s [p,q]) v)(hk:k=40\/k=41\/k=42)(id:Nat)(hid:S.num p.s=some id)(kp:Int)(hck:CurK S id kp) :
  Calls Tryz.prog 64 #[.pointer (some ⟨P.sb,0,none⟩),v] W fun e W'=>e=.returned (.int .i64 (zk8 S k s p q (indE S.look p) (zk7 S.look q)).1)/\∃P',SStp n0 P S W P' (zk8 S k s p q (indE S.look p) (zk7 S.look q)).2 W'/\P'.sb=P.sb:=by
 obtain⟨A,c,rfl,hf,hlk,hlc,hrow⟩:=hv.open_;simp only[T.k_nd,T.n_nd,T.s_nd,T.ks_nd]at *
 obtain⟨R,hR⟩:=zX (zk8 S k s p q (indE S.look p) (zk7 S.look q));rw[hR];have HRR:=zh hR;have HS:=zh h;have HL:=zh (zsS n0 P S h.wf);obtain⟨a,t0,A2,c2,rfl,_,Ht,h4,hn0⟩:=hrow.nd (i:=0) (by simp);obtain⟨a',t1,A3,c3,ea,_,Hu,h5,hn1⟩:=hrow.nd (i:=1) (by simp);injection ea with ea;subst ea;have ha:a.add (1*4)=⟨a.block,a.off+4,none⟩:=zyd a;rw[ha]at h5;have ht0:t0=p:=Ht.out.symm;subst ht0;have ht1:t1=q:=Hu.out.symm;subst ht1;simp only[Nat.zero_mul,Nat.one_mul,Addr.add_zero',List.length_cons,List.length_nil,Nat.zero_add,Nat.reduceAdd]at *
 have hbx:=box4 (heap_alloc_new W (.cells #[.int .u8 k,.int .i64 n,.string s,.slice (some a) 2 c] 24));have aj:=zh (heap_alloc_new W (.cells #[.int .u8 k,.int .i64 n,.string s,.slice (some a) 2 c] 24));obtain⟨W0,hW0⟩:=zX (W.alloc (.cells #[.int .u8 k,.int .i64 n,.string s,.slice (some a) 2 c] 24));have q0:Below W.heap.size W W0:=hW0▸zkc zr _;rw[hW0]at hbx aj;have iq:=zh q0;have H4:=zh h4;have H5:=zh h5;have g4:=znb q0 h4;obtain⟨z0,z1,z2,z3⟩:=g4;obtain⟨⟨iv,ie⟩,hiv⟩:=zX (indE S.look t0);obtain⟨⟨jv,je⟩,hjv⟩:=zX (zk7 S.look t1);have iB:=zh (zl5 HL.out t0 _ W0 (hn0.later q0) (h.later q0));rw[hiv]at iB;have Ab:=zh (show ∀W',Below W.heap.size W W'->Calls Tryz.prog 29 #[nv t1.k t1.n t1.s A3 t1.ks.length c3,.func (.func 68) #[.pointer (some ⟨P.sb,0,none⟩)] #[]] W' (NumE (jv,je) W')from fun W' hb=>hjv▸zne HL.out t1 _ W' (hn1.later hb) (h.later hb))
 have qA:=zh (show R=zk8 S k s t0 t1 (iv,ie) (jv,je) by rw[<-hR,hiv,hjv]);have xn:=zh (fun W' (hb:Below W.heap.size W W')=>zmj (h.later hb) t0.s id hid);obtain⟨x0,x1,x2,x3⟩:=hbx;have aJ:=hck.lt h.wf;have uX:=zh hid;clear hR hiv hjv hv hn0 hn1 hrow hlk hlc q0 hf hck hid h4 h5;clear h;have k43:(k==43)=false:=by simp;omega
 obtain⟨kk,hkk⟩:∃x,x=k:=⟨_,rfl⟩
 have zi:=zh (fun x w=>zrY kk x jv (hkk▸hk) w);go_enter Tryz.func64,Tryz.ntmps64;go_wp2_with fail;refine iB.out.mono ?_;rintro e w1 ⟨rfl,ae⟩;have HB1:=zh (zkb iq.out ae);have aB:=zh (zka aj.out ae);have v0:=zb ae x0;have v3:=zb ae x3;obtain⟨y0,y1,y2,y3⟩:=znb HB1.out H5.out;clear ae z0 z1 z2 z3 x0 x1 x2 x3;dsimp only;by_cases he:ie=0
 ·subst he;have HR1:=zh (show R=zm4 S k s t0.s t1.s iv (jv,je) by rw[qA.out,zk8,if_neg (by simp)]);rcases hk with rfl|rfl|rfl
  all_goals
    go_wp2_with fail;refine(Ab.out _ HB1.out).mono ?_;rintro e w2 ⟨rfl,ak⟩;have HB2:=zh (zkb HB1.out ak);have aL:=zh (zka aB.out ak);have r0:=zb ak v0;have r3:=zb ak v3;obtain⟨z0,z1,z2,z3⟩:=znb HB2.out H4.out;clear ak y0 y1 y2 y3 v0 v3;dsimp only;by_cases mD:je=0
    ·subst mD;go_wp2_with fail;refine(xn.out _ HB2.out).mono ?_;rintro e w3 ⟨rfl,bW⟩;have HB3:=zh (zkb HB2.out bW);have Hkk:=zh (zka aL.out bW);have s0:=zb bW r0;have s3:=zb bW r3;have HS2:=zh (HS.out.later HB3.out);clear r0 r3 bW z0 z1 z2 z3;have HR2:=zh (show R=if 0<=iv/\iv<(S.cell id).length then zno S kk s t1.s jv id iv.toNat else(12,S) by
      rw[HR1.out,zm4,if_neg (by simp),uX.out,hkk])
     by_cases hr:0<=iv/\iv<((S.cell id).length:Int)
     ·obtain⟨i,rfl⟩:∃i:Nat,iv=i:=⟨iv.toNat,by omega⟩
      have hi:i<(S.cell id).length:=by omega
      have HR3:=zh (show R=(0,S.put id i (updE kk (S.el id i) jv)) by rw[HR2.out,if_pos hr,zno,if_pos (by omega)];rfl);obtain⟨⟨c4,hci,hc4⟩,p0,p1⟩:=HS2.out.plc aJ hi;have w0:w3.cell? ⟨P.cb id,0,none⟩=some (.slice (some ⟨P.gI id,0,none⟩) (S.cell id).length c4):=by rw[<-hci];exact zc (HS2.out.cbox aJ) rfl
      have mZ:=zh (fun W' (hb:Below W.heap.size W W')=>(HS.out.later hb).put aJ hi (updE kk (S.el id i) jv) (zww _ _ _));obtain⟨x,hx⟩:=zX (S.el id i);rw[hx]at p0 HR3 mZ;obtain⟨m,hm⟩:=zX ((S.cell id).length);rw[hm]at w0;have hi1:¬ (i:Int)<0:=by omega
      have hi2:¬ (m:Int)<=(i:Int):=by omega
      have hi3:(i:Int)<(m:Int):=by omega
      clear HR1 HR2 hr hci hc4 hm hx;obtain⟨U,hU⟩:=zX (updE kk x jv);rw[hU]at HR3 mZ;have HUU:=zh (hU▸zi.out x);clear hU;have s0':w3.cell? ⟨W.heap.size,0,none⟩=some (.int .u8 kk):=by rw[hkk];exact s0
      clear hkk;go_upto_region 22 with fail;have hSS:zW (fun w':World=>zv w' W.heap.size 0 (.int .u8 kk)/\zv w' (P.gI id) i (.int .i64 x)) zU w3.drew:=⟨⟨s0',p0⟩,trivial⟩
      refine wp_region_noPanic ?_;refine zG hSS 11 ?_;refine zT 0 hSS ?_;refine zT 1 hSS ?_;refine zT 2 hSS ?_;refine zT 3 hSS ?_;refine zT 4 hSS ?_;refine zT 5 hSS ?_;have had:Calls Tryz.prog 91 [.int .u8 kk,.int .i64 x,.int .i64 jv].toArray w3.drew fun e W'=>∃u,e=.returned u/\u=.tuple #[.int .i64 U,.int .i64 0]/\W'=w3.drew :=
       (HUU.out w3.drew).mono fun e W' hh=>⟨_,hh.1,rfl,hh.2⟩
      refine zo 6 fun K hK=>?_;refine zke (by rfl) (.func 91) [.tmp 86,.tmp 89,.tmp 90] _ (by rfl) 91 _ zu3 (by rfl) _ (by rfl) _ had ?_;rintro v4 w4 ⟨rfl,rfl⟩;refine hK.out _ _ hSS ?_;clear hK K had;(try simp only[zQ]);refine zT 7 hSS ?_;refine zT 8 hSS ?_;refine zT 9 hSS ?_;refine zT 10 hSS ?_;refine zp 11 fun K hK=>?_;(try simp only[zA,zB,zC]);go_simp;refine hK.out _ _ hSS.1 ?_;clear hK K hSS;(try simp only[zQ]);refine zd ?_;refine NoPanic.normal ?_;go_wp2_with fail;go_ret;refine⟨by rw[HR3.out];rfl,P,?_,rfl⟩;rw[HR3.out];have:=mZ.out _ HB3.out.drew;exact⟨this.st.after HB3.out.drew HS.out.rws,this.wf⟩
     ·skip
      have HN:=zh (show R=(12,S) by rw[HR2.out,if_neg hr]);obtain⟨A3,c3,hci,hc3,aQ⟩:=HS2.out.items aJ;have w0:w3.cell? ⟨P.cb id,0,none⟩=some (.slice A3 (S.cell id).length c3):=by rw[<-hci];exact zc (HS2.out.cbox aJ) rfl
      obtain⟨m,hm⟩:=zX ((S.cell id).length);rw[hm]at w0 hr;clear HR2 hci hc3 aQ hm;by_cases hneg:iv<0
      ·go_wp2_with fail;go_ret;exact⟨by rw[HN.out];rfl,P,by rw[HN.out];exact SStp.refl HS.out HB3.out,rfl⟩
      ·have hge:(m:Int)<=iv:=by omega
       go_wp2_with fail;go_ret;exact⟨by rw[HN.out];rfl,P,by rw[HN.out];exact SStp.refl HS.out HB3.out,rfl⟩
    ·skip
     have HN:=zh (show R=(je,S) by rw[HR1.out,zm4,if_pos mD]);have e1:(je==0)=false:=by simpa using mD
     have e2:(je != 0)=true:=by simpa using mD
     clear mD;go_wp2_with fail;go_ret;exact⟨by rw[HN.out];rfl,P,by rw[HN.out];exact SStp.refl HS.out HB2.out,rfl⟩
 ·skip
  have HN:=zh (show R=(ie,S) by rw[qA.out,zk8,if_pos he]);have e1:(ie==0)=false:=by simpa using he
  have e2:(ie != 0)=true:=by simpa using he
  clear he;go_wp2_with fail;go_ret;exact⟨by rw[HN.out];rfl,P,by rw[HN.out];exact SStp.refl HS.out HB1.out,rfl⟩
theorem ztm{W:World}{n0:Nat}{P:Ph}{S:ST}(h:SR W n0 P S)(k n:Int)(s:ByteArray)(p q:T)(v:Value)(hv:NV W Any (.nd k n s [p,q]) v)(hk:k=43)(id:Nat)(hid:S.num p.s=some id)(kp:Int)(hck:CurK S id kp)(jd:Nat)(hjd:S.num q.s=some jd)(kq:Int)(hcq:CurK S jd kq) :
  Calls Tryz.prog 64 #[.pointer (some ⟨P.sb,0,none⟩),v] W fun e W'=>e=.returned (.int .i64 (zk8 S k s p q (indE S.look p) (indE S.look q)).1)/\∃P',SStp n0 P S W P' (zk8 S k s p q (indE S.look p) (indE S.look q)).2 W'/\P'.sb=P.sb:=by
 obtain⟨A,c,rfl,hf,hlk,hlc,hrow⟩:=hv.open_;simp only[T.k_nd,T.n_nd,T.s_nd,T.ks_nd]at *
 obtain⟨R,hR⟩:=zX (zk8 S k s p q (indE S.look p) (indE S.look q));rw[hR];have HRR:=zh hR;have HS:=zh h;have HL:=zh (zsS n0 P S h.wf);obtain⟨a,t0,A2,c2,rfl,_,Ht,h4,hn0⟩:=hrow.nd (i:=0) (by simp);obtain⟨a',t1,A3,c3,ea,_,Hu,h5,hn1⟩:=hrow.nd (i:=1) (by simp);injection ea with ea;subst ea;have ha:a.add (1*4)=⟨a.block,a.off+4,none⟩:=zyd a;rw[ha]at h5;have ht0:t0=p:=Ht.out.symm;subst ht0;have ht1:t1=q:=Hu.out.symm;subst ht1;simp only[Nat.zero_mul,Nat.one_mul,Addr.add_zero',List.length_cons,List.length_nil,Nat.zero_add,Nat.reduceAdd]at *
 have hbx:=box4 (heap_alloc_new W (.cells #[.int .u8 k,.int .i64 n,.string s,.slice (some a) 2 c] 24));have aj:=zh (heap_alloc_new W (.cells #[.int .u8 k,.int .i64 n,.string s,.slice (some a) 2 c] 24));obtain⟨W0,hW0⟩:=zX (W.alloc (.cells #[.int .u8 k,.int .i64 n,.string s,.slice (some a) 2 c] 24));have q0:Below W.heap.size W W0:=hW0▸zkc zr _;rw[hW0]at hbx aj;have iq:=zh q0;have H4:=zh h4;have H5:=zh h5;have g4:=znb q0 h4;obtain⟨z0,z1,z2,z3⟩:=g4;obtain⟨⟨iv,ie⟩,hiv⟩:=zX (indE S.look t0);obtain⟨⟨jv,je⟩,hjv⟩:=zX (indE S.look t1);have iB:=zh (zl5 HL.out t0 _ W0 (hn0.later q0) (h.later q0));rw[hiv]at iB;have Ab:=zh (show ∀W',Below W.heap.size W W'->Calls Tryz.prog 31 #[nv t1.k t1.n t1.s A3 t1.ks.length c3,.func (.func 68) #[.pointer (some ⟨P.sb,0,none⟩)] #[]] W' (NumE (jv,je) W')from fun W' hb=>hjv▸zl5 HL.out t1 _ W' (hn1.later hb) (h.later hb))
 have qA:=zh (show R=zk8 S k s t0 t1 (iv,ie) (jv,je) by rw[<-hR,hiv,hjv]);have xn:=zh (fun W' (hb:Below W.heap.size W W')=>zmj (h.later hb) t0.s id hid);obtain⟨x0,x1,x2,x3⟩:=hbx;have aJ:=hck.lt h.wf;have uX:=zh hid;clear hR hiv hjv hv hn0 hn1 hrow hlk hlc q0 hf hck hid h4 h5;have jO:=hcq.lt h.wf;have HCQ:=zh (fun W' (hb:Below W.heap.size W W')=>zmj (h.later hb) t1.s jd hjd);have HJD:=zh hjd;subst hk;clear h hcq hjd;go_enter Tryz.func64,Tryz.ntmps64;go_wp2_with fail;refine iB.out.mono ?_;rintro e w1 ⟨rfl,ae⟩;have HB1:=zh (zkb iq.out ae);have aB:=zh (zka aj.out ae);have v0:=zb ae x0;have v3:=zb ae x3;obtain⟨y0,y1,y2,y3⟩:=znb HB1.out H5.out;clear ae z0 z1 z2 z3 x0 x1 x2 x3;dsimp only;by_cases he:ie=0
 ·subst he;have HR1:=zh (show R=zm4 S 43 s t0.s t1.s iv (jv,je) by rw[qA.out,zk8,if_neg (by simp)]);go_wp2_with fail;refine(Ab.out _ HB1.out).mono ?_;rintro e w2 ⟨rfl,ak⟩;have HB2:=zh (zkb HB1.out ak);have aL:=zh (zka aB.out ak);have r0:=zb ak v0;have r3:=zb ak v3;obtain⟨z0,z1,z2,z3⟩:=znb HB2.out H4.out;clear ak y0 y1 y2 y3 v0 v3;dsimp only;by_cases mD:je=0
  ·subst mD;go_wp2_with fail;refine(xn.out _ HB2.out).mono ?_;rintro e w3 ⟨rfl,bW⟩;have HB3:=zh (zkb HB2.out bW);have H43:=zh (zka aL.out bW);have s0:=zb bW r0;have s3:=zb bW r3;have HS2:=zh (HS.out.later HB3.out);clear r0 r3 bW z0 z1 z2 z3;have HR2:=zh (show R=if 0<=iv/\iv<(S.cell id).length then zno S 43 s t1.s jv id iv.toNat else(12,S) by
    rw[HR1.out,zm4,if_neg (by simp),uX.out])
   by_cases hr:0<=iv/\iv<((S.cell id).length:Int)
   ·obtain⟨i,rfl⟩:∃i:Nat,iv=i:=⟨iv.toNat,by omega⟩
    have hi:i<(S.cell id).length:=by omega
    have HR3:=zh (show R=if 0<=jv/\jv<(S.cell jd).length then(0,zuu S id i jd jv.toNat)else(12,S) by
     rw[HR2.out,if_pos hr,zno,if_neg (by decide),if_pos rfl,HJD.out];rfl)
    obtain⟨⟨c4,hci,hc4⟩,p0,p1⟩:=HS2.out.plc aJ hi;have w0:w3.cell? ⟨P.cb id,0,none⟩=some (.slice (some ⟨P.gI id,0,none⟩) (S.cell id).length c4):=by rw[<-hci];exact zc (HS2.out.cbox aJ) rfl
    obtain⟨m,hm⟩:=zX ((S.cell id).length);rw[hm]at w0;have hi1:¬ (i:Int)<0:=by omega
    have hi2:¬ (m:Int)<=(i:Int):=by omega
    have hi3:(i:Int)<(m:Int):=by omega
    obtain⟨y0,y1,y2,y3⟩:=znb HB3.out H5.out;clear HR1 HR2 hr hci hc4 hm p0 p1;go_wp2_with fail;refine(HCQ.out _ HB3.out).mono ?_;rintro e w4 ⟨rfl,wF⟩;have av:=zh (zkb HB3.out wF);have jB:=zh (HS.out.later av.out);clear wF y0 y1 y2 y3 w0;by_cases hr2:0<=jv/\jv<((S.cell jd).length:Int)
    ·obtain⟨j,rfl⟩:∃j:Nat,jv=j:=⟨jv.toNat,by omega⟩
     have hj:j<(S.cell jd).length:=by omega
     have HR4:=zh (show R=(0,zuu S id i jd j) by rw[HR3.out,if_pos hr2];rfl);obtain⟨-,p0,p1⟩:=jB.out.plc aJ hi;obtain⟨⟨c5,hcj,dH⟩,q0,q1⟩:=jB.out.plc jO hj;have w5:w4.cell? ⟨P.cb jd,0,none⟩=some (.slice (some ⟨P.gI jd,0,none⟩) (S.cell jd).length c5):=by rw[<-hcj];exact zc (jB.out.cbox jO) rfl
     have s1:=(jB.out.later zr.drew).put aJ hi (S.el jd j) (zmq HS.out.wf jO j);have hj':j<((S.put id i (S.el jd j)).cell jd).length:=by
      simp only[ST.put,ST.setL]
      split
      ·next e=>rw[List.length_set,<-e];exact hj
      ·exact hj
     obtain⟨-,g0,g1⟩:=s1.sr.plc (id:=jd) (i:=j) jO hj';have s2:=s1.sr.put (id:=jd) (i:=j) jO hj' (S.el id i) (zmq HS.out.wf aJ i);have aC:=zh (s1.trans s2);obtain⟨xi,hxi⟩:=zX (S.el id i);obtain⟨xj,hxj⟩:=zX (S.el jd j);rw[hxi]at p0 aC;rw[hxj]at q0 g0 g1 aC;have mX:=zh (show R=(0,(S.put id i xj).put jd j xi) by rw[HR4.out,zuu,hxi,hxj]);obtain⟨y,hy⟩:=zX ((S.put id i xj).el jd j);rw[hy]at g0;obtain⟨m2,hm2⟩:=zX ((S.cell jd).length);rw[hm2]at w5;have hj1:¬ (j:Int)<0:=by omega
     have hj2:¬ (m2:Int)<=(j:Int):=by omega
     have nQ:(j:Int)<(m2:Int):=by omega
     clear HR3 HR4 hr2 hcj dH hm2 s1 s2 hxi hxj hy;go_upto_region 30 with fail;have hSS:zU w4.drew/\(fun w':World=>zv w' (P.gI id) i (.int .i64 xi)/\zv w' (P.gI jd) j (.int .i64 xj)) w4.drew:=⟨trivial,p0,q0⟩
     refine wp_region_noPanic ?_;refine zkk zU (fun w':World=>zv w' (P.gI id) i (.int .i64 xi)/\zv w' (P.gI jd) j (.int .i64 xj)) 11 (by kernel_rfl) ?_;refine zT 0 hSS ?_;refine zT 1 hSS ?_;refine zT 2 hSS ?_;refine zT 3 hSS ?_;refine zT 4 hSS ?_;refine zT 5 hSS ?_;refine zJ 6 hSS ?_;refine zT 7 hSS ?_;refine zT 8 hSS ?_;refine zJ 9 hSS ?_;refine zo 10 fun K hK=>?_;(try simp only[zA,zB,zC]);go_simp;refine hK.out _ _ hSS ?_;clear hK K;(try simp only[zQ]);refine zp 11 fun K hK=>?_;(try simp only[zA,zB,zC]);have yn:w4.drew.frozen? ⟨P.gI id,i,none⟩=false:=p1;have yo:w4.drew.cell? ⟨P.gI id,i,none⟩=some (.int .i64 xi):=p0;go_simp;refine hK.out _ _ trivial ?_;clear hK K hSS;(try simp only[zQ]);have g0':(w4.setCell ⟨P.gI id,i,none⟩ (.int .i64 xj)).cell? ⟨P.gI jd,j,none⟩=some (.int .i64 y):=g0;have g1':(w4.setCell ⟨P.gI id,i,none⟩ (.int .i64 xj)).frozen? ⟨P.gI jd,j,none⟩=false:=g1
     refine zp 12 fun K hK=>?_;(try simp only[zA,zB,zC]);go_simp;refine hK.out _ _ trivial ?_;clear hK K;(try simp only[zQ]);refine zp 13 fun K hK=>?_;(try simp only[zA,zB,zC]);go_simp;refine hK.out _ _ trivial ?_;clear hK K;(try simp only[zQ]);refine zd ?_;refine NoPanic.normal ?_;clear p0 p1 yo yn q0 q1 g0 g1 g0' g1';go_wp2_with fail;go_ret;refine⟨by rw[mX.out];rfl,P,?_,rfl⟩;rw[mX.out];exact⟨aC.out.st.after av.out.drew HS.out.rws,aC.out.wf⟩
    ·have HN:=zh (show R=(12,S) by rw[HR3.out,if_neg hr2]);obtain⟨A5,c5,hcj,dH,hrj⟩:=jB.out.items jO;have w5:w4.cell? ⟨P.cb jd,0,none⟩=some (.slice A5 (S.cell jd).length c5):=by rw[<-hcj];exact zc (jB.out.cbox jO) rfl
     obtain⟨m2,hm2⟩:=zX ((S.cell jd).length);rw[hm2]at w5 hr2;clear HR3 hcj dH hrj hm2;by_cases hneg:jv<0
     ·go_wp2_with fail;go_ret;exact⟨by rw[HN.out];rfl,P,by rw[HN.out];exact SStp.refl HS.out av.out,rfl⟩
     ·have hge:(m2:Int)<=jv:=by omega
      go_wp2_with fail;go_ret;exact⟨by rw[HN.out];rfl,P,by rw[HN.out];exact SStp.refl HS.out av.out,rfl⟩
   ·skip
    have HN:=zh (show R=(12,S) by rw[HR2.out,if_neg hr]);obtain⟨A3,c3,hci,hc3,aQ⟩:=HS2.out.items aJ;have w0:w3.cell? ⟨P.cb id,0,none⟩=some (.slice A3 (S.cell id).length c3):=by rw[<-hci];exact zc (HS2.out.cbox aJ) rfl
    obtain⟨m,hm⟩:=zX ((S.cell id).length);rw[hm]at w0 hr;clear HR2 hci hc3 aQ hm;by_cases hneg:iv<0
    ·go_wp2_with fail;go_ret;exact⟨by rw[HN.out];rfl,P,by rw[HN.out];exact SStp.refl HS.out HB3.out,rfl⟩
    ·have hge:(m:Int)<=iv:=by omega
     go_wp2_with fail;go_ret;exact⟨by rw[HN.out];rfl,P,by rw[HN.out];exact SStp.refl HS.out HB3.out,rfl⟩
  ·skip
   have HN:=zh (show R=(je,S) by rw[HR1.out,zm4,if_pos mD]);have e1:(je==0)=false:=by simpa using mD
   have e2:(je != 0)=true:=by simpa using mD
   clear mD;go_wp2_with fail;go_ret;exact⟨by rw[HN.out];rfl,P,by rw[HN.out];exact SStp.refl HS.out HB2.out,rfl⟩
 ·skip
  have HN:=zh (show R=(ie,S) by rw[qA.out,zk8,if_pos he]);have e1:(ie==0)=false:=by simpa using he
  have e2:(ie != 0)=true:=by simpa using he
  clear he;go_wp2_with fail;go_ret;exact⟨by rw[HN.out];rfl,P,by rw[HN.out];exact SStp.refl HS.out HB1.out,rfl⟩
end
section
open Go.RowKit
def zlQ(t:T):Prop:=∀(v:Value) (w:World),NV w Any t v->Calls Tryz.prog 25 #[v] w fun e w'=>e=.returned (.bool (isS t))/\Below w.heap.size w w'
def zlj(t:T):Prop:=∀(v:Value) (w:World),NV w Any t v->Calls Tryz.prog 58 #[v] w fun e w'=>e=.returned (.bool (isB t))/\Below w.heap.size w w'
theorem zuc(n:Int)(s:ByteArray)(ks:List T)(aM:∀t∈ks,zlj t):zlQ (.nd 40 n s ks):=by
 intro v w hv;have HX:=zh (show isS (.nd 40 n s ks)=(zko n s&&zkH 2 (fun i=>if i=0 then isP else isE) ks) by simp[isS]);have IH:=zh aM;have HV:=zh hv;obtain⟨Ad,c,rfl,hf,hlk,hlc,hrow⟩:=hv.open_;simp only[T.k_nd,T.n_nd,T.s_nd,T.ks_nd]at *
 have aA:=zkK hlk;clear hf hv hlk hrow hlc aM;by_cases hnb:zko n s=true
 ·go_enter Tryz.func25,Tryz.ntmps25;go_wp2_with fail;refine(zkm _ _ _ _ _ _ _).mono ?_;rintro e w1 ⟨rfl,hb1⟩;obtain⟨hc1,hf1⟩:=zlr hb1;have hbb:Below w.heap.size w w1:=(zr.alloc zl _).trans (hb1.mono (by simp));go_wp2_with fail;refine(zkN (.nd 40 n s ks) _ _ (HV.out.later (hbb.alloc hbb.size _)) _ 2 (fun i=>if i=0 then 53 else 54) (fun i=>if i=0 then Tryz.f53 else Tryz.f54) (fun i=>if i=0 then isP else isE) (by decide) (by simp) (fun i hi=>zma (by rcases i with _|_|_|_|i<;>first|omega|rfl)) (fun i hi=>by rcases i with _|i;exact zkY;exact zkU) (fun hl i hi=>by rcases i with _|i;exact zkM _;exact zkL _)).mono ?_;rintro e w2 ⟨rfl,hb2⟩;have hbc:Below w.heap.size w w2:=(hbb.alloc hbb.size _).trans (hb2.mono (by have:=hbb.size;simp;omega));go_wp2_with fail;go_ret;exact⟨by rw[HX.out];simp[*],hbc⟩
 ·have hnb':zko n s=false:=by simpa using hnb
  clear hnb;go_enter Tryz.func25,Tryz.ntmps25;go_wp2_with fail;refine(zkm _ _ _ _ _ _ _).mono ?_;rintro e w1 ⟨rfl,hb1⟩;have hbb:Below w.heap.size w w1:=(zr.alloc zl _).trans (hb1.mono (by simp));go_wp2_with fail;go_ret;exact⟨by rw[HX.out];simp[*],hbb⟩
theorem zub(n:Int)(s:ByteArray)(ks:List T)(aM:∀t∈ks,zlj t):zlQ (.nd 41 n s ks):=by
 intro v w hv;have HX:=zh (show isS (.nd 41 n s ks)=(zko n s&&zkH 2 (fun i=>if i=0 then isP else isE) ks) by simp[isS]);have IH:=zh aM;have HV:=zh hv;obtain⟨Ad,c,rfl,hf,hlk,hlc,hrow⟩:=hv.open_;simp only[T.k_nd,T.n_nd,T.s_nd,T.ks_nd]at *
 have aA:=zkK hlk;clear hf hv hlk hrow hlc aM;by_cases hnb:zko n s=true
 ·go_enter Tryz.func25,Tryz.ntmps25;go_wp2_with fail;refine(zkm _ _ _ _ _ _ _).mono ?_;rintro e w1 ⟨rfl,hb1⟩;obtain⟨hc1,hf1⟩:=zlr hb1;have hbb:Below w.heap.size w w1:=(zr.alloc zl _).trans (hb1.mono (by simp));go_wp2_with fail;refine(zkN (.nd 41 n s ks) _ _ (HV.out.later (hbb.alloc hbb.size _)) _ 2 (fun i=>if i=0 then 53 else 54) (fun i=>if i=0 then Tryz.f53 else Tryz.f54) (fun i=>if i=0 then isP else isE) (by decide) (by simp) (fun i hi=>zma (by rcases i with _|_|_|_|i<;>first|omega|rfl)) (fun i hi=>by rcases i with _|i;exact zkY;exact zkU) (fun hl i hi=>by rcases i with _|i;exact zkM _;exact zkL _)).mono ?_;rintro e w2 ⟨rfl,hb2⟩;have hbc:Below w.heap.size w w2:=(hbb.alloc hbb.size _).trans (hb2.mono (by have:=hbb.size;simp;omega));go_wp2_with fail;go_ret;exact⟨by rw[HX.out];simp[*],hbc⟩
 ·have hnb':zko n s=false:=by simpa using hnb
  clear hnb;go_enter Tryz.func25,Tryz.ntmps25;go_wp2_with fail;refine(zkm _ _ _ _ _ _ _).mono ?_;rintro e w1 ⟨rfl,hb1⟩;have hbb:Below w.heap.size w w1:=(zr.alloc zl _).trans (hb1.mono (by simp));go_wp2_with fail;go_ret;exact⟨by rw[HX.out];simp[*],hbb⟩
theorem zua(n:Int)(s:ByteArray)(ks:List T)(aM:∀t∈ks,zlj t):zlQ (.nd 42 n s ks):=by
 intro v w hv;have HX:=zh (show isS (.nd 42 n s ks)=(zko n s&&zkH 2 (fun i=>if i=0 then isP else isE) ks) by simp[isS]);have IH:=zh aM;have HV:=zh hv;obtain⟨Ad,c,rfl,hf,hlk,hlc,hrow⟩:=hv.open_;simp only[T.k_nd,T.n_nd,T.s_nd,T.ks_nd]at *
 have aA:=zkK hlk;clear hf hv hlk hrow hlc aM;by_cases hnb:zko n s=true
 ·go_enter Tryz.func25,Tryz.ntmps25;go_wp2_with fail;refine(zkm _ _ _ _ _ _ _).mono ?_;rintro e w1 ⟨rfl,hb1⟩;obtain⟨hc1,hf1⟩:=zlr hb1;have hbb:Below w.heap.size w w1:=(zr.alloc zl _).trans (hb1.mono (by simp));go_wp2_with fail;refine(zkN (.nd 42 n s ks) _ _ (HV.out.later (hbb.alloc hbb.size _)) _ 2 (fun i=>if i=0 then 53 else 54) (fun i=>if i=0 then Tryz.f53 else Tryz.f54) (fun i=>if i=0 then isP else isE) (by decide) (by simp) (fun i hi=>zma (by rcases i with _|_|_|_|i<;>first|omega|rfl)) (fun i hi=>by rcases i with _|i;exact zkY;exact zkU) (fun hl i hi=>by rcases i with _|i;exact zkM _;exact zkL _)).mono ?_;rintro e w2 ⟨rfl,hb2⟩;have hbc:Below w.heap.size w w2:=(hbb.alloc hbb.size _).trans (hb2.mono (by have:=hbb.size;simp;omega));go_wp2_with fail;go_ret;exact⟨by rw[HX.out];simp[*],hbc⟩
 ·have hnb':zko n s=false:=by simpa using hnb
  clear hnb;go_enter Tryz.func25,Tryz.ntmps25;go_wp2_with fail;refine(zkm _ _ _ _ _ _ _).mono ?_;rintro e w1 ⟨rfl,hb1⟩;have hbb:Below w.heap.size w w1:=(zr.alloc zl _).trans (hb1.mono (by simp));go_wp2_with fail;go_ret;exact⟨by rw[HX.out];simp[*],hbb⟩
theorem ztW(n:Int)(s:ByteArray)(ks:List T)(aM:∀t∈ks,zlj t):zlQ (.nd 56 n s ks):=by
 intro v w hv;have HX:=zh (show isS (.nd 56 n s ks)=(zko n s&&zkH 2 (fun i=>if i=0 then isP else isE) ks) by simp[isS]);have IH:=zh aM;have HV:=zh hv;obtain⟨Ad,c,rfl,hf,hlk,hlc,hrow⟩:=hv.open_;simp only[T.k_nd,T.n_nd,T.s_nd,T.ks_nd]at *
 have aA:=zkK hlk;clear hf hv hlk hrow hlc aM;by_cases hnb:zko n s=true
 ·go_enter Tryz.func25,Tryz.ntmps25;go_wp2_with fail;refine(zkm _ _ _ _ _ _ _).mono ?_;rintro e w1 ⟨rfl,hb1⟩;obtain⟨hc1,hf1⟩:=zlr hb1;have hbb:Below w.heap.size w w1:=(zr.alloc zl _).trans (hb1.mono (by simp));go_wp2_with fail;refine(zkN (.nd 56 n s ks) _ _ (HV.out.later (hbb.alloc hbb.size _)) _ 2 (fun i=>if i=0 then 53 else 54) (fun i=>if i=0 then Tryz.f53 else Tryz.f54) (fun i=>if i=0 then isP else isE) (by decide) (by simp) (fun i hi=>zma (by rcases i with _|_|_|_|i<;>first|omega|rfl)) (fun i hi=>by rcases i with _|i;exact zkY;exact zkU) (fun hl i hi=>by rcases i with _|i;exact zkM _;exact zkL _)).mono ?_;rintro e w2 ⟨rfl,hb2⟩;have hbc:Below w.heap.size w w2:=(hbb.alloc hbb.size _).trans (hb2.mono (by have:=hbb.size;simp;omega));go_wp2_with fail;go_ret;exact⟨by rw[HX.out];simp[*],hbc⟩
 ·have hnb':zko n s=false:=by simpa using hnb
  clear hnb;go_enter Tryz.func25,Tryz.ntmps25;go_wp2_with fail;refine(zkm _ _ _ _ _ _ _).mono ?_;rintro e w1 ⟨rfl,hb1⟩;have hbb:Below w.heap.size w w1:=(zr.alloc zl _).trans (hb1.mono (by simp));go_wp2_with fail;go_ret;exact⟨by rw[HX.out];simp[*],hbb⟩
theorem zt9(n:Int)(s:ByteArray)(ks:List T)(aM:∀t∈ks,zlj t):zlQ (.nd 43 n s ks):=by
 intro v w hv;have HX:=zh (show isS (.nd 43 n s ks)=(zko n s&&zkH 2 (fun _=>isP) ks) by simp[isS]);have IH:=zh aM;have HV:=zh hv;obtain⟨Ad,c,rfl,hf,hlk,hlc,hrow⟩:=hv.open_;simp only[T.k_nd,T.n_nd,T.s_nd,T.ks_nd]at *
 have aA:=zkK hlk;clear hf hv hlk hrow hlc aM;by_cases hnb:zko n s=true
 ·go_enter Tryz.func25,Tryz.ntmps25;go_wp2_with fail;refine(zkm _ _ _ _ _ _ _).mono ?_;rintro e w1 ⟨rfl,hb1⟩;obtain⟨hc1,hf1⟩:=zlr hb1;have hbb:Below w.heap.size w w1:=(zr.alloc zl _).trans (hb1.mono (by simp));go_wp2_with fail;refine(zkN (.nd 43 n s ks) _ _ (HV.out.later (hbb.alloc hbb.size _)) _ 2 (fun _=>53) (fun _=>Tryz.f53) (fun _=>isP) (by decide) (by simp) (fun i hi=>zma (by rcases i with _|_|_|_|i<;>first|omega|rfl)) (fun _ _=>zkY) (fun hl i hi=>zkM _)).mono ?_;rintro e w2 ⟨rfl,hb2⟩;have hbc:Below w.heap.size w w2:=(hbb.alloc hbb.size _).trans (hb2.mono (by have:=hbb.size;simp;omega));go_wp2_with fail;go_ret;exact⟨by rw[HX.out];simp[*],hbc⟩
 ·have hnb':zko n s=false:=by simpa using hnb
  clear hnb;go_enter Tryz.func25,Tryz.ntmps25;go_wp2_with fail;refine(zkm _ _ _ _ _ _ _).mono ?_;rintro e w1 ⟨rfl,hb1⟩;have hbb:Below w.heap.size w w1:=(zr.alloc zl _).trans (hb1.mono (by simp));go_wp2_with fail;go_ret;exact⟨by rw[HX.out];simp[*],hbb⟩
theorem zt8(n:Int)(s:ByteArray)(ks:List T)(aM:∀t∈ks,zlj t):zlQ (.nd 44 n s ks):=by
 intro v w hv;have HX:=zh (show isS (.nd 44 n s ks)=(zkA n s&&zkH 1 (fun _=>isP) ks) by simp[isS]);have IH:=zh aM;have HV:=zh hv;obtain⟨Ad,c,rfl,hf,hlk,hlc,hrow⟩:=hv.open_;simp only[T.k_nd,T.n_nd,T.s_nd,T.ks_nd]at *
 have aA:=zkK hlk;clear hf hv hlk hrow hlc aM;by_cases hnb:zkA n s=true
 ·go_enter Tryz.func25,Tryz.ntmps25;go_wp2_with fail;refine(zkv _ _ _ _ _ _ _).mono ?_;rintro e w1 ⟨rfl,hb1⟩;obtain⟨hc1,hf1⟩:=zlr hb1;have hbb:Below w.heap.size w w1:=(zr.alloc zl _).trans (hb1.mono (by simp));go_wp2_with fail;refine(zkN (.nd 44 n s ks) _ _ (HV.out.later (hbb.alloc hbb.size _)) _ 1 (fun _=>53) (fun _=>Tryz.f53) (fun _=>isP) (by decide) (by simp) (fun i hi=>zma (by rcases i with _|_|_|_|i<;>first|omega|rfl)) (fun _ _=>zkY) (fun hl i hi=>zkM _)).mono ?_;rintro e w2 ⟨rfl,hb2⟩;have hbc:Below w.heap.size w w2:=(hbb.alloc hbb.size _).trans (hb2.mono (by have:=hbb.size;simp;omega));go_wp2_with fail;go_ret;exact⟨by rw[HX.out];simp[*],hbc⟩
 ·have hnb':zkA n s=false:=by simpa using hnb
  clear hnb;go_enter Tryz.func25,Tryz.ntmps25;go_wp2_with fail;refine(zkv _ _ _ _ _ _ _).mono ?_;rintro e w1 ⟨rfl,hb1⟩;have hbb:Below w.heap.size w w1:=(zr.alloc zl _).trans (hb1.mono (by simp));go_wp2_with fail;go_ret;exact⟨by rw[HX.out];simp[*],hbb⟩
theorem zt7(n:Int)(s:ByteArray)(ks:List T)(aM:∀t∈ks,zlj t):zlQ (.nd 45 n s ks):=by
 intro v w hv;have HX:=zh (show isS (.nd 45 n s ks)=(zkA n s&&zkH 1 (fun _=>isP) ks) by simp[isS]);have IH:=zh aM;have HV:=zh hv;obtain⟨Ad,c,rfl,hf,hlk,hlc,hrow⟩:=hv.open_;simp only[T.k_nd,T.n_nd,T.s_nd,T.ks_nd]at *
 have aA:=zkK hlk;clear hf hv hlk hrow hlc aM;by_cases hnb:zkA n s=true
 ·go_enter Tryz.func25,Tryz.ntmps25;go_wp2_with fail;refine(zkv _ _ _ _ _ _ _).mono ?_;rintro e w1 ⟨rfl,hb1⟩;obtain⟨hc1,hf1⟩:=zlr hb1;have hbb:Below w.heap.size w w1:=(zr.alloc zl _).trans (hb1.mono (by simp));go_wp2_with fail;refine(zkN (.nd 45 n s ks) _ _ (HV.out.later (hbb.alloc hbb.size _)) _ 1 (fun _=>53) (fun _=>Tryz.f53) (fun _=>isP) (by decide) (by simp) (fun i hi=>zma (by rcases i with _|_|_|_|i<;>first|omega|rfl)) (fun _ _=>zkY) (fun hl i hi=>zkM _)).mono ?_;rintro e w2 ⟨rfl,hb2⟩;have hbc:Below w.heap.size w w2:=(hbb.alloc hbb.size _).trans (hb2.mono (by have:=hbb.size;simp;omega));go_wp2_with fail;go_ret;exact⟨by rw[HX.out];simp[*],hbc⟩
 ·have hnb':zkA n s=false:=by simpa using hnb
  clear hnb;go_enter Tryz.func25,Tryz.ntmps25;go_wp2_with fail;refine(zkv _ _ _ _ _ _ _).mono ?_;rintro e w1 ⟨rfl,hb1⟩;have hbb:Below w.heap.size w w1:=(zr.alloc zl _).trans (hb1.mono (by simp));go_wp2_with fail;go_ret;exact⟨by rw[HX.out];simp[*],hbb⟩
theorem zt6(n:Int)(s:ByteArray)(ks:List T)(aM:∀t∈ks,zlj t):zlQ (.nd 46 n s ks):=by
 intro v w hv;have HX:=zh (show isS (.nd 46 n s ks)=(zko n s&&zkH 1 (fun _=>isP) ks) by simp[isS]);have IH:=zh aM;have HV:=zh hv;obtain⟨Ad,c,rfl,hf,hlk,hlc,hrow⟩:=hv.open_;simp only[T.k_nd,T.n_nd,T.s_nd,T.ks_nd]at *
 have aA:=zkK hlk;clear hf hv hlk hrow hlc aM;by_cases hnb:zko n s=true
 ·go_enter Tryz.func25,Tryz.ntmps25;go_wp2_with fail;refine(zkm _ _ _ _ _ _ _).mono ?_;rintro e w1 ⟨rfl,hb1⟩;obtain⟨hc1,hf1⟩:=zlr hb1;have hbb:Below w.heap.size w w1:=(zr.alloc zl _).trans (hb1.mono (by simp));go_wp2_with fail;refine(zkN (.nd 46 n s ks) _ _ (HV.out.later (hbb.alloc hbb.size _)) _ 1 (fun _=>53) (fun _=>Tryz.f53) (fun _=>isP) (by decide) (by simp) (fun i hi=>zma (by rcases i with _|_|_|_|i<;>first|omega|rfl)) (fun _ _=>zkY) (fun hl i hi=>zkM _)).mono ?_;rintro e w2 ⟨rfl,hb2⟩;have hbc:Below w.heap.size w w2:=(hbb.alloc hbb.size _).trans (hb2.mono (by have:=hbb.size;simp;omega));go_wp2_with fail;go_ret;exact⟨by rw[HX.out];simp[*],hbc⟩
 ·have hnb':zko n s=false:=by simpa using hnb
  clear hnb;go_enter Tryz.func25,Tryz.ntmps25;go_wp2_with fail;refine(zkm _ _ _ _ _ _ _).mono ?_;rintro e w1 ⟨rfl,hb1⟩;have hbb:Below w.heap.size w w1:=(zr.alloc zl _).trans (hb1.mono (by simp));go_wp2_with fail;go_ret;exact⟨by rw[HX.out];simp[*],hbb⟩
theorem zt5(n:Int)(s:ByteArray)(ks:List T)(aM:∀t∈ks,zlj t):zlQ (.nd 47 n s ks):=by
 intro v w hv;have HX:=zh (show isS (.nd 47 n s ks)=(zko n s&&zkH 1 (fun _=>isP) ks) by simp[isS]);have IH:=zh aM;have HV:=zh hv;obtain⟨Ad,c,rfl,hf,hlk,hlc,hrow⟩:=hv.open_;simp only[T.k_nd,T.n_nd,T.s_nd,T.ks_nd]at *
 have aA:=zkK hlk;clear hf hv hlk hrow hlc aM;by_cases hnb:zko n s=true
 ·go_enter Tryz.func25,Tryz.ntmps25;go_wp2_with fail;refine(zkm _ _ _ _ _ _ _).mono ?_;rintro e w1 ⟨rfl,hb1⟩;obtain⟨hc1,hf1⟩:=zlr hb1;have hbb:Below w.heap.size w w1:=(zr.alloc zl _).trans (hb1.mono (by simp));go_wp2_with fail;refine(zkN (.nd 47 n s ks) _ _ (HV.out.later (hbb.alloc hbb.size _)) _ 1 (fun _=>53) (fun _=>Tryz.f53) (fun _=>isP) (by decide) (by simp) (fun i hi=>zma (by rcases i with _|_|_|_|i<;>first|omega|rfl)) (fun _ _=>zkY) (fun hl i hi=>zkM _)).mono ?_;rintro e w2 ⟨rfl,hb2⟩;have hbc:Below w.heap.size w w2:=(hbb.alloc hbb.size _).trans (hb2.mono (by have:=hbb.size;simp;omega));go_wp2_with fail;go_ret;exact⟨by rw[HX.out];simp[*],hbc⟩
 ·have hnb':zko n s=false:=by simpa using hnb
  clear hnb;go_enter Tryz.func25,Tryz.ntmps25;go_wp2_with fail;refine(zkm _ _ _ _ _ _ _).mono ?_;rintro e w1 ⟨rfl,hb1⟩;have hbb:Below w.heap.size w w1:=(zr.alloc zl _).trans (hb1.mono (by simp));go_wp2_with fail;go_ret;exact⟨by rw[HX.out];simp[*],hbb⟩
theorem zt4(n:Int)(s:ByteArray)(ks:List T)(aM:∀t∈ks,zlj t):zlQ (.nd 48 n s ks):=by
 intro v w hv;have HX:=zh (show isS (.nd 48 n s ks)=(zko n s&&zkH 1 (fun _=>isP) ks) by simp[isS]);have IH:=zh aM;have HV:=zh hv;obtain⟨Ad,c,rfl,hf,hlk,hlc,hrow⟩:=hv.open_;simp only[T.k_nd,T.n_nd,T.s_nd,T.ks_nd]at *
 have aA:=zkK hlk;clear hf hv hlk hrow hlc aM;by_cases hnb:zko n s=true
 ·go_enter Tryz.func25,Tryz.ntmps25;go_wp2_with fail;refine(zkm _ _ _ _ _ _ _).mono ?_;rintro e w1 ⟨rfl,hb1⟩;obtain⟨hc1,hf1⟩:=zlr hb1;have hbb:Below w.heap.size w w1:=(zr.alloc zl _).trans (hb1.mono (by simp));go_wp2_with fail;refine(zkN (.nd 48 n s ks) _ _ (HV.out.later (hbb.alloc hbb.size _)) _ 1 (fun _=>53) (fun _=>Tryz.f53) (fun _=>isP) (by decide) (by simp) (fun i hi=>zma (by rcases i with _|_|_|_|i<;>first|omega|rfl)) (fun _ _=>zkY) (fun hl i hi=>zkM _)).mono ?_;rintro e w2 ⟨rfl,hb2⟩;have hbc:Below w.heap.size w w2:=(hbb.alloc hbb.size _).trans (hb2.mono (by have:=hbb.size;simp;omega));go_wp2_with fail;go_ret;exact⟨by rw[HX.out];simp[*],hbc⟩
 ·have hnb':zko n s=false:=by simpa using hnb
  clear hnb;go_enter Tryz.func25,Tryz.ntmps25;go_wp2_with fail;refine(zkm _ _ _ _ _ _ _).mono ?_;rintro e w1 ⟨rfl,hb1⟩;have hbb:Below w.heap.size w w1:=(zr.alloc zl _).trans (hb1.mono (by simp));go_wp2_with fail;go_ret;exact⟨by rw[HX.out];simp[*],hbb⟩
theorem zt3(n:Int)(s:ByteArray)(ks:List T)(aM:∀t∈ks,zlj t):zlQ (.nd 49 n s ks):=by
 intro v w hv;have HX:=zh (show isS (.nd 49 n s ks)=(zko n s&&zkH 1 (fun _=>isP) ks) by simp[isS]);have IH:=zh aM;have HV:=zh hv;obtain⟨Ad,c,rfl,hf,hlk,hlc,hrow⟩:=hv.open_;simp only[T.k_nd,T.n_nd,T.s_nd,T.ks_nd]at *
 have aA:=zkK hlk;clear hf hv hlk hrow hlc aM;by_cases hnb:zko n s=true
 ·go_enter Tryz.func25,Tryz.ntmps25;go_wp2_with fail;refine(zkm _ _ _ _ _ _ _).mono ?_;rintro e w1 ⟨rfl,hb1⟩;obtain⟨hc1,hf1⟩:=zlr hb1;have hbb:Below w.heap.size w w1:=(zr.alloc zl _).trans (hb1.mono (by simp));go_wp2_with fail;refine(zkN (.nd 49 n s ks) _ _ (HV.out.later (hbb.alloc hbb.size _)) _ 1 (fun _=>53) (fun _=>Tryz.f53) (fun _=>isP) (by decide) (by simp) (fun i hi=>zma (by rcases i with _|_|_|_|i<;>first|omega|rfl)) (fun _ _=>zkY) (fun hl i hi=>zkM _)).mono ?_;rintro e w2 ⟨rfl,hb2⟩;have hbc:Below w.heap.size w w2:=(hbb.alloc hbb.size _).trans (hb2.mono (by have:=hbb.size;simp;omega));go_wp2_with fail;go_ret;exact⟨by rw[HX.out];simp[*],hbc⟩
 ·have hnb':zko n s=false:=by simpa using hnb
  clear hnb;go_enter Tryz.func25,Tryz.ntmps25;go_wp2_with fail;refine(zkm _ _ _ _ _ _ _).mono ?_;rintro e w1 ⟨rfl,hb1⟩;have hbb:Below w.heap.size w w1:=(zr.alloc zl _).trans (hb1.mono (by simp));go_wp2_with fail;go_ret;exact⟨by rw[HX.out];simp[*],hbb⟩
theorem zt0(n:Int)(s:ByteArray)(ks:List T)(aM:∀t∈ks,zlj t):zlQ (.nd 52 n s ks):=by
 intro v w hv;have HX:=zh (show isS (.nd 52 n s ks)=(zko n s&&zkH 4 (pEB 0) ks) by simp[isS,zkH,<-znm]);have IH:=zh aM;have HV:=zh hv;obtain⟨Ad,c,rfl,hf,hlk,hlc,hrow⟩:=hv.open_;simp only[T.k_nd,T.n_nd,T.s_nd,T.ks_nd]at *
 have aA:=zkK hlk;clear hf hv hlk hrow hlc aM;by_cases hnb:zko n s=true
 ·go_enter Tryz.func25,Tryz.ntmps25;go_wp2_with fail;refine(zkm _ _ _ _ _ _ _).mono ?_;rintro e w1 ⟨rfl,hb1⟩;obtain⟨hc1,hf1⟩:=zlr hb1;have hbb:Below w.heap.size w w1:=(zr.alloc zl _).trans (hb1.mono (by simp));go_wp2_with fail;refine(zkN (.nd 52 n s ks) _ _ (HV.out.later (hbb.alloc hbb.size _)) _ 4 (fun i=>if i=0\/i=3 then 54 else 58) (fun i=>if i=0\/i=3 then Tryz.f54 else Tryz.f58) (pEB 0) (by decide) (by simp) (fun i hi=>zma (by rcases i with _|_|_|_|i<;>first|omega|rfl)) (fun i hi=>by rcases i with _|_|_|_|i;exact zkU;exact zl1;exact zl1;exact zkU;omega) (fun hl i hi=>by rcases i with _|_|_|_|i;exact zkL _;exact IH.out _ (List.getElem_mem hi);exact IH.out _ (List.getElem_mem hi);exact zkL _;exact absurd hi (by simp only[T.ks_nd]at hl ⊢;omega))).mono ?_;rintro e w2 ⟨rfl,hb2⟩
  have hbc:Below w.heap.size w w2:=(hbb.alloc hbb.size _).trans (hb2.mono (by have:=hbb.size;simp;omega));go_wp2_with fail;go_ret;exact⟨by rw[HX.out];simp[*],hbc⟩
 ·have hnb':zko n s=false:=by simpa using hnb
  clear hnb;go_enter Tryz.func25,Tryz.ntmps25;go_wp2_with fail;refine(zkm _ _ _ _ _ _ _).mono ?_;rintro e w1 ⟨rfl,hb1⟩;have hbb:Below w.heap.size w w1:=(zr.alloc zl _).trans (hb1.mono (by simp));go_wp2_with fail;go_ret;exact⟨by rw[HX.out];simp[*],hbb⟩
theorem ztZ(n:Int)(s:ByteArray)(ks:List T)(aM:∀t∈ks,zlj t):zlQ (.nd 53 n s ks):=by
 intro v w hv;have HX:=zh (show isS (.nd 53 n s ks)=(zko n s&&zkH 4 (pEB 0) ks) by simp[isS,zkH,<-znm]);have IH:=zh aM;have HV:=zh hv;obtain⟨Ad,c,rfl,hf,hlk,hlc,hrow⟩:=hv.open_;simp only[T.k_nd,T.n_nd,T.s_nd,T.ks_nd]at *
 have aA:=zkK hlk;clear hf hv hlk hrow hlc aM;by_cases hnb:zko n s=true
 ·go_enter Tryz.func25,Tryz.ntmps25;go_wp2_with fail;refine(zkm _ _ _ _ _ _ _).mono ?_;rintro e w1 ⟨rfl,hb1⟩;obtain⟨hc1,hf1⟩:=zlr hb1;have hbb:Below w.heap.size w w1:=(zr.alloc zl _).trans (hb1.mono (by simp));go_wp2_with fail;refine(zkN (.nd 53 n s ks) _ _ (HV.out.later (hbb.alloc hbb.size _)) _ 4 (fun i=>if i=0\/i=3 then 54 else 58) (fun i=>if i=0\/i=3 then Tryz.f54 else Tryz.f58) (pEB 0) (by decide) (by simp) (fun i hi=>zma (by rcases i with _|_|_|_|i<;>first|omega|rfl)) (fun i hi=>by rcases i with _|_|_|_|i;exact zkU;exact zl1;exact zl1;exact zkU;omega) (fun hl i hi=>by rcases i with _|_|_|_|i;exact zkL _;exact IH.out _ (List.getElem_mem hi);exact IH.out _ (List.getElem_mem hi);exact zkL _;exact absurd hi (by simp only[T.ks_nd]at hl ⊢;omega))).mono ?_;rintro e w2 ⟨rfl,hb2⟩
  have hbc:Below w.heap.size w w2:=(hbb.alloc hbb.size _).trans (hb2.mono (by have:=hbb.size;simp;omega));go_wp2_with fail;go_ret;exact⟨by rw[HX.out];simp[*],hbc⟩
 ·have hnb':zko n s=false:=by simpa using hnb
  clear hnb;go_enter Tryz.func25,Tryz.ntmps25;go_wp2_with fail;refine(zkm _ _ _ _ _ _ _).mono ?_;rintro e w1 ⟨rfl,hb1⟩;have hbb:Below w.heap.size w w1:=(zr.alloc zl _).trans (hb1.mono (by simp));go_wp2_with fail;go_ret;exact⟨by rw[HX.out];simp[*],hbb⟩
theorem ztY(n:Int)(s:ByteArray)(ks:List T)(aM:∀t∈ks,zlj t):zlQ (.nd 54 n s ks):=by
 intro v w hv;have HX:=zh (show isS (.nd 54 n s ks)=(zkA n s&&zkH 3 (pEB 4) ks) by simp[isS,zkH,<-znm]);have IH:=zh aM;have HV:=zh hv;obtain⟨Ad,c,rfl,hf,hlk,hlc,hrow⟩:=hv.open_;simp only[T.k_nd,T.n_nd,T.s_nd,T.ks_nd]at *
 have aA:=zkK hlk;clear hf hv hlk hrow hlc aM;by_cases hnb:zkA n s=true
 ·go_enter Tryz.func25,Tryz.ntmps25;go_wp2_with fail;refine(zkv _ _ _ _ _ _ _).mono ?_;rintro e w1 ⟨rfl,hb1⟩;obtain⟨hc1,hf1⟩:=zlr hb1;have hbb:Below w.heap.size w w1:=(zr.alloc zl _).trans (hb1.mono (by simp));go_wp2_with fail;refine(zkN (.nd 54 n s ks) _ _ (HV.out.later (hbb.alloc hbb.size _)) _ 3 (fun i=>if i=1 then 58 else 54) (fun i=>if i=1 then Tryz.f58 else Tryz.f54) (pEB 4) (by decide) (by simp) (fun i hi=>zma (by rcases i with _|_|_|_|i<;>first|omega|rfl)) (fun i hi=>by rcases i with _|_|_|i;exact zkU;exact zl1;exact zkU;omega) (fun hl i hi=>by rcases i with _|_|_|i;exact zkL _;exact IH.out _ (List.getElem_mem hi);exact zkL _;exact absurd hi (by simp only[T.ks_nd]at hl ⊢;omega))).mono ?_;rintro e w2 ⟨rfl,hb2⟩;have hbc:Below w.heap.size w w2:=(hbb.alloc hbb.size _).trans (hb2.mono (by have:=hbb.size;simp;omega));go_wp2_with fail;go_ret
  exact⟨by rw[HX.out];simp[*],hbc⟩
 ·have hnb':zkA n s=false:=by simpa using hnb
  clear hnb;go_enter Tryz.func25,Tryz.ntmps25;go_wp2_with fail;refine(zkv _ _ _ _ _ _ _).mono ?_;rintro e w1 ⟨rfl,hb1⟩;have hbb:Below w.heap.size w w1:=(zr.alloc zl _).trans (hb1.mono (by simp));go_wp2_with fail;go_ret;exact⟨by rw[HX.out];simp[*],hbb⟩
theorem ztX(n:Int)(s:ByteArray)(ks:List T)(aM:∀t∈ks,zlj t):zlQ (.nd 55 n s ks):=by
 intro v w hv;have HX:=zh (show isS (.nd 55 n s ks)=(zkA n s&&zkH 1 (pEB 7) ks) by simp[isS,zkH,<-znm]);have IH:=zh aM;have HV:=zh hv;obtain⟨Ad,c,rfl,hf,hlk,hlc,hrow⟩:=hv.open_;simp only[T.k_nd,T.n_nd,T.s_nd,T.ks_nd]at *
 have aA:=zkK hlk;clear hf hv hlk hrow hlc aM;by_cases hnb:zkA n s=true
 ·go_enter Tryz.func25,Tryz.ntmps25;go_wp2_with fail;refine(zkv _ _ _ _ _ _ _).mono ?_;rintro e w1 ⟨rfl,hb1⟩;obtain⟨hc1,hf1⟩:=zlr hb1;have hbb:Below w.heap.size w w1:=(zr.alloc zl _).trans (hb1.mono (by simp));go_wp2_with fail;refine(zkN (.nd 55 n s ks) _ _ (HV.out.later (hbb.alloc hbb.size _)) _ 1 (fun _=>58) (fun _=>Tryz.f58) (pEB 7) (by decide) (by simp) (fun i hi=>zma (by rcases i with _|_|_|_|i<;>first|omega|rfl)) (fun _ _=>zl1) (fun hl i hi=>by rcases i with _|i;exact IH.out _ (List.getElem_mem hi);exact absurd hi (by simp only[T.ks_nd]at hl ⊢;omega))).mono ?_;rintro e w2 ⟨rfl,hb2⟩;have hbc:Below w.heap.size w w2:=(hbb.alloc hbb.size _).trans (hb2.mono (by have:=hbb.size;simp;omega));go_wp2_with fail;go_ret;exact⟨by rw[HX.out];simp[*],hbc⟩
 ·have hnb':zkA n s=false:=by simpa using hnb
  clear hnb;go_enter Tryz.func25,Tryz.ntmps25;go_wp2_with fail;refine(zkv _ _ _ _ _ _ _).mono ?_;rintro e w1 ⟨rfl,hb1⟩;have hbb:Below w.heap.size w w1:=(zr.alloc zl _).trans (hb1.mono (by simp));go_wp2_with fail;go_ret;exact⟨by rw[HX.out];simp[*],hbb⟩
theorem zt2(n:Int)(s:ByteArray)(ks:List T):zlQ (.nd 50 n s ks):=by
 intro v w hv;have HX:=zh (show isS (.nd 50 n s ks)=(zkA n s&&decide (ks.length<=8)&&zkz (fun _=>isV) 0 ks) by simp[isS]);have HV:=zh hv;obtain⟨Ad,c,rfl,hf,hlk,hlc,hrow⟩:=hv.open_;simp only[T.k_nd,T.n_nd,T.s_nd,T.ks_nd]at *
 have aA:=zkK hlk;clear hf hv hlc;by_cases hnb:zkA n s=true
 ·by_cases yH:ks.length<=8
  ·go_enter Tryz.func25,Tryz.ntmps25;go_wp2_with fail;refine(zkv _ _ _ _ _ _ _).mono ?_;rintro e w1 ⟨rfl,hb1⟩;obtain⟨hc1,hf1⟩:=zlr hb1;have hbb:Below w.heap.size w w1:=(zr.alloc zl _).trans (hb1.mono (by simp));go_wp2_with fail;refine(zoa ks _ _ _ (hrow.later hbb) hlk _ _ zte isV (fun i hi=>zpL _)).mono ?_;rintro e w2 ⟨rfl,hb2⟩;have hbc:Below w.heap.size w w2:=hbb.trans (hb2.mono hbb.size);go_wp2_with fail;go_ret;exact⟨by rw[HX.out];simp[*],hbc⟩
  ·have xE:8<ks.length:=by omega
   clear yH;go_enter Tryz.func25,Tryz.ntmps25;go_wp2_with fail;refine(zkv _ _ _ _ _ _ _).mono ?_;rintro e w1 ⟨rfl,hb1⟩;obtain⟨hc1,hf1⟩:=zlr hb1;have hbb:Below w.heap.size w w1:=(zr.alloc zl _).trans (hb1.mono (by simp));go_wp2_with fail;go_ret;exact⟨by rw[HX.out];simp[show ¬ ks.length<=8 by omega],hbb⟩
 ·have hnb':zkA n s=false:=by simpa using hnb
  clear hnb;go_enter Tryz.func25,Tryz.ntmps25;go_wp2_with fail;refine(zkv _ _ _ _ _ _ _).mono ?_;rintro e w1 ⟨rfl,hb1⟩;have hbb:Below w.heap.size w w1:=(zr.alloc zl _).trans (hb1.mono (by simp));go_wp2_with fail;go_ret;exact⟨by rw[HX.out];simp[*],hbb⟩
theorem zt1(n:Int)(s:ByteArray)(ks:List T):zlQ (.nd 51 n s ks):=by
 intro v w hv;have HX:=zh (show isS (.nd 51 n s ks)=(zkA n s&&decide (ks.length<=8)&&zkz (fun _=>isV) 0 ks) by simp[isS]);have HV:=zh hv;obtain⟨Ad,c,rfl,hf,hlk,hlc,hrow⟩:=hv.open_;simp only[T.k_nd,T.n_nd,T.s_nd,T.ks_nd]at *
 have aA:=zkK hlk;clear hf hv hlc;by_cases hnb:zkA n s=true
 ·by_cases yH:ks.length<=8
  ·go_enter Tryz.func25,Tryz.ntmps25;go_wp2_with fail;refine(zkv _ _ _ _ _ _ _).mono ?_;rintro e w1 ⟨rfl,hb1⟩;obtain⟨hc1,hf1⟩:=zlr hb1;have hbb:Below w.heap.size w w1:=(zr.alloc zl _).trans (hb1.mono (by simp));go_wp2_with fail;refine(zoa ks _ _ _ (hrow.later hbb) hlk _ _ zte isV (fun i hi=>zpL _)).mono ?_;rintro e w2 ⟨rfl,hb2⟩;have hbc:Below w.heap.size w w2:=hbb.trans (hb2.mono hbb.size);go_wp2_with fail;go_ret;exact⟨by rw[HX.out];simp[*],hbc⟩
  ·have xE:8<ks.length:=by omega
   clear yH;go_enter Tryz.func25,Tryz.ntmps25;go_wp2_with fail;refine(zkv _ _ _ _ _ _ _).mono ?_;rintro e w1 ⟨rfl,hb1⟩;obtain⟨hc1,hf1⟩:=zlr hb1;have hbb:Below w.heap.size w w1:=(zr.alloc zl _).trans (hb1.mono (by simp));go_wp2_with fail;go_ret;exact⟨by rw[HX.out];simp[show ¬ ks.length<=8 by omega],hbb⟩
 ·have hnb':zkA n s=false:=by simpa using hnb
  clear hnb;go_enter Tryz.func25,Tryz.ntmps25;go_wp2_with fail;refine(zkv _ _ _ _ _ _ _).mono ?_;rintro e w1 ⟨rfl,hb1⟩;have hbb:Below w.heap.size w w1:=(zr.alloc zl _).trans (hb1.mono (by simp));go_wp2_with fail;go_ret;exact⟨by rw[HX.out];simp[*],hbb⟩
theorem zr2(k n:Int)(s:ByteArray)(ks:List T)(n40:(k==40)=false)(n41:(k==41)=false)(n42:(k==42)=false)(n43:(k==43)=false)(n44:(k==44)=false)(n45:(k==45)=false)(n46:(k==46)=false)(n47:(k==47)=false)(n48:(k==48)=false)(n49:(k==49)=false)(n50:(k==50)=false)(n51:(k==51)=false)(n52:(k==52)=false)(n53:(k==53)=false)(n54:(k==54)=false)(n55:(k==55)=false)(n56:(k==56)=false):zlQ (.nd k n s ks):=by
 intro v w hv;obtain⟨Ad,c,rfl,hf,hlk,hlc,hrow⟩:=hv.open_;simp only[T.k_nd,T.n_nd,T.s_nd,T.ks_nd]at *
 have aA:=zkK hlk;have HX:=zh (show isS (.nd k n s ks)=false by
  simp only[beq_eq_false_iff_ne,ne_eq]at n40 n41 n42 n43 n44 n45 n46 n47 n48 n49 n50 n51 n52 n53 n54 n55 n56;rw[isS,if_neg (by omega),if_neg (by omega),if_neg (by omega),if_neg (by omega),if_neg (by omega),if_neg (by omega),if_neg (by omega),if_neg (by omega)])
 clear hf hv hlk hrow hlc;go_enter Tryz.func25,Tryz.ntmps25;go_wp2;go_ret;exact⟨by rw[HX.out];rfl,zr.alloc zl _⟩
theorem zr5(k n:Int)(s:ByteArray)(ks:List T)(ih:∀t∈ks,zlQ t):zlj (.nd k n s ks):=by
 intro v w hv;have HX:=zh (show isB (.nd k n s ks)=((k==57)&&zko n s&&zkz (fun _=>isS) 0 ks) by rw[isB,zpd 0];rfl);have IH:=zh ih;obtain⟨Ad,c,rfl,hf,hlk,hlc,hrow⟩:=hv.open_;simp only[T.k_nd,T.n_nd,T.s_nd,T.ks_nd]at *
 have aA:=zkK hlk;clear hf hv hlc ih;by_cases hk:(k==57)=true
 ·by_cases hnb:zko n s=true
  ·go_enter Tryz.func58,Tryz.ntmps58;go_wp2_with fail;refine(zkm _ _ _ _ _ _ _).mono ?_;rintro e w1 ⟨rfl,hb1⟩;obtain⟨hc1,hf1⟩:=zlr hb1;have hbb:Below w.heap.size w w1:=(zr.alloc zl _).trans (hb1.mono (by simp));go_wp2_with fail;refine(zoa ks _ _ _ (hrow.later hbb) hlk _ _ zu8 isS (fun i hi=>IH.out _ (List.getElem_mem hi))).mono ?_;rintro e w2 ⟨rfl,hb2⟩;have hbc:Below w.heap.size w w2:=hbb.trans (hb2.mono hbb.size);go_wp2_with fail;go_ret;exact⟨by rw[HX.out];simp[*],hbc⟩
  ·have hnb':zko n s=false:=by simpa using hnb
   clear hnb;go_enter Tryz.func58,Tryz.ntmps58;go_wp2_with fail;refine(zkm _ _ _ _ _ _ _).mono ?_;rintro e w1 ⟨rfl,hb1⟩;have hbb:Below w.heap.size w w1:=(zr.alloc zl _).trans (hb1.mono (by simp));go_wp2_with fail;go_ret;exact⟨by rw[HX.out];simp[*],hbb⟩
 ·have hk':(k==57)=false:=by simpa using hk
  clear hk;go_enter Tryz.func58,Tryz.ntmps58;go_wp2_with fail;go_ret;exact⟨by rw[HX.out];simp[*],zr.alloc zl _⟩
theorem zrt(t:T):zlQ t/\zlj t:=by
 induction t using T.ind with
 | _ k n s ks ih =>
 have ihS:∀t∈ks,zlQ t:=fun t ht=>(ih t ht).1;have aM:∀t∈ks,zlj t:=fun t ht=>(ih t ht).2;refine⟨?_,zr5 k n s ks ihS⟩;by_cases yT:k=40
 ·subst yT;exact zuc n s ks aM
 by_cases h41:k=41
 ·subst h41;exact zub n s ks aM
 by_cases h42:k=42
 ·subst h42;exact zua n s ks aM
 by_cases h43:k=43
 ·subst h43;exact zt9 n s ks aM
 by_cases sK:k=44
 ·subst sK;exact zt8 n s ks aM
 by_cases h45:k=45
 ·subst h45;exact zt7 n s ks aM
 by_cases h46:k=46
 ·subst h46;exact zt6 n s ks aM
 by_cases h47:k=47
 ·subst h47;exact zt5 n s ks aM
 by_cases h48:k=48
 ·subst h48;exact zt4 n s ks aM
 by_cases xM:k=49
 ·subst xM;exact zt3 n s ks aM
 by_cases h50:k=50
 ·subst h50;exact zt2 n s ks
 by_cases lU:k=51
 ·subst lU;exact zt1 n s ks
 by_cases lT:k=52
 ·subst lT;exact zt0 n s ks aM
 by_cases mP:k=53
 ·subst mP;exact ztZ n s ks aM
 by_cases eZ:k=54
 ·subst eZ;exact ztY n s ks aM
 by_cases fI:k=55
 ·subst fI;exact ztX n s ks aM
 by_cases iV:k=56
 ·subst iV;exact ztW n s ks aM
 exact zr2 k n s ks (by simpa using yT) (by simpa using h41) (by simpa using h42) (by simpa using h43) (by simpa using sK) (by simpa using h45) (by simpa using h46) (by simpa using h47) (by simpa using h48) (by simpa using xM) (by simpa using h50) (by simpa using lU) (by simpa using lT) (by simpa using mP) (by simpa using eZ) (by simpa using fI) (by simpa using iV)
theorem zns(t:T):zlQ t:=(zrt t).1
theorem zqL(t:T):zlj t:=(zrt t).2
end
section
open Go Go.RowKit
theorem zwd{f:Nat->T->Bool}{ks:List T}(h:zkH 1 f ks=true):∃p,ks=[p]/\f 0 p=true:=by
 match ks with
 | [p]=>simp[zkH,zkz]at h;exact⟨p,rfl,h⟩
 | []=>simp[zkH]at h
 | a::b::l=>simp[zkH]at h
theorem zs3{f:Nat->T->Bool}{ks:List T}(h:zkH 2 f ks=true):∃p q,ks=[p,q]/\f 0 p=true/\f 1 q=true:=by
 match ks with
 | [p,q]=>simp[zkH,zkz]at h;exact⟨p,q,rfl,h⟩
 | []=>simp[zkH]at h
 | [a]=>simp[zkH]at h
 | a::b::c::l=>simp[zkH]at h
theorem zs5{k n:Int}{s:ByteArray}{ks:List T}(h:isS (.nd k n s ks)=true)(hb:basB k=true) :
  ((k=40\/k=41\/k=42)/\∃p q,ks=[p,q]/\isP p=true/\isE q=true)\/(k=43/\∃p q,ks=[p,q]/\isP p=true/\isP q=true)\/((44<=k/\k<=49)/\∃p,ks=[p]/\isP p=true):=by
 have hr:=of_decide_eq_true hb;rw[isS]at h;by_cases h1:k=40\/k=41\/k=42\/k=56
 ·rw[if_pos h1,Bool.and_eq_true]at h;obtain⟨p,q,e,a,b⟩:=zs3 h.2;exact .inl ⟨by omega,p,q,e,by simpa using a,by simpa using b⟩
 ·rw[if_neg h1]at h;by_cases h2:k=43
  ·rw[if_pos h2,Bool.and_eq_true]at h;obtain⟨p,q,e,a,b⟩:=zs3 h.2;exact .inr (.inl ⟨h2,p,q,e,a,b⟩)
  ·rw[if_neg h2]at h;by_cases h3:k=44\/k=45
   ·rw[if_pos h3,Bool.and_eq_true]at h;obtain⟨p,e,a⟩:=zwd h.2;exact .inr (.inr ⟨by omega,p,e,a⟩)
   ·rw[if_neg h3,if_pos (by omega),Bool.and_eq_true]at h;obtain⟨p,e,a⟩:=zwd h.2;exact .inr (.inr ⟨by omega,p,e,a⟩)
def DoP(n0:Nat)(P:Ph)(S:ST)(W:World)(R:Int×ST)(e:Ending)(W':World):Prop:=e=.returned (.int .i64 R.1)/\∃P',SStp n0 P S W P' R.2 W'/\P'.sb=P.sb
theorem zqx{W:World}{n0:Nat}{P:Ph}{S:ST}(h:SR W n0 P S)(t:T)(v:Value)(hv:NV W Any t v)(hs:isS t=true)(hb:basB t.k=true)(hf:fltE S.cur.vs t=0) :
  Calls Tryz.prog 64 #[.pointer (some ⟨P.sb,0,none⟩),v] W (DoP n0 P S W (zon S t)):=by
 obtain⟨k,n,s,ks⟩:=t;obtain⟨fo,fk⟩:=zph hf;rcases zs5 hs hb with⟨hk,p,q,rfl,hp,hq⟩|⟨rfl,p,q,rfl,hp,hq⟩|⟨hk,p,rfl,hp⟩
 ·obtain⟨id,kp,h1,h2,h3⟩:=znU h.wf hp (zmz fk p (by simp));have:=zvf h k n s p q v hv hk id h1 kp h2;have e:zon S (.nd k n s [p,q])=zk8 S k s p q (indE S.look p) (zk7 S.look q):=by
   show zk8 S k s p q (indE S.look p) (zmc S k q)=_
   rw[zmc,if_neg (by omega),if_pos hk]
  unfold DoP;rw[e];exact this
 ·obtain⟨id,kp,h1,h2,h3⟩:=znU h.wf hp (zmz fk p (by simp));obtain⟨jd,kq,h4,h5,h6⟩:=znU h.wf hq (zmz fk q (by simp));have:=ztm h 43 n s p q v hv rfl id h1 kp h2 jd h4 kq h5;have e:zon S (.nd 43 n s [p,q])=zk8 S 43 s p q (indE S.look p) (indE S.look q):=by
   show zk8 S 43 s p q (indE S.look p) (zmc S 43 q)=_
   rw[zmc,if_pos rfl]
  unfold DoP;rw[e];exact this
 ·obtain⟨id,kp,h1,h2,h3⟩:=znU h.wf hp (zmz fk p (by simp));have hst:k=44\/k=45->∃ah,S.num s=some ah/\CurK S ah 3:=fun h45=>by
   have hn:zol k=3:=by rcases h45 with rfl|rfl<;>rfl
   obtain⟨u,h4,h5⟩:=znB fo (by rw[hn];decide);obtain⟨ah,h6,h7⟩:=zq2 h.wf h4;exact⟨ah,h6,by rw[h5,hn]at h7;exact h7⟩
  have:=zvg h k n s p v hv hk id h1 kp h2 h3 hst;have e:zon S (.nd k n s [p])=zk8 S k s p nil0 (indE S.look p) (0,0):=by
   show zk8 S k s p nil0 (indE S.look p) (zmc S k nil0)=_
   rw[zmc,if_neg (by omega),if_neg (by omega)]
  unfold DoP;rw[e];exact this
theorem ztg:IsFn Tryz.prog 62 Tryz.f62:=⟨Tryz.func62,by kernel_rfl,by kernel_rfl⟩
theorem zvb:IsFn Tryz.prog 63 Tryz.f63:=⟨Tryz.func63,by kernel_rfl,by kernel_rfl⟩
theorem zws{W:World}{n0:Nat}{P:Ph}{S:ST}(h:SR W n0 P S)(t:T)(v:Value)(hv:NV W Any t v) :
  Calls Tryz.prog 27 #[.pointer (some ⟨P.sb,0,none⟩),v] W (DoP n0 P S W (doE S t)):=by
 obtain⟨R,hR⟩:=zX (doE S t);rw[hR];have HRR:=zh hR;have HS:=zh h;have HV:=zh hv;obtain⟨A,c,rfl,-,-,-,-⟩:=hv.open_;obtain⟨b,hb⟩:=zX (isS t);have HIS:=zh (show ∀(v:Value) (w:World),NV w Any t v->Calls Tryz.prog 25 #[v] w fun e w'=>e=.returned (.bool b)/\Below w.heap.size w w' from fun v w h=>hb▸zns t v w h);have xq:=zh hb;have iD:=zh (show ∀(v:Value) (W':World),NV W' Any t v->Below W.heap.size W W'->isS t=true->basB t.k=true->fltE S.cur.vs t=0->doE S t=zon S t->Calls Tryz.prog 64 #[.pointer (some ⟨P.sb,0,none⟩),v] W' (DoP n0 P S W R)from fun v W' hv' hbl h1 h2 h3 h4=>by
  refine(zqx (h.later hbl) t v hv' h1 h2 h3).mono ?_;rintro e W2 ⟨a1,P',a2,a3⟩;rw[<-h4,hR]at a1 a2;exact⟨a1,P',⟨a2.st.after hbl h.rws,a2.wf⟩,a3⟩)
 obtain⟨kd,hw⟩:=h.curWF;obtain⟨A0,c0,hcv,hc,hrow⟩:=h.curVs;obtain⟨h3,h4,h5⟩:=h.cur3;rw[hcv]at h3;have dm:=zh (fun W' (hb:Below W.heap.size W W')=>zk9 (h.later hb));have AJ:=zh (fun(v:Value) W' (hb:Below W.heap.size W W') (hv':NV W' Any t v)=>zrS S.cur.vs A0 c0 (curP P S) hw.lim t v W' hv' (zb hb h3) (hrow.later hb));obtain⟨cp,hcp⟩:=zX (curP P S);rw[hcp]at dm AJ;obtain⟨fe,hfe⟩:=zX (fltE S.cur.vs t);rw[hfe]at AJ iD;have iH:=zh (fun w=>ztH t.k w);obtain⟨bb,hbb⟩:=zX (basB t.k);rw[hbb]at iH iD;have HD:=zh (show R=if b=false then(3,S)else if t.k=56 then(9,S)else if bb=false then(7,S)else if fe≠0 then(fe,S)else zon S t by rw[<-hR,doE,hb,hbb,hfe]);have HDE:=zh (show doE S t=R from hR);obtain⟨k,hk⟩:=zX (t.k);obtain⟨n,hn⟩:=zX (t.n);obtain⟨s,hs⟩:=zX (t.s);obtain⟨m,hm⟩:=zX (t.ks.length);rw[hk,hn,hs,hm]at HV ⊢;rw[hk]at iH HD
 clear h hv hR hb hw hcv hc hrow h3 h4 h5 hcp hfe hbb hk hn hs hm;have hbx:=box4 (heap_alloc_new W (.cells #[.int .u8 k,.int .i64 n,.string s,.slice A m c] 24));have aj:=zh (heap_alloc_new W (.cells #[.int .u8 k,.int .i64 n,.string s,.slice A m c] 24));obtain⟨W0,hW0⟩:=zX (W.alloc (.cells #[.int .u8 k,.int .i64 n,.string s,.slice A m c] 24));have q0:Below W.heap.size W W0:=hW0▸zkc zr _;rw[hW0]at hbx aj;have iq:=zh q0;obtain⟨x0,x1,x2,x3⟩:=hbx;clear q0;go_enter Tryz.func27,Tryz.ntmps27;go_wp2_with fail;refine(HIS.out _ _ (HV.out.later iq.out)).mono ?_;rintro e w1 ⟨rfl,ae⟩;have HB1:=zh (zkb iq.out ae);have aB:=zh (zka aj.out ae);obtain⟨y0,y1,y2,y3⟩:=box4 aB.out;clear ae x0 x1 x2 x3
 cases b
 ·have HN:=zh (show R=(3,S) by rw[HD.out,if_pos rfl]);go_wp2_with fail;go_ret;exact⟨by rw[HN.out];rfl,P,by rw[HN.out];exact SStp.refl HS.out HB1.out,rfl⟩
 ·by_cases iV:k=56
  ·have HN:=zh (show R=(9,S) by rw[HD.out,if_neg (by decide),if_pos iV]);subst iV;go_wp2_with fail;go_ret;exact⟨by rw[HN.out];rfl,P,by rw[HN.out];exact SStp.refl HS.out HB1.out,rfl⟩
  ·have k56:(k==56)=false:=by simpa using iV
   go_wp2_with fail;refine(iH.out _).mono ?_;rintro e w2 ⟨rfl,rfl⟩
   cases bb
   ·have HN:=zh (show R=(7,S) by rw[HD.out,if_neg (by decide),if_neg iV,if_pos rfl]);go_wp2_with fail;go_ret;exact⟨by rw[HN.out];rfl,P,by rw[HN.out];exact SStp.refl HS.out HB1.out,rfl⟩
   ·have HD2:=zh (show R=if fe≠0 then(fe,S)else zon S t by rw[HD.out,if_neg (by decide),if_neg iV,if_neg (by decide)]);clear HD iH;go_upto_region 9 with fail;have hSS:zW (fun w':World=>zN4 w' W.heap.size (.int .u8 k) (.int .i64 n) (.string s) (.slice A m c)) zU w2.drew:=⟨⟨y0,y1,y2,y3⟩,trivial⟩
    refine wp_region_noPanic ?_;refine zG hSS 3 ?_;refine zT 0 hSS ?_;refine zT 2 hSS ?_;have had:Calls Tryz.prog 62 [.pointer (some ⟨P.sb,0,none⟩)].toArray w2.drew fun e W'=>∃u,e=.returned u/\u=.pointer (some cp)/\W'=w2.drew :=
     (dm.out _ HB1.out.drew).mono fun e W' hh=>⟨_,hh.1,rfl,hh.2⟩
    refine zo 1 fun K hK=>?_;refine zke (by rfl) (.func 62) [.tmp 22] _ (by rfl) 62 _ ztg (by rfl) _ (by rfl) _ had ?_;rintro v4 w4 ⟨rfl,rfl⟩;refine hK.out _ _ hSS ?_;clear hK K had;(try simp only[zQ]);have had:Calls Tryz.prog 63 [.pointer (some cp),nv k n s A m c].toArray w2.drew fun e W'=>∃u,e=.returned u/\u=.int .i64 fe/\Below w2.drew.heap.size w2.drew W' :=
     (AJ.out _ _ HB1.out.drew ((HV.out.later HB1.out).later zr.drew)).mono fun e W' hh=>⟨_,hh.1,rfl,hh.2⟩
    refine zp 3 fun K hK=>?_;refine zke (by rfl) (.func 63) [.tmp 23,.tmp 24] _ (by rfl) 63 _ zvb (by rfl) _ (by rfl) _ had ?_;rintro v5 w5 ⟨rfl,hb5⟩;have ay:=zh (zkb HB1.out.drew hb5);have dW:=zh (zka (show w2.drew.heap[W.heap.size]?=_ from aB.out) hb5);obtain⟨u0,u1,u2,u3⟩:=box4 dW.out;refine hK.out _ _ ⟨u0,u1,u2,u3⟩ ?_;clear hK K had hb5 hSS y0 y1 y2 y3;(try simp only[zQ]);refine zp 4 fun K hK=>?_;(try simp only[zA,zB,zC]);go_simp;refine hK.out _ _ ⟨u0,u1,u2,u3⟩ ?_;clear hK K;(try simp only[zQ]);refine zd ?_;refine NoPanic.normal ?_;by_cases hfe:fe=0
    ·subst hfe;have iW:=zh (iD.out (nv k n s A m c) w5 (HV.out.later ay.out) ay.out xq.out (by first|rfl|trivial) (by first|rfl|trivial) (by rw[HDE.out,HD2.out];simp));clear HD2 iD;go_wp2_with fail;refine iW.out.mono ?_;rintro e w6 ⟨rfl,hh⟩;have HH:=zh hh;clear hh;go_wp2_with fail;go_ret;exact⟨rfl,HH.out⟩
    ·have HN:=zh (show R=(fe,S) by rw[HD2.out,if_pos hfe]);have e1:(fe==0)=false:=by simpa using hfe
     have e2:(fe != 0)=true:=by simpa using hfe
     clear HD2;go_wp2_with fail;go_ret;exact⟨by rw[HN.out];rfl,P,by rw[HN.out];exact SStp.refl HS.out ay.out,rfl⟩
theorem zvM{W:World}{n0:Nat}{P:Ph}{S:ST}(h:SR W n0 P S)(t:T)(v:Value)(hv:NV W Any t v) :
  Calls Tryz.prog 172 #[.pointer (some ⟨P.sb,0,none⟩),v] W (DoP n0 P S W (zoh S t)):=by
 obtain⟨k,n,s,ks⟩:=t;obtain⟨A,c,rfl,hf,hlk,hlc,hrow⟩:=hv.open_;simp only[T.k_nd,T.n_nd,T.s_nd,T.ks_nd]at *
 obtain⟨k',hk'⟩:∃k',zrL k=k':=⟨_,rfl⟩
 have hf':Fld k' n s:=by
  refine⟨?_,hf.2⟩;rw[<-hk'];unfold zrL;have:=hf.1
  split
  ·omega
  ·split
   ·omega
   ·split
    ·omega
    ·split
     ·omega
     ·split
      ·omega
      ·split
       ·omega
       ·split
        ·omega
        ·split
         ·omega
         ·exact this
 obtain⟨R,hR⟩:=zX (zoh S (.nd k n s ks));rw[hR];have ji:=zh (show ∀W',Below W.heap.size W W'->Calls Tryz.prog 27 #[.pointer (some ⟨P.sb,0,none⟩),nv k' n s A ks.length c] W' (DoP n0 P S W R)from fun W' hb=>by
  have e:doE S (.nd k' n s ks)=R:=by rw[<-hR,<-hk'];rfl
  have:=zws (h.later hb) (.nd k' n s ks) (nv k' n s A ks.length c) (NV.shut hf' hlk hlc (hrow.later hb));rw[e]at this;refine this.mono ?_;rintro e W2 ⟨a1,P',a2,a3⟩;exact⟨a1,P',⟨a2.st.after hb h.rws,a2.wf⟩,a3⟩)
 have pW:=zh (fun w=>hk'▸zqt k w);obtain⟨m,hm⟩:=zX (ks.length);rw[hm]at ji ⊢;clear h hv hR hf hf' hrow hlk hlc hm hk';go_enter Tryz.func172,Tryz.ntmps172;go_wp2_with fail;refine(pW.out _).mono ?_;rintro e w1 ⟨rfl,rfl⟩;go_wp2_with fail;refine(ji.out _ (zkc zr _)).mono ?_;rintro e w6 ⟨rfl,hh⟩;have HH:=zh hh;clear hh;go_wp2_with fail;go_ret;exact⟨rfl,HH.out⟩
def FrK(S S':ST):Prop:=S'.base=S.base/\S'.calls=S.calls/\S'.nc=S.nc
theorem zuO(S:ST)(k:Int)(id i ah:Nat):FrK S (zmX S k id i ah).2:=by
 unfold zmX
 repeat' split
 all_goals exact⟨rfl,rfl,rfl⟩
theorem zsl(S:ST)(k:Int)(id i:Nat):FrK S (zlf S k id i).2:=by
 unfold zlf
 repeat' split
 all_goals exact⟨rfl,rfl,rfl⟩
theorem zvh(S:ST)(k:Int)(s qs:ByteArray)(r2:Int)(id i:Nat):FrK S (zno S k s qs r2 id i).2:=by
 unfold zno
 repeat' split
 all_goals first|exact zuO _ _ _ _ _|exact zsl _ _ _ _|exact⟨rfl,rfl,rfl⟩
theorem zvi(S:ST)(k:Int)(s ps qs:ByteArray)(r1:Int)(r2:Int×Int):FrK S (zm4 S k s ps qs r1 r2).2:=by
 unfold zm4
 repeat' split
 all_goals first|exact zvh _ _ _ _ _ _ _|exact⟨rfl,rfl,rfl⟩
theorem zvj(S:ST)(k:Int)(s:ByteArray)(p q:T)(r1 r2:Int×Int):FrK S (zk8 S k s p q r1 r2).2:=by
 unfold zk8;by_cases h:r1.2≠0
 ·rw[if_pos h];exact⟨rfl,rfl,rfl⟩
 ·rw[if_neg h];exact zvi _ _ _ _ _ _ _
theorem ztv(S:ST)(t:T):FrK S (doE S t).2:=by
 unfold doE
 repeat' split
 all_goals first|exact⟨rfl,rfl,rfl⟩|skip
 obtain⟨k,n,s,ks⟩:=t;exact zvj _ _ _ _ _ _ _
theorem zut(S:ST)(t:T):FrK S (zoh S t).2:=by
 obtain⟨k,n,s,ks⟩:=t;exact ztv _ _
theorem zri{f:FR}:∀(l:List (VD×ByteArray)) (acc g:FR),entL f acc l=.ok g->g.vs.length=acc.vs.length+l.length
 | [],acc,g,h=>by rw[entL]at h;injection h with h;subst h;simp
 | (v,a)::r,acc,g,h=>by
  rw[entL]at h
  split at h
  ·cases h
  ·split at h
   ·have:=zri r _ _ h;simp at this ⊢;omega
   ·cases h
theorem zmS(w:World)(S:Nat->Prop){k n:Int}{s:ByteArray}(hf:Fld k n s):NV w S (.nd k n s []) (nv k n s none 0 0):=NV.shut (ks:=[]) hf (by simp) zl (fun i hi=>by simp at hi)
theorem zyi(W:World)(E:TypeId){S:Nat->Prop}(hS:S W.heap.size){t1 t2:T}{k n k1 n1 k2 n2:Int}{s s1 s2:ByteArray}{A1 A2:Option Addr}{l1 c1 l2 c2:Nat}(hf:Fld k n s)(h1:NV W S t1 (nv k1 n1 s1 A1 l1 c1))(h2:NV W S t2 (nv k2 n2 s2 A2 l2 c2)) :
  NV (W.alloc (.cells #[.int .u8 k1,.int .i64 n1,.string s1,.slice A1 l1 c1,.int .u8 k2,.int .i64 n2,.string s2,.slice A2 l2 c2] E)) S (.nd k n s [t1,t2]) (nv k n s (some ⟨W.heap.size,0,none⟩) 2 2):=by
 refine NV.shut (ks:=[t1,t2]) hf (by simp[LK]) (by simp) fun i hi=>?_;have hb:=zkc (zs W) (.cells #[.int .u8 k1,.int .i64 n1,.string s1,.slice A1 l1 c1,.int .u8 k2,.int .i64 n2,.string s2,.slice A2 l2 c2] E);have hx:=heap_alloc_new W (.cells #[.int .u8 k1,.int .i64 n1,.string s1,.slice A1 l1 c1,.int .u8 k2,.int .i64 n2,.string s2,.slice A2 l2 c2] E)
 match i,hi with
 | 0,_=>exact⟨⟨W.heap.size,0,none⟩,_,_,_,_,rfl,hS,⟨zc hx rfl,zc hx rfl,zc hx rfl,zc hx rfl⟩,h1.later hb⟩
 | 1,_=>exact⟨⟨W.heap.size,0,none⟩,_,_,_,_,rfl,hS,⟨zc hx rfl,zc hx rfl,zc hx rfl,zc hx rfl⟩,h2.later hb⟩
theorem zo4{W:World}{b:Nat}{E:TypeId}{xs:List Int}(h:W.heap[b]?=some (.cells (zkf xs).toArray E (0,0)))(hx:∀x∈xs,I64 x):RowI W Any (some ⟨b,0,none⟩) xs:=fun i hi=>by
 have ha:(⟨b,0,none⟩:Addr).add i=⟨b,i,none⟩:=by rw[Addr.add_lit,Nat.zero_add]
 refine⟨⟨b,0,none⟩,rfl,trivial,?_,hx _ (List.getElem_mem hi)⟩;rw[ha];simp only[World.cell?,h];simp[zkf,hi]
theorem zuC{W:World}{b:Nat}{E:TypeId}{vs:List VD}(h:W.heap[b]?=some (.cells (zkO vs).toArray E (0,0)))(hx:∀v∈vs,FldV v):RowV W Any (some ⟨b,0,none⟩) vs:=fun i hi=>by
 have ha:(⟨b,0,none⟩:Addr).add (i*3)=⟨b,i*3,none⟩:=by rw[Addr.add_lit,Nat.zero_add]
 obtain⟨g1,g2,g3⟩:=zn5 vs i hi;refine⟨⟨b,0,none⟩,rfl,trivial,?_,hx _ (List.getElem_mem hi)⟩;rw[ha];have key:∀o u,(zkO vs)[o]?=some u->W.cell? ⟨b,o,none⟩=some u:=fun o u ho=>by
  simp only[World.cell?,h];simpa using ho
 exact⟨key _ _ g1,key _ _ g2,key _ _ g3⟩
theorem bI2(x y:Int)(w:World):(Instr.buildSlice 32 2 #[(0,.int .i64 x),(1,.int .i64 y)]).run Tryz.prog w=.ok (.slice (some ⟨w.heap.size,0,none⟩) 2 2) (w.alloc (.cells #[.int .i64 x,.int .i64 y] 3)):=by kernel_rfl
theorem zkn{w:World}{b:Nat}{E:TypeId}{u0 u1 u2:Value}(h:w.heap[b]?=some (.cells #[u0,u1,u2] E (0,0))):w.cell? ⟨b,0,none⟩=some u0/\w.cell? ⟨b,1,none⟩=some u1/\w.cell? ⟨b,2,none⟩=some u2 :=
 ⟨zc h rfl,zc h rfl,zc h rfl⟩
theorem zoD{W:World}{n0:Nat}{E:TypeId}{v:Value}{l:List Int}(h:W.ownsRow n0 E 1 v l.length (zkf l))(hf:∀x∈l,I64 x):∃A c,v=.slice A l.length c/\l.length<=c/\RowI W (fun b=>n0<=b) A l:=by
 obtain⟨A,c,e,hc,hr⟩:=zlU (xs:=l) h hf;exact⟨A,c,e,hc,hr.keep (fun b hb _=>(h.lt b hb).1) (fun _ _ _=>rfl)⟩
theorem OwnS.svR{W:World}{n0:Nat}{s:SS}{v:Value}(h:OwnS W n0 s v)(hl:s.Lim):SV W (fun b=>n0<=b) s v:=by
 obtain⟨vc,vi,vo,fc,rfl,hr,h1,h2,h3⟩:=h;obtain⟨AI,cI,e2,k2,r2⟩:=zoD (hr.row .inp) h2;obtain⟨AO,cO,e3,k3,r3⟩:=zoD (hr.row .out) h3;change vi=_ at e2;change vo=_ at e3;have key:∃A c,vc=.slice A s.cells.length c/\s.cells.length<=c/\zmR W (fun b=>n0<=b) A s.cells:=by
  rcases Nat.eq_zero_or_pos s.cells.length with h0|h0
  ·obtain⟨A,c,e1,hc,_⟩:=zkd (hr.row .all);exact⟨A,c,e1,hc,fun i hi=>by omega⟩
  ·obtain⟨g,c,e1,hc,_,hcell⟩:=zk4 (hr.row .all) h0;change vc=_ at e1;have hg:n0<=g:=(hr.lt .all g (by show vc.ownBlock=some g;rw[e1];rfl)).1;refine⟨_,c,e1,hc,fun i hi=>?_⟩;have aQ:=hr.row (.el i);simp only[zkV,hi,if_true,List.getD_eq_getElem?_getD,List.getElem?_eq_getElem hi,Option.getD_some]at aQ;obtain⟨A',c',e4,k4,r4⟩:=zoD aQ (h1 _ (List.getElem_mem hi));have ha:(⟨g,0,none⟩:Addr).add i=⟨g,i,none⟩:=by rw[Addr.add_lit,Nat.zero_add]
   refine⟨⟨g,0,none⟩,A',c',rfl,hg,?_,k4,r4⟩;rw[ha,<-e4,hcell i (by show i<s.cells.length*1;omega)];simp[zkV,hi]
 obtain⟨A,c,e1,k1,r1⟩:=key;exact⟨A,c,AI,cI,AO,cO,by rw[e1,e2,e3],r1,r2,r3,k1,k2,k3,hl⟩
theorem SV.any{W:World}{S:Nat->Prop}{s:SS}{v:Value}(h:SV W S s v):SV W Any s v:=h.keep (fun _ _ _=>trivial) fun _ _ _=>rfl
theorem SR.n0le{W:World}{n0:Nat}{P:Ph}{S:ST}(h:SR W n0 P S):n0<=W.heap.size:=by have:=h.rws.lt .sb _ rfl;omega
theorem SR.own_lt{W:World}{n0:Nat}{P:Ph}{S:ST}(h:SR W n0 P S){b:Nat}(hb:OwnB (rows P S) b):n0<=b/\b<W.heap.size:=by
 obtain⟨q,hq⟩:=hb;exact h.rws.lt q b hq
theorem SStp.frame{w W W':World}{n0:Nat}{P P':Ph}{S S':ST}(hst:SStp n0 P S W P' S' W')(hs:SR W n0 P S)(hb:Below w.heap.size w W)(hn:w.heap.size<=n0):Below w.heap.size w W' :=
 hb.trans (hst.st.chg.below (Nat.le_trans hn hs.n0le) fun _ ho=>Nat.le_trans hn (hs.own_lt ho).1)
theorem SStp.no{W W':World}{n0:Nat}{P P':Ph}{S S':ST}{b:Nat}(hst:SStp n0 P S W P' S' W')(hlt:b<W.heap.size)(hno:¬ OwnB (rows P S) b):¬ OwnB (rows P' S') b:=fun ho=>by
 rcases hst.st.own _ ho with h|h
 ·exact hno h
 ·omega
theorem zk3{P:Program}{ops:Array Oper}{o:Oper}{a:Act}{w:World}{K:Act->World->Prop}{Q:Exit->Act->World->Prop}{F:Prop}(hw:Region.wanted o (yielded ops a.tmps)=true)(x:Operand)(xs:List Operand)(ats:Array TypeId)
  (ho:o.op=.call { callee:=.value x,args:=xs.toArray,argTypes:=ats })(f:FuncId)(fn:Func)(hf:IsFn P f fn)(hv:a.eval x=.func (.func f) #[] #[])(l:List Value)(hargs:xs.map a.eval=l)(R:Value->World->Prop)
  (hc:Calls P f l.toArray w fun e w'=>∃v,e=.returned v/\R v w')(h:∀v w',R v w'->K (a.put o.dst v) w') :
  if Region.wanted o (yielded ops a.tmps)=true then Oper.wp P o a w K Q else F:=by
 rw[if_pos hw];subst hargs;have e:(execOp a.eval o).run P w=.ok (.enter f (xs.map a.eval).toArray) w:=by
  unfold execOp;simp only[ho,resolve,hv,Deferred.ofValue,Sem.run_bind,Sem.run_pure,Result.andThen_ok,invoke,zkE hf,Array.empty_append,List.map_toArray,Array.append_empty]
 unfold Oper.wp;rw[e,Oper.upon_enter];refine hc.mono ?_;rintro e w' ⟨v,rfl,hR⟩;exact h v w' hR
structure KS(w:World)(n0 sb:Nat)(kb:Nat->Prop)(W:World)(S:ST):Prop where
 bl:Below w.heap.size w W
 hn:w.heap.size<=n0
 sr:∃P,SR W n0 P S/\P.sb=sb/\∀b,kb b->b<W.heap.size/\¬ OwnB (rows P S) b
structure Kpt(n0:Nat)(kb:Nat->Prop)(W W':World):Prop where
 size:W.heap.size<=W'.heap.size
 kept:∀b,b<W.heap.size->(b<n0\/kb b)->W'.heap[b]?=W.heap[b]?
section
variable {w W W' W'':World} {n0 sb:Nat} {kb kb':Nat->Prop} {S S':ST}
theorem Kpt.refl(n0:Nat)(kb:Nat->Prop)(W:World):Kpt n0 kb W W:=⟨zl,fun _ _ _=>rfl⟩
theorem Kpt.trans(h:Kpt n0 kb W W')(h':Kpt n0 kb W' W''):Kpt n0 kb W W'':=⟨Nat.le_trans h.size h'.size,fun b hb hk=>(h'.kept b (Nat.lt_of_lt_of_le hb h.size) hk).trans (h.kept b hb hk)⟩
theorem Kpt.of_below(h:Below W.heap.size W W'):Kpt n0 kb W W':=⟨h.size,fun b hb _=>h.block b hb⟩
theorem Kpt.cell{b o:Nat}{u:Value}(h:Kpt n0 kb W W')(hk:b<n0\/kb b)(hc:W.cell? ⟨b,o,none⟩=some u):W'.cell? ⟨b,o,none⟩=some u :=
 zkr hc (h.kept b (World.block_lt_of_cell? W _ hc) hk)
theorem Kpt.blk{b:Nat}{o:Obj}(h:Kpt n0 kb W W')(hk:b<n0\/kb b)(hc:W.heap[b]?=some o):W'.heap[b]?=some o:=(h.kept b (zki hc) hk).trans hc
theorem KS.n0le(h:KS w n0 sb kb W S):n0<=W.heap.size:=by obtain⟨P,hs,_⟩:=h.sr;exact hs.n0le
theorem KS.wf(h:KS w n0 sb kb W S):S.WF:=by obtain⟨P,hs,_⟩:=h.sr;exact hs.wf
theorem KS.later(h:KS w n0 sb kb W S)(hb:Below W.heap.size W W'):KS w n0 sb kb W' S:=by
 obtain⟨P,hs,e,hk⟩:=h.sr;exact⟨zkb h.bl hb,h.hn,P,hs.later hb,e,fun b hb'=>⟨Nat.lt_of_lt_of_le (hk b hb').1 hb.size,(hk b hb').2⟩⟩
theorem KS.also(h:KS w n0 sb kb W S)(hb:Below W.heap.size W W')(hkb:∀b,kb' b->kb b\/(W.heap.size<=b/\b<W'.heap.size)):KS w n0 sb kb' W' S:=by
 obtain⟨P,hs,e,hk⟩:=h.sr;refine⟨zkb h.bl hb,h.hn,P,hs.later hb,e,fun b hb'=>?_⟩;rcases hkb b hb' with h1|⟨h1,h2⟩
 ·exact⟨Nat.lt_of_lt_of_le (hk b h1).1 hb.size,(hk b h1).2⟩
 ·exact⟨h2,fun ho=>by have:=(hs.own_lt ho).2;omega⟩
theorem KS.less(h:KS w n0 sb kb W S)(hkb:∀b,kb' b->kb b):KS w n0 sb kb' W S:=h.also zr fun b hb=>.inl (hkb b hb)
theorem KS.new{P:Ph}{vs:List VD}{s:SS}{W0:World}(h0:Below w.heap.size w W0)(hb:Below W0.heap.size W0 W)(hs:SR W W0.heap.size P (newS vs s)):KS w W0.heap.size P.sb (fun _=>False) W (newS vs s) :=
 ⟨zkb h0 hb,h0.size,P,hs,rfl,fun _ h=>h.elim⟩
def KP(w:World)(n0 sb:Nat)(kb:Nat->Prop)(W:World)(R:Int×ST)(e:Ending)(W':World):Prop:=e=.returned (.int .i64 R.1)/\KS w n0 sb kb W' R.2/\Kpt n0 kb W W'
theorem KS.stp{P P':Ph}(hbl:Below w.heap.size w W)(hn0:w.heap.size<=n0)(hs:SR W n0 P S)(hk:∀b,kb b->b<W.heap.size/\¬ OwnB (rows P S) b)(hst:SStp n0 P S W P' S' W')(hsb:P'.sb=sb):KS w n0 sb kb W' S'/\Kpt n0 kb W W':=by
 refine⟨⟨hst.frame hs hbl hn0,hn0,P',hst.sr,hsb,fun b hb=>⟨Nat.lt_of_lt_of_le (hk b hb).1 hst.st.chg.size,hst.no (hk b hb).1 (hk b hb).2⟩⟩,hst.st.chg.size,fun b hlt hb=>hst.st.chg.block b hlt fun ho=>?_⟩;rcases hb with hb|hb
 ·have:=(hs.own_lt ho).1;omega
 ·exact(hk b hb).2 ho
theorem KS.dop(h:KS w n0 sb kb W S){f:FuncId}{args:Array Value}{R:Int×ST}(hc:∀P,SR W n0 P S->P.sb=sb->Calls Tryz.prog f args W (DoP n0 P S W R)):Calls Tryz.prog f args W (KP w n0 sb kb W R):=by
 obtain⟨P,hs,e,hk⟩:=h.sr;refine(hc P hs e).mono ?_;rintro e' W2 ⟨a1,P',a2,a3⟩;exact⟨a1,KS.stp h.bl h.hn hs hk a2 (a3.trans e)⟩
theorem KS.do_(h:KS w n0 sb kb W S)(t:T)(v:Value)(hv:NV W Any t v):Calls Tryz.prog 27 #[.pointer (some ⟨sb,0,none⟩),v] W (KP w n0 sb kb W (doE S t)) :=
 h.dop fun _ hs e=>e▸zws hs t v hv
theorem KS.undo(h:KS w n0 sb kb W S)(t:T)(v:Value)(hv:NV W Any t v):Calls Tryz.prog 172 #[.pointer (some ⟨sb,0,none⟩),v] W (KP w n0 sb kb W (zoh S t)) :=
 h.dop fun _ hs e=>e▸zvM hs t v hv
theorem KS.open_(h:KS w n0 sb kb W S)(v:VD)(nS:FldV v)(x:Int)(hx:I64 x)(hlim:S.cur.vs.length+1<=4398046511000):Calls Tryz.prog 169 #[.pointer (some ⟨sb,0,none⟩),.agg #[.string v.s,.int .u8 v.k,.int .i64 v.n],.int .i64 x] W (KP w n0 sb kb W (zl0 S v x)) :=
 h.dop fun _ hs e=>e▸zvU hs v nS x hx hlim
theorem KS.close(h:KS w n0 sb kb W S)(s:ByteArray)(x:Int):Calls Tryz.prog 170 #[.pointer (some ⟨sb,0,none⟩),.string s,.int .i64 x] W (KP w n0 sb kb W (zlb S s x)) :=
 h.dop fun _ hs e=>e▸zug hs s x
theorem KS.enter(h:KS w n0 sb kb W S)(ps:List VD)(ss:List ByteArray)(A D:Option Addr)(c d:Nat)(hp:RowV W Any A ps)(hs:RowS W D ss)(hlp:ps.length<=4398046511000)(hls:ss.length<=17592186044416):Calls Tryz.prog 184 #[.pointer (some ⟨sb,0,none⟩),.slice A ps.length c,.slice D ss.length d] W (KP w n0 sb kb W (zl3 S ps ss)) :=
 h.dop fun _ hs' e=>e▸zue hs' ps ss A D c d hp hs hlp hls
theorem KS.leave(h:KS w n0 sb kb W S):Calls Tryz.prog 185 #[.pointer (some ⟨sb,0,none⟩)] W (KP w n0 sb kb W (zmd S)) :=
 h.dop fun _ hs e=>e▸ztV hs
theorem KS.cell(h:KS w n0 sb kb W S)(s:ByteArray):Calls Tryz.prog 30 #[.pointer (some ⟨sb,0,none⟩),.string s] W (zyo W S s):=by
 obtain⟨P,hs,rfl,-⟩:=h.sr;exact ztS hs s
theorem KS.state(h:KS w n0 sb kb W S):Calls Tryz.prog 28 #[.pointer (some ⟨sb,0,none⟩)] W fun e W'=>∃v,e=.returned v/\OwnS W' W.heap.size S.state v/\Below W.heap.size W W':=by
 obtain⟨P,hs,rfl,-⟩:=h.sr;exact ztR hs
end
theorem KS.chg{w W W':World}{n0 sb:Nat}{kb C:Nat->Prop}{S:ST}(h:KS w n0 sb kb W S)(hc:Chg C W W')(hC:∀b,b<W.heap.size->C b->w.heap.size<=b/\(b<n0\/kb b)):KS w n0 sb kb W' S:=by
 obtain⟨P,hs,e,hk⟩:=h.sr;have hno:∀b,OwnB (rows P S) b->¬ C b:=fun b ho hcb=>by
  obtain⟨-,h2⟩:=hC b (hs.own_lt ho).2 hcb;rcases h2 with h2|h2
  ·have:=(hs.own_lt ho).1;omega
  ·exact(hk b h2).2 ho
 refine⟨?_,h.hn,P,⟨hs.rws.chg hc fun i b hb=>hno b ⟨i,hb⟩,hs.wf⟩,e,fun b hb=>⟨Nat.lt_of_lt_of_le (hk b hb).1 hc.size,(hk b hb).2⟩⟩;exact⟨hc.os.trans h.bl.os,hc.tape.trans h.bl.tape,hc.output.trans h.bl.output,Nat.le_trans h.bl.size hc.size,fun b hb=>by
  rw[hc.block b (Nat.lt_of_lt_of_le hb h.bl.size) fun hcb=>by have:=(hC b (Nat.lt_of_lt_of_le hb h.bl.size) hcb).1;omega];exact h.bl.block b hb⟩
end
end Go.Proofs.YtghbhbdnkjjnnaaGreat
