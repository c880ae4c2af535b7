/-
  Texts of the proof, put together without their remarks: Tap, Cz, Ce, Ck, Cm, Cp, Und, Rev2, Cq, Rpl, Tsp, Lts, Lift, LiftV, LiftS, LiftC, LiftP.
-/
import Derived.Test.YtckhofdinldhpaaGreatS12
import Derived.Laws.Closers25b
import Derived.Deep.Cut
import Derived.Deep.RegionLaw
import Derived.Sort.CutIn
import Derived.Test.YtckhofdinldhpaaGreatRows
import Derived.ProofKit
import Derived.SizedLaws
import Derived.Deep.Slices
import Derived.Deep.Fields
import Derived.Lib.SmallJoins
import Derived.ChangeSlices
set_option linter.unusedSimpArgs false
set_option linter.unusedVariables false
set_option maxHeartbeats 8000000
set_option maxRecDepth 100000
namespace Go.Proofs.YtckhofdinldhpaaGreat
open Go Go.RowKit
theorem bSqv (x:Int) (A:Option Addr) (l c:Nat) (w:World):(Instr.build 128 #[(0,.int .i64 x),(1,.slice A l c)]).run Tryz.prog w=.ok (.agg #[.int .i64 x,.slice A l c]) w:=by kernel_rfl
theorem bMk (w:World):(Instr.makeMap 123 none).run Tryz.prog w=.ok (.map (some w.heap.size)) (w.alloc (.map #[] 0)):=by kernel_rfl
theorem bSt0 (w:World):(Instr.build 26 #[]).run Tryz.prog w=.ok (.agg #[.slice none 0 0,.slice none 0 0,.slice none 0 0]) w:=by kernel_rfl
def AplP (s:SS) (l:List CH) (w:World) (e:Ending) (w':World):Prop:=∃ v,e=.returned (.tuple #[v,.int .i64 (zl6 s l).1])/\Below w.heap.size w w'/\OwnS w' w.heap.size (zl6 s l).2 v
def QM.upto (s:SS) (j:Nat):QM:=fun c=>if c∈(zkp s.cells.length).take j then some ⟨(part s c).length,part s c⟩ else none
theorem zr2 (s:SS):QM.upto s 0=fun _=>none:=by
 funext c;simp[QM.upto]
theorem zt2 (s:SS):QM.upto s (s.cells.length+2)=QM.of s:=by
 funext c;unfold QM.upto QM.of;rw[List.take_of_length_le (by simp[zkp])]
theorem zr3 (s:SS) {j:Nat} (h:j<(zkp s.cells.length).length):QM.upto s (j+1)=(QM.upto s j).put (zkp s.cells.length)[j] ⟨(part s (zkp s.cells.length)[j]).length,part s (zkp s.cells.length)[j]⟩:=by
 funext d;unfold QM.upto QM.put;rw[List.take_succ_eq_append_getElem h];by_cases e:d=(zkp s.cells.length)[j]
 ·rw[if_pos e,if_pos (List.mem_append.2 (.inr (List.mem_singleton.2 e))),e]
 ·rw[if_neg e];by_cases h2:d∈(zkp s.cells.length).take j
  ·rw[if_pos (List.mem_append.2 (.inl h2))];exact(if_pos h2).symm
  ·rw[if_neg fun h=>(List.mem_append.1 h).elim h2 fun h=>e (List.mem_singleton.1 h)];exact(if_neg h2).symm
def QM.Sm (m:QM):Prop:=∀ c q,m c=some q->0<=q.len/\q.len<=1000000/\q.el.length<=1000000
theorem QM.Sm.of {s:SS} (h:s.Sm):(QM.of s).Sm:=fun c q hq=>by
 unfold QM.of at hq
 split at hq
 ·injection hq with hq;subst hq;have:=zn1 h c;simp only;omega
 ·cases hq
theorem zws {q:SQ} {c:CH} (h:0<=q.len/\q.len<=1000000/\q.el.length<=1000000) (h0:(chgQ q c).1=0):0<=(chgQ q c).2.len/\(chgQ q c).2.len<=1000000/\(chgQ q c).2.el.length<=1000000:=by
 unfold chgQ at h0 ⊢
 split at h0
 ·simp at h0
 ·rename_i g1;rw[if_neg g1]
  split at h0
  ·simp at h0
  ·rename_i g2;rw[if_neg g2]
   split at h0
   ·simp at h0
   ·rename_i g3;rw[if_neg g3]
    split at h0
    ·rename_i g4;rw[if_pos g4];simp only;omega
    ·rename_i g4;rw[if_neg g4]
     split at h0
     ·simp at h0
     ·rename_i g5;rw[if_neg g5];simp only[List.length_set,znu];omega
theorem QM.Sm.put {m:QM} (h:m.Sm) {c:Int} {q:SQ} (hq:0<=q.len/\q.len<=1000000/\q.el.length<=1000000):(m.put c q).Sm:=fun d q' h'=>by
 by_cases e:d=c
 ·have h':some q=some q':=(if_pos e).symm.trans h';injection h' with h';subst h';exact hq
 ·exact h d q' ((if_neg e).symm.trans h')
theorem zn3 (w:World) (n0:Nat):OwnS w n0 ⟨[],[],[]⟩ (.agg #[.slice none 0 0,.slice none 0 0,.slice none 0 0]):=by
 refine⟨_,_,_,fun _=>.slice none 0 0,rfl,⟨fun i=>?_,fun i j b _ hi _=>?_⟩,⟨fun l hl=>(by cases hl),fun x hx=>(by cases hx),fun x hx=>(by cases hx)⟩⟩
 ·cases i with
  | all=>exact zmV _ _ _
  | el i=>exact zly _ _
  | inp=>exact zmV _ _ _
  | out=>exact zmV _ _ _
 ·cases i<;>simp[zmf,nilR,Value.ownBlock] at hi
theorem zqs (s:SS) (l:List CH) (v:Value) (AL:Option Addr) (cL:Nat) (w:World) (hv:SV w Any s v) (sa:s.Sm) (hl:RowC w Any AL l) (hI:∀ c∈l,c.I) (hln:l.length<=4398046511103):Calls Tryz.prog 26 #[v,.slice AL l.length cL] w (AplP s l w):=by
 have HV:=zh hv;have h1:=bSqv;have h2:=bSt0;have h3:=bMk;obtain⟨A,c,B,d,D,e,rfl,-⟩:=hv;have k0:=zkj (heap_alloc_new w (.cells #[.slice A s.cells.length c,.slice B s.tin.length d,.slice D s.tout.length e] 26)) (.cells #[.slice none 0 0,.slice none 0 0,.slice none 0 0] 26);have k1:=heap_alloc_new (w.alloc (.cells #[.slice A s.cells.length c,.slice B s.tin.length d,.slice D s.tout.length e] 26)) (.cells #[.slice none 0 0,.slice none 0 0,.slice none 0 0] 26);rw[World.size_alloc] at k1;have hb0:=zkd (zkd (Below.refl w.heap.size w) (.cells #[.slice A s.cells.length c,.slice B s.tin.length d,.slice D s.tout.length e] 26)) (.cells #[.slice none 0 0,.slice none 0 0,.slice none 0 0] 26);obtain⟨w0,hw0⟩:∃ x,(w.alloc (.cells #[.slice A s.cells.length c,.slice B s.tin.length d,.slice D s.tout.length e] 26)).alloc (.cells #[.slice none 0 0,.slice none 0 0,.slice none 0 0] 26)=x:=⟨_,rfl⟩
 rw[hw0] at k0 k1 hb0;have aK:=zh k0;have aG:=zh k1;have HB0:=zh hb0;have uN:=zh sa;have HL:=zh hl;have HI:=zh hI;have bu:=zh hln;obtain⟨x0,x1,x2⟩:=zpg k0;clear k0 k1 hb0 sa hl hI hln;go_enter Tryz.func26,Tryz.ntmps26;go_upto_region 2 with fail;have hn2:w.heap.size<=w0.heap.size:=HB0.out.size;have hmd:=AF.made w0 (n0:=w0.heap.size) (Nat.le_refl _);have vS:=zkd (Below.refl w0.heap.size w0) (.map #[] 0);obtain⟨w1,hw1⟩:∃ x,w0.alloc (.map #[] 0)=x:=⟨_,rfl⟩
 obtain⟨mb,hmb⟩:∃ x,w0.heap.size=x:=⟨_,rfl⟩
 have gN:=zh (show w.heap.size+2<=mb by have:=zkk aG.out;omega);rw[hw1,hmb] at hmd;rw[hw1] at vS;rw[hw1,hmb];have HB1:=zh (zka HB0.out vS);have HK01:=zh (zkb aK.out vS);have iH:=zh (zkb aG.out vS);have eQ:=zh hmd;have HELS:=zh (zmt A B D s.cells.length c s.tin.length d s.tout.length e w1);clear x0 x1 x2 hn2 hmd vS hmb hw0 hw1 h3;obtain⟨x0,x1,x2⟩:=zpg HK01.out;go_wp2_with fail;refine HELS.out.mono ?_;rintro e2 w2 ⟨rfl,rfl⟩;have kb:=heap_alloc_new w1 (.cells #[.slice A s.cells.length c,.slice B s.tin.length d,.slice D s.tout.length e] 26);have fI:=zkd (Below.refl w1.heap.size w1) (.cells #[.slice A s.cells.length c,.slice B s.tin.length d,.slice D s.tout.length e] 26);obtain⟨w2,hw2⟩:∃ x,w1.alloc (.cells #[.slice A s.cells.length c,.slice B s.tin.length d,.slice D s.tout.length e] 26)=x:=⟨_,rfl⟩
 rw[hw2] at kb fI;rw[hw2];obtain⟨ba,iM⟩:∃ x,w1.heap.size=x:=⟨_,rfl⟩
 rw[iM] at kb;rw[iM];have uU:=zh kb;have HB2:=zh (zka HB1.out fI);have tJ:=zh (zkb HK01.out fI);have nG:=zh (zkb iH.out fI);have uB:=zh (eQ.out.later fI);have HBAM:=zh (show mb<ba by rw[<-iM];exact eQ.out.mlt);have eG:=zh (show s.cells.length<=1000000 from uN.out.1);have lN:=zh (zl1 s.cells.length (by have:=eG.out;omega) w2);clear x0 x1 x2 kb fI hw2 iM HELS eQ;obtain⟨x0,x1,x2⟩:=zpg tJ.out;obtain⟨n,hn⟩:∃ n,s.cells.length=n:=⟨_,rfl⟩
 have dU:=zh hn;rw[hn] at lN;go_upto_region 3 with fail;go_wp2_with fail;refine lN.out.mono ?_;rintro e3 w3 ⟨v3,rfl,ho3,hb3⟩;obtain⟨Ac,c3,rfl,-⟩:=zke ho3;have hcl:(zkp n).length=n+2:=by simp[zkp]
 have bO:=zh hcl;obtain⟨g,rfl⟩:∃ g,Ac=some ⟨g,0,none⟩:=by
  rcases ho3.2 with⟨e1,e2⟩|⟨g,cap,cur,e1,-⟩
  ·omega
  ·injection e1 with e1;exact⟨g,e1⟩
 have pz:=zh (zmC ho3);have HKA3:=zh (zkb uU.out hb3);have HB3:=zh (zka HB2.out hb3);have kX:=zh hb3;have uA:=zh (uB.out.later hb3);have HAF2L:=zh (show mb<w2.heap.size from uB.out.mlt);rw[hcl];clear x0 x1 x2 lN ho3 hb3 hcl uB uU;have HMB3:=zh (show mb<w3.heap.size from uA.out.mlt);have HGM:=zh (show g≠mb from fun e=>by have h5:=(pz.out.lt () g rfl).1;have:=HAF2L.out;omega);have HBM:=zh (show ba≠mb from fun e=>by have:=HBAM.out;omega);have xX:=zh (zp1 HV.out);go_wp2_with fail
 go_loopw [29] (fun i wr=>∃ j:Nat,j<=n+2/\i=.int .i64 j/\Hid (Chg (fun b=>b=mb) w3 wr)/\∃ F Bs,Hid (AF wr mb mb j (fun _=>True) (QM.upto s j) F Bs)) (fun i _=>n+2-(intOf i).toNat)
 case atStart=>exact⟨0,Nat.zero_le _,rfl,zh (Chg.refl _ _),_,_,by rw[zr2];exact uA⟩
 case round =>
  clear uA;obtain⟨j,hj,rfl,aQ,F,Bs,eQ⟩:=hrel;have aU:=zh (HB3.out.trans (aQ.out.below HB3.out.size fun b e=>by have e:b=mb:=e;have:=gN.out;omega));by_cases hlt2:j<n+2
  ·have hlt:j<(zkp n).length:=by rw[bO.out];exact hlt2
   have hj1:(j:Int)<((n:Nat):Int)+2:=by omega
   have hj2:(j:Int)<((n+2:Nat):Int):=by omega
   have hj0:(0:Int)<=(j:Int):=by omega
   have vE:IntKind.i64.wrap ((j:Int)+1)=(j:Int)+1:=IntWalk.i64_in _ (by have:=eG.out;have:=dU.out;omega);obtain⟨nP,-⟩:=zlO pz.out rfl hlt;obtain⟨cc,hcc⟩:∃ cc,(zkp n)[j]=cc:=⟨_,rfl⟩
   have hgd:(zkp n).getD j 0=cc:=by rw[List.getD_eq_getElem?_getD,List.getElem?_eq_getElem hlt,Option.getD_some,hcc]
   rw[hgd] at nP;have hgl:g<w3.heap.size:=(pz.out.lt () g rfl).2;have z0:wr.cell? ⟨g,j,none⟩=some (.int .i64 cc):=zk1 nP (aQ.out.block g hgl HGM.out);have hmem:cc∈zkp n:=by rw[<-hcc];exact List.getElem_mem hlt
   have iT:=zh (show I64 cc from zpc (by have:=eG.out;have:=dU.out;omega) hmem);have hup:=zr3 s (j:=j) (by rw[dU.out];exact hlt);simp only[dU.out,hcc] at hup;have qo:=zh hup;have sS:=zh (zmc s A B D c d e ba cc wr (aQ.out.keep HKA3.out HBM.out) (HV.out.later aU.out) (by rw[dU.out];exact hmem));have iQ:=zh hlt2;obtain⟨DD,hD1,hD2,hD3⟩:=eQ.out.map;have HD1:=zh hD1;have HD2:=zh hD2;have HD3:=zh hD3;have hpI:=zn2 xX.out cc;obtain⟨xs,hxs⟩:∃ xs,part s cc=xs:=⟨_,rfl⟩
   have rZ:=zh (show ∀ x∈xs,I64 x by rw[<-hxs];exact hpI);unfold ztA at sS;rw[hxs] at sS qo;clear hgd hmem hcc nP hgl hlt hup hD1 hD2 hD3 hxs hpI;go_wp2_with fail;refine sS.out.mono ?_;rintro e6 w6 ⟨vx,rfl,hox,hbx⟩;have xL:=zh hox;have aX:=zh hbx;obtain⟨Ax,cx,rfl,-⟩:=zke hox;clear z0 hox hbx sS hj1 hj2;go_wp2_with (at_mapUpdate;refine wpList_mapUpdate_own _ rfl _ _ _ 123 rfl 3 126 (Maps.int_keyed Tryz.underlying3) Tryz.underlying123 pR mb j DD rfl (zmm HD1.out ((zkd aX.out _).block mb eQ.out.mlt)) (by have:=iQ.out;have:=eG.out;have:=dU.out;unfold maxLen;omega) _ _ (kL cc) rfl rfl (zua iT.out) (.lit (.int .i64 (w6.heap.size:Int))) [] rfl ?_;intro w9 hown9 hgrow9)
   go_roundw
   case rel =>
    have hput:=eQ.out.put (c:=cc) iT.out rZ.out HD2.out HD3.out HD1.out.isMap aX.out xL.out hown9 hgrow9;rw[<-qo.out] at hput;exact⟨j+1,by have:=iQ.out;omega,by go_num,zh ((aQ.out.trans2 (Chg.of_below (C:=fun b=>b=mb) (zkd aX.out _)) fun _ _ h=>h).trans2 (Chg.row hgrow9) fun b _ e=>by injection e with e;exact e.symm),_,_,zh hput⟩
   case measure=>have:=iQ.out;simp[intOf];omega
  ·obtain rfl:j=n+2:=by omega
   have hj1:¬ ((n+2:Nat):Int)<((n:Nat):Int)+2:=by omega
   have hj2:¬ ((n+2:Nat):Int)<((n+2:Nat):Int):=by omega
   have ha:=eQ.out;rw[show QM.upto s (n+2)=QM.of s by rw[<-dU.out];exact zt2 s] at ha;have HAF4:=zh ha;obtain⟨w4,rfl⟩:∃ x,x=wr:=⟨_,rfl⟩
   clear ha eQ;have HK04:=zh (aQ.out.keep (zkb tJ.out kX.out) fun e=>by have e:w.heap.size=mb:=e;have:=gN.out;omega);have pG:=zh (aQ.out.keep (zkb nG.out kX.out) fun e=>by have e:w.heap.size+1=mb:=e;have:=gN.out;omega);have kD:=zh (QM.Sm.of uN.out);have kU:=zh (show ∀ c,(QM.of s c).isSome=decide (c∈zkp n) from fun c=>by
    unfold QM.of;rw[dU.out];by_cases h:c∈zkp n
    ·rw[if_pos h,decide_eq_true h];rfl
    ·rw[if_neg h,decide_eq_false h];rfl)
   have xN:=zh (show w.heap.size<=mb by have:=gN.out;omega);clear aQ kX tJ nG HKA3 pz;go_wp2_with fail
   go_loopw [46] (fun i wr=>∃ j:Nat,j<=l.length/\i=.int .i64 j/\Hid (Below mb w4 wr)/\∃ m F Bs,Hid (AF wr mb mb (n+2) (fun _=>True) m F Bs)/\Hid m.Sm/\Hid (∀ c,(m c).isSome=decide (c∈zkp n))/\Hid (zll (QM.of s) l=zll m (l.drop j))) (fun i _=>l.length-(intOf i).toNat)
   case atStart=>exact⟨0,Nat.zero_le _,rfl,zh (Below.refl _ _),_,_,_,HAF4,kD,kU,zh rfl⟩
   case round =>
    clear HAF4 kD kU;obtain⟨j,hj,rfl,gB,m,F,Bs,eQ,kD,kU,xS⟩:=hrel;by_cases hlt:j<l.length
    ·have hj1:(j:Int)<(l.length:Int):=by omega
     have hj0:(0:Int)<=(j:Int):=by omega
     have vE:IntKind.i64.wrap ((j:Int)+1)=(j:Int)+1:=IntWalk.i64_in _ (by have:=bu.out;omega);obtain⟨a,eA,-,hc4⟩:=(HL.out.later (aU.out.trans (gB.out.mono xN.out))) j hlt;obtain⟨y0,y1,y2,y3⟩:=hc4;have hci:=HI.out _ (List.getElem_mem hlt);have hdr:l.drop j=l[j]::l.drop (j+1):=List.drop_eq_getElem_cons hlt;obtain⟨ch,hch⟩:∃ ch,l[j]=ch:=⟨_,rfl⟩
     have heq:=xS.out;rw[hdr,hch] at heq;rw[hch] at y0 y1 y2 y3 hci;obtain⟨cc,ca,co,cn⟩:=ch;have iT:=zh hci;dsimp only at y0 y1 y2 y3;have iM:=zkd (Below.refl wr.heap.size wr) (.cells #[.int .i64 cc,.int .i64 ca,.int .i64 co,.int .i64 cn] 64);have kx:=heap_alloc_new wr (.cells #[.int .i64 cc,.int .i64 ca,.int .i64 co,.int .i64 cn] 64);have iQ:=zh hlt;have tQ:=zh heq;subst eA;clear hdr hch hci heq xS;go_upto_region 12 with fail;obtain⟨w5,gD⟩:∃ x,wr.alloc (.cells #[.int .i64 cc,.int .i64 ca,.int .i64 co,.int .i64 cn] 64)=x:=⟨_,rfl⟩
     rw[gD] at iM kx;rw[gD];obtain⟨xb,hxb⟩:∃ x,wr.heap.size=x:=⟨_,rfl⟩
     rw[hxb] at kx;rw[hxb];have lS:=zh iM;have jY:=zh (eQ.out.later iM);obtain⟨z0,z1,z2,z3⟩:=box4 kx;have HKX:=zh kx;clear y0 y1 y2 y3 kx iM gD hxb;rcases hq:m cc with _|q
     ·obtain⟨vn,hr⟩:=jY.out.look0 iT.out.1 hq;have HQ:=zh hq;clear hq;have hk1:=zkb ((gB.out.block _ (by have:=gN.out;omega)).trans pG.out) lS.out;have ha:zll (QM.of s) l=(2,m):=tQ.out.trans (by rw[zll];simp only[HQ.out]);have kG:=zh (show zl6 s l=(2,⟨[],[],[]⟩) by unfold zl6;rw[ha];rfl);have iV:=zh (aU.out.trans ((gB.out.trans (lS.out.mono (Nat.le_of_lt eQ.out.mlt))).mono xN.out));have cf:∀ o,w5.frozen? ⟨w.heap.size+1,o,none⟩=false:=fun o=>zf hk1;have q0:w5.cell? ⟨w.heap.size+1,0,none⟩=some (.slice none 0 0):=zc hk1 rfl;have q1:w5.cell? ⟨w.heap.size+1,1,none⟩=some (.slice none 0 0):=zc hk1 rfl;have q2:w5.cell? ⟨w.heap.size+1,2,none⟩=some (.slice none 0 0):=zc hk1 rfl;have nE:=zh hk1;clear ha hk1;go_wp2_with fail
      have hch:Chg (fun b=>b=w.heap.size+1) w5 (((w5.setCell ⟨w.heap.size+1,0,none⟩ (.slice none 0 0)).setCell ⟨w.heap.size+1,1,none⟩ (.slice none 0 0)).setCell ⟨w.heap.size+1,2,none⟩ (.slice none 0 0)) :=
       (((Chg.refl (fun b=>b=w.heap.size+1) w5).setCell (p:=⟨w.heap.size+1,0,none⟩) (.inl rfl) _).setCell (p:=⟨w.heap.size+1,1,none⟩) (.inl rfl) _).setCell (p:=⟨w.heap.size+1,2,none⟩) (.inl rfl) _
      have hh:=heap_setCell_same _ (w.heap.size+1) 2 _ _ (.slice none 0 0) (heap_setCell_same _ (w.heap.size+1) 1 _ _ (.slice none 0 0) (heap_setCell_same w5 (w.heap.size+1) 0 _ _ (.slice none 0 0) nE.out));obtain⟨w9,eT⟩:∃ x,((w5.setCell ⟨w.heap.size+1,0,none⟩ (.slice none 0 0)).setCell ⟨w.heap.size+1,1,none⟩ (.slice none 0 0)).setCell ⟨w.heap.size+1,2,none⟩ (.slice none 0 0)=x:=⟨_,rfl⟩
      rw[eT] at hch hh ⊢;have t0:w9.cell? ⟨w.heap.size+1,0,none⟩=some (.slice none 0 0):=zc hh (by simp);have t1:w9.cell? ⟨w.heap.size+1,1,none⟩=some (.slice none 0 0):=zc hh (by simp);have t2:w9.cell? ⟨w.heap.size+1,2,none⟩=some (.slice none 0 0):=zc hh (by simp);refine bodyPost_ret (v:=.tuple #[.agg #[.slice none 0 0,.slice none 0 0,.slice none 0 0],.int .i64 2]) (by simp[results,Tryz.results26,go_sem,t0,t1,t2]) rfl ⟨_,by rw[kG.out],iV.out.trans (hch.below iV.out.size fun b e=>by omega),by rw[kG.out];exact zn3 _ _⟩
     ·have hr:=jY.out.look iT.out.1 hq;have hcq:=zrI (jY.out.seq cc q trivial hq) ⟨cc,ca,co,cn⟩ iT.out (Nat.le_of_lt jY.out.mlt) (kD.out cc q hq).2.2;obtain⟨R,hR⟩:∃ R,chgQ q ⟨cc,ca,co,cn⟩=R:=⟨_,rfl⟩
      rw[hR] at hcq;have qQ:=fun h0=>zws (c:=⟨cc,ca,co,cn⟩) (kD.out cc q hq) h0;rw[hR] at qQ;have HSMQ:=zh qQ;have heq2:=tQ.out;rw[zll] at heq2;simp only[hq,hR] at heq2;have tO:=zh heq2;have wP:=zh hcq;have HQ:=zh hq;clear hq hR hcq qQ heq2 tQ;obtain⟨er,q'⟩:=R;simp only at HSMQ tO wP;go_wp2_with fail;refine wP.out.mono ?_;rintro e6 w6 ⟨rfl,hs6,hc6⟩;have kN:=zh hs6;have zx:=zh hc6;have bg:=zh ((gB.out.trans (lS.out.mono (Nat.le_of_lt eQ.out.mlt))).trans (hc6.below (Nat.le_of_lt jY.out.mlt) fun b h=>(jY.out.lo cc b h).1));clear z0 z1 z2 z3 hr hs6 hc6 wP;dsimp only;by_cases he:er=0
      ·subst he;have HEQ4:=zh (tO.out.trans (if_neg (by decide)));go_wp2_with fail
       go_roundw
       case rel=>exact⟨j+1,by have:=iQ.out;omega,by go_num,bg,_,_,_,zh (jY.out.change HQ.out zx.out kN.out),zh (kD.out.put (HSMQ.out rfl)),zh (fun d=>by
        by_cases e:d=cc
        ·subst e;have:=kU.out d;rw[HQ.out] at this;rw[<-this,QM.put_same];rfl
        ·rw[<-kU.out d]
         show(if d=cc then _ else _:Option SQ).isSome=_
         rw[if_neg e]),HEQ4⟩
       case measure=>have:=iQ.out;simp[intOf];omega
      ·have ha:zll (QM.of s) l=(er,m):=tO.out.trans (if_pos he);have kG:=zh (show zl6 s l=(er,⟨[],[],[]⟩) by unfold zl6;rw[ha,if_pos he]);have hk1:w6.heap[w.heap.size+1]?=_:=(bg.out.block _ (by have:=gN.out;omega)).trans pG.out;have iV:=zh (aU.out.trans (bg.out.mono xN.out));have cf:∀ o,w6.frozen? ⟨w.heap.size+1,o,none⟩=false:=fun o=>zf hk1;have q0:w6.cell? ⟨w.heap.size+1,0,none⟩=some (.slice none 0 0):=zc hk1 rfl;have q1:w6.cell? ⟨w.heap.size+1,1,none⟩=some (.slice none 0 0):=zc hk1 rfl;have q2:w6.cell? ⟨w.heap.size+1,2,none⟩=some (.slice none 0 0):=zc hk1 rfl;have nE:=zh hk1;clear ha hk1;go_wp2_with fail;have hch:Chg (fun b=>b=w.heap.size+1) w6 (((w6.setCell ⟨w.heap.size+1,0,none⟩ (.slice none 0 0)).setCell ⟨w.heap.size+1,1,none⟩ (.slice none 0 0)).setCell ⟨w.heap.size+1,2,none⟩ (.slice none 0 0)) :=
        (((Chg.refl (fun b=>b=w.heap.size+1) w6).setCell (p:=⟨w.heap.size+1,0,none⟩) (.inl rfl) _).setCell (p:=⟨w.heap.size+1,1,none⟩) (.inl rfl) _).setCell (p:=⟨w.heap.size+1,2,none⟩) (.inl rfl) _
       have hh:=heap_setCell_same _ (w.heap.size+1) 2 _ _ (.slice none 0 0) (heap_setCell_same _ (w.heap.size+1) 1 _ _ (.slice none 0 0) (heap_setCell_same w6 (w.heap.size+1) 0 _ _ (.slice none 0 0) nE.out));obtain⟨w9,eT⟩:∃ x,((w6.setCell ⟨w.heap.size+1,0,none⟩ (.slice none 0 0)).setCell ⟨w.heap.size+1,1,none⟩ (.slice none 0 0)).setCell ⟨w.heap.size+1,2,none⟩ (.slice none 0 0)=x:=⟨_,rfl⟩
       rw[eT] at hch hh ⊢;have t0:w9.cell? ⟨w.heap.size+1,0,none⟩=some (.slice none 0 0):=zc hh (by simp);have t1:w9.cell? ⟨w.heap.size+1,1,none⟩=some (.slice none 0 0):=zc hh (by simp);have t2:w9.cell? ⟨w.heap.size+1,2,none⟩=some (.slice none 0 0):=zc hh (by simp);refine bodyPost_ret (v:=.tuple #[.agg #[.slice none 0 0,.slice none 0 0,.slice none 0 0],.int .i64 er]) (by simp[results,Tryz.results26,go_sem,t0,t1,t2]) rfl ⟨_,by rw[kG.out],iV.out.trans (hch.below iV.out.size fun b e=>by omega),by rw[kG.out];exact zn3 _ _⟩
    ·obtain rfl:j=l.length:=by omega
     have ha:zll (QM.of s) l=(0,m):=by have:=xS.out;rw[List.drop_length] at this;exact this
     have HAE:=zh ha;obtain⟨w5,rfl⟩:∃ x,x=wr:=⟨_,rfl⟩
     have hj1:¬ (l.length:Int)<(l.length:Int):=by omega
     have HK05:=zh ((gB.out.block _ (by have:=gN.out;omega)).trans HK04.out);have HK15:=zh ((gB.out.block _ (by have:=gN.out;omega)).trans pG.out);have aR:=zh (aU.out.trans (gB.out.mono xN.out));have h9:=zxm;clear ha xS gB aU HK04 pG HL;go_upto_region 20 with fail;have kr:=heap_alloc_new w5 (.cells #[.slice none 0 0,.slice none 0 0,.slice none 0 0] 26);have kJ:=zkd (Below.refl w5.heap.size w5) (.cells #[.slice none 0 0,.slice none 0 0,.slice none 0 0] 26);obtain⟨w6,dV⟩:∃ x,w5.alloc (.cells #[.slice none 0 0,.slice none 0 0,.slice none 0 0] 26)=x:=⟨_,rfl⟩
     rw[dV] at kr kJ;rw[dV];have qK:w6.heap.size=w5.heap.size+1:=by rw[<-dV];exact World.size_alloc ..
     have lK:=zh (show ∀ c b,Bs c b->mb<b/\b<w5.heap.size from fun c b h=>by
      obtain⟨g1,g2,g3⟩:=eQ.out.lo c b h;omega)
     have gM:=zh eQ.out.mlt;obtain⟨b3,hb3⟩:∃ x,w5.heap.size=x:=⟨_,rfl⟩
     have HAF6:=zh (eQ.out.later kJ);have HK06:=zh (zkb HK05.out kJ);have HK16:=zh (zkb HK15.out kJ);have bg:=zh (zka aR.out kJ);rw[hb3] at kr qK lK gM;rw[hb3];have dY:=zh (zrt ((List.range n).map fun i:Nat=>lqD m (i:Int)) kr);have HW6:=zh qK;have HCO6:=zh (zl1 n (by have:=eG.out;have:=dU.out;omega) w6);obtain⟨x0,x1,x2⟩:=zpg HK06.out;clear kr kJ dV hb3 qK eQ HK05 HK15 aR;go_wp2_with fail;refine HCO6.out.mono ?_;rintro e7 w7 ⟨v7,rfl,p9,bE⟩;obtain⟨Ac7,c7,rfl,-⟩:=zke p9;have hcl7:=bO.out;obtain⟨g7,rfl⟩:∃ g,Ac7=some ⟨g,0,none⟩:=by
      rcases p9.2 with⟨e1,e2⟩|⟨g,cap,cur,e1,-⟩
      ·omega
      ·injection e1 with e1;exact⟨g,e1⟩
     have jP:=zh (zmC p9);have tN:=zh (show b3<g7/\g7<w7.heap.size by have h5:=(zmC p9).lt () g7 rfl;have:=HW6.out;omega);have HAF7:=zh (HAF6.out.later bE);have HK17:=zh (zkb HK16.out bE);have nL:=zh (zka bg.out bE);have gW:=zh (dY.out.later bE);rw[hcl7];clear x0 x1 x2 HCO6 p9 bE hcl7 HAF6 HK16 bg dY HK06;go_wp2_with fail
     go_loopw [73] (fun i wr=>∃ j:Nat,j<=n+2/\i=.int .i64 j/\Hid (Chg (fun b=>b=b3\/∃ c,Bs c b) w7 wr)/\Hid (AF wr mb mb (n+2) (fun c=>c ∉ (zkp n).take j) m F Bs)/\Hid (∀ c∈(zkp n).take j,∃ x,lq m c=some x/\∀ y∈x,I64 y)/\∃ vc vi vo fc,Hid (Rws wr b3 (zk5 vc vi vo fc b3 ⟨(List.range n).map fun i:Nat=>lqD m (i:Int),if n<j then (lqD m (-1)).reverse else [],if n+1<j then lqD m (-2) else []⟩ (min j n)))/\Hid (∀ b,vc.ownBlock=some b->w7.heap.size<=b)) (fun i _=>n+2-(intOf i).toNat)
     case atStart=>exact⟨0,Nat.zero_le _,rfl,zh (Chg.refl _ _),zh (HAF7.out.keep (Nat.le_refl _) (fun _ _=>trivial) fun _ _ _=>rfl),zh (fun c hc=>by simp at hc),_,_,_,_,(by simpa using gW),zh (fun b hb=>by simp[Value.ownBlock] at hb)⟩
     case round =>
      clear HAF7 gW;obtain⟨j,hj,rfl,aQ,eQ,ow,vc,vi,vo,fc,HRW,ky⟩:=hrel;have aU:=zh (nL.out.trans (aQ.out.below nL.out.size fun b e=>by
       have:=gN.out;have:=gM.out;rcases e with e|⟨c,e⟩
       ·omega
       ·have:=lK.out c b e;omega))
      have tH:=zh (aQ.out.keep HK17.out fun e=>by
       have:=gN.out;have:=gM.out;rcases e with e|⟨c,e⟩
       ·omega
       ·have:=lK.out c _ e;omega)
      by_cases hlt2:j<n+2
      ·have hlt:j<(zkp n).length:=by rw[bO.out];exact hlt2
       have hj1:(j:Int)<((n:Nat):Int)+2:=by omega
       have hj2:(j:Int)<((n+2:Nat):Int):=by omega
       have hj0:(0:Int)<=(j:Int):=by omega
       have vE:IntKind.i64.wrap ((j:Int)+1)=(j:Int)+1:=IntWalk.i64_in _ (by have:=eG.out;have:=dU.out;omega);obtain⟨nP,-⟩:=zlO jP.out rfl hlt;obtain⟨cc,hcc⟩:∃ cc,(zkp n)[j]=cc:=⟨_,rfl⟩
       have hgd:(zkp n).getD j 0=cc:=by rw[List.getD_eq_getElem?_getD,List.getElem?_eq_getElem hlt,Option.getD_some,hcc]
       rw[hgd] at nP;have z0:wr.cell? ⟨g7,j,none⟩=some (.int .i64 cc):=zk1 nP (aQ.out.block g7 tN.out.2 fun e=>by
        have:=tN.out.1;rcases e with e|⟨c,e⟩
        ·omega
        ·have:=lK.out c _ e;omega)
       have hmem:cc∈zkp n:=by rw[<-hcc];exact List.getElem_mem hlt
       have HMEM:=zh hmem;have iT:=zh (show I64 cc from zpc (by have:=eG.out;have:=dU.out;omega) hmem);have hnt:cc ∉ (zkp n).take j:=ztb hlt hcc;have yM:=zh (show(zkp n).take (j+1)=(zkp n).take j++[cc] by rw[List.take_succ_eq_append_getElem hlt,hcc]);obtain⟨q,hq⟩:∃ q,m cc=some q:=by
        have:=kU.out cc;rw[decide_eq_true hmem] at this;exact Option.isSome_iff_exists.1 this
       have mf:=eQ.out.seq cc q hnt hq;have hqm:=kD.out cc q hq;have uS:=zh (zuv mf hqm.1 hqm.2.1 (Nat.le_of_lt eQ.out.mlt) hqm.2.2);have hr:=eQ.out.get iT.out hq;have hlq:lq m cc=lstQ q:=by unfold lq;rw[hq]
       have hqi:∀ y∈q.el,I64 y:=by obtain⟨v,hv⟩:=mf;exact hv.i
       have HQL:=zh (show ∀ x,lstQ q=some x->(∀ y∈x,I64 y)/\x.length<=1000000 from fun x hx=>by
        obtain⟨a1,a2⟩:=zwX hx hqi;exact⟨a1,by omega⟩)
       have iQ:=zh hlt2;obtain⟨R,hR⟩:∃ R,lstQ q=R:=⟨_,rfl⟩
       rw[hR] at uS hlq HQL;have sV:=zh hlq;have uW:=zh (zuW hlt hcc);clear hgd hmem hcc nP hlt hnt hq mf hqm hlq hqi hR;go_wp2_with fail;refine uS.out.mono ?_;rintro e8 w8 ⟨hc8,h8⟩;have HC8:=zh hc8;have uz:=zh (show AF w8 mb mb (n+2) (fun c=>c ∉ (zkp n).take (j+1)) m F Bs from eQ.out.keep hc8.size (fun c h1 h2=>h1 (by rw[yM.out];exact List.mem_append.2 (.inl h2))) fun g hg h=>hc8.block g hg fun h2=>by
        rcases h with e|⟨c,h3,h4⟩
        ·exact(eQ.out.lo cc g h2).2.2 e
        ·refine eQ.out.sep c cc g (fun e=>h3 ?_) h4 h2;rw[yM.out,e];exact List.mem_append.2 (.inr (List.mem_singleton.2 rfl)))
       have nI:=zh (aQ.out.trans2 hc8 fun b _ h=>.inr ⟨cc,h⟩);have fu:=zh (HRW.out.chg hc8 fun i b hb h=>by
        have h5:=((HRW.out.row i).lt b hb).1;have h6:=lK.out cc b h;have:=gM.out;omega)
       have fE:=zh (aU.out.trans (hc8.below aU.out.size fun b h=>by have:=(lK.out cc b h).1;have:=gN.out;omega));have cZ:=hc8.keep tH.out fun h=>by have:=(lK.out cc _ h).1;have:=gN.out;omega
       have HK18:=zh cZ;have cf:∀ o,w8.frozen? ⟨w.heap.size+1,o,none⟩=false:=fun o=>zf cZ;have q0:w8.cell? ⟨w.heap.size+1,0,none⟩=some (.slice none 0 0):=zc cZ rfl;have q1:w8.cell? ⟨w.heap.size+1,1,none⟩=some (.slice none 0 0):=zc cZ rfl;have q2:w8.cell? ⟨w.heap.size+1,2,none⟩=some (.slice none 0 0):=zc cZ rfl;have sD:=zh (show w7.heap.size<=wr.heap.size from aQ.out.size);clear hc8 cZ uS hr z0 aQ eQ tH aU;rcases R with _|x
       ·have h8:=h8;dsimp only at h8;subst h8;have kG:=zh (zrN dU.out HAE.out HMEM.out sV.out);have iV:=fE;have nE:=HK18;go_wp2_with fail;have hch:Chg (fun b=>b=w.heap.size+1) w8 (((w8.setCell ⟨w.heap.size+1,0,none⟩ (.slice none 0 0)).setCell ⟨w.heap.size+1,1,none⟩ (.slice none 0 0)).setCell ⟨w.heap.size+1,2,none⟩ (.slice none 0 0)) :=
         (((Chg.refl (fun b=>b=w.heap.size+1) w8).setCell (p:=⟨w.heap.size+1,0,none⟩) (.inl rfl) _).setCell (p:=⟨w.heap.size+1,1,none⟩) (.inl rfl) _).setCell (p:=⟨w.heap.size+1,2,none⟩) (.inl rfl) _
        have hh:=heap_setCell_same _ (w.heap.size+1) 2 _ _ (.slice none 0 0) (heap_setCell_same _ (w.heap.size+1) 1 _ _ (.slice none 0 0) (heap_setCell_same w8 (w.heap.size+1) 0 _ _ (.slice none 0 0) nE.out));obtain⟨w9,eT⟩:∃ x,((w8.setCell ⟨w.heap.size+1,0,none⟩ (.slice none 0 0)).setCell ⟨w.heap.size+1,1,none⟩ (.slice none 0 0)).setCell ⟨w.heap.size+1,2,none⟩ (.slice none 0 0)=x:=⟨_,rfl⟩
        rw[eT] at hch hh ⊢;have t0:w9.cell? ⟨w.heap.size+1,0,none⟩=some (.slice none 0 0):=zc hh (by simp);have t1:w9.cell? ⟨w.heap.size+1,1,none⟩=some (.slice none 0 0):=zc hh (by simp);have t2:w9.cell? ⟨w.heap.size+1,2,none⟩=some (.slice none 0 0):=zc hh (by simp);refine bodyPost_ret (v:=.tuple #[.agg #[.slice none 0 0,.slice none 0 0,.slice none 0 0],.int .i64 20]) (by simp[results,Tryz.results26,go_sem,t0,t1,t2]) rfl ⟨_,by rw[kG.out],iV.out.trans (hch.below iV.out.size fun b e=>by omega),by rw[kG.out];exact zn3 _ _⟩
       ·obtain⟨v8,rfl,fT⟩:=h8;obtain⟨nZ,dF⟩:=HQL.out x rfl;have rZ:=zh nZ;have rY:=zh dF;have iE:=zh fT;obtain⟨A8,c8,rfl,-⟩:=zke fT;have tX:=zh (show ∀ c∈(zkp n).take (j+1),∃ x,lq m c=some x/\∀ y∈x,I64 y from fun c hc=>by
         rw[yM.out] at hc;rcases List.mem_append.1 hc with h|h
         ·exact ow.out c h
         ·rw[List.mem_singleton.1 h];exact⟨x,sV.out,rZ.out⟩)
        have mg:lqD m cc=x:=by unfold lqD;rw[sV.out];rfl
        have HD:=zh (show ∀ b,(Value.slice A8 x.length c8).ownBlock=some b->∀ i,(zk5 vc vi vo fc b3 ⟨(List.range n).map fun i:Nat=>lqD m (i:Int),if n<j then (lqD m (-1)).reverse else [],if n+1<j then lqD m (-2) else []⟩ (min j n) i).v.ownBlock≠some b from fun b hb i h=>by
         have h5:=(HRW.out.lt i b h).2;have h6:=(fT.lt b hb).1;omega)
        have mX:=zmn fT (show b3<=wr.heap.size by have:=tN.out;have:=sD.out;omega);have xC:=zh (fun b h=>(fT.lt b h).1);clear fT nZ dF cf q0 q1 q2 ow;by_cases hjn:j<n
        ·have hce:=uW.out.1 hjn;subst hce;have e1:((j:Int) == -1)=false:=by rw[beq_eq_false_iff_ne];omega
         have e2:((j:Int) == -2)=false:=by rw[beq_eq_false_iff_ne];omega
         have eU:=fu.out;have lh:=HD.out;rw[if_neg (show ¬ n<j by omega),if_neg (show ¬ n+1<j by omega),Nat.min_eq_left (by omega)] at eU lh;obtain⟨Av,cv,dI,-⟩:=zke (eU.row (some .all));change vc=.slice Av j cv at dI;subst dI;obtain⟨⟨c0,-,-⟩,cfz⟩:=zmx eU;have hbz:=zkd (Below.refl w8.heap.size w8) (.cells #[.slice A8 x.length c8] 24);have c0':=zkl c0 (.cells #[.slice A8 x.length c8] 24);have kz:(w8.alloc (.cells #[.slice A8 x.length c8] 24)).cell? ⟨w8.heap.size,0,none⟩=some (.slice A8 x.length c8):=zc (heap_alloc_new w8 _) rfl;have hrow:(w8.alloc (.cells #[.slice A8 x.length c8] 24)).ownsRow b3 24 1 (.slice Av j cv) j ((List.range j).map fc):=zkB (eU.row (some .all)) hbz;have hgl:((List.range n).map fun i:Nat=>lqD m (i:Int)).getD j []=x:=by
          rw[List.getD_eq_getElem?_getD,List.getElem?_map,List.getElem?_range hjn];exact mg
         have HX:=zh (show ∀ v' w',w'.ownsRow b3 24 1 v' (j+1) ((List.range j).map fc++[.slice A8 x.length c8])->(w8.alloc (.cells #[.slice A8 x.length c8] 24)).grownBy w' (Value.slice Av j cv).ownBlock->(v'.ownBlock=(Value.slice Av j cv).ownBlock\/v'.ownBlock=some (w8.alloc (.cells #[.slice A8 x.length c8] 24)).heap.size)->∃ A' c',v'=.slice A' (j+1) c'/\(w'.cell? ⟨b3,0,none⟩=some (.slice Av j cv)/\∀ o,w'.frozen? ⟨b3,o,none⟩=false)/\Hid (Rws (w'.setCell ⟨b3,0,none⟩ v') b3 (zk5 v' vi vo (fun i=>if i=j then .slice A8 x.length c8 else fc i) b3 ⟨(List.range n).map fun i:Nat=>lqD m (i:Int),[],[]⟩ (j+1)))/\Hid (Chg (fun b=>b=b3\/(Value.slice Av j cv).ownBlock=some b) w8 (w'.setCell ⟨b3,0,none⟩ v'))/\Hid (∀ b,v'.ownBlock=some b->w7.heap.size<=b) from fun v' w' ho hg aH=>by
          obtain⟨p1,p2,p3⟩:=zsj eU hgl mX lh ho hg aH;obtain⟨A',c',e',-⟩:=zke ho;refine⟨A',c',e',p1,zh p2,zh p3,zh fun b hb=>?_⟩;rcases aH with h|h
          ·exact ky.out b (h▸hb)
          ·rw[h] at hb;injection hb with hb;have h5:=hbz.size;have h6:=nI.out.size;omega)
         have hb38:b3<=(w8.alloc (.cells #[.slice A8 x.length c8] 24)).heap.size:=by have h5:=hbz.size;have h6:=nI.out.size;have:=tN.out;omega
         have hjl:j+1<=5864062014805:=by have:=eG.out;have:=dU.out;omega
         have za:=zh hjn;clear eU lh hgl hbz;go_upto_region 27 with fail;go_wp2_with (at_builtin;refine znV rfl (.tmp 89) (.tmp 91) rfl b3 (.slice Av j cv) j ((List.range j).map fc) rfl hrow ⟨w8.heap.size,0,none⟩ (.slice A8 x.length c8) rfl rfl kz hjl hb38 ?_;intro v' w' ho hg aH;obtain⟨A',c',rfl,⟨z1,zf⟩,o8,HC9,HVC9⟩:=HX.out _ _ ho hg aH;clear ho hg aH)
         go_roundw
         case rel=>exact⟨j+1,by have:=iQ.out;omega,by go_num,zh (nI.out.trans2 HC9.out fun b hlt e=>by
           rcases e with e|e
           ·exact .inl e
           ·have:=ky.out b e;omega),zh (uz.out.keep HC9.out.size (fun _ h=>h) fun g hg h=>HC9.out.block g hg fun e=>by
           have h6:=gM.out;have h7:b3<=g:=by
            rcases e with e|e
            ·omega
            ·have:=ky.out g e;have:=tN.out;omega
           rcases h with h|⟨c,-,h⟩
           ·omega
           ·have:=lK.out c g h;omega),tX,_,_,_,_,(by rw[if_neg (show ¬ n<j+1 by have:=za.out;omega),if_neg (show ¬ n+1<j+1 by have:=za.out;omega),Nat.min_eq_left (by have:=za.out;omega)];exact o8),HVC9⟩
         case measure=>have:=iQ.out;simp[intOf];omega
        ·by_cases hjn2:j=n
         ·have hce:=uW.out.2.1 hjn2;subst hce hjn2;have eU:=fu.out;have lh:=HD.out;rw[if_neg (show ¬ j<j by omega),if_neg (show ¬ j+1<j by omega),Nat.min_self] at eU lh;have xI:=zh (zop (n0:=b3) (v:=.slice A8 x.length c8) (xs:=x) w8 mX (by have:=rY.out;unfold LI;omega));go_wp2_with fail;refine xI.out.mono ?_;rintro e9 w9 ⟨⟨u9,rfl⟩,dJ,ll⟩;have ma:=eU.chg ll fun i b hb h=>lh b h i hb;obtain⟨⟨-,c0,-⟩,cfz⟩:=zmx ma;have mV:=zh (zv2 ma dJ lh);have hst:=(Chg.refl (fun b=>b=b3) w9).setCell (p:=⟨b3,1,none⟩) (.inl rfl) (.slice A8 x.length c8);have nJ:=zh ((nI.out.trans2 ll fun b hlt e=>by have h5:=xC.out b e;have:=sD.out;omega).trans2 hst fun b _ e=>.inl e);have nO:=zh (uz.out.keep (Nat.le_trans ll.size hst.size) (fun _ h=>h) fun g hg h=>by
           have h6:=gM.out;have h7:g<b3:=by
            rcases h with h|⟨c,-,h⟩
            ·omega
            ·have:=lK.out c g h;omega
           exact(hst.block g (Nat.lt_of_lt_of_le hg ll.size) (by omega)).trans (ll.block g hg fun e=>by have:=xC.out g e;have:=sD.out;have:=tN.out;omega))
          have HQ:=zh mg;clear eU lh xI dJ ll ma hst mg;go_wp2_with fail
          go_roundw
          case measure=>first|(simp[intOf];done)|(simp[intOf];omega)
          case rel=>exact⟨j+1,by have:=iQ.out;omega,by go_num,nJ,nO,tX,_,_,_,_,(by rw[if_pos (Nat.lt_succ_self j),if_neg (Nat.lt_irrefl _),Nat.min_eq_right (Nat.le_succ j),HQ.out];exact mV),ky⟩
         ·have hjn3:j=n+1:=by omega
          have hce:=uW.out.2.2 hjn3;subst hce hjn3;have eU:=fu.out;have lh:=HD.out;rw[if_pos (Nat.lt_succ_self n),if_neg (Nat.lt_irrefl _),Nat.min_eq_right (Nat.le_succ n)] at eU lh;have ll:Chg (fun b=>(Value.slice A8 x.length c8).ownBlock=some b) w8 w8:=Chg.refl _ _;obtain⟨⟨-,-,c0⟩,cfz⟩:=zmx eU;have mV:=zh (zuf eU mX lh);have hst:=(Chg.refl (fun b=>b=b3) w8).setCell (p:=⟨b3,2,none⟩) (.inl rfl) (.slice A8 x.length c8);have nJ:=zh ((nI.out.trans2 ll fun b hlt e=>by have h5:=xC.out b e;have:=sD.out;omega).trans2 hst fun b _ e=>.inl e);have nO:=zh (uz.out.keep (Nat.le_trans ll.size hst.size) (fun _ h=>h) fun g hg h=>by
           have h6:=gM.out;have h7:g<b3:=by
            rcases h with h|⟨c,-,h⟩
            ·omega
            ·have:=lK.out c g h;omega
           exact(hst.block g (Nat.lt_of_lt_of_le hg ll.size) (by omega)).trans (ll.block g hg fun e=>by have:=xC.out g e;have:=sD.out;have:=tN.out;omega))
          have HQ:=zh mg;have e1:((-2:Int) == -1)=false:=by decide
          have hwj:IntKind.i64.wrap ((n:Int)+1+1)=(n:Int)+1+1:=IntWalk.i64_in _ (by have:=eG.out;have:=dU.out;omega);clear eU lh ll hst mg;go_wp2_with fail
          go_roundw
          case rel=>exact⟨n+1+1,by have:=iQ.out;omega,by go_num,nJ,nO,tX,_,_,_,_,(by rw[if_pos (show n<n+1+1 by omega),if_pos (Nat.lt_succ_self (n+1)),Nat.min_eq_right (show n<=n+1+1 by omega),HQ.out];exact mV),ky⟩
          case measure=>have:=iQ.out;simp[intOf];omega
      ·obtain rfl:j=n+2:=by omega
       have hj1:¬ ((n+2:Nat):Int)<((n:Nat):Int)+2:=by omega
       have hj2:¬ ((n+2:Nat):Int)<((n+2:Nat):Int):=by omega
       have ma:=HRW.out;rw[if_pos (show n<n+2 by omega),if_pos (show n+1<n+2 by omega),Nat.min_eq_right (show n<=n+2 by omega)] at ma;have hdn:=ow.out;rw[List.take_of_length_le (by rw[bO.out];exact Nat.le_refl _)] at hdn;have kG:=zh (zrO dU.out HAE.out fun c hc=>⟨_,(hdn c hc).choose_spec.1⟩);have HII:=zh (show(⟨(List.range n).map fun i:Nat=>lqD m (i:Int),(lqD m (-1)).reverse,lqD m (-2)⟩:SS).I from by
        have key:∀ c∈zkp n,∀ y∈lqD m c,I64 y:=fun c hc y hy=>by
         obtain⟨x,h1,h2⟩:=hdn c hc;unfold lqD at hy;rw[h1] at hy;exact h2 y hy
        refine⟨fun ls hl y hy=>?_,fun y hy=>key (-1) (by simp[zkp]) y (List.mem_reverse.1 hy),key (-2) (by simp[zkp])⟩;obtain⟨i,hi,rfl⟩:=List.mem_map.1 hl;exact key (i:Int) (List.mem_append.2 (.inl (List.mem_map.2 ⟨i,hi,rfl⟩))) y hy)
       obtain⟨⟨c0,c1,c2⟩,-⟩:=zmx ma;have hre:=zpr (s:=⟨(List.range n).map fun i:Nat=>lqD m (i:Int),(lqD m (-1)).reverse,lqD m (-2)⟩) (by simpa using ma);obtain⟨w9,rfl⟩:∃ x,x=wr:=⟨_,rfl⟩
       have aJ:=tH.out;have cf:∀ o,w9.frozen? ⟨w.heap.size+1,o,none⟩=false:=fun o=>zf aJ;have q0:w9.cell? ⟨w.heap.size+1,0,none⟩=some (.slice none 0 0):=zc aJ rfl;have q1:w9.cell? ⟨w.heap.size+1,1,none⟩=some (.slice none 0 0):=zc aJ rfl;have q2:w9.cell? ⟨w.heap.size+1,2,none⟩=some (.slice none 0 0):=zc aJ rfl;have fq:=zh hre;have hne:(⟨b3,0,none⟩:Addr).block≠w.heap.size+1:=by have:=gN.out;have:=gM.out;show b3≠_;omega
       have HII2:=HII;obtain⟨Av,cv,dI,-⟩:=zke (ma.row (some .all));obtain⟨Ai,ci,qL,-⟩:=zke (ma.row (some .inp));obtain⟨Ao,co,uD,-⟩:=zke (ma.row (some .out));change vc=.slice Av n cv at dI;change vi=.slice Ai (lqD m (-1)).reverse.length ci at qL;rw[List.length_reverse] at qL;change vo=.slice Ao (lqD m (-2)).length co at uD;subst dI qL uD;have eH:=zh aJ;clear ma hdn hre aJ HII2;go_wp2_with fail;have hch:Chg (fun b=>b=w.heap.size+1) w9 (((w9.setCell ⟨w.heap.size+1,0,none⟩ (.slice Av n cv)).setCell ⟨w.heap.size+1,1,none⟩ (.slice Ai (lqD m (-1)).length ci)).setCell ⟨w.heap.size+1,2,none⟩ (.slice Ao (lqD m (-2)).length co)) :=
        (((Chg.refl (fun b=>b=w.heap.size+1) w9).setCell (p:=⟨w.heap.size+1,0,none⟩) (.inl rfl) _).setCell (p:=⟨w.heap.size+1,1,none⟩) (.inl rfl) _).setCell (p:=⟨w.heap.size+1,2,none⟩) (.inl rfl) _
       have hh:=heap_setCell_same _ (w.heap.size+1) 2 _ _ (.slice Ao (lqD m (-2)).length co) (heap_setCell_same _ (w.heap.size+1) 1 _ _ (.slice Ai (lqD m (-1)).length ci) (heap_setCell_same w9 (w.heap.size+1) 0 _ _ (.slice Av n cv) eH.out));obtain⟨bG,fF⟩:∃ x,((w9.setCell ⟨w.heap.size+1,0,none⟩ (.slice Av n cv)).setCell ⟨w.heap.size+1,1,none⟩ (.slice Ai (lqD m (-1)).length ci)).setCell ⟨w.heap.size+1,2,none⟩ (.slice Ao (lqD m (-2)).length co)=x:=⟨_,rfl⟩
       rw[fF] at hch hh ⊢;have t0:bG.cell? ⟨w.heap.size+1,0,none⟩=some (.slice Av n cv):=zc hh (by simp);have t1:bG.cell? ⟨w.heap.size+1,1,none⟩=some (.slice Ai (lqD m (-1)).length ci):=zc hh (by simp);have t2:bG.cell? ⟨w.heap.size+1,2,none⟩=some (.slice Ao (lqD m (-2)).length co):=zc hh (by simp);have hrw:=fq.out.chg hch fun i b hb e=>by have:=(fq.out.lt i b hb).1;have:=gN.out;have:=gM.out;omega
       refine bodyPost_ret (v:=.tuple #[.agg #[.slice Av n cv,.slice Ai (lqD m (-1)).length ci,.slice Ao (lqD m (-2)).length co],.int .i64 0]) (by simp[results,Tryz.results26,go_sem,t0,t1,t2]) rfl ⟨_,by rw[kG.out],aU.out.trans (hch.below aU.out.size fun b e=>by omega),by rw[kG.out];exact⟨_,_,_,_,rfl,hrw.mono (by have:=gN.out;have:=gM.out;omega),HII.out⟩⟩
structure FO where
 v:Int
 c:Bool
abbrev fv (k n:Int) (s:ByteArray) (A:Option Addr) (l c:Nat) (f:FO):Value:=.agg #[.int .u8 k,.int .i64 n,.string s,.slice A l c,.int .i64 f.v,.bool f.c]
attribute [local go_sem] Oper.semAt_some
attribute [local go_sem] Oper.semAt_some
section
variable {W W':World} {n0 fb N N':Nat} {pv pv':Value}
end
section
variable {S:ST}
theorem zsd (S:ST) (id:Nat) (l m:List Int):(S.setL id l).setL id m=S.setL id m:=by
 unfold ST.setL;congr 1;funext j;simp only
 split<;>rfl
theorem zvZ (S:ST) (id:Nat) (l:List Int):(S.setL id l).cell id=l:=by simp[ST.setL]
theorem put_put (S:ST) (id i:Nat) (x y:Int):(S.put id i x).put id i y=S.put id i y:=by
 unfold ST.put;rw[zvZ,zsd,List.set_set]
theorem bas_inv {k:Int} (hb:basB k=true):basB (zov k)=true/\zov k≠56/\zov (zov k)=k:=by
 have hr:=of_decide_eq_true hb;have:k=40\/k=41\/k=42\/k=43\/k=44\/k=45\/k=46\/k=47\/k=48\/k=49:=by omega
 rcases this with rfl|rfl|rfl|rfl|rfl|rfl|rfl|rfl|rfl|rfl<;>exact⟨rfl,by decide,rfl⟩
end
def NdS (S:ST):Prop:=S.base.cs.Nodup/\∀ f∈S.calls,f.cs.Nodup
section
variable {F:Int} {f f':RS->Out} {r r1 r':RS} {t:T}
end
section
variable {vs:List VD} {s:SS} {r':RS} {e:List Nat}
theorem zr9 (hv:vs.length<=1000) (h0:fitB vs s=true) (hf:∀ v∈vs,FldV v) (hI:s.I):RInv ⟨newS vs s,0,e⟩/\NdS (newS vs s):=by
 have hw:=zqb h0 hf hI.1 hI.2.1 hI.2.2 vs.length (Nat.le_refl _);rw[List.take_of_length_le (Nat.le_refl _)] at hw;refine⟨⟨hw,⟨by show vs.length<=1000+0;omega,fun f hf=>by cases hf⟩,Nat.zero_le _⟩,⟨List.nodup_range,fun f hf=>by cases hf⟩⟩
end
theorem PV.lit {p:PG} {w:World} {S:Nat->Prop} {v:Value} (h:PV w S p v) (hv:zlc p=true):LitB p.m/\PrB p.prs/\∀ u∈p.vs,FldV u:=by
 obtain⟨A1,c1,A2,c2,A3,c3,-,jK⟩:=h;obtain⟨-,-,h3,-⟩:=zlf hv;refine⟨NV.lit _ _ jK.main,fun q hq=>?_,fun u hu=>?_⟩
 ·have hb:=(h3 q hq).1;obtain⟨i,hi,rfl⟩:=List.getElem_of_mem hq;obtain⟨a,B1,d1,B2,d2,-,-,-,hr⟩:=jK.procs i hi;refine⟨NV.lit _ _ hr.body,fun v hv=>?_,by omega⟩;obtain⟨j,hj,rfl⟩:=List.getElem_of_mem hv;obtain⟨-,-,-,-,hf⟩:=hr.row j hj;exact hf
 ·obtain⟨j,hj,rfl⟩:=List.getElem_of_mem hu;obtain⟨-,-,-,-,hf⟩:=jK.vars j hj;exact hf
theorem SV.nums {s:SS} {w:World} {S:Nat->Prop} {v:Value} (h:SV w S s v):s.I:=by
 obtain⟨A,c,B,d,D,e,-,hr,hi,ho,-⟩:=h;have key:∀ {A:Option Addr} {xs:List Int},RowI w S A xs->∀ x∈xs,I64 x:=fun hr x hx=>by
  obtain⟨i,hi,rfl⟩:=List.getElem_of_mem hx;obtain⟨_,_,_,_,h⟩:=hr i hi;exact h
 refine⟨fun l hl=>?_,key hi,key ho⟩;obtain⟨i,hi,rfl⟩:=List.getElem_of_mem hl;obtain⟨_,_,_,_,_,_,_,h⟩:=hr i hi;exact key h
def cnt (S:ST):Nat:=S.base.cs.length-S.base.loc
structure znn (n:Nat) (x:SS):Prop where
 n:x.cells.length=n
 row:∀ l∈x.cells,l.length<=1000
 tin:x.tin.length<=4096
 tout:x.tout.length<=4096
 i:x.I
theorem zuD {n:Nat} {S:ST} (h:S.WF) (hc:cnt S=n):znn n S.state:=by
 obtain⟨hi,-,h1⟩:=znZ h;refine⟨?_,h1,h.tin.1,h.tout.1,hi⟩;simp only[ST.state,List.length_map,List.length_take];unfold cnt at hc;omega
theorem zq9 {S S':ST} (h:S'.base=S.base):cnt S'=cnt S:=by unfold cnt;rw[h]
theorem zuX {S:ST} {v:VD} {x:Int} (h0:(zkF S v x).1=0) (hw:S.WF):cnt (zkF S v x).2=cnt S:=by
 obtain⟨kd,hc⟩:=hw.cur;have hl:=hc.len;have hl2:=hc.loc;obtain⟨-,-,e⟩:=zun h0;rw[e];unfold ST.setCur cnt;by_cases h:S.calls.length=0
 ·rw[if_pos (show(S.newCell _).calls.length=0 from h)];rw[zmR h] at hl hl2 ⊢;simp only[FR.push,List.length_append,List.length_cons,List.length_nil];omega
 ·rw[if_neg (show ¬ (S.newCell _).calls.length=0 from h)];rfl
theorem ztc {S:ST} {s:ByteArray} {x:Int} (h0:(zks S s x).1=0) (hw:S.WF):cnt (zks S s x).2=cnt S:=by
 obtain⟨kd,hc⟩:=hw.cur;have hl:=hc.len;have hl2:=hc.loc;obtain⟨hpos,-,-,-,e⟩:=ztf h0;rw[e];unfold ST.setCur cnt;by_cases h:S.calls.length=0
 ·rw[if_pos h];rw[zmR h] at hpos hl hl2 ⊢;simp only[FR.pop,List.length_take];omega
 ·rw[if_neg h]
def LitT:Tc->Prop
 | .blk _ l=>∀ t∈l,LitB t
 | .stm _ t=>LitB t
 | .lop _ t=>LitB t
theorem zlY {back:Bool} {b:T} (h:LitB b) {bk:Bool}:LitT (.blk bk (blkL back b)):=fun t ht=>h.block (zlx ht)
structure Gd (n k:Nat) (S:ST):Prop where
 i:RInv ⟨S,k,[]⟩
 c:cnt S=n
theorem Gd.good {n k:Nat} {S:ST} (h:Gd n k S):znn n S.state:=zuD h.i.wf h.c
theorem Gd.tick {n k:Nat} {S:ST} (h:Gd n k S) (hk:k+1<=1000000):Gd n (k+1) S:=⟨h.i.tick (F:=1000000) (Int.le_refl _) (by simp only;omega),h.c⟩
theorem Gd.op {n k:Nat} {S:ST} (h:Gd n k S) (hk:k+1<=1000000) {R:Int×ST} (hw:R.2.WF) (hf:FB (k+1) R.2) (hc:cnt R.2=cnt S):Gd n (k+1) R.2:=⟨RInv.store (R:=R) h.i (F:=1000000) (Int.le_refl _) (by simp only;omega) hw hf,hc.trans h.c⟩
theorem Gd.open_ {n k:Nat} {S:ST} (h:Gd n k S) (hk:k+1<=1000000) {v:VD} (hv:FldV v) {x:Int} (hx:I64 x) (h0:(zkF S v x).1=0):Gd n (k+1) (zkF S v x).2 :=
 h.op hk (zuo h.i.wf v hv x hx (by have:=h.i.fb.cur;have:=h.i.n;simp only at *;omega)) (h.i.fb.open_ _ _) (zuX h0 h.i.wf)
theorem Gd.close_ {n k:Nat} {S:ST} (h:Gd n k S) (hk:k+1<=1000000) {s:ByteArray} {x:Int} (h0:(zks S s x).1=0):Gd n (k+1) (zks S s x).2 :=
 h.op hk (ztg h.i.wf s x) (h.i.fb.close_ _ _) (ztc h0 h.i.wf)
theorem Gd.enter {n k:Nat} {S:ST} (h:Gd n k S) (hk:k+1<=1000000) {ps:List VD} {ss:List ByteArray} (hf:∀ v∈ps,FldV v) (hl:ps.length<=1000) (h0:(zkM S ps ss).1=0):Gd n (k+1) (zkM S ps ss).2:=by
 obtain⟨f,-,-,-,e⟩:=zs7 h0;exact h.op hk (zs8 h.i.wf ps ss hf (by omega)) (h.i.fb.enter _ _ hl) (zq9 (by rw[e]))
theorem Gd.leave {n k:Nat} {S:ST} (h:Gd n k S) (hk:k+1<=1000000) (h0:(zkS S).1=0):Gd n (k+1) (zkS S).2:=by
 obtain⟨-,e⟩:=zsF h0;exact h.op hk (zsG h.i.wf) h.i.fb.leave (zq9 (by rw[e]))
theorem Gd.bas {n k:Nat} {S:ST} (h:Gd n k S) (hk:k+1<=1000000) (back:Bool) (t:T):Gd n (k+1) (if back=true then zlp S t else doE S t).2:=by
 cases back
 ·exact h.op hk (zvI h.i.wf t) (h.i.fb.do_ t) (zq9 (zoT t).1)
 ·exact h.op hk (zt5 h.i.wf t) (h.i.fb.undo t) (zq9 (zpn t).1)
theorem zm9 (s:SS):∀ (a b:List SS) ,zk6 s (a++b)=zk6 (zk6 s a) b
 | [],b=>rfl
 | x::a,b=>zm9 x a b
theorem Tg.good {prs:List PR} (hp:PrB prs) {n:Nat} {c:Tc} {S S':ST} {L:List SS} (h:Tg prs c S L S'):LitT c->∀ k,k+L.length<=1000000->Gd n k S->Gd n (k+L.length) S'/\∀ x∈L,znn n x:=by
 induction h with
 | nil back S=>exact fun _ k _ g=>⟨g,fun x hx=>by cases hx⟩
 | @cons back t ts S S1 S2 L1 L2 h1 h2 ih1 ih2 =>
  intro hl k hk g;rw[List.length_append] at hk ⊢;obtain⟨a1,a2⟩:=ih1 (hl t (List.mem_cons_self ..)) k (by omega) g;obtain⟨b1,b2⟩:=ih2 (fun u hu=>hl u (List.mem_cons_of_mem _ hu)) (k+L1.length) (by omega) a1;exact⟨by rw[<-Nat.add_assoc];exact b1,fun x hx=>(List.mem_append.1 hx).elim (a2 x) (b2 x)⟩
 | @bas back t S hk0 h0 =>
  intro hl k hk g;simp only[List.length_cons,List.length_nil] at hk ⊢;have g1:=g.bas (by omega) back t;exact⟨g1,fun x hx=>by rw[List.mem_singleton.1 hx];exact g1.good⟩
 | @iff back t S S1 L hk0 h1 h2 h3 h4 ih =>
  intro hl k hk g;simp only[List.length_append,List.length_cons,List.length_nil] at hk ⊢;have hb:LitB (if (zkt S.look (fstT back t)).1≠0 then kid t 1 else kid t 2):=by split<;>exact LitB.kidD hl _
  obtain⟨a1,a2⟩:=ih (zlY hb) (k+1) (by omega) (g.tick (by omega));have g1:=a1.tick (by omega);refine⟨by rw[show k+(L.length+1+1)=k+1+L.length+1 by omega];exact g1,fun x hx=>?_⟩;simp only[List.cons_append,List.mem_cons,List.mem_append,List.not_mem_nil,or_false] at hx;rcases hx with rfl|hx|rfl
  ·exact g.good
  ·exact a2 x hx
  ·exact g1.good
 | @frm back t S S1 L hk0 h1 h2 ih=>exact fun hl k hk g=>ih hl k hk g
 | @done back t S S1 L h1 h2 h3 h4 ih =>
  intro hl k hk g;simp only[List.length_append,List.length_cons,List.length_nil] at hk ⊢;obtain⟨a1,a2⟩:=ih (zlY (LitB.kidD hl 1)) (k+1) (by omega) (g.tick (by omega));have g1:=a1.tick (by omega);refine⟨by rw[show k+(L.length+1+1)=k+1+L.length+1 by omega];exact g1,fun x hx=>?_⟩;simp only[List.cons_append,List.mem_cons,List.mem_append,List.not_mem_nil,or_false] at hx;rcases hx with rfl|hx|rfl
  ·exact g.good
  ·exact a2 x hx
  ·exact g1.good
 | @more back t S S1 S2 S3 L L2 L3 h1 h2 h3 h4 h5 h6 h7 ih2 ih5 ih7 =>
  intro hl k hk g;simp only[List.length_append,List.length_cons,List.length_nil] at hk ⊢;obtain⟨a1,a2⟩:=ih2 (zlY (LitB.kidD hl 1)) (k+1) (by omega) (g.tick (by omega));have g1:=a1.tick (by omega);obtain⟨b1,b2⟩:=ih5 (zlY (LitB.kidD hl 2)) (k+1+L.length+1) (by omega) g1;obtain⟨c1,c2⟩:=ih7 hl (k+1+L.length+1+L2.length) (by omega) b1;refine⟨by rw[show k+(L.length+1+(L2.length+1)+L3.length)=k+1+L.length+1+L2.length+L3.length by omega];exact c1,fun x hx=>?_⟩;simp only[List.cons_append,List.mem_cons,List.mem_append,List.not_mem_nil,or_false] at hx;rcases hx with rfl|(hx|rfl|hx)|hx
  ·exact g.good
  ·exact a2 x hx
  ·exact g1.good
  ·exact b2 x hx
  ·exact c2 x hx
 | @loc back t S S2 L hk0 h1 h2 h3 h4 h5 ih =>
  intro hl k hk g;simp only[List.length_append,List.length_cons,List.length_nil] at hk ⊢;have hfst:LitB (fstT back t):=by unfold fstT;split<;>exact LitB.kidD hl _
  have g0:=g.open_ (by omega) (zsX hl 1 (.inl rfl)) (LitB.expr g.i.wf hfst) h2;obtain⟨a1,a2⟩:=ih (zlY (LitB.kidD hl 1)) (k+1) (by omega) g0;have g1:=a1.close_ (by omega) h5;refine⟨by rw[show k+(L.length+1+1)=k+1+L.length+1 by omega];exact g1,fun x hx=>?_⟩;simp only[List.cons_append,List.mem_cons,List.mem_append,List.not_mem_nil,or_false] at hx;rcases hx with rfl|hx|rfl
  ·exact g0.good
  ·exact a2 x hx
  ·exact g1.good
 | @stk back t S S2 L hk0 h2 h3 h5 ih =>
  intro hl k hk g;simp only[List.length_append,List.length_cons,List.length_nil] at hk ⊢;have g0:=g.open_ (by omega) (zsX hl 3 (.inr rfl)) zero_I64 h2;obtain⟨a1,a2⟩:=ih (zlY (LitB.kidD hl 0)) (k+1) (by omega) g0;have g1:=a1.close_ (by omega) h5;refine⟨by rw[show k+(L.length+1+1)=k+1+L.length+1 by omega];exact g1,fun x hx=>?_⟩;simp only[List.cons_append,List.mem_cons,List.mem_append,List.not_mem_nil,or_false] at hx;rcases hx with rfl|hx|rfl
  ·exact g0.good
  ·exact a2 x hx
  ·exact g1.good
 | @cal back t S S2 L i hk0 h1 h2 h3 h4 ih =>
  intro hl k hk g;simp only[List.length_append,List.length_cons,List.length_nil] at hk ⊢;obtain⟨q1,q2,q3⟩:=hp.getD i;have g0:=g.enter (by omega) q2 q3 h2;obtain⟨a1,a2⟩:=ih (zlY q1) (k+1) (by omega) g0;have g1:=a1.leave (by omega) h4;refine⟨by rw[show k+(L.length+1+1)=k+1+L.length+1 by omega];exact g1,fun x hx=>?_⟩;simp only[List.cons_append,List.mem_cons,List.mem_append,List.not_mem_nil,or_false] at hx;rcases hx with rfl|hx|rfl
  ·exact g0.good
  ·exact a2 x hx
  ·exact g1.good
theorem Tg.last {prs:List PR} {c:Tc} {S S':ST} {L:List SS} (h:Tg prs c S L S'):zk6 S.state L=S'.state:=by
 induction h with
 | nil back S=>rfl
 | cons h1 h2 ih1 ih2=>rw[zm9,ih1,ih2]
 | bas hk h0=>rfl
 | iff=>rw[zli]
 | frm hk h1 h2 ih=>exact ih
 | done=>rw[zli]
 | more h1 h2 h3 h4 h5 h6 h7 ih2 ih5 ih7 =>
  rw[zm9,List.cons_append];simp only[zk6];rw[zm9];simp only[zk6];rw[ih5,ih7]
 | loc=>rw[zli]
 | stk=>rw[zli]
 | cal=>rw[zli]
theorem zs3:∀ (s:SS) (L:List SS) (i:Nat) (h:i<L.length),(evsE s L)[i]'(by rw[zlZ];exact h)=zlR ((s::L).getD i s) L[i]
 | s,x::L,0,_=>rfl
 | s,x::L,i+1,h=>by
  have:=zs3 x L i (by simpa using h);simp only[evsE,List.getElem_cons_succ,this];congr 1;simp only[List.getD_eq_getElem?_getD,List.getElem?_cons_succ];rw[List.getElem?_eq_getElem (by simp at h ⊢;omega)];rfl
theorem zpC:∀ (s:SS) (L:List SS),zk6 s L=(s::L).getD L.length s
 | s,[]=>rfl
 | s,x::L=>by
  rw[zk6,zpC x L];simp only[List.getD_eq_getElem?_getD,List.length_cons,List.getElem?_cons_succ];rw[List.getElem?_eq_getElem (by simp)];rfl
theorem znn.sm {n:Nat} {x:SS} (h:znn n x) (hn:n<=1000000):x.Sm:=⟨by rw[h.n];exact hn,fun l hl=>by have:=h.row l hl;omega,by have:=h.tin;omega,by have:=h.tout;omega⟩
theorem znn.part {n:Nat} {x:SS} (h:znn n x) (c:Int):(part x c).length<=4096:=by
 unfold Go.Proofs.YtckhofdinldhpaaGreat.part
 split
 ·rw[List.length_reverse];exact h.tin
 ·split
  ·exact h.tout
  ·rw[List.getD_eq_getElem?_getD];rcases hk:x.cells[c.toNat]? with _|l
   ·simp
   ·have:=h.row l (List.mem_of_getElem? hk);simp only[Option.getD_some];omega
theorem zrM {n:Nat} {x y:SS} (hx:znn n x) (hy:znn n y):zl6 x (zlR x y)=(0,y):=zrP (hx.n.trans hy.n.symm) fun c _=>⟨hx.part c,hy.part c⟩
theorem zxf {n:Nat} {x y:SS} (hx:znn n x) (hy:znn n y) (hn:n<=1000000):∀ c∈zlR x y,c.I:=by
 have e:zlR x y=(zkp x.cells.length).flatMap fun c=>dif1 c (part x c) (part y c):=by
  unfold zlR;rw[if_neg (by simp[hx.n,hy.n])]
 rw[e];intro d hd;obtain⟨c,hc,hd⟩:=List.mem_flatMap.1 hd;have hci:I64 c:=zpc (by rw[hx.n];exact hn) hc;have h1:=hx.part c;have h2:=hy.part c;unfold dif1 at hd;rcases List.mem_append.1 hd with hd|hd
 ·unfold chgL at hd
  split at hd
  ·obtain rfl:=List.mem_singleton.1 hd;refine⟨hci,⟨?_,?_⟩,⟨?_,?_⟩,⟨?_,?_⟩⟩<;>simp only<;>omega
  ·cases hd
 ·obtain⟨i,hi,hd⟩:=List.mem_flatMap.1 hd;rw[List.mem_range] at hi;unfold chg1 at hd
  split at hd
  ·obtain rfl:=List.mem_singleton.1 hd;refine⟨hci,⟨?_,?_⟩,zqV (zn2 hx.i c) i,zqV (zn2 hy.i c) i⟩<;>simp only<;>omega
  ·cases hd
theorem zuU {n:Nat} {x y:SS} (hx:znn n x) (hy:znn n y) (hn:n<=1000):(zlR x y).length<=4398046511103:=by
 have h:=znP (hx.sm (by omega)) (hy.sm (by omega)) x.cells.length (x.cells.length+2);rw[zq6 (hx.n.trans hy.n.symm),hx.n] at h;have:(n+2)*1000001<=1002*1000001:=Nat.mul_le_mul_right _ (by omega);omega
theorem zrk {p:PG} {s:SS} {L:List SS} {S':ST} {n:Nat} (hv:zlc p=true) (hf:fitB p.vs s=true) (hl:LitB p.m) (hp:PrB p.prs) (hfv:∀ u∈p.vs,FldV u) (hI:s.I) (h:Tg p.prs (.blk false (blkL false p.m)) (newS p.vs s) L S') (hn:s.cells.length=n) (hL:L.length<=1000000) :
  n<=1000/\(∀ j,j<=L.length->znn n ((s::L).getD j s))/\(s::L).getD L.length s=S'.state:=by
 have hvl:=(zlf hv).1;have hcl:=(znJ hf).2.1;obtain⟨hi,-⟩:=zr9 (e:=[]) (by omega) hf hfv hI;have g:Gd n 0 (newS p.vs s):=⟨hi,by unfold cnt newS;simp only[List.length_range];omega⟩
 have g0:=g.good;rw[zmD hf] at g0;obtain⟨-,hall⟩:=h.good hp (zlY hl) 0 (by omega) g;refine⟨by omega,fun j hj=>?_,?_⟩
 ·rcases j with _|j
  ·exact g0
  ·have:(s::L).getD (j+1) s=L[j]:=by
    simp only[List.getD_eq_getElem?_getD,List.getElem?_cons_succ];rw[List.getElem?_eq_getElem (by omega)];rfl
   rw[this];exact hall _ (List.getElem_mem _)
 ·rw[<-zpC,<-h.last,zmD hf]
theorem zsQ:IsFn Tryz.prog 26 Tryz.f26:=⟨Tryz.func26,by kernel_rfl,by kernel_rfl⟩
theorem OwnS.chgU {W W':World} {n0 ba:Nat} {s:SS} {v:Value} {xs:Array Value} (h:OwnS W n0 s v) (hc:Chg (fun b=>b=ba) W W') (hz:W.heap[ba]?=some (.cells xs 26 (0,0))):OwnS W' n0 s v:=by
 obtain⟨vc,vi,vo,fc,e,hr,hi⟩:=h;refine⟨vc,vi,vo,fc,e,hr.chg hc fun i b hb h=>?_,hi⟩;subst h;obtain⟨-,h2⟩:=hr.row i;rcases h2 with⟨h2,-⟩|⟨g,cap,cur,hv,hgl,hg,-⟩
 ·rw[h2] at hb;simp[Value.ownBlock] at hb
 ·rw[hv] at hb;injection hb with hb;subst hb;rw[hz] at hg
  cases i with
  | all=>simp[zmf] at hg
  | el i =>
   by_cases hi:i<s.cells.length
   ·simp[zmf,hi] at hg
   ·simp only[zmf,hi,if_false,nilR] at hv
    cases hv
  | inp=>simp[zmf] at hg
  | out=>simp[zmf] at hg
theorem zqq (p:PG) (s:SS) (F:Int) (v sv:Value) (W:World) (hp:PV W Any p v) (hs:SV W Any s sv) (hcl:s.cells.length<=5864062014800) (hF:I64 F) :
  Calls Tryz.prog 5 #[v,sv,.int .i64 F] W fun e W'=>e=.returned (.bool true)/\Below W.heap.size W W':=by
 have yQ:=zh hp;have xH:=zh hs;obtain⟨A1,c1,A2,c2,A3,c3,rfl,jK⟩:=hp;obtain⟨A,c,B,d,D,e,rfl,hr1,hr2,hr3,hc1,hc2,hc3,hl1,hl2,hl3,hl4⟩:=hs;have hb2:=zkd (zkd (Below.refl W.heap.size W) (.cells #[.slice A1 p.vs.length c1,.slice A2 p.prs.length c2,.int .u8 p.m.k,.int .i64 p.m.n,.string p.m.s,.slice A3 p.m.ks.length c3] 35)) (.cells #[.slice A s.cells.length c,.slice B s.tin.length d,.slice D s.tout.length e] 26);have k0:=zkj (heap_alloc_new W (.cells #[.slice A1 p.vs.length c1,.slice A2 p.prs.length c2,.int .u8 p.m.k,.int .i64 p.m.n,.string p.m.s,.slice A3 p.m.ks.length c3] 35)) (.cells #[.slice A s.cells.length c,.slice B s.tin.length d,.slice D s.tout.length e] 26)
 have k1:=heap_alloc_new (W.alloc (.cells #[.slice A1 p.vs.length c1,.slice A2 p.prs.length c2,.int .u8 p.m.k,.int .i64 p.m.n,.string p.m.s,.slice A3 p.m.ks.length c3] 35)) (.cells #[.slice A s.cells.length c,.slice B s.tin.length d,.slice D s.tout.length e] 26);rw[World.size_alloc] at k1;obtain⟨w2,hw2⟩:∃ x,(W.alloc (.cells #[.slice A1 p.vs.length c1,.slice A2 p.prs.length c2,.int .u8 p.m.k,.int .i64 p.m.n,.string p.m.s,.slice A3 p.m.ks.length c3] 35)).alloc (.cells #[.slice A s.cells.length c,.slice B s.tin.length d,.slice D s.tout.length e] 26)=x:=⟨_,rfl⟩
 rw[hw2] at hb2 k0 k1;have HB2:=zh hb2;have K0:=zh k0;have K1:=zh k1;have HAW:=zh (zrL w2);clear jK hr1 hr2 hr3 hb2 k0 k1 hl1 hl2 hl3 hl4 hc1 hc2 hc3;have bM:=zh hF;have bO:=zh hcl;go_enter Tryz.func5,Tryz.ntmps5;go_wp2_with fail;refine HAW.out.mono ?_;rintro e3 w3 ⟨rfl,b3⟩;clear hw2 HAW;have k0:=zkb K0.out b3;have k1:=zkb K1.out b3;have p0:w3.cell? ⟨W.heap.size,0,none⟩=some (.slice A1 p.vs.length c1):=zc k0 rfl;have p1:w3.cell? ⟨W.heap.size,1,none⟩=some (.slice A2 p.prs.length c2):=zc k0 rfl;have p2:w3.cell? ⟨W.heap.size,2,none⟩=some (.int .u8 p.m.k):=zc k0 rfl;have p3:w3.cell? ⟨W.heap.size,3,none⟩=some (.int .i64 p.m.n):=zc k0 rfl;have p4:w3.cell? ⟨W.heap.size,4,none⟩=some (.string p.m.s):=zc k0 rfl;have p5:w3.cell? ⟨W.heap.size,5,none⟩=some (.slice A3 p.m.ks.length c3):=zc k0 rfl;have s0:w3.cell? ⟨W.heap.size+1,0,none⟩=some (.slice A s.cells.length c):=zc k1 rfl
 have s1:w3.cell? ⟨W.heap.size+1,1,none⟩=some (.slice B s.tin.length d):=zc k1 rfl;have s2:w3.cell? ⟨W.heap.size+1,2,none⟩=some (.slice D s.tout.length e):=zc k1 rfl;clear k0 k1;have HB3:=zh (zka HB2.out b3);by_cases hq:p.prs.length<=4;rotate_left 1
 ·have hq1:(4:Int)<(p.prs.length:Int):=by omega
  go_wp2_with fail;go_ret;exact⟨rfl,HB3.out⟩
 have hq1:¬ (4:Int)<(p.prs.length:Int):=by omega
 by_cases hF4:F<=400;rotate_left 1
 ·have hq2:(400:Int)<F:=by omega
  go_wp2_with fail;go_ret;exact⟨rfl,HB3.out⟩
 have hq2:¬ (400:Int)<F:=by omega
 have pz:=zh (zvP p s F 802000 _ _ w3 (yQ.out.later (zka HB2.out b3)) (xH.out.later (zka HB2.out b3)) hcl hF (by omega) (by omega));have nH:=zh (fun w' (hb:Below w2.heap.size w2 w')=>zoq p s F 802000 _ _ w' (yQ.out.later (zka HB2.out hb)) (xH.out.later (zka HB2.out hb)) hcl hF (by omega) (by omega));have jS:=zh (fun h=>zqW (p:=p) (s:=s) (F:=F) (g:=802000) (back:=false) (by omega) h);have kQ:=zh (fun h=>zp7 (p:=p) (s:=s) (F:=F) (g:=802000) (back:=false) (by omega) h);obtain⟨R,hR⟩:∃ R,resO p s F 802000 false=R:=⟨_,rfl⟩
 rw[hR] at pz jS nH kQ;have kX:=zh b3;obtain⟨R1,Rn,Re,Rl⟩:=R;dsimp only at jS kQ;clear hF hR b3 hcl;go_wp2_with fail;refine pz.out.mono ?_;rintro e4 w4 ⟨hb4,⟨hne,rfl⟩|⟨he,S',L,ev,pW,hst,hn,hft,rfl,hev,hL⟩⟩
 ·dsimp only at hne ⊢;have e1:(Re != 0)=true:=by simpa using hne
  have e2:(Re==0)=false:=by simpa using hne
  have nW:=zka kX.out hb4;have gQ:=zh (nH.out w4 nW);clear p0 p1 p2 p3 p4 p5 s0 s1 s2 hb4 pz jS hne nH kQ;have k0:=zkb K0.out nW;have k1:=zkb K1.out nW;have p0:w4.cell? ⟨W.heap.size,0,none⟩=some (.slice A1 p.vs.length c1):=zc k0 rfl;have p1:w4.cell? ⟨W.heap.size,1,none⟩=some (.slice A2 p.prs.length c2):=zc k0 rfl;have p2:w4.cell? ⟨W.heap.size,2,none⟩=some (.int .u8 p.m.k):=zc k0 rfl;have p3:w4.cell? ⟨W.heap.size,3,none⟩=some (.int .i64 p.m.n):=zc k0 rfl;have p4:w4.cell? ⟨W.heap.size,4,none⟩=some (.string p.m.s):=zc k0 rfl;have p5:w4.cell? ⟨W.heap.size,5,none⟩=some (.slice A3 p.m.ks.length c3):=zc k0 rfl;have s0:w4.cell? ⟨W.heap.size+1,0,none⟩=some (.slice A s.cells.length c):=zc k1 rfl;have s1:w4.cell? ⟨W.heap.size+1,1,none⟩=some (.slice B s.tin.length d):=zc k1 rfl;have s2:w4.cell? ⟨W.heap.size+1,2,none⟩=some (.slice D s.tout.length e):=zc k1 rfl;clear k0 k1
  go_wp2_with fail;refine gQ.out.mono ?_;rintro e5 w5 ⟨v1,v2,v3,rfl,dB,hb5,-⟩;obtain⟨A5,c5,B5,d5,D5,g5,hv⟩:=dB.slices;injection hv with hv;simp only[Array.mk.injEq,List.cons.injEq,and_true] at hv;obtain⟨rfl,rfl,rfl⟩:=hv;have aR:=zh (zkd (zka HB2.out (zka nW hb5)) (.cells #[.slice A5 R1.cells.length c5,.slice B5 R1.tin.length d5,.slice D5 R1.tout.length g5,.int .i64 (Rn:Int),.int .i64 Re] 50));clear p0 p1 p2 p3 p4 p5 s0 s1 s2 gQ dB hb5 nW;dsimp only;go_wp2_with fail;go_ret;exact⟨rfl,aR.out⟩
 dsimp only at he hst hn ⊢;subst he hst hn;obtain⟨Ae,ce,rfl⟩:=hev.len;obtain⟨hf1,-,-⟩:=jS.out rfl;obtain⟨hvd,-,-,-⟩:=kQ.out rfl;have nW:=zka kX.out hb4;have gQ:=zh (nH.out w4 nW);have HEV:=zh hev;have xD:=zh pW;have jD:=zh hft;have xB:=zh hvd;have HLF:=zh (show(L.length:Int)<=400 by omega);clear p0 p1 p2 p3 p4 p5 s0 s1 s2 hb4 pz jS nH kQ hf1 hvd hft pW hev hL;have k0:=zkb K0.out nW;have k1:=zkb K1.out nW;have p0:w4.cell? ⟨W.heap.size,0,none⟩=some (.slice A1 p.vs.length c1):=zc k0 rfl;have p1:w4.cell? ⟨W.heap.size,1,none⟩=some (.slice A2 p.prs.length c2):=zc k0 rfl;have p2:w4.cell? ⟨W.heap.size,2,none⟩=some (.int .u8 p.m.k):=zc k0 rfl;have p3:w4.cell? ⟨W.heap.size,3,none⟩=some (.int .i64 p.m.n):=zc k0 rfl;have p4:w4.cell? ⟨W.heap.size,4,none⟩=some (.string p.m.s):=zc k0 rfl;have p5:w4.cell? ⟨W.heap.size,5,none⟩=some (.slice A3 p.m.ks.length c3):=zc k0 rfl
 have s0:w4.cell? ⟨W.heap.size+1,0,none⟩=some (.slice A s.cells.length c):=zc k1 rfl;have s1:w4.cell? ⟨W.heap.size+1,1,none⟩=some (.slice B s.tin.length d):=zc k1 rfl;have s2:w4.cell? ⟨W.heap.size+1,2,none⟩=some (.slice D s.tout.length e):=zc k1 rfl;clear k0 k1;go_wp2_with fail;refine gQ.out.mono ?_;rintro e5 w5 ⟨v1,v2,v3,rfl,dB,hb5,hl5⟩;obtain⟨A5,c5,B5,d5,D5,g5,hv⟩:=dB.slices;injection hv with hv;simp only[Array.mk.injEq,List.cons.injEq,and_true] at hv;obtain⟨rfl,rfl,rfl⟩:=hv;obtain⟨n,hn⟩:∃ n,s.cells.length=n:=⟨_,rfl⟩
 obtain⟨R1,xu⟩:∃ R1,S'.state=R1:=⟨_,rfl⟩
 rw[xu] at dB hl5;rw[xu];have HN:=zh hn;have HR1:=zh xu;have kr:=heap_alloc_new w5 (.cells #[.slice A5 R1.cells.length c5,.slice B5 R1.tin.length d5,.slice D5 R1.tout.length g5,.int .i64 (L.length:Int),.int .i64 0] 50);have hbr:=zkd (Below.refl w5.heap.size w5) (.cells #[.slice A5 R1.cells.length c5,.slice B5 R1.tin.length d5,.slice D5 R1.tout.length g5,.int .i64 (L.length:Int),.int .i64 0] 50);have iP:=zh (dB.later hbr);have sW:=zh hl5;have aR:=zh (zka nW hb5);clear p0 p1 p2 p3 p4 p5 s0 s1 s2 gQ dB hl5 xu;dsimp only;go_upto_region 7 with fail;obtain⟨w6,dV⟩:∃ x,w5.alloc (.cells #[.slice A5 R1.cells.length c5,.slice B5 R1.tin.length d5,.slice D5 R1.tout.length g5,.int .i64 (L.length:Int),.int .i64 0] 50)=x:=⟨_,rfl⟩
 rw[dV] at kr hbr iP;rw[dV];obtain⟨rb,hrb⟩:∃ x,w5.heap.size=x:=⟨_,rfl⟩
 rw[hrb] at kr;rw[hrb];have vY:=zka aR.out hbr;have xO:=zh kr;have HEV6:=zh (HEV.out.later (zka hb5 hbr));have HEB:=zh (show w4.heap.size<=rb by rw[<-hrb];exact hb5.size);have r3:w6.cell? ⟨rb,3,none⟩=some (.int .i64 (L.length:Int)):=zc kr rfl;have r4:w6.cell? ⟨rb,4,none⟩=some (.int .i64 0):=zc kr rfl;have k1:=zkb K1.out vY;have s0:w6.cell? ⟨W.heap.size+1,0,none⟩=some (.slice A s.cells.length c):=zc k1 rfl;have s1:w6.cell? ⟨W.heap.size+1,1,none⟩=some (.slice B s.tin.length d):=zc k1 rfl;have s2:w6.cell? ⟨W.heap.size+1,2,none⟩=some (.slice D s.tout.length e):=zc k1 rfl;clear kr hbr dV hrb hb5 k1 HEV;obtain⟨t1,t2,t3⟩:=yQ.out.lit xB.out;obtain⟨hn1,hgd,hlast⟩:=zrk xB.out jD.out t1 t2 t3 xH.out.nums xD.out hn (by have:=HLF.out;omega);rw[HR1.out] at hlast;have fw:=zh hn1;have zk:=zh hgd;have uS:=zh hlast
 have kx:=heap_alloc_new w6 (.cells #[.slice A n c,.slice B s.tin.length d,.slice D s.tout.length e] 26);have hbx:=zkd (Below.refl w6.heap.size w6) (.cells #[.slice A n c,.slice B s.tin.length d,.slice D s.tout.length e] 26);clear t1 t2 t3 hn1 hgd hlast;go_upto_region 14 with fail;obtain⟨w7,hw7⟩:∃ x,w6.alloc (.cells #[.slice A n c,.slice B s.tin.length d,.slice D s.tout.length e] 26)=x:=⟨_,rfl⟩
 have hs7:w7.heap.size=w6.heap.size+1:=by rw[<-hw7];exact World.size_alloc ..
 rw[hw7] at kx hbx;rw[hw7];obtain⟨xb,hxb⟩:∃ x,w6.heap.size=x:=⟨_,rfl⟩
 have cB:=zh hbx;rw[hxb] at kx hs7;rw[hxb];have HXB:=zh hxb;have lI:=zh kx;have yO:=zh hs7;have uw:=zh vY;have hsv7:SV w7 (fun b=>b≠xb) s (.agg #[.slice A s.cells.length c,.slice B s.tin.length d,.slice D s.tout.length e]):=xH.out.keep (fun b _ hlt=>by have h1:=(zka HB2.out vY).size;show b≠xb;omega) fun b _ hlt=>(zka HB2.out (zka vY hbx)).block b hlt;have HSV7:=zh hsv7;clear s0 s1 s2 r3 r4 kx hbx hw7 hxb hs7 hsv7 vY;go_wp2_with fail
 go_loopw [11] (fun i wr=>∃ j:Nat,j<=L.length/\i=.int .i64 j/\Hid (Chg (fun b=>b=xb) w7 wr)/\∃ x Ax cx Bx dx Dx ex,Hid ((s::L).getD j s=x)/\Hid (wr.heap[xb]?=some (.cells #[.slice Ax x.cells.length cx,.slice Bx x.tin.length dx,.slice Dx x.tout.length ex] 26 (0,0)))/\Hid (SV wr (fun b=>b≠xb) x (.agg #[.slice Ax x.cells.length cx,.slice Bx x.tin.length dx,.slice Dx x.tout.length ex]))) (fun i _=>L.length-(intOf i).toNat)
 case atStart=>exact⟨0,Nat.zero_le _,rfl,zh (Chg.refl _ _),s,_,_,_,_,_,_,zh rfl,by rw[HN.out];exact lI,HSV7⟩
 case round =>
  clear lI HSV7;obtain⟨j,hj,rfl,aQ,x,Ax,cx,Bx,dx,Dx,ex,yI,r9,nY⟩:=hrel;obtain⟨x0,x1,x2⟩:=zpg r9.out;by_cases hlt:j<L.length
  ·have hj1:(j:Int)<(L.length:Int):=by omega
   have hj0:(0:Int)<=(j:Int):=by omega
   have vE:IntKind.i64.wrap ((j:Int)+1)=(j:Int)+1:=IntWalk.i64_in _ (by have:=HLF.out;omega);obtain⟨g,cap,hge,hgc⟩:=HEV6.out.nd (by rw[zlZ];omega);rw[zlZ] at hge;obtain⟨Aj,cj,hgj,hgr⟩:=hgc j (by rw[zlZ];exact hlt);rw[zs3 s L j hlt,yI.out] at hgj hgr;simp only[Value.slice.injEq,true_and] at hge;obtain⟨rfl,rfl⟩:=hge;obtain⟨y,hy⟩:∃ y,L[j]=y:=⟨_,rfl⟩
   rw[hy] at hgj hgr;have hgx:=zk.out j hj;have uG:=zk.out (j+1) hlt;have hye:(s::L).getD (j+1) s=y:=by
    simp only[List.getD_eq_getElem?_getD,List.getElem?_cons_succ];rw[List.getElem?_eq_getElem hlt];exact hy
   rw[yI.out] at hgx;rw[hye] at uG;have HYE:=zh hye;have iQ:=zh hlt;have hk:∀ b,b<w6.heap.size->wr.heap[b]?=w6.heap[b]?:=fun b hb=>(aQ.out.block b (by have:=cB.out.size;omega) (by have:=HXB.out;omega)).trans (cB.out.block b hb);have z0:wr.cell? ⟨g,j,none⟩=some (.slice Aj (zlR x y).length cj):=zk1 hgj (hk g (by
    have:=World.block_lt_of_cell? w6 _ hgj;exact this))
   have sM:=zh (hgr.keep (S':=Any) (fun _ _ _=>trivial) fun b _ hlt=>hk b hlt);have kG:=zh (fun w' (hb:Below wr.heap.size wr w')=>zqs x (zlR x y) _ Aj cj w' ((nY.out.keep (S':=Any) (fun _ _ _=>trivial) fun _ _ _=>rfl).later hb) (hgx.sm (by have:=fw.out;omega)) (sM.out.later hb) (zxf hgx uG (by have:=fw.out;omega)) (zuU hgx uG fw.out));have HST:=zh (zrM hgx uG);have HYL:=zh ((uG.sm (by have:=fw.out;omega)).lim);have HJ2:=zh hj;obtain⟨E,hE⟩:∃ E,zlR x y=E:=⟨_,rfl⟩
   rw[hE] at z0 kG HST;clear hgc hgj hgr hy hgx uG hye hlt hk hE sM hj;go_upto_region 17 with fail;have hSS:(fun w':World=>w'.cell? ⟨xb,0,none⟩=some (.slice Ax x.cells.length cx)/\w'.cell? ⟨xb,1,none⟩=some (.slice Bx x.tin.length dx)/\w'.cell? ⟨xb,2,none⟩=some (.slice Dx x.tout.length ex)/\w'.cell? ⟨g,j,none⟩=some (.slice Aj E.length cj)) wr.drew/\(fun _:World=>True) wr.drew:=⟨⟨x0,x1,x2,z0⟩,trivial⟩
   refine wp_region_noPanic ?_;refine zkc (fun w':World=>w'.cell? ⟨xb,0,none⟩=some (.slice Ax x.cells.length cx)/\w'.cell? ⟨xb,1,none⟩=some (.slice Bx x.tin.length dx)/\w'.cell? ⟨xb,2,none⟩=some (.slice Dx x.tout.length ex)/\w'.cell? ⟨g,j,none⟩=some (.slice Aj E.length cj)) (fun _:World=>True) 11 (by kernel_rfl) ?_;refine zT 0 hSS ?_;(try simp only[zQ]);refine zT 1 hSS ?_;(try simp only[zQ]);refine zT 2 hSS ?_;(try simp only[zQ]);refine zT 3 hSS ?_;(try simp only[zQ]);refine zT 4 hSS ?_;(try simp only[zQ]);have aA:=zh (show ∀ w',Below wr.heap.size wr w'->(fun w':World=>w'.cell? ⟨xb,0,none⟩=some (.slice Ax x.cells.length cx)/\w'.cell? ⟨xb,1,none⟩=some (.slice Bx x.tin.length dx)/\w'.cell? ⟨xb,2,none⟩=some (.slice Dx x.tout.length ex)/\w'.cell? ⟨g,j,none⟩=some (.slice Aj E.length cj)) w' from fun w' h=>⟨zb h x0,zb h x1,zb h x2,zb h z0⟩);clear hSS
   refine zoW (fun A f l a wx=>∃ (l5 l6 l7 l8 l9 l10:Bool) (v62 v56 v63 v64 v12:Value) (Ay By Dy:Option Addr) (cy dy ey b:Nat),f=(!l5).toNat+(!l6).toNat+(!l7).toNat+(!l8).toNat+(!l9).toNat+(!l10).toNat+1/\l = #[true,true,true,true,true,l5,l6,l7,l8,l9,l10,false] /\
    a=((((A.put (some 62) v62).put (some 56) v56).put (some 63) v63).put (some 64) v64).put (some 12) v12/\Hid (Below wr.heap.size wr wx)/\Hid ((l6=true->l5=true)/\(l7=true->l6=true)/\(l8=true->l6=true)/\(l10=true->l7=true/\l9=true)) /\
    Hid ((l5=true->v62=.tuple #[.agg #[.slice Ay y.cells.length cy,.slice By y.tin.length dy,.slice Dy y.tout.length ey],.int .i64 0])/\(l6=true->v56=.tuple #[.agg #[.slice Ay y.cells.length cy,.slice By y.tin.length dy,.slice Dy y.tout.length ey],.int .i64 0])/\(l7=true->v63=.agg #[.slice Ay y.cells.length cy,.slice By y.tin.length dy,.slice Dy y.tout.length ey])/\(l8=true->v64=.int .i64 0)/\(l9=true->v12=.pointer (some ⟨b,0,none⟩)))/\Hid (l5=true->OwnS wx wr.heap.size y (.agg #[.slice Ay y.cells.length cy,.slice By y.tin.length dy,.slice Dy y.tout.length ey])) /\
    Hid (l9=true->wr.heap.size<=b/\(l10=false->wx.heap[b]?=some (.cells #[.slice none 0 0,.slice none 0 0,.slice none 0 0] 26 (0,0)))/\(l10=true->wx.heap[b]?=some (.cells #[.slice Ay y.cells.length cy,.slice By y.tin.length dy,.slice Dy y.tout.length ey] 26 (0,0))))) (fun A f l a wx h=>?_) ?_
    ⟨false,false,false,false,false,false,u62,u56,u63,u64,u12,none,none,none,0,0,0,0,rfl,rfl,(by simp only[Act.put,zD,zE,zF]),zh (Below.refl _ _).drew,zh ⟨fun h=>(by cases h),fun h=>(by cases h),fun h=>(by cases h),fun h=>(by cases h)⟩,zh ⟨fun h=>(by cases h),fun h=>(by cases h),fun h=>(by cases h),fun h=>(by cases h),fun h=>(by cases h)⟩,zh fun h=>(by cases h),zh fun h=>(by cases h)⟩
   ·obtain⟨_,_,_,_,_,_,_,_,_,_,_,_,_,_,_,_,_,_,_,_,_,hb,_⟩:=h;exact⟨aA.out _ hb.out,trivial⟩
   rintro A' hA f l a wx ⟨l5,l6,l7,l8,l9,l10,v62,v56,v63,v64,v12,Ay,By,Dy,cy,dy,ey,b,hf,rfl,ha,af,HC,dK,oo,aX⟩;by_cases hall:(l5&&l6&&l7&&l8&&l9&&l10)=true
   ·left
    simp only[Bool.and_eq_true] at hall;obtain⟨⟨⟨⟨⟨rfl,rfl⟩,rfl⟩,rfl⟩,rfl⟩,rfl⟩:=hall;obtain⟨g62,g56,g63,g64,g12⟩:=dK.out;obtain rfl:=g62 rfl;obtain rfl:=g56 rfl;obtain rfl:=g63 rfl;obtain rfl:=g64 rfl;obtain rfl:=g12 rfl;subst hf ha hA;have HOY:=zh (oo.out rfl);obtain⟨hb1,-,hb3⟩:=aX.out rfl;have hbx:=hb3 rfl;have cK:=zh hbx;have uZ:=zh hb1;clear g62 g56 g63 g64 g12 hb3 hbx hb1 aX oo dK HC;refine zp 11 fun K hK=>?_;(try simp only[zQ]);go_simp;refine hK.out _ _ (aA.out _ af.out) ?_;clear hK K;(try simp only[zQ]);refine zd ?_;refine NoPanic.normal ?_;clear x0 x1 x2 z0;have hxk:wx.heap[xb]?=some (.cells #[.slice Ax x.cells.length cx,.slice Bx x.tin.length dx,.slice Dx x.tout.length ex] 26 (0,0)):=zkb r9.out af.out;have hxl:=zkk r9.out;have y0:wx.cell? ⟨b,0,none⟩=some (.slice Ay y.cells.length cy):=zc cK.out rfl
    have y1:wx.cell? ⟨b,1,none⟩=some (.slice By y.tin.length dy):=zc cK.out rfl;have y2:wx.cell? ⟨b,2,none⟩=some (.slice Dy y.tout.length ey):=zc cK.out rfl;have x0:wx.cell? ⟨xb,0,none⟩=some (.slice Ax x.cells.length cx):=zc hxk rfl;have x1:wx.cell? ⟨xb,1,none⟩=some (.slice Bx x.tin.length dx):=zc hxk rfl;have x2:wx.cell? ⟨xb,2,none⟩=some (.slice Dx x.tout.length ex):=zc hxk rfl;have cf:∀ o,wx.frozen? ⟨xb,o,none⟩=false:=fun o=>zf hxk;have HXK:=zh hxk;have rY:=zh hxl;clear hxk hxl;go_wp2_with fail;have hch:Chg (fun q=>q=xb) wx (((wx.setCell ⟨xb,0,none⟩ (.slice Ay y.cells.length cy)).setCell ⟨xb,1,none⟩ (.slice By y.tin.length dy)).setCell ⟨xb,2,none⟩ (.slice Dy y.tout.length ey)) :=
     (((Chg.refl (fun q=>q=xb) wx).setCell (p:=⟨xb,0,none⟩) (.inl rfl) _).setCell (p:=⟨xb,1,none⟩) (.inl rfl) _).setCell (p:=⟨xb,2,none⟩) (.inl rfl) _
    have hh:=heap_setCell_same _ xb 2 _ _ (.slice Dy y.tout.length ey) (heap_setCell_same _ xb 1 _ _ (.slice By y.tin.length dy) (heap_setCell_same wx xb 0 _ _ (.slice Ay y.cells.length cy) HXK.out));refine⟨⟨j+1,by have:=iQ.out;omega,by go_num,zh ((aQ.out.trans2 (Chg.of_below (C:=fun b=>b=xb) af.out) fun _ _ h=>h).trans2 hch fun _ _ h=>h),y,Ay,cy,By,dy,Dy,ey,HYE,zh (by simpa using hh),zh ((HOY.out.svR HYL.out).keep (fun q h _=>by have h2:=rY.out;show q≠xb;omega) fun q h hl=>hch.block q hl (by have h2:=rY.out;omega))⟩,by have:=iQ.out;simp[intOf];omega⟩
   ·right
    have aZ:=HC.out;refine⟨f-1,?_,?_,?_⟩
    ·clear HC aZ dK oo aX ha af;subst hf;revert hall;revert l5 l6 l7 l8 l9 l10
     decide
    ·clear HC dK oo aX ha af hf;revert hall aZ;revert l5 l6 l7 l8 l9 l10
     decide +kernel
    intro i hi;have hcase:(i=5/\l5=false)\/(i=6/\l6=false/\l5=true)\/(i=7/\l7=false/\l6=true)\/(i=8/\l8=false/\l6=true)\/(i=9/\l9=false)\/(i=10/\l10=false/\l7=true/\l9=true):=by
     refine of_decide_eq_true ((List.all_eq_true (p:=fun i=>decide ((i=5/\l5=false)\/(i=6/\l6=false/\l5=true)\/(i=7/\l7=false/\l6=true)\/(i=8/\l8=false/\l6=true)\/(i=9/\l9=false)\/(i=10/\l10=false/\l7=true/\l9=true)))).1 ?_ i hi);clear HC dK oo aX ha af hf hi;revert hall aZ;revert l5 l6 l7 l8 l9 l10
     decide +kernel
    clear hi hall;subst ha hA;rcases hcase with⟨rfl,rfl⟩|⟨rfl,rfl,rfl⟩|⟨rfl,rfl,rfl⟩|⟨rfl,rfl,rfl⟩|⟨rfl,rfl⟩|⟨rfl,rfl,rfl,rfl⟩
    ·refine wpOp_step rfl (fun K' aT=>?_);have hK:=zh aT;clear aT;obtain rfl:l6=false:=by
      rcases l6 with _|_
      ·rfl
      ·exact absurd (aZ.1 rfl) (by decide)
     obtain rfl:l7=false:=by
      rcases l7 with _|_
      ·rfl
      ·exact absurd (aZ.2.1 rfl) (by decide)
     obtain rfl:l8=false:=by
      rcases l8 with _|_
      ·rfl
      ·exact absurd (aZ.2.2.1 rfl) (by decide)
     obtain rfl:l10=false:=by
      rcases l10 with _|_
      ·rfl
      ·exact absurd (aZ.2.2.2 rfl).1 (by decide)
     have had:Calls Tryz.prog 26 [.agg #[.slice Ax x.cells.length cx,.slice Bx x.tin.length dx,.slice Dx x.tout.length ex],.slice Aj E.length cj].toArray wx fun e W'=>∃ u,e=.returned u/\(∃ (Ay By Dy:Option Addr) (cy dy ey:Nat),u=.tuple #[.agg #[.slice Ay y.cells.length cy,.slice By y.tin.length dy,.slice Dy y.tout.length ey],.int .i64 0]/\OwnS W' wr.heap.size y (.agg #[.slice Ay y.cells.length cy,.slice By y.tin.length dy,.slice Dy y.tout.length ey])/\Below wx.heap.size wx W') :=
      (kG.out wx af.out).mono fun e W' ⟨v,h1,h2,h3⟩=>by
       rw[HST.out] at h1 h3;obtain⟨Ay,cy,By,dy,Dy,ey,rfl⟩:=h3.slices;exact⟨_,h1,Ay,By,Dy,cy,dy,ey,rfl,h3.mono af.out.size,h2⟩
     refine zkg (by rfl) (.func 26) [.tmp 57,.tmp 61] _ (by rfl) 26 _ zsQ (by rfl) _ (by rfl) _ had ?_;rintro v w' ⟨Ay',By',Dy',cy',dy',ey',rfl,ho,hb⟩;exact hK.out _ _ ⟨true,false,false,false,l9,false,_,v56,v63,v64,v12,Ay',By',Dy',cy',dy',ey',b,(by subst hf;simp only[Bool.not_false,Bool.not_true,Bool.toNat_true,Bool.toNat_false];omega),rfl,(by simp only[zQ]),zh (zka af.out hb),zh ⟨fun h=>(by cases h),fun h=>(by cases h),fun h=>(by cases h),fun h=>(by cases h)⟩,zh ⟨fun _=>rfl,fun h=>(by cases h),fun h=>(by cases h),fun h=>(by cases h),dK.out.2.2.2.2⟩,zh fun _=>ho,zh fun h9=>by
      obtain⟨g1,g2,-⟩:=aX.out h9;exact⟨g1,fun _=>zkb (g2 rfl) hb,fun h=>(by cases h)⟩⟩
    ·refine wpOp_step rfl (fun K' aT=>?_);have hK:=zh aT;clear aT;obtain rfl:=dK.out.1 rfl;(try simp only[zQ]);go_simp;exact hK.out _ _ ⟨true,true,l7,l8,l9,l10,_,_,v63,v64,v12,Ay,By,Dy,cy,dy,ey,b,(by subst hf;simp only[Bool.not_false,Bool.not_true,Bool.toNat_true,Bool.toNat_false];omega),rfl,(by simp only[Act.put,zD,zE,zF]),af,zh ⟨fun _=>rfl,fun _=>rfl,fun _=>rfl,aZ.2.2.2⟩,zh ⟨fun _=>rfl,fun _=>rfl,dK.out.2.2⟩,oo,aX⟩
    ·refine wpOp_step rfl (fun K' aT=>?_);have hK:=zh aT;clear aT;obtain rfl:=dK.out.2.1 rfl;(try simp only[zQ]);go_simp;exact hK.out _ _ ⟨l5,true,true,l8,l9,l10,_,_,_,v64,v12,Ay,By,Dy,cy,dy,ey,b,(by subst hf;simp only[Bool.not_false,Bool.not_true,Bool.toNat_true,Bool.toNat_false];omega),rfl,(by simp only[Act.put,zD,zE,zF]),af,zh ⟨aZ.1,fun _=>rfl,fun _=>rfl,fun h=>⟨rfl,(aZ.2.2.2 h).2⟩⟩,zh ⟨dK.out.1,fun _=>rfl,fun _=>rfl,dK.out.2.2.2⟩,oo,aX⟩
    ·refine wpOp_step rfl (fun K' aT=>?_);have hK:=zh aT;clear aT;obtain rfl:=dK.out.2.1 rfl;(try simp only[zQ]);go_simp;exact hK.out _ _ ⟨l5,true,l7,true,l9,l10,_,_,_,_,v12,Ay,By,Dy,cy,dy,ey,b,(by subst hf;simp only[Bool.not_false,Bool.not_true,Bool.toNat_true,Bool.toNat_false];omega),rfl,(by simp only[Act.put,zD,zE,zF]),af,zh ⟨aZ.1,fun _=>rfl,fun _=>rfl,aZ.2.2.2⟩,zh ⟨dK.out.1,fun _=>rfl,dK.out.2.2.1,fun _=>rfl,dK.out.2.2.2.2⟩,oo,aX⟩
    ·refine wpOp_step rfl (fun K' aT=>?_);have hK:=zh aT;clear aT;obtain rfl:l10=false:=by
      rcases l10 with _|_
      ·rfl
      ·exact absurd (aZ.2.2.2 rfl).2 (by decide)
     (try simp only[zQ]);go_simp;exact hK.out _ _ ⟨l5,l6,l7,l8,true,false,v62,v56,v63,v64,_,Ay,By,Dy,cy,dy,ey,wx.heap.size,(by subst hf;simp only[Bool.not_false,Bool.not_true,Bool.toNat_true,Bool.toNat_false];omega),rfl,(by simp only[Act.put,zD,zE,zF]),zh (zkd af.out _),zh ⟨aZ.1,aZ.2.1,aZ.2.2.1,fun h=>(by cases h)⟩,zh ⟨dK.out.1,dK.out.2.1,dK.out.2.2.1,dK.out.2.2.2.1,fun _=>rfl⟩,zh (fun h=>(oo.out h).later (zkd (Below.refl _ _) _)),zh fun _=>⟨af.out.size,fun _=>heap_alloc_new wx _,fun h=>(by cases h)⟩⟩
    ·refine wpOp_step rfl (fun K' aT=>?_);have hK:=zh aT;clear aT;have h6:=aZ.2.1 rfl;have h5:=aZ.1 h6;subst h6 h5;obtain rfl:=dK.out.2.2.1 rfl;obtain rfl:=dK.out.2.2.2.2 rfl;have ho:=oo.out (Eq.refl true);have rF:=aX.out (Eq.refl true);have g1:=rF.1;have hbx:=rF.2.1 (Eq.refl false);clear rF;have q0:wx.cell? ⟨b,0,none⟩=some (.slice none 0 0):=zc hbx rfl;have q1:wx.cell? ⟨b,1,none⟩=some (.slice none 0 0):=zc hbx rfl;have q2:wx.cell? ⟨b,2,none⟩=some (.slice none 0 0):=zc hbx rfl;have cf:∀ o,wx.frozen? ⟨b,o,none⟩=false:=fun o=>zf hbx;(try simp only[zQ]);go_simp;have hch:Chg (fun q=>q=b) wx (((wx.setCell ⟨b,0,none⟩ (.slice Ay y.cells.length cy)).setCell ⟨b,1,none⟩ (.slice By y.tin.length dy)).setCell ⟨b,2,none⟩ (.slice Dy y.tout.length ey)) :=
      (((Chg.refl (fun q=>q=b) wx).setCell (p:=⟨b,0,none⟩) (.inl rfl) _).setCell (p:=⟨b,1,none⟩) (.inl rfl) _).setCell (p:=⟨b,2,none⟩) (.inl rfl) _
     have hh:=heap_setCell_same _ b 2 _ _ (.slice Dy y.tout.length ey) (heap_setCell_same _ b 1 _ _ (.slice By y.tin.length dy) (heap_setCell_same wx b 0 _ _ (.slice Ay y.cells.length cy) hbx));have hoo:=ho.chgU hch hbx;exact hK.out _ _ ⟨true,true,true,l8,true,true,_,_,_,v64,_,Ay,By,Dy,cy,dy,ey,b,(by subst hf;simp only[Bool.not_false,Bool.not_true,Bool.toNat_true,Bool.toNat_false];omega),rfl,(by simp only[Act.put,zD,zE,zF]),zh (af.out.trans (hch.below af.out.size fun q e=>by omega)),zh ⟨fun _=>rfl,fun _=>rfl,fun _=>rfl,fun _=>⟨rfl,rfl⟩⟩,dK,zh (fun _=>hoo),zh fun _=>⟨g1,fun h=>(by cases h),fun _=>(by simpa using hh)⟩⟩
  ·obtain rfl:j=L.length:=by omega
   have hj1:¬ (L.length:Int)<(L.length:Int):=by omega
   have hg:=zk.out L.length (Nat.le_refl _);have hx:x=R1:=yI.out.symm.trans uS.out;subst hx;rw[uS.out] at hg;have hsm:=hg.sm (by have:=fw.out;omega);have hlt6:=zkk xO.out;have hk:∀ b,b<w6.heap.size->wr.heap[b]?=w6.heap[b]?:=fun b hb=>(aQ.out.block b (by have:=cB.out.size;omega) (by have:=HXB.out;omega)).trans (cB.out.block b hb);have hkr:=(hk rb hlt6).trans xO.out;have r0:wr.cell? ⟨rb,0,none⟩=some (.slice A5 x.cells.length c5):=zc hkr rfl;have r1:wr.cell? ⟨rb,1,none⟩=some (.slice B5 x.tin.length d5):=zc hkr rfl;have r2:wr.cell? ⟨rb,2,none⟩=some (.slice D5 x.tout.length g5):=zc hkr rfl;have HQE:=zh (zqr x x _ _ wr (nY.out.keep (S':=Any) (fun _ _ _=>trivial) fun _ _ _=>rfl) ((iP.out.sv hsm.lim).keep (S':=Any) (fun _ _ _=>trivial) fun b _ hlt=>hk b hlt) hsm hsm);rw[show eqS x x=true by simp[eqS]] at HQE
   have iV:=zh (show Below W.heap.size W wr from (zka (zka HB2.out uw.out) cB.out).trans (aQ.out.below (zka (zka HB2.out uw.out) cB.out).size fun b e=>by have e:b=xb:=e;have h1:=HXB.out;have h2:=(zka HB2.out uw.out).size;omega));clear hg hsm hlt6 hk hkr;go_wp2_with fail;refine HQE.out.mono ?_;rintro e12 jr ⟨rfl,b12⟩;clear x0 x1 x2 r0 r1 r2;go_wp2_with fail;go_ret;exact⟨rfl,zka iV.out b12⟩
end Go.Proofs.YtckhofdinldhpaaGreat
namespace Go.Proofs.YtckhofdinldhpaaGreat
open Go.RowKit Go.ChangeShapes Go.WideShapes Go.ChangeAt Go.Deep
theorem zng:Tryz.prog.cellsOf 29=4:=by kernel_rfl
theorem ztl:Tryz.prog.bytesOf 29=56:=by kernel_rfl
theorem zwv:Tryz.prog.cellsOf 5=1:=by kernel_rfl
theorem zra:Tryz.prog.cellsOf 3=1:=by kernel_rfl
theorem zuY:Tryz.prog.cellsOf 9=1:=by kernel_rfl
theorem ztk:Tryz.prog.cellsOf 27=1:=by kernel_rfl
theorem zl0 {H:Type} {P:Program} {e:TypeId}:∀ {l:List (DataW H)} {d:DataW H},d∈l->∀ n∈d.weights P e,n∈DataW.weightsAll P e l
 | d0::l,d,hd,n,hn=>by
  simp only[DataW.weightsAll,List.mem_append];rcases List.mem_cons.1 hd with rfl|hd
  ·exact .inl hn
  ·exact .inr (zl0 hd n hn)
theorem zm6 {H:Type}:∀ (ks:List T) (ds:List (DataW H)),ks.length=ds.length->(∀ i (h:i<ks.length) (h':i<ds.length),size ks[i]<=Rows.uptoBulk ds[i])->zk7 ks<=Rows.uptoBulkAll ds
 | [],[],_,_=>by simp[zk7]
 | t::ts,d::ds,hl,h=>by
  have h0:=h 0 (Nat.zero_lt_succ _) (Nat.zero_lt_succ _);have h1:=zm6 ts ds (by simpa using hl) (fun i hi hi'=>h (i+1) (Nat.succ_lt_succ hi) (Nat.succ_lt_succ hi'));simp only[List.getElem_cons_zero] at h0;simp only[zk7,Rows.uptoBulkAll];omega
 | [],_::_,hl,_=>by simp at hl
 | _::_,[],hl,_=>by simp at hl
section
variable {H:Type} {enc:TypeId×Value->H} {w:World} {held:Bool}
def zeroT':T:=.nd 0 0 ⟨#[]⟩ []
theorem zpx:∀ (fuel:Nat) (cs:List Value) (x:DataW H×List MemPlace),DataW.trod enc Tryz.prog w 0 (fun _=>true) held fuel 29 cs=some x ->
  (∀ n∈x.1.weights Tryz.prog 29,n<=reachBytes) ->
  ∃ t u0 u1 u2 u3,cs=[u0,u1,u2,u3]/\NV w Any t (.agg #[u0,u1,u2,u3])/\t.ks.length*56<=reachBytes/\size t<=Rows.uptoBulk x.1:=by
 intro fuel
 induction fuel using Nat.strongRecOn with
 | _ fuel ih =>
 intro cs x h hw;have hts:=DataW.trod_struct Tryz.underlying29 h;obtain⟨xs,n,hfu,hx,hcl,hxl,hg⟩:=hts;subst hx;rw[zng] at hcl
 match cs,hcl with
 | [c0,c1,c2,c3],_ =>
 match xs,hxl with
 | [y0,y1,y2,y3],_ =>
 have g0:=hg 0 _ rfl;have g1:=hg 1 _ rfl;have g2:=hg 2 _ rfl;have g3:=hg 3 _ rfl;simp only[zwv,zra,zuY,ztk,List.drop_zero,List.take_succ_cons,List.take_zero,List.drop_succ_cons,List.getElem?_cons_zero,List.getElem?_cons_succ] at g0 g1 g2 g3;obtain⟨k,e0,e0',wk⟩:=DataW.trod_int Tryz.underlying5 g0;obtain⟨m,e1,yF,wm⟩:=DataW.trod_int Tryz.underlying3 g1;obtain⟨s,e2,e2',ws⟩:=DataW.trod_string Tryz.underlying9 g2;injection e0 with e0;injection e1 with e1;injection e2 with e2;subst e0 e1 e2 e0' yF e2';have hf:Fld k m s:=by
  refine⟨?_,?_,ws⟩
  ·have:=wk;simp[Lit.wf,IntKind.min,IntKind.max,IntKind.signed,IntKind.bits] at this;omega
  ·have:=wm;simp[Lit.wf,IntKind.min,IntKind.max,IntKind.signed,IntKind.bits] at this;omega
 have hsl:=DataW.trod_slice Tryz.underlying27 g3;rcases hsl with⟨e3,e3'⟩|⟨a,len,cap,elems,rest,n',hn',e3,e3',_,hl,hm,hel,hat,hsp,_⟩
 ·injection e3 with e3;subst e3 e3';refine⟨.nd k m s [],_,_,_,_,rfl,NV.shut (ks:=[]) hf (Nat.zero_le _) (Nat.zero_le _) zl7.nil,by simp,?_⟩;simp only[size,zk7,List.map_cons,List.map_nil,Rows.uptoBulk];omega
 ·injection e3 with e3;subst e3 e3';obtain⟨hrl,_⟩:=hsp rfl;rw[zng] at hat
  -- what the reach says of this slice,and of its elements
  have hws:∀ q∈DataW.weights Tryz.prog 27 (.slice (elems.map (·.1)) (rest.map (·.1)):DataW H),q<=reachBytes:=by
   intro q hq;refine hw q ?_;simp only[List.map_cons,List.map_nil,DataW.weights,Tryz.underlying29];simp only[DataW.weightsEach,List.map_cons,List.map_nil,List.mem_append];exact .inr (.inr (.inr (.inl hq)))
  simp only[DataW.weights,Tryz.underlying27,ztl] at hws;have hcap:cap*56<=reachBytes:=by
   have:=hws _ (List.mem_cons_self ..);simp only[List.length_map] at this;rw[hel,hrl] at this;rw[show cap=len+(cap-len) by omega];exact this
  have hwe:∀ y∈elems,∀ q∈y.1.weights Tryz.prog 29,q<=reachBytes:=fun y hy q hq =>
   hws q (List.mem_cons_of_mem _ (List.mem_append_left _ (zl0 (List.mem_map_of_mem hy) q hq)))
  have key:∀ i (hi:i<elems.length),∃ t u0 u1 u2 u3,w.cells? 0 (a.add (i*4)) 4=some [u0,u1,u2,u3]/\NV w Any t (.agg #[u0,u1,u2,u3])/\size t<=Rows.uptoBulk elems[i].1:=by
   intro i hi;have h1:=hat i (by omega);rw[List.getElem?_eq_getElem hi] at h1;obtain⟨cs',hcs,ht⟩:=Option.bind_eq_some_iff.1 h1;obtain⟨t,u0,u1,u2,u3,rfl,hn,_,hb⟩:=ih n' (by omega) cs' elems[i] ht (hwe _ (List.getElem_mem hi));exact⟨t,u0,u1,u2,u3,hcs,hn,hb⟩
  have hex:∃ ks:List T,ks.length=elems.length/\∀ i (h:i<ks.length) (h':i<elems.length),(∃ u0 u1 u2 u3,w.cells? 0 (a.add (i*4)) 4=some [u0,u1,u2,u3]/\NV w Any ks[i] (.agg #[u0,u1,u2,u3]))/\size ks[i]<=Rows.uptoBulk elems[i].1:=by
   classical
   refine⟨(List.range elems.length).map fun i=>if h:i<elems.length then (key i h).choose else zeroT',by simp,fun i h h'=>?_⟩;simp only[List.getElem_map,List.getElem_range,h',dif_pos];obtain⟨u0,u1,u2,u3,h1,h2,h3⟩:=(key i h').choose_spec;exact⟨⟨u0,u1,u2,u3,h1,h2⟩,h3⟩
  obtain⟨ks,hkl,hks⟩:=hex;have hlen:ks.length=len:=by omega
  have hLK:ks.length<=LK:=by unfold LK;unfold reachBytes at hcap;omega
  refine⟨.nd k m s ks,_,_,_,_,rfl,?_,?_,?_⟩
  ·rw[<-hlen];refine NV.shut hf hLK (by omega) fun i hi=>?_;obtain⟨⟨u0,u1,u2,u3,hc,hn⟩,_⟩:=hks i hi (by omega);obtain⟨_,_,hcell⟩:=World.cells?_some hc;refine⟨a,u0,u1,u2,u3,rfl,trivial,⟨?_,?_,?_,?_⟩,hn⟩
   ·have:=hcell 0 (by omega);simpa[Addr.add] using this
   ·have:=hcell 1 (by omega);simpa[Addr.add] using this
   ·have:=hcell 2 (by omega);simpa[Addr.add] using this
   ·have:=hcell 3 (by omega);simpa[Addr.add] using this
  ·simp only[T.ks_nd];omega
  ·have hb:=zm6 ks (elems.map (·.1)) (by simp[hkl]) (fun i h h'=>by
    have:=(hks i h (by simpa using h')).2;simpa using this)
   simp only[size,List.map_cons,List.map_nil,Rows.uptoBulk,Rows.uptoBulkAll];omega
end
theorem Tryz.own:ownKnob Tryz.prog.godebug=none:=by kernel_rfl
theorem Tryz.laidOut:laidOutB Tryz.prog=true:=by kernel_rfl
theorem zti:Tryz.prog.cellsOf 83=3:=by kernel_rfl
theorem zwx:Tryz.prog.bytesOf 83=32:=by kernel_rfl
section
variable {H:Type} {enc:TypeId×Value->H} {w:World} {held:Bool}
theorem znH {ty E:TypeId} {n b:Nat} (ht:Tryz.prog.underlying ty=some (.slice E)) (hc:Tryz.prog.cellsOf E=n) (hb:Tryz.prog.bytesOf E=b) {fuel:Nat} {cs:List Value} {x:DataW H×List MemPlace}
  (h:DataW.trod enc Tryz.prog w 0 (fun _=>true) held fuel ty cs=some x) (hw:∀ q∈x.1.weights Tryz.prog ty,q<=reachBytes) :
  cs=[.slice none 0 0]\/∃ a len cap,cs=[.slice (some a) len cap]/\len<=cap/\cap*b<=reachBytes/\∀ i,i<len->∃ cs' y n',w.cells? 0 (a.add (i*n)) n=some cs'/\DataW.trod enc Tryz.prog w 0 (fun _=>true) held n' E cs'=some y/\∀ q∈y.1.weights Tryz.prog E,q<=reachBytes:=by
 have hsl:=DataW.trod_slice ht h;rcases hsl with⟨e3,e3'⟩|⟨a,len,cap,elems,rest,n',hn',e3,e3',_,hl,hm,hel,hat,hsp,_⟩
 ·exact .inl e3
 ·refine .inr ⟨a,len,cap,e3,hl,?_,?_⟩
  ·obtain⟨hrl,_⟩:=hsp rfl;subst e3';simp only[DataW.weights,ht,hb] at hw;have:=hw _ (List.mem_cons_self ..);simp only[List.length_map] at this;rw[hel,hrl] at this;rw[show cap=len+(cap-len) by omega];exact this
  ·intro i hi;subst e3';simp only[DataW.weights,ht,hb] at hw;have hi':i<elems.length:=by omega
   have h1:=hat i (by omega);rw[List.getElem?_eq_getElem hi',hc] at h1;obtain⟨cs',hcs,ht'⟩:=Option.bind_eq_some_iff.1 h1;exact⟨cs',elems[i],n',hcs,ht',fun q hq=>hw q (List.mem_cons_of_mem _ (List.mem_append_left _ (zl0 (List.mem_map_of_mem (List.getElem_mem hi')) q hq)))⟩
theorem zv5 {fuel:Nat} {cs:List Value} {x:DataW H×List MemPlace} (h:DataW.trod enc Tryz.prog w 0 (fun _=>true) held fuel 83 cs=some x) :
  ∃ v:VD,cs=[.string v.s,.int .u8 v.k,.int .i64 v.n]/\FldV v:=by
 have hts:=DataW.trod_struct Tryz.underlying83 h;obtain⟨xs,n,hfu,hx,hcl,hxl,hg⟩:=hts;rw[zti] at hcl
 match cs,hcl with
 | [c0,c1,c2],_ =>
 match xs,hxl with
 | [y0,y1,y2],_ =>
 have g0:=hg 0 _ rfl;have g1:=hg 1 _ rfl;have g2:=hg 2 _ rfl;obtain⟨s,e2,e2',ws⟩:=DataW.trod_string Tryz.underlying9 g0;obtain⟨k,e0,e0',wk⟩:=DataW.trod_int Tryz.underlying5 g1;obtain⟨m,e1,yF,wm⟩:=DataW.trod_int Tryz.underlying3 g2;injection e0 with e0;injection e1 with e1;injection e2 with e2;subst e0 e1 e2;refine⟨⟨s,k,m⟩,rfl,ws,?_,?_⟩
 ·have:=wk;simp[Lit.wf,IntKind.min,IntKind.max,IntKind.signed,IntKind.bits] at this;constructor<;>simp only<;>omega
 ·have:=wm;simp[Lit.wf,IntKind.min,IntKind.max,IntKind.signed,IntKind.bits] at this;constructor<;>simp only<;>omega
theorem zmd {α:Type} [Inhabited α] {n:Nat} {P:Nat->α->Prop} (h:∀ i,i<n->∃ x,P i x):∃ l:List α,l.length=n/\∀ i (hi:i<l.length),P i l[i]:=by
 obtain⟨f,hf⟩:=choose_lt h;exact⟨(List.range n).map f,by simp,fun i hi=>by simp only[List.getElem_map,List.getElem_range];exact hf i (by simpa using hi)⟩
instance:Inhabited VD:=⟨⟨⟨#[]⟩,0,0⟩⟩
theorem zrv {fuel:Nat} {cs:List Value} {x:DataW H×List MemPlace} (h:DataW.trod enc Tryz.prog w 0 (fun _=>true) held fuel 22 cs=some x) (hw:∀ q∈x.1.weights Tryz.prog 22,q<=reachBytes) :
  ∃ (A:Option Addr) (vs:List VD) (c:Nat),cs=[.slice A vs.length c]/\RowV w Any A vs/\vs.length<=4398046510976/\vs.length<=c:=by
 rcases znH Tryz.underlying22 zti zwx h hw with rfl|⟨a,len,cap,rfl,hl,hcap,hat⟩
 ·exact⟨none,[],0,rfl,fun i hi=>absurd hi (by simp),Nat.zero_le _,Nat.zero_le _⟩
 ·obtain⟨vs,hvl,hvs⟩:=zmd (n:=len) (P:=fun i (v:VD)=>w.cells? 0 (a.add (i*3)) 3=some [.string v.s,.int .u8 v.k,.int .i64 v.n]/\FldV v) fun i hi=>by
   obtain⟨cs',y,n',hcs,ht,_⟩:=hat i hi;obtain⟨v,rfl,hf⟩:=zv5 ht;exact⟨v,hcs,hf⟩
  refine⟨some a,vs,cap,by rw[hvl],fun i hi=>?_,by unfold reachBytes at hcap;omega,by omega⟩;obtain⟨hc,hf⟩:=hvs i hi;obtain⟨_,_,hcell⟩:=World.cells?_some hc;refine⟨a,rfl,trivial,⟨?_,?_,?_⟩,hf⟩
  ·have:=hcell 0 (by omega);simpa[Addr.add] using this
  ·have:=hcell 1 (by omega);simpa[Addr.add] using this
  ·have:=hcell 2 (by omega);simpa[Addr.add] using this
theorem zpw {fuel:Nat} {cs:List Value} {x:DataW H×List MemPlace} (h:DataW.trod enc Tryz.prog w 0 (fun _=>true) held fuel 22 cs=some x) (hw:∀ q∈x.1.weights Tryz.prog 22,q<=reachBytes) :
  ∃ (A:Option Addr) (vs:List VD) (c:Nat),cs=[.slice A vs.length c]/\RowV w Any A vs/\vs.length<=LV/\vs.length<=c:=by
 obtain⟨A,vs,c,h1,h2,h3,h4⟩:=zrv h hw;exact⟨A,vs,c,h1,h2,by unfold LV;omega,h4⟩
instance:Inhabited T:=⟨zeroT'⟩
theorem zqJ {t:T} {u0 u1 u2 u3:Value} (h:NV w Any t (.agg #[u0,u1,u2,u3])):∃ A c,u0=.int .u8 t.k/\u1=.int .i64 t.n/\u2=.string t.s/\u3=.slice A t.ks.length c/\NV w Any t (nv t.k t.n t.s A t.ks.length c):=by
 obtain⟨A,c,e,_⟩:=h.open_;have e':=e;simp only[nv,Value.agg.injEq,Array.mk.injEq,List.cons.injEq,and_true] at e;exact⟨A,c,e.1,e.2.1,e.2.2.1,e.2.2.2,e'▸h⟩
end
theorem zxg:Tryz.prog.cellsOf 24=1:=by kernel_rfl
theorem zu0:Tryz.prog.bytesOf 3=8:=by kernel_rfl
theorem zxi:Tryz.prog.bytesOf 24=24:=by kernel_rfl
theorem zrJ:Tryz.prog.cellsOf 26=3:=by kernel_rfl
section
variable {H:Type} {enc:TypeId×Value->H} {w:World} {held:Bool}
theorem zxh {a:Addr} {u:Value} (h:w.cells? 0 a 1=some [u]):w.cell? a=some u:=by
 obtain⟨_,_,hcell⟩:=World.cells?_some h;have:=hcell 0 (by omega);have e:a.add 0=a:=by
  obtain⟨b,o,l⟩:=a;rcases l with _|⟨l1,l2⟩<;>simp[Addr.add]
 rw[e] at this;simpa using this
theorem zn4 {fuel:Nat} {cs:List Value} {x:DataW H×List MemPlace} (h:DataW.trod enc Tryz.prog w 0 (fun _=>true) held fuel 24 cs=some x) (hw:∀ q∈x.1.weights Tryz.prog 24,q<=reachBytes) :
  ∃ (A:Option Addr) (l:List Int) (c:Nat),cs=[.slice A l.length c]/\RowI w Any A l/\l.length<=LI/\l.length<=c:=by
 rcases znH Tryz.underlying24 zra zu0 h hw with rfl|⟨a,len,cap,rfl,hl,hcap,hat⟩
 ·exact⟨none,[],0,rfl,fun i hi=>absurd hi (by simp),Nat.zero_le _,Nat.zero_le _⟩
 ·obtain⟨l,hvl,hvs⟩:=zmd (n:=len) (P:=fun i (x:Int)=>w.cells? 0 (a.add (i*1)) 1=some [.int .i64 x]/\I64 x) fun i hi=>by
   obtain⟨cs',y,n',hcs,ht,_⟩:=hat i hi;obtain⟨m,e1,yF,wm⟩:=DataW.trod_int Tryz.underlying3 ht;refine⟨m,by rw[hcs,e1],?_⟩;have:=wm;simp[Lit.wf,IntKind.min,IntKind.max,IntKind.signed,IntKind.bits] at this
   constructor<;>omega
  refine⟨some a,l,cap,by rw[hvl],fun i hi=>?_,by unfold LI;unfold reachBytes at hcap;omega,by omega⟩;obtain⟨hc,hf⟩:=hvs i hi;rw[Nat.mul_one] at hc;exact⟨a,rfl,trivial,zxh hc,hf⟩
instance:Inhabited (List Int):=⟨[]⟩
end
section
variable {H:Type} {enc:TypeId×Value->H} {w:World} {held:Bool}
theorem zqa {fuel:Nat} {cs:List Value} {x:DataW H×List MemPlace} (h:DataW.trod enc Tryz.prog w 0 (fun _=>true) held fuel 23 cs=some x) (hw:∀ q∈x.1.weights Tryz.prog 23,q<=reachBytes) :
  ∃ (A:Option Addr) (ls:List (List Int)) (c:Nat),cs=[.slice A ls.length c]/\znj w Any A ls/\(ls.length<=LI/\ls.length<=5864062014800)/\(∀ l∈ls,l.length<=LI)/\ls.length<=c:=by
 rcases znH Tryz.underlying23 zxg zxi h hw with rfl|⟨a,len,cap,rfl,hl,hcap,hat⟩
 ·exact⟨none,[],0,rfl,fun i hi=>absurd hi (by simp),⟨Nat.zero_le _,Nat.zero_le _⟩,by simp,Nat.zero_le _⟩
 ·obtain⟨ls,hvl,hvs⟩:=zmd (n:=len) (P:=fun i (l:List Int)=>∃ A' c',w.cells? 0 (a.add (i*1)) 1=some [.slice A' l.length c']/\RowI w Any A' l/\l.length<=LI/\l.length<=c') fun i hi=>by
   obtain⟨cs',y,n',hcs,ht,yl⟩:=hat i hi;obtain⟨A',l,c',e,hr,h1,h2⟩:=zn4 ht yl;exact⟨l,A',c',by rw[hcs,e],hr,h1,h2⟩
  refine⟨some a,ls,cap,by rw[hvl],fun i hi=>?_,⟨by unfold LI;unfold reachBytes at hcap;omega,by unfold reachBytes at hcap;omega⟩,fun l hl=>?_,by omega⟩
  ·obtain⟨A',c',hc,hr,h1,h2⟩:=hvs i hi;rw[Nat.mul_one] at hc;exact⟨a,A',c',rfl,trivial,zxh hc,h2,hr⟩
  ·obtain⟨i,hi,rfl⟩:=List.mem_iff_getElem.1 hl;obtain⟨A',c',hc,hr,h1,h2⟩:=hvs i hi;exact h1
theorem zp9 {fuel:Nat} {cs:List Value} {x:DataW H×List MemPlace} (h:DataW.trod enc Tryz.prog w 0 (fun _=>true) held fuel 26 cs=some x) (hw:∀ q∈x.1.weights Tryz.prog 26,q<=reachBytes) :
  ∃ (s:SS) (u0 u1 u2:Value),cs=[u0,u1,u2]/\SV w Any s (.agg #[u0,u1,u2])/\s.cells.length<=5864062014800:=by
 have hts:=DataW.trod_struct Tryz.underlying26 h;obtain⟨xs,n,hfu,hx,hcl,hxl,hg⟩:=hts;subst hx;rw[zrJ] at hcl
 match cs,hcl with
 | [c0,c1,c2],_ =>
 match xs,hxl with
 | [y0,y1,y2],_ =>
 have g0:=hg 0 _ rfl;have g1:=hg 1 _ rfl;have g2:=hg 2 _ rfl;have hw0:∀ q∈y0.1.weights Tryz.prog 23,q<=reachBytes:=fun q hq=>by
  refine hw q ?_;simp only[List.map_cons,List.map_nil,DataW.weights,Tryz.underlying26];simp only[DataW.weightsEach,List.mem_append];exact .inl hq
 have hw1:∀ q∈y1.1.weights Tryz.prog 24,q<=reachBytes:=fun q hq=>by
  refine hw q ?_;simp only[List.map_cons,List.map_nil,DataW.weights,Tryz.underlying26];simp only[DataW.weightsEach,List.mem_append];exact .inr (.inl hq)
 have hw2:∀ q∈y2.1.weights Tryz.prog 24,q<=reachBytes:=fun q hq=>by
  refine hw q ?_;simp only[List.map_cons,List.map_nil,DataW.weights,Tryz.underlying26];simp only[DataW.weightsEach,List.mem_append];exact .inr (.inr (.inl hq))
 obtain⟨A0,ls,k0,e0,hr0,hl0,hl0',hc0⟩:=zqa g0 hw0;obtain⟨A1,l1,k1,e1,hr1,hl1,hc1⟩:=zn4 g1 hw1;obtain⟨A2,l2,k2,e2,hr2,hl2,hc2⟩:=zn4 g2 hw2;injection e0 with e0;injection e1 with e1;injection e2 with e2;subst e0 e1 e2;exact⟨⟨ls,l1,l2⟩,_,_,_,rfl,⟨A0,k0,A1,k1,A2,k2,rfl,hr0,hr1,hr2,hc0,hc1,hc2,hl0.1,hl0',hl1,hl2⟩,hl0.2⟩
theorem zr8 {W:World} {base:Nat} {v:Value} {d:DataW H} {p:List MemPlace} (hok:Value.okWide Tryz.prog W .any base 26 v)
  (h:DataW.Trod enc Tryz.prog W 0 (fun _=>true) true 26 v d p) (hw:∀ n∈d.weights Tryz.prog 26,n<=reachBytes):∃ s,SV W Any s v/\s.cells.length<=5864062014800:=by
 obtain⟨cs,rfl,hcs⟩:=okWide_struct Tryz.underlying26 hok;obtain⟨fuel,hf⟩:=h;obtain⟨s,u0,u1,u2,e,hs,hlc⟩:=zp9 hf hw;refine⟨s,?_,hlc⟩;have:cs = #[u0,u1,u2]:=by
  apply Array.ext';simpa[Value.cells] using e
 rw[this];exact hs
end
theorem ztj:Tryz.prog.cellsOf 103=6:=by kernel_rfl
theorem zwy:Tryz.prog.bytesOf 103=96:=by kernel_rfl
theorem zww:Tryz.prog.cellsOf 35=6:=by kernel_rfl
section
variable {H:Type} {enc:TypeId×Value->H} {w:World} {held:Bool}
instance:Inhabited PR:=⟨⟨⟨#[]⟩,[],zeroT'⟩⟩
theorem zsu {fuel:Nat} {cs:List Value} {x:DataW H×List MemPlace} (h:DataW.trod enc Tryz.prog w 0 (fun _=>true) held fuel 103 cs=some x) (hw:∀ q∈x.1.weights Tryz.prog 103,q<=reachBytes) :
  ∃ (r:PR) (A1:Option Addr) (c1:Nat) (A2:Option Addr) (c2:Nat),cs=[.string r.s,.slice A1 r.ps.length c1,.int .u8 r.b.k,.int .i64 r.b.n,.string r.b.s,.slice A2 r.b.ks.length c2]/\PrR w Any r A1 c1 A2 c2:=by
 have hts:=DataW.trod_struct Tryz.underlying103 h;obtain⟨xs,n,hfu,hx,hcl,hxl,hg⟩:=hts;subst hx;rw[ztj] at hcl
 match cs,hcl with
 | [c0,c1,c2,c3,c4,c5],_ =>
 match xs,hxl with
 | [y0,y1,y2],_ =>
 have g0:=hg 0 _ rfl;have g1:=hg 1 _ rfl;have g2:=hg 2 _ rfl;have hw1:∀ q∈y1.1.weights Tryz.prog 22,q<=reachBytes:=fun q hq=>by
  refine hw q ?_;simp only[List.map_cons,List.map_nil,DataW.weights,Tryz.underlying103];simp only[DataW.weightsEach,List.map_cons,List.map_nil,List.mem_append];exact .inr (.inl hq)
 have hw2:∀ q∈y2.1.weights Tryz.prog 29,q<=reachBytes:=fun q hq=>by
  refine hw q ?_;simp only[List.map_cons,List.map_nil,DataW.weights,Tryz.underlying103];simp only[DataW.weightsEach,List.map_cons,List.map_nil,List.mem_append];exact .inr (.inr (.inl hq))
 obtain⟨s,e0,_,ws⟩:=DataW.trod_string Tryz.underlying9 g0;obtain⟨A1,ps,k1,e1,hrow,hlp,hlc⟩:=zpw g1 hw1;obtain⟨t,u0,u1,u2,u3,e2,hn,_,_⟩:=zpx _ _ _ g2 hw2;obtain⟨A2,k2,rfl,rfl,rfl,rfl,hn'⟩:=zqJ hn;injection e0 with e0;injection e1 with e1;change List.take (Tryz.prog.cellsOf 29) [c2,c3,c4,c5]=_ at e2;rw[zng] at e2;simp only[List.take_succ_cons,List.take_zero,List.cons.injEq,and_true] at e2;obtain⟨rfl,rfl,rfl,rfl⟩:=e2;subst e0 e1;exact⟨⟨s,ps,t⟩,A1,k1,A2,k2,rfl,ws,hrow,hlp,hlc,hn'⟩
theorem zrw {fuel:Nat} {cs:List Value} {x:DataW H×List MemPlace} (h:DataW.trod enc Tryz.prog w 0 (fun _=>true) held fuel 33 cs=some x) (hw:∀ q∈x.1.weights Tryz.prog 33,q<=reachBytes) :
  ∃ (A:Option Addr) (ps:List PR) (c:Nat),cs=[.slice A ps.length c]/\RowP w Any A ps/\ps.length<=LV/\ps.length<=c:=by
 rcases znH Tryz.underlying33 ztj zwy h hw with rfl|⟨a,len,cap,rfl,hl,hcap,hat⟩
 ·exact⟨none,[],0,rfl,fun i hi=>absurd hi (by simp),Nat.zero_le _,Nat.zero_le _⟩
 ·obtain⟨ps,hvl,hvs⟩:=zmd (n:=len) (P:=fun i (r:PR)=>∃ A1 c1 A2 c2,w.cells? 0 (a.add (i*6)) 6=some [.string r.s,.slice A1 r.ps.length c1,.int .u8 r.b.k,.int .i64 r.b.n,.string r.b.s,.slice A2 r.b.ks.length c2]/\PrR w Any r A1 c1 A2 c2) fun i hi=>by
   obtain⟨cs',y,n',hcs,ht,yl⟩:=hat i hi;obtain⟨r,A1,c1,A2,c2,rfl,hr⟩:=zsu ht yl;exact⟨r,A1,c1,A2,c2,hcs,hr⟩
  refine⟨some a,ps,cap,by rw[hvl],fun i hi=>?_,by unfold LV;unfold reachBytes at hcap;omega,by omega⟩;obtain⟨A1,c1,A2,c2,hc,hr⟩:=hvs i hi;obtain⟨_,_,hcell⟩:=World.cells?_some hc;refine⟨a,A1,c1,A2,c2,rfl,trivial,⟨?_,?_,?_,?_,?_,?_⟩,hr⟩
  ·have:=hcell 0 (by omega);simpa[Addr.add] using this
  ·have:=hcell 1 (by omega);simpa[Addr.add] using this
  ·have:=hcell 2 (by omega);simpa[Addr.add] using this
  ·have:=hcell 3 (by omega);simpa[Addr.add] using this
  ·have:=hcell 4 (by omega);simpa[Addr.add] using this
  ·have:=hcell 5 (by omega);simpa[Addr.add] using this
theorem zst {fuel:Nat} {cs:List Value} {x:DataW H×List MemPlace} (h:DataW.trod enc Tryz.prog w 0 (fun _=>true) held fuel 35 cs=some x) (hw:∀ q∈x.1.weights Tryz.prog 35,q<=reachBytes) :
  ∃ (p:PG) (A1:Option Addr) (c1:Nat) (A2:Option Addr) (c2:Nat) (A3:Option Addr) (c3:Nat),cs=[.slice A1 p.vs.length c1,.slice A2 p.prs.length c2,.int .u8 p.m.k,.int .i64 p.m.n,.string p.m.s,.slice A3 p.m.ks.length c3]/\PgR w Any p A1 c1 A2 c2 A3 c3:=by
 have hts:=DataW.trod_struct Tryz.underlying35 h;obtain⟨xs,n,hfu,hx,hcl,hxl,hg⟩:=hts;subst hx;rw[zww] at hcl
 match cs,hcl with
 | [c0,c1,c2,c3,c4,c5],_ =>
 match xs,hxl with
 | [y0,y1,y2],_ =>
 have g0:=hg 0 _ rfl;have g1:=hg 1 _ rfl;have g2:=hg 2 _ rfl;have hw0:∀ q∈y0.1.weights Tryz.prog 22,q<=reachBytes:=fun q hq=>by
  refine hw q ?_;simp only[List.map_cons,List.map_nil,DataW.weights,Tryz.underlying35];simp only[DataW.weightsEach,List.map_cons,List.map_nil,List.mem_append];exact .inl hq
 have hw1:∀ q∈y1.1.weights Tryz.prog 33,q<=reachBytes:=fun q hq=>by
  refine hw q ?_;simp only[List.map_cons,List.map_nil,DataW.weights,Tryz.underlying35];simp only[DataW.weightsEach,List.map_cons,List.map_nil,List.mem_append];exact .inr (.inl hq)
 have hw2:∀ q∈y2.1.weights Tryz.prog 29,q<=reachBytes:=fun q hq=>by
  refine hw q ?_;simp only[List.map_cons,List.map_nil,DataW.weights,Tryz.underlying35];simp only[DataW.weightsEach,List.map_cons,List.map_nil,List.mem_append];exact .inr (.inr (.inl hq))
 obtain⟨A1,vs,k1,e0,hrow,hlv,hlvc⟩:=zpw g0 hw0;obtain⟨A2,ps,k2,e1,hrp,hlp,hlpc⟩:=zrw g1 hw1;obtain⟨t,u0,u1,u2,u3,e2,hn,_,_⟩:=zpx _ _ _ g2 hw2;obtain⟨A3,k3,rfl,rfl,rfl,rfl,hn'⟩:=zqJ hn;injection e0 with e0;injection e1 with e1;change List.take (Tryz.prog.cellsOf 29) [c2,c3,c4,c5]=_ at e2;rw[zng] at e2;simp only[List.take_succ_cons,List.take_zero,List.cons.injEq,and_true] at e2;obtain⟨rfl,rfl,rfl,rfl⟩:=e2;subst e0 e1;exact⟨⟨vs,ps,t⟩,A1,k1,A2,k2,A3,k3,rfl,hrow,hlv,hlvc,hrp,hlp,hlpc,hn'⟩
end
theorem zv3 {H:Type} {enc:TypeId×Value->H} {W:World} {base:Nat} {v:Value} {d:DataW H} {p:List MemPlace} (hok:Value.okWide Tryz.prog W .any base 35 v)
  (h:DataW.Trod enc Tryz.prog W 0 (fun _=>true) true 35 v d p) (hw:∀ n∈d.weights Tryz.prog 35,n<=reachBytes):∃ g,PV W Any g v:=by
 obtain⟨cs,rfl,hcs⟩:=okWide_struct Tryz.underlying35 hok;obtain⟨fuel,hf⟩:=h;obtain⟨g,A1,c1,A2,c2,A3,c3,e,hr⟩:=zst hf hw;refine⟨g,A1,c1,A2,c2,A3,c3,?_,hr⟩;have:cs = #[.slice A1 g.vs.length c1,.slice A2 g.prs.length c2,.int .u8 g.m.k,.int .i64 g.m.n,.string g.m.s,.slice A3 g.m.ks.length c3]:=by
  apply Array.ext';simpa[Value.cells] using e
 rw[this]
end Go.Proofs.YtckhofdinldhpaaGreat
