/-
  Texts of the proof, put together without their remarks: Each, Simp, Prg, Sz, Sml, Fx, Ac, Smp, Smr, Awake, Fw, Lsr, Lift.
-/
import Derived.Test.YtckhofdinldhpaaGreatR12
import Derived.Deep.RegionLaw
import Derived.Deep.DeepCutAuto
import Derived.Deep.RegionHeld3
import Derived.BigQuiet
import Derived.Test.YtckhofdinldhpaaGreatRows
import Derived.ProofKit
import Derived.SizedLaws
import Derived.Deep.Slices
import Derived.Deep.Fields
import Derived.Lib.SmallJoins
set_option linter.unusedSimpArgs false
set_option linter.unusedVariables false
set_option maxHeartbeats 8000000
set_option maxRecDepth 100000
namespace Go.Proofs.YtckhofdinldhpaaGreat
open Go.RowKit
theorem zLb (k n:Int) (s:ByteArray) (w:World):(Instr.build 29 #[(0,.int .u8 k),(1,.int .i64 n),(2,.string s)]).run Tryz.prog w=.ok (nv k n s none 0 0) w:=by kernel_rfl
theorem zzY:IsFn Tryz.prog 125 Tryz.f125:=⟨Tryz.func125,by kernel_rfl,by kernel_rfl⟩
def MapC (f:FuncId) (F:T->T) (t:T):Prop:=∀ (v:Value) (w:World),NV w Any t v->Calls Tryz.prog f #[v] w (znV w (F t))
theorem zym (t:T) (v:Value) (w:World) (hv:NV w Any t v) (F:T->T) (hF:∀ kid∈t.ks,MapC 125 F kid) :
  Calls Tryz.prog 124 #[v,.func (.func 125) #[] #[]] w (znV w (.nd t.k t.n t.s (t.ks.map F))):=by
 obtain⟨i0,hi0,hz0,hz1,hz2⟩:=info_parts zn7;obtain⟨A,c,rfl,hf,hlk,hlc,hrow⟩:=hv.open_;have ak:=zkx hlk;have HF:=zh hF;clear hF hv;generalize t.k=k,t.n=n,t.s=s,t.ks=ks at *
 have hbs:=zr3;have hb3:=zLb;go_enter Tryz.func124,Tryz.ntmps124;go_wp2_with fail
 go_loopw [18] (fun i wr=>∃ (j:Nat) (A':Option Addr) (c':Nat),j<=ks.length/\i=.int .i64 j/\j<=c'/\Bld w wr 29 k n s A ks.length c k n s (From (w.heap.size+3)) (.slice A' j c') ((ks.take j).map F)) (fun i _=>ks.length-(intOf i).toNat)
 case atStart=>exact⟨0,none,0,Nat.zero_le _,rfl,Nat.zero_le _,Bld.start w _ k n s A _ c k n s _ (fun b hb=>.inr hb)⟩
 case round =>
  obtain⟨j,A',c',hj,rfl,hjc,hs⟩:=hrel;by_cases hlt:j<ks.length
  ·obtain⟨a,t,A1,c1,rfl,_,Ht,⟨q0,q1,q2,q3⟩,hn⟩:=(hrow.later hs.below).nd hlt;have hF1:=HF.out ks[j] (List.getElem_mem hlt);rw[Ht.out] at hF1;have jV:=zh hF1;have g3:wr.cell? ⟨w.heap.size+1+1,3,none⟩=some (.slice A' j c'):=zc hs.box rfl;have g3':=zke g3;have hsz:=hs.size;have hlen1:((ks.take j).map F).length+1<=LK:=by simp;exact Nat.le_trans (by omega) hlk
   clear hF1 hrow;go_wp2_with fail
   go_region_law (first
    | (refine zlM (by rfl) (.tmp 24) (.tmp 25) _ (by rfl) 125 _ zzY (by rfl) _ (by rfl) _ (zvx (jV.out _ _ (hn.later ((Below.refl _ _).alloc (Nat.le_refl _) _).drew))) ?_;rintro v1 w1 ⟨k1,n1,s1,A2,l1,c2,rfl,hn1,hb1⟩;have hx:=zb hb1 (g3' _);have hx':=zke hx;have hs1:=hs.later (((Below.refl _ _).alloc (Nat.le_refl _) _).drew.trans (hb1.mono (by simp))))
    | (refine zoP (by rfl) (.tmp 23) (.tmp 27) 27 (by rfl) 29 i0 _ Tryz.underlying27 hi0 hz0 hz1 hz2 rfl (w.heap.size+3) (From (w.heap.size+3)) (.slice A' j c') _ (by rfl) hs1.own (F t) k1 n1 s1 A2 l1 c2 (by rfl) (hn1.mono (zvU hs.own hsz)) hlen1 hs1.size ?_;intro v2 w2 hown2 hg2 dZ;obtain⟨A3,c3,hv3,hc3,_,_⟩:=hown2.row;have hst:=hs1.put hown2 hg2;have hbx:=(hg2.block _ (zki hs1.box) (zvs hs1.own)).trans hs1.box;have hy0:w2.cell? ⟨w.heap.size+1+1,3,none⟩=some (.slice A' j c'):=zc hbx rfl;have hy1:w2.frozen? ⟨w.heap.size+1+1,3,none⟩=false:=zf hbx;rw[hv3] at hst;have HST:=zh hst;have gH:=zh hc3;clear hst hc3;rw[hv3]))
   all_goals
    have hst:=HST.out;have hc3:=gH.out;have e1:((ks.take j).map F++[F t]).length=j+1:=by simp;omega
    have e2:(ks.take j).map F++[F t]=(ks.take (j+1)).map F:=by rw[List.take_succ_eq_append_getElem hlt,Ht.out];simp
    rw[e1] at hst hc3;rw[e2] at hst;have HX:=zh hst;clear e1 e2 hst;go_wp2_with fail
    go_roundw
    case rel=>exact⟨j+1,A3,c3,by omega,by go_num,hc3,HX.out⟩
    case measure=>simp[intOf];omega
  ·obtain rfl:j=ks.length:=by omega
   rw[List.take_of_length_le (by omega)] at hs;have g0:wr.cell? ⟨w.heap.size+1+1,0,none⟩=some (.int .u8 k):=zc hs.box rfl;have g1:wr.cell? ⟨w.heap.size+1+1,1,none⟩=some (.int .i64 n):=zc hs.box rfl;have g2:wr.cell? ⟨w.heap.size+1+1,2,none⟩=some (.string s):=zc hs.box rfl;have g3:wr.cell? ⟨w.heap.size+1+1,3,none⟩=some (.slice A' ks.length c'):=zc hs.box rfl;have r0:wr.cell? ⟨w.heap.size+1,0,none⟩=some (.int .u8 0):=zc hs.res rfl;have r1:wr.cell? ⟨w.heap.size+1,1,none⟩=some (.int .i64 0):=zc hs.res rfl;have r2:wr.cell? ⟨w.heap.size+1,2,none⟩=some (.string ⟨#[]⟩):=zc hs.res rfl;have r3:wr.cell? ⟨w.heap.size+1,3,none⟩=some (.slice none 0 0):=zc hs.res rfl;have rz:∀ i,wr.frozen? ⟨w.heap.size+1,i,none⟩=false:=fun i=>zf hs.res;have hr:=hs.result hf rfl;clear hrow;go_wp2_with fail
   refine bodyPost_ret (v:=nv k n s A' ks.length c') (by simp[results,Tryz.results124,go_sem,r0,r1,r2,r3]) rfl ⟨k,n,s,A',ks.length,c',rfl,hr.1.mono ?_,hr.2⟩;intro b hb;rcases hb with hb|hb
   ·exact Nat.le_trans (by omega) hb
   ·exact Nat.le_trans (by omega) hb
theorem zph (t:T) (h57:MapC 77 simp t):MapC 125 skF t:=by
 intro v w hv;have HV:=zh hv;obtain⟨A,c,rfl,hf,hlk,hlc,hrow⟩:=hv.open_;have H57:=zh h57;have HX:=zh (show skF t=if t.k==57 then simp t else t from rfl);clear hf hlk hrow hv hlc h57;generalize t.k=k,t.n=n,t.s=s,t.ks.length=l at *
 have hb2:∀ o o',Below w.heap.size w ((w.alloc o).alloc o'):=fun o o'=>((Below.refl _ _).alloc (Nat.le_refl _) _).alloc (by simp) _;have HB2:=zh hb2;clear hb2
 cases hk:(k==57)
 all_goals
  have bf:=HX.out;rw[hk] at bf;simp only[if_true,Bool.false_eq_true,if_false] at bf;have jS:=zh bf;clear bf HX;go_enter Tryz.func125,Tryz.ntmps125;go_wp2_with fail
  first
   | refine(zmE t _ _ (HV.out.later (HB2.out _ _))).mono ?_
   | refine(H57.out _ _ (HV.out.later (HB2.out _ _))).mono ?_
  rintro e w1 ⟨k1,n1,s1,A1,l1,c1,rfl,hn1,hb1⟩;have hsz:w.heap.size+2<=w1.heap.size:=by have:=hb1.size;simpa using this
  have hbb:Below w.heap.size w w1:=(HB2.out _ _).trans (hb1.mono (by simp;omega));have r0:w1.cell? ⟨w.heap.size+1,0,none⟩=some (.int .u8 0):=zb hb1 (by simp);have r1:w1.cell? ⟨w.heap.size+1,1,none⟩=some (.int .i64 0):=zb hb1 (by simp);have r2:w1.cell? ⟨w.heap.size+1,2,none⟩=some (.string ⟨#[]⟩):=zb hb1 (by simp);have r3:w1.cell? ⟨w.heap.size+1,3,none⟩=some (.slice none 0 0):=zb hb1 (by simp);have rz:∀ i,w1.frozen? ⟨w.heap.size+1,i,none⟩=false:=fun i=>by
   rw[hb1.frozen (p:=⟨w.heap.size+1,i,none⟩) (by simp)];simp
  go_wp2_with fail;refine bodyPost_ret (v:=nv k1 n1 s1 A1 l1 c1) (by simp[results,Tryz.results125,go_sem,r0,r1,r2,r3]) rfl ⟨k1,n1,s1,A1,l1,c1,rfl,?_,?_⟩
  ·rw[jS.out];refine hn1.keep (fun b hb _=>Nat.le_trans (by simp;omega) hb) fun b hb _=>?_;have hb':w.heap.size+2<=b:=by simpa using hb
   rw[Below.heap_setCell _ _ _ _ (by simp;omega),Below.heap_setCell _ _ _ _ (by simp;omega),Below.heap_setCell _ _ _ _ (by simp;omega),Below.heap_setCell _ _ _ _ (by simp;omega)]
  ·exact(((hbb.setCell (by simp) _).setCell (by simp) _).setCell (by simp) _).setCell (by simp) _
theorem zKs (w:World):(Instr.build 29 #[(0,.int .u8 57)]).run Tryz.prog w=.ok (nv 57 0 ⟨#[]⟩ none 0 0) w:=by kernel_rfl
theorem zqM (k n:Int) (s:ByteArray) (ks:List T) (hF:∀ kid∈ks,∀ kk∈kid.ks,MapC 125 skF kk):MapC 77 simp (.nd k n s ks):=by
 intro v w hv;obtain⟨i0,hi0,hz0,hz1,hz2⟩:=info_parts zn7;obtain⟨A,c,rfl,hf,hlk,hlc,hrow⟩:=hv.open_;simp only[T.k_nd,T.n_nd,T.s_nd,T.ks_nd] at *
 have ak:=zkx hlk;have HF:=zh hF;clear hF hv hf;have hbs:=zr3;have hb57:=zKs;go_enter Tryz.func77,Tryz.ntmps77;go_wp2_with fail
 go_loopw [12] (fun i wr=>∃ (j:Nat) (A':Option Addr) (c':Nat) (L:List T),j<=ks.length/\i=.int .i64 j/\L.length<=c'/\Hid (L=foldC (stms (ks.take j)))/\Bld w wr 29 k n s A ks.length c 57 0 ⟨#[]⟩ (From (w.heap.size+3)) (.slice A' L.length c') L) (fun i _=>ks.length-(intOf i).toNat)
 case atStart=>exact⟨0,none,0,[],Nat.zero_le _,rfl,Nat.zero_le _,by simp[stms,foldC,Hid],Bld.start w _ k n s A _ c 57 0 ⟨#[]⟩ _ (fun b hb=>.inr hb)⟩
 case round =>
  obtain⟨j,A',c',L,hj,rfl,hjc,HL,hs⟩:=hrel;by_cases hlt:j<ks.length
  ·obtain⟨a,t,A1,c1,rfl,_,Ht,⟨q0,q1,q2,q3⟩,hn⟩:=(hrow.later hs.below).nd hlt;have hF1:=HF.out ks[j] (List.getElem_mem hlt);rw[Ht.out] at hF1;have jV:=zh hF1;have hsz:=hs.size;have hLlen:L.length<=j:=by rw[HL.out];exact Nat.le_trans (zvV _) (by rw[zn1];simp;omega)
   have HN:=zh (show stms (ks.take (j+1))=stms (ks.take j)++[stm t] by rw[zn1,zn1,List.take_succ_eq_append_getElem hlt,Ht.out];simp);clear hF1 hrow;go_wp2_with fail;refine(zym t _ _ (hn.later ((Below.refl _ _).alloc (Nat.le_refl _) _)) skF jV.out).mono ?_;rintro e w1 ⟨k1,n1,s1,A2,l1,c2,rfl,hn1,hb1⟩;have HS : .nd t.k t.n t.s (t.ks.map skF)=stm t:=by cases t;simp[stm,zss]
   rw[HS] at hn1;have hb01:Below wr.heap.size wr w1:=((Below.refl _ _).alloc (Nat.le_refl _) _).trans (hb1.mono (by simp));have hs1:=hs.later hb01;have hsz1:=hs1.size;have g3:=zke (show w1.cell? ⟨w.heap.size+1+1,3,none⟩=some (.slice A' L.length c') from zc hs1.box rfl);clear HS;rcases List.eq_nil_or_concat L with hnil|⟨L0,x,hL⟩
   ·subst hnil;simp only[List.length_nil] at *
    go_wp2_with fail
    go_quiet (fail)
    have hbW:=below_drewN ((Below.refl w1.heap.size w1).alloc (Nat.le_refl _) (.cells #[.int .u8 k1,.int .i64 n1,.string s1,.slice A2 l1 c2] 29)) nq;have gL:=hs1.later hbW;have wJ:=zzf hs.own hsz hn1 hbW;have hl1:([]:List T).length+1<=LK:=by unfold LK;decide
    have lF:=zh (show[stm t]=foldC (stms (ks.take (j+1))) by rw[HN.out,zlB,<-HL.out,zpe]);clear hn1 hb1 hbW;go_wp2_with (at_builtin;refine zmc rfl (.tmp 39) (.tmp 41) 27 rfl 29 i0 _ Tryz.underlying27 hi0 hz0 hz1 hz2 rfl (w.heap.size+3) (From (w.heap.size+3)) (.slice A' 0 c') [] rfl gL.own (stm t) k1 n1 s1 A2 l1 c2 (w1.heap.size+1) (by simp) rfl wJ hl1 gL.size ?_;intro v2 w2 hown2 hg2 dZ;obtain⟨A3,c3,hv3,hc3,_,_⟩:=hown2.row;have hst:=gL.put hown2 hg2;have hbx:=(hg2.block _ (zki gL.box) (zvs gL.own)).trans gL.box;have hy0:w2.cell? ⟨w.heap.size+1+1,3,none⟩=some (.slice A' 0 c'):=zc hbx rfl;have hy1:w2.frozen? ⟨w.heap.size+1+1,3,none⟩=false:=zf hbx;rw[hv3] at hst;have HST:=zh hst;have gH:=zh hc3;clear hst hc3;rw[hv3])
    go_roundw
    case rel=>exact⟨j+1,A3,c3,[stm t],by omega,by go_num,gH.out,lF.out,HST.out⟩
    case measure=>simp[intOf];omega
   ·rw[List.concat_eq_append] at hL;subst hL;simp only[List.length_append,List.length_cons,List.length_nil,Nat.zero_add] at hs hs1 g3 hjc hLlen;obtain⟨A4,c4,hv4,_,_,hA4⟩:=hs1.own.row;injection hv4 with e1 e2 e3;subst e1 e3;have hA':∃ g,A'=some ⟨g,0,none⟩/\g<w1.heap.size:=by
     rcases A' with _|a'
     ·exfalso
      obtain⟨xs,ho,_,_⟩:=hs1.own;rcases ho.2 with⟨e,h0⟩|⟨g,_,_,e,_⟩
      ·simp at h0
      ·cases e
     ·obtain⟨g,rfl,_,hlt,_⟩:=hA4 a' rfl;exact⟨g,rfl,hlt⟩
    obtain⟨g,rfl,hglt⟩:=hA';have mE:L0.length<(L0++[x]).length:=by simp
    obtain⟨t0,A0,c0,H0,z0,z1,z2,z3,hn0⟩:=hs1.own.nd mE;have ex:x=t0:=by have:=H0.out;simpa using this
    subst ex;have i1:(0:Int)<=(L0.length:Int):=by omega
    have i2:(L0.length:Int)<(L0.length:Int)+1:=by omega
    have i3:L0.length+1<=2513169434916:=by omega
    clear hA4 e2 H0;have HS:∀ w',Below (w1.heap.size+1) (w1.alloc (.cells #[.int .u8 k1,.int .i64 n1,.string s1,.slice A2 l1 c2] 29)) w'->(w'.cell? ⟨w.heap.size+1+1,3,none⟩=some (.slice (some ⟨g,0,none⟩) (L0.length+1) c')/\(w'.cell? ⟨g,L0.length*4,none⟩=some (.int .u8 x.k)/\w'.cell? ⟨g,L0.length*4+1,none⟩=some (.int .i64 x.n)/\w'.cell? ⟨g,L0.length*4+2,none⟩=some (.string x.s)/\w'.cell? ⟨g,L0.length*4+3,none⟩=some (.slice A0 x.ks.length c0)) /\
     (w'.cell? ⟨w1.heap.size,0,none⟩=some (.int .u8 k1)/\w'.cell? ⟨w1.heap.size,1,none⟩=some (.int .i64 n1)/\w'.cell? ⟨w1.heap.size,2,none⟩=some (.string s1)/\w'.cell? ⟨w1.heap.size,3,none⟩=some (.slice A2 l1 c2))):=by
     intro w' h;have hh:Below (w1.alloc (.cells #[.int .u8 k1,.int .i64 n1,.string s1,.slice A2 l1 c2] 29)).heap.size (w1.alloc (.cells #[.int .u8 k1,.int .i64 n1,.string s1,.slice A2 l1 c2] 29)) w':=h.mono (by simp);refine⟨zb hh (g3 _),⟨zb hh (zke z0 _),zb hh (zke z1 _),zb hh (zke z2 _),zb hh (zke z3 _)⟩,zb hh (by simp),zb hh (by simp),zb hh (by simp),zb hh (by simp)⟩
    have bG:=zh HS;clear HS;go_wp2_with fail
    go_region_held3 (fun w'=>(w'.cell? ⟨w.heap.size+1+1,3,none⟩=some (.slice (some ⟨g,0,none⟩) (L0.length+1) c')/\(w'.cell? ⟨g,L0.length*4,none⟩=some (.int .u8 x.k)/\w'.cell? ⟨g,L0.length*4+1,none⟩=some (.int .i64 x.n)/\w'.cell? ⟨g,L0.length*4+2,none⟩=some (.string x.s)/\w'.cell? ⟨g,L0.length*4+3,none⟩=some (.slice A0 x.ks.length c0)) /\
     (w'.cell? ⟨w1.heap.size,0,none⟩=some (.int .u8 k1)/\w'.cell? ⟨w1.heap.size,1,none⟩=some (.int .i64 n1)/\w'.cell? ⟨w1.heap.size,2,none⟩=some (.string s1)/\w'.cell? ⟨w1.heap.size,3,none⟩=some (.slice A2 l1 c2))))
     (first|exact bG.out _ (Below.refl _ _).drew|exact bG.out _ ((Below.refl _ _).drew.trans (hb2.mono (by simp))))
     (first|(go_at_call 75;refine(zpW x (stm t) _ _ _ (hn0.any.later ((Below.refl _ _).alloc (Nat.le_refl _) _).drew) (hn1.any.later ((Below.refl _ _).alloc (Nat.le_refl _) _).drew)).mono ?_;rintro e w2 ⟨rfl,hb2⟩))
    rename_i gP;clear gP;have hbW:Below w1.heap.size w1 w2:=((Below.refl _ _).alloc (Nat.le_refl _) _).drew.trans (hb2.mono (by simp));have gL:=hs1.later hbW;have wJ:=zzf hs.own hsz hn1 hbW;have hx3:w2.cell? ⟨w.heap.size+1+1,3,none⟩=some (.slice (some ⟨g,0,none⟩) (L0.length+1) c'):=zc gL.box rfl;have hf3:w2.frozen? ⟨w.heap.size+1+1,3,none⟩=false:=zf gL.box;have j6:=bG.out _ ((Below.refl _ _).drew.trans (hb2.mono (by simp)));obtain⟨_,_,y0,y1,y2,y3⟩:=j6
    cases hcn:canc x (stm t)
    ·have hl1:(L0++[x]).length+1<=LK:=by simp;unfold LK;omega
     have lF:=zh (show L0++[x]++[stm t]=foldC (stms (ks.take (j+1))) by rw[HN.out,zlB,<-HL.out,zlx hcn]);clear hn1 hb1 hbW;go_wp2_with (at_builtin;refine zmc rfl (.tmp 39) (.tmp 41) 27 rfl 29 i0 _ Tryz.underlying27 hi0 hz0 hz1 hz2 rfl (w.heap.size+3) (From (w.heap.size+3)) (.slice (some ⟨g,0,none⟩) (L0.length+1) c') (L0++[x]) rfl gL.own (stm t) k1 n1 s1 A2 l1 c2 w2.heap.size rfl rfl wJ hl1 gL.size ?_;intro v2 w4 hown2 hg2 dZ;obtain⟨A3,c3,hv3,hc3,_,_⟩:=hown2.row;have hst:=gL.put hown2 hg2;have hbx:=(hg2.block _ (zki gL.box) (zvs gL.own)).trans gL.box;have hy0:w4.cell? ⟨w.heap.size+1+1,3,none⟩=some (.slice (some ⟨g,0,none⟩) (L0.length+1) c'):=zc hbx rfl;have hy1:w4.frozen? ⟨w.heap.size+1+1,3,none⟩=false:=zf hbx;rw[hv3] at hst;have HST:=zh hst;have gH:=zh hc3;clear hst hc3;rw[hv3])
     go_roundw
     case rel =>
      have e:(L0++[x]++[stm t]).length=L0.length+2:=by simp
      have h:=HST.out;rw[e] at h;exact⟨j+1,A3,c3,L0++[x]++[stm t],by omega,by go_num,gH.out,lF.out,by rw[e];exact h⟩
     case measure=>simp[intOf];omega
    ·have lF:=zh (show L0=foldC (stms (ks.take (j+1))) by rw[HN.out,zlB,<-HL.out,zlG hcn]);have hst:=gL.put gL.own.pop (zlZ _ _);have HST:=zh hst;have i5:L0.length<=c':=by omega
     clear hst;go_wp2_with fail
     go_roundw
     case rel=>exact⟨j+1,some ⟨g,0,none⟩,c',L0,by omega,by go_num,i5,lF.out,HST.out⟩
     case measure=>simp[intOf];omega
  ·obtain rfl:j=ks.length:=by omega
   have g0:wr.cell? ⟨w.heap.size+1+1,0,none⟩=some (.int .u8 57):=zc hs.box rfl;have g1:wr.cell? ⟨w.heap.size+1+1,1,none⟩=some (.int .i64 0):=zc hs.box rfl;have g2:wr.cell? ⟨w.heap.size+1+1,2,none⟩=some (.string ⟨#[]⟩):=zc hs.box rfl;have g3:wr.cell? ⟨w.heap.size+1+1,3,none⟩=some (.slice A' L.length c'):=zc hs.box rfl;have r0:wr.cell? ⟨w.heap.size+1,0,none⟩=some (.int .u8 0):=zc hs.res rfl;have r1:wr.cell? ⟨w.heap.size+1,1,none⟩=some (.int .i64 0):=zc hs.res rfl;have r2:wr.cell? ⟨w.heap.size+1,2,none⟩=some (.string ⟨#[]⟩):=zc hs.res rfl;have r3:wr.cell? ⟨w.heap.size+1,3,none⟩=some (.slice none 0 0):=zc hs.res rfl;have rz:∀ i,wr.frozen? ⟨w.heap.size+1,i,none⟩=false:=fun i=>zf hs.res;have hr:=hs.result ⟨⟨by omega,by omega⟩,⟨by omega,by omega⟩,by decide⟩ rfl;have HX:=zh (show simp (.nd k n s ks)=.nd 57 0 ⟨#[]⟩ L by rw[simp,HL.out,List.take_of_length_le (by omega)]);clear hrow
   go_wp2_with fail;refine bodyPost_ret (v:=nv 57 0 ⟨#[]⟩ A' L.length c') (by simp[results,Tryz.results77,go_sem,r0,r1,r2,r3]) rfl ⟨57,0,⟨#[]⟩,A',L.length,c',rfl,?_,hr.2⟩;rw[HX.out];refine hr.1.mono ?_;intro b hb;rcases hb with hb|hb
   ·exact Nat.le_trans (by omega) hb
   ·exact Nat.le_trans (by omega) hb
theorem zpg (t:T):MapC 77 simp t/\∀ kid∈t.ks,MapC 77 simp kid:=by
 induction t using T.ind with
 | _ k n s ks ih =>
 refine⟨zqM k n s ks fun kid hk kk hkk=>zph kk ((ih kid hk).2 kk hkk),fun kid hk=>(ih kid hk).1⟩
theorem znB (t:T):MapC 77 simp t:=(zpg t).1
def zr7 (t:T):T:=if isB t then simp t else t
theorem zpX (t:T):MapC 72 zr7 t:=by
 intro v w hv;have HV:=zh hv;obtain⟨A,c,rfl,hf,hlk,hlc,hrow⟩:=hv.open_;have HX:=zh (show zr7 t=if isB t then simp t else t from rfl);clear hf hlk hrow hv hlc;generalize t.k=k,t.n=n,t.s=s,t.ks.length=l at *
 have hb2:∀ o o',Below w.heap.size w ((w.alloc o).alloc o'):=fun o o'=>((Below.refl _ _).alloc (Nat.le_refl _) _).alloc (by simp) _;have HB2:=zh hb2;clear hb2
 cases hk:isB t
 all_goals
  have bf:=HX.out;rw[hk] at bf;simp only[if_true,Bool.false_eq_true,if_false] at bf;have jS:=zh bf;clear bf HX;go_enter Tryz.func72,Tryz.ntmps72;go_wp2_with fail;refine(znW t _ _ (HV.out.later (HB2.out _ _))).mono ?_;rintro e w0 ⟨rfl,hb0⟩;have kJ:Below w.heap.size w w0:=(HB2.out _ _).trans (hb0.mono (by simp;omega));have hsz0:w.heap.size+2<=w0.heap.size:=by have:=hb0.size;simpa using this
  obtain⟨hc0,hf0⟩:=zlf hb0;go_wp2_with fail
  first
   | refine(zmE t _ _ (HV.out.later kJ)).mono ?_
   | refine(znB t _ _ (HV.out.later kJ)).mono ?_
  rintro e w1 ⟨k1,n1,s1,A1,l1,c1,rfl,hn1,hb1⟩;have hbb:Below w.heap.size w w1:=kJ.trans (hb1.mono kJ.size);have r0:w1.cell? ⟨w.heap.size+1,0,none⟩=some (.int .u8 0):=zb hb1 (zb hb0 (by simp));have r1:w1.cell? ⟨w.heap.size+1,1,none⟩=some (.int .i64 0):=zb hb1 (zb hb0 (by simp));have r2:w1.cell? ⟨w.heap.size+1,2,none⟩=some (.string ⟨#[]⟩):=zb hb1 (zb hb0 (by simp));have r3:w1.cell? ⟨w.heap.size+1,3,none⟩=some (.slice none 0 0):=zb hb1 (zb hb0 (by simp));have rz:∀ i,w1.frozen? ⟨w.heap.size+1,i,none⟩=false:=fun i=>by
   rw[hb1.frozen (p:=⟨w.heap.size+1,i,none⟩) (by simp;omega),hb0.frozen (p:=⟨w.heap.size+1,i,none⟩) (by simp)];simp
  clear hc0 hf0;go_wp2_with fail;refine bodyPost_ret (v:=nv k1 n1 s1 A1 l1 c1) (by simp[results,Tryz.results72,go_sem,r0,r1,r2,r3]) rfl ⟨k1,n1,s1,A1,l1,c1,rfl,?_,?_⟩
  ·rw[jS.out];refine hn1.keep (fun b hb _=>Nat.le_trans kJ.size hb) fun b hb _=>?_;have hb':w0.heap.size<=b:=hb;rw[Below.heap_setCell _ _ _ _ (by simp;omega),Below.heap_setCell _ _ _ _ (by simp;omega),Below.heap_setCell _ _ _ _ (by simp;omega),Below.heap_setCell _ _ _ _ (by simp;omega)]
  ·exact(((hbb.setCell (by simp) _).setCell (by simp) _).setCell (by simp) _).setCell (by simp) _
def mapR (F:T->T) (r:PR):PR:=⟨r.s,r.ps,F r.b⟩
def znz (p:PG):PG:=if zkE p then ⟨p.vs,p.prs.map (mapR simp),simp p.m⟩ else p
theorem zm2 {p:PG} (h:zkE p=true):znz p=⟨p.vs,p.prs.map (mapR simp),simp p.m⟩:=by unfold znz;rw[if_pos h]
theorem zxE {p:PG} (h:zkE p=false):znz p=⟨p.vs,p.prs.map (mapR id),id p.m⟩:=by
 unfold znz;rw[if_neg (by simp[h])];have:∀ l:List PR,l.map (mapR id)=l:=by intro l;induction l with|nil=>rfl|cons a l ih=>simp[mapR,ih]
 rw[this];rfl
theorem zz4:IsFn Tryz.prog 76 Tryz.f76:=⟨Tryz.func76,by kernel_rfl,by kernel_rfl⟩
theorem zrT:IsFn Tryz.prog 77 Tryz.f77:=⟨Tryz.func77,by kernel_rfl,by kernel_rfl⟩
def NewB (w:World) (t:T) (v:Value) (w':World):Prop:=∃ A c,v=nv t.k t.n t.s A t.ks.length c/\NV w' (From w.heap.size) t (nv t.k t.n t.s A t.ks.length c)/\Below w.heap.size w w'
theorem zvz {P:Program} {f:FuncId} {args:Array Value} {w:World} {t:T} (h:Calls P f args w (znV w t)):Calls P f args w fun e w'=>∃ v,e=.returned v/\NewB w t v w' :=
 h.mono fun e _ ⟨k,n,s,A,l,c,he,hn,hb⟩=>by
  obtain⟨A6,c6,e6,_⟩:=hn.open_;exact⟨_,he,A6,c6,e6,by rw[<-e6];exact hn,hb⟩
def NewL (w:World) (vs:List VD) (L:Nat) (e:Ending) (w':World):Prop:=∃ A' c',e=.returned (.slice A' L c')/\RowV w' (From w.heap.size) A' vs/\vs.length<=c'/\Below w.heap.size w w'
def zLH (w:World) (vs:List VD) (L:Nat) (v:Value) (w':World):Prop:=∃ A' c',v=.slice A' L c'/\RowV w' (From w.heap.size) A' vs/\vs.length<=c'/\Below w.heap.size w w'
theorem zxL {P:Program} {f:FuncId} {args:Array Value} {w:World} {vs:List VD} {L:Nat} (h:Calls P f args w (NewL w vs L)):Calls P f args w fun e w'=>∃ v,e=.returned v/\zLH w vs L v w' :=
 h.mono fun _ _ ⟨A,c,he,hn⟩=>⟨_,he,A,c,rfl,hn⟩
theorem zyd:IsFn Tryz.prog 78 Tryz.f78:=⟨Tryz.func78,by kernel_rfl,by kernel_rfl⟩
theorem zs5 (p:PG) (S0:Nat->Prop) (v:Value) (w:World) (hv:PV w S0 p v) (hlen:p.prs.length<=64) :
  Calls Tryz.prog 29 #[v] w fun e w'=>∃ v',e=.returned v'/\PV w' (From w.heap.size) (znz p) v'/\Below w.heap.size w w':=by
 obtain⟨i0,hi0,hz0,hz1,hz2⟩:=info_parts zKO;have hv':=hv;obtain⟨A1,c1,A2,c2,A3,c3,rfl,hr⟩:=hv;have HR:=zh hr;have hmm:=hr.main;obtain⟨L1,hL1⟩:∃ L,p.vs.length=L:=⟨_,rfl⟩
 obtain⟨L2,hL2⟩:∃ L,p.prs.length=L:=⟨_,rfl⟩
 obtain⟨k,hk⟩:∃ k,p.m.k=k:=⟨_,rfl⟩
 obtain⟨n,hn⟩:∃ n,p.m.n=n:=⟨_,rfl⟩
 obtain⟨s,hs⟩:∃ s,p.m.s=s:=⟨_,rfl⟩
 obtain⟨l3,hl3⟩:∃ l,p.m.ks.length=l:=⟨_,rfl⟩
 rw[hk,hn,hs,hl3] at hmm;rw[hL2] at hlen;rw[hL1,hL2,hk,hn,hs,hl3];rw[hL1,hL2,hk,hn,hs,hl3] at hv';have jU:=zh hL1;have HL2:=zh hL2;have xH:=zh hmm;have HV:=zh hv';obtain⟨vb,hvb⟩:∃ vb,zkE p=vb:=⟨_,rfl⟩
 have dD:=zh hvb;clear hr hmm hL1 hL2 hk hn hs hl3 hv' hvb;have hb38:=zKt;have q0:∀ o o',Below w.heap.size w ((w.alloc o).alloc o'):=fun o o'=>((Below.refl _ _).alloc (Nat.le_refl _) _).alloc (by simp) _;go_enter Tryz.func29,Tryz.ntmps29;go_wp2_with fail;refine(zmD p S0 _ _ (HV.out.later (q0 _ _))).mono ?_;rintro e w1 ⟨rfl,aa⟩;rw[dD.out];have bN:=zh (show Below (w.heap.size+2) ((w.alloc (.cells #[.slice A1 L1 c1,.slice A2 L2 c2,.int .u8 k,.int .i64 n,.string s,.slice A3 l3 c3] 35)).alloc (.cells ZP 35)) w1 by simpa using aa);clear aa q0
 go_upto_if 8 with fail
 go_cut [3] (fun s3 wx=>∃ (f:FuncId) (fn:Func) (F:T->T),s3=.func (.func f) #[] #[]/\IsFn Tryz.prog f fn/\(∀ t,MapC f F t)/\Hid (znz p=⟨p.vs,p.prs.map (mapR F),F p.m⟩)/\Below w1.heap.size w1 wx)
 case first =>
  cases vb
  ·go_wp2_with fail
   go_meet
   exact⟨76,_,id,rfl,zz4,zmE,zh (zxE dD.out),Below.refl _ _⟩
  ·go_wp2_with fail
   go_meet
   exact⟨77,_,simp,rfl,zrT,znB,zh (zm2 dD.out),Below.refl _ _⟩
 case rest =>
  obtain⟨f,fn,F,rfl,hfn,hmap,HPF,xk⟩:=hcut;have hz1:w.heap.size+2<=w1.heap.size:=by have:=bN.out.size;simpa using this
  have hq:Below (w.heap.size+2) ((w.alloc (.cells #[.slice A1 L1 c1,.slice A2 L2 c2,.int .u8 k,.int .i64 n,.string s,.slice A3 l3 c3] 35)).alloc (.cells ZP 35)) wc:=bN.out.trans (xk.mono hz1);have hbl:Below w.heap.size w wc:=(((Below.refl _ _).alloc (Nat.le_refl _) _).alloc (by simp) _).trans (hq.mono (by omega));have jD:wc.heap[w.heap.size]?=some (.cells #[.slice A1 L1 c1,.slice A2 L2 c2,.int .u8 k,.int .i64 n,.string s,.slice A3 l3 c3] 35 (0,0)):=by
   rw[hq.block _ (by omega),Below.heap_alloc _ _ _ (by simp)];exact heap_alloc_new w _
  have hzc:w.heap.size+2<=wc.heap.size:=Nat.le_trans hz1 xk.size;have bG:=zh (show ∀ w',Below wc.heap.size wc w'->(w'.cell? ⟨w.heap.size,0,none⟩=some (.slice A1 L1 c1)/\w'.cell? ⟨w.heap.size,2,none⟩=some (.int .u8 k)/\w'.cell? ⟨w.heap.size,3,none⟩=some (.int .i64 n)/\w'.cell? ⟨w.heap.size,4,none⟩=some (.string s)/\w'.cell? ⟨w.heap.size,5,none⟩=some (.slice A3 l3 c3)) from
   fun w' h=>⟨zb h (zc jD rfl),zb h (zc jD rfl),zb h (zc jD rfl),zb h (zc jD rfl),zb h (zc jD rfl)⟩)
  have HQ:=zh hq;have aj:=zh hbl;obtain⟨B0,hB0⟩:∃ B,F p.m=B:=⟨_,rfl⟩
  have HB0:=zh hB0;have jl:=zh (show ∀ W,Below wc.heap.size wc W->Calls Tryz.prog 78 #[.slice A1 L1 c1] W (NewL W p.vs L1) from fun W h=>by
   have:=zqH p.vs A1 c1 S0 W ((HR.out.vars.later aj.out).later h) HR.out.lv;rw[jU.out] at this;exact this.mono fun e w' ⟨A',c',h1,h2,h3,h4⟩=>⟨A',c',by rw[h1,jU.out],h2,h3,h4⟩)
  have HCM:=zh (show ∀ W,Below wc.heap.size wc W->Calls Tryz.prog f #[nv k n s A3 l3 c3] W fun e w'=>∃ v,e=.returned v/\NewB W B0 v w' from fun W h=>by
   rw[<-HB0.out];exact zvz (hmap p.m _ _ ((xH.out.later aj.out).later h).any))
  have hp0:Pq wc wc 35 none none none:=Pq.start wc _;clear hq hbl jD hB0 xk hz1 bN;go_upto_region 4 with fail
  go_cut [4] (fun s4 wx=>∃ (g:Nat) (A4:Option Addr) (c4:Nat) (A5:Option Addr) (c5:Nat),s4=.pointer (some ⟨g,0,none⟩)/\p.vs.length<=c4/\PI w wx 35 103 (.cells #[.slice A1 L1 c1,.slice A2 L2 c2,.int .u8 k,.int .i64 n,.string s,.slice A3 l3 c3] 35) (fun b=>w.heap.size+2<=b/\b≠g) g A4 L1 c4 B0.k B0.n B0.s A5 B0.ks.length c5 (.slice none 0 0) p.vs B0 [])
  case first =>
   clear HV dD HPF HR xH aj HB0 hlen jU HL2;have aM:=zh (bG.out _ hp0.drew.low);have HK0l:=zh (bG.out _ hp0.lay.drew.low)
   go_region_held3 (fun w'=>(w'.cell? ⟨w.heap.size,0,none⟩=some (.slice A1 L1 c1)/\w'.cell? ⟨w.heap.size,2,none⟩=some (.int .u8 k)/\w'.cell? ⟨w.heap.size,3,none⟩=some (.int .i64 n)/\w'.cell? ⟨w.heap.size,4,none⟩=some (.string s)/\w'.cell? ⟨w.heap.size,5,none⟩=some (.slice A3 l3 c3)))
    (first|with_reducible exact ji.out|with_reducible exact HK3s.out _ _ _ _ _ _|with_reducible exact HK3a.out _|with_reducible exact bg.out|with_reducible exact HK2l.out|with_reducible exact aM.out|with_reducible exact HK0l.out)
    (first
     | (go_at_call 78;refine(jl.out _ (by first|with_reducible exact hp0.drew.low|with_reducible exact hp0.lay.drew.low)).mono ?_;rintro e w2 ⟨A4,c4,rfl,hr4,hc4,dn⟩;first|((with_reducible have hpv:=Pq.putV (w:=wc) (b:=none) hp0.drew hr4 dn);have bg:=zh (bG.out _ hpv.low);have HK2l:=zh (bG.out _ hpv.lay.low))|((with_reducible have hpv:=Pq.putV (w:=wc) hp0.lay.drew hr4 dn);have bg:=zh (bG.out _ hpv.low)))
     | (refine zlM (by rfl) (.tmp 12) (.tmp 14) _ (by rfl) f fn hfn (by rfl) _ (by rfl) _ (HCM.out _ (by first|with_reducible exact hpv.low|with_reducible exact hpv.lay.low)) ?_;rintro v3 w3 ⟨A5,c5,rfl,wK,bU⟩;first|((with_reducible have hpq:=Pq.putM (w:=wc) (b:=none) hpv wK bU);have ji:=zh (bG.out _ hpq.low);have HK3a:=zh (fun o=>bG.out _ (hpq.alloc o).low))|((with_reducible have hpq:=Pq.putM (w:=wc) hpv wK bU);have hbx:=(hpq.box _ rfl).2;have e0:w3.cell? ⟨_,0,none⟩=some (.slice none 0 0):=zc hbx rfl;have e1:w3.cell? ⟨_,1,none⟩=some (.slice none 0 0):=zc hbx rfl;have e2:w3.cell? ⟨_,2,none⟩=some (.int .u8 0):=zc hbx rfl;have e3:w3.cell? ⟨_,3,none⟩=some (.int .i64 0):=zc hbx rfl;have e4:w3.cell? ⟨_,4,none⟩=some (.string ⟨#[]⟩):=zc hbx rfl;have e5:w3.cell? ⟨_,5,none⟩=some (.slice none 0 0):=zc hbx rfl;have ef:=fun i=>zf (i:=i) hbx;clear hbx;have ji:=zh (bG.out _ hpq.low);have HK3s:=zh (fun u0 u1 u2 u3 u4 u5=>bG.out _ (hpq.set6 u0 u1 u2 u3 u4 u5)))|((with_reducible have hpq:=Pq.putM (w:=wc) hpv.lay wK bU);have hbx:=(hpq.box _ rfl).2;have e0:w3.cell? ⟨_,0,none⟩=some (.slice none 0 0):=zc hbx rfl;have e1:w3.cell? ⟨_,1,none⟩=some (.slice none 0 0):=zc hbx rfl;have e2:w3.cell? ⟨_,2,none⟩=some (.int .u8 0):=zc hbx rfl;have e3:w3.cell? ⟨_,3,none⟩=some (.int .i64 0):=zc hbx rfl;have e4:w3.cell? ⟨_,4,none⟩=some (.string ⟨#[]⟩):=zc hbx rfl;have e5:w3.cell? ⟨_,5,none⟩=some (.slice none 0 0):=zc hbx rfl;have ef:=fun i=>zf (i:=i) hbx;clear hbx;have ji:=zh (bG.out _ hpq.low);have HK3s:=zh (fun u0 u1 u2 u3 u4 u5=>bG.out _ (hpq.set6 u0 u1 u2 u3 u4 u5))))
     | fail)
   all_goals (go_wp2_with fail;go_meet)
   ·exact⟨_,A4,c4,A5,c5,rfl,hc4,hpq.done2 HQ.out⟩
   ·exact⟨_,A4,c4,A5,c5,rfl,hc4,hpq.done HQ.out⟩
   ·exact⟨_,A4,c4,A5,c5,rfl,hc4,hpq.done HQ.out⟩
  case rest =>
   obtain⟨g,A4,c4,A5,c5,rfl,hc4,hpi⟩:=hcut;clear bG HQ xH hb38 jl HCM hp0 HV dD;have HC4:=zh hc4;clear hc4;have mU:=zKo;have hb58:=zKr;have aw:wc.cell? ⟨w.heap.size,1,none⟩=some (.slice A2 L2 c2):=zc hpi.arg rfl;go_wp2_with fail
   go_loopw [20] (fun i wr=>∃ (j:Nat) (A':Option Addr) (c':Nat),j<=L2/\i=.int .i64 j/\PI w wr 35 103 (.cells #[.slice A1 L1 c1,.slice A2 L2 c2,.int .u8 k,.int .i64 n,.string s,.slice A3 l3 c3] 35) (fun b=>w.heap.size+2<=b/\b≠g) g A4 L1 c4 B0.k B0.n B0.s A5 B0.ks.length c5 (.slice A' j c') p.vs B0 ((p.prs.take j).map (mapR F))) (fun i _=>L2-(intOf i).toNat)
   case atStart=>exact⟨0,none,0,Nat.zero_le _,rfl,hpi⟩
   case round =>
    obtain⟨j,A',c',hj,rfl,hs⟩:=hrel;clear hpi aw;by_cases hlt:j<L2
    ·have dF:j<p.prs.length:=by rw[HL2.out];exact hlt
     obtain⟨a,r,P1,d1,P2,d2,rfl,_,Hr,⟨q0,q1,q2,q3,q4,q5⟩,hpr⟩:=(HR.out.procs.later hs.below).nd dF;have g1:wr.cell? ⟨g,1,none⟩=some (.slice A' j c'):=zc hs.box rfl;have hsz:=hs.size;have hge:=hs.ge;have hgl:g<wr.heap.size:=zki hs.box;have HT:=zh (show(p.prs.take j).map (mapR F)++[mapR F r]=(p.prs.take (j+1)).map (mapR F) by rw[List.take_succ_eq_append_getElem dF,Hr.out];simp);have HT1:=zh (show ∀ x:PR,((p.prs.take j).map (mapR F)++[x]).length=j+1 from fun x=>by simp;omega);have hlen1:((p.prs.take j).map (mapR F)).length+1<=1000:=by simp;omega
     obtain⟨B,hB⟩:∃ B,F r.b=B:=⟨_,rfl⟩
     have HB:=zh hB;obtain⟨rl,hrl⟩:∃ l,r.ps.length=l:=⟨_,rfl⟩
     obtain⟨rk,gq⟩:∃ l,r.b.k=l:=⟨_,rfl⟩
     obtain⟨rn,hrn⟩:∃ l,r.b.n=l:=⟨_,rfl⟩
     obtain⟨rs,hrs⟩:∃ l,r.b.s=l:=⟨_,rfl⟩
     obtain⟨rm,hrm⟩:∃ l,r.b.ks.length=l:=⟨_,rfl⟩
     have hbd:=hpr.body;rw[hrl] at q1;rw[gq] at q2;rw[hrn] at q3;rw[hrs] at q4;rw[hrm] at q5;rw[gq,hrn,hrs,hrm] at hbd;have qE:=zh hrl;have iw:=zh hbd;have bX:=zh hpr;clear hB hpr hbd hrl gq hrn hrs hrm;go_upto_region 8 with fail;obtain⟨Wb,jE⟩:∃ Wb,wr.alloc (.cells #[.string r.s,.slice P1 rl d1,.int .u8 rk,.int .i64 rn,.string rs,.slice P2 rm d2] 103)=Wb:=⟨_,rfl⟩
     rw[jE];have hbb:Below wr.heap.size wr Wb:=by rw[<-jE];exact(Below.refl _ _).alloc (Nat.le_refl _) _
     have hpb:Wb.heap[wr.heap.size]?=some (.cells #[.string r.s,.slice P1 rl d1,.int .u8 rk,.int .i64 rn,.string rs,.slice P2 rm d2] 103 (0,0)):=by rw[<-jE];exact heap_alloc_new wr _
     have hzb:Wb.heap.size=wr.heap.size+1:=by rw[<-jE];simp
     have xe:Wb.cell? ⟨g,1,none⟩=some (.slice A' j c'):=zb hbb g1;have HS2:=zh (show ∀ w':World,w'.heap[wr.heap.size]?=Wb.heap[wr.heap.size]?->(w'.cell? ⟨wr.heap.size,0,none⟩=some (.string r.s)/\w'.cell? ⟨wr.heap.size,1,none⟩=some (.slice P1 rl d1)/\w'.cell? ⟨wr.heap.size,2,none⟩=some (.int .u8 rk)/\w'.cell? ⟨wr.heap.size,3,none⟩=some (.int .i64 rn)/\w'.cell? ⟨wr.heap.size,4,none⟩=some (.string rs)/\w'.cell? ⟨wr.heap.size,5,none⟩=some (.slice P2 rm d2)) from
      fun w' h=>have h':=h.trans hpb;⟨zc h' rfl,zc h' rfl,zc h' rfl,zc h' rfl,zc h' rfl,zc h' rfl⟩)
     have ve:=zh (show ∀ w':World,Below Wb.heap.size Wb w'->(w'.cell? ⟨wr.heap.size,0,none⟩=some (.string r.s)/\w'.cell? ⟨wr.heap.size,1,none⟩=some (.slice P1 rl d1)/\w'.cell? ⟨wr.heap.size,2,none⟩=some (.int .u8 rk)/\w'.cell? ⟨wr.heap.size,3,none⟩=some (.int .i64 rn)/\w'.cell? ⟨wr.heap.size,4,none⟩=some (.string rs)/\w'.cell? ⟨wr.heap.size,5,none⟩=some (.slice P2 rm d2)) from
      fun w' h=>HS2.out w' (h.block _ (by omega)))
     have hlb:=hs.below.trans (hbb.mono (by omega));have jl:=zh (show ∀ W,Below Wb.heap.size Wb W->Calls Tryz.prog 78 #[.slice P1 rl d1] W (NewL W r.ps rl) from fun W h=>by
      have:=zqH r.ps P1 d1 S0 W ((bX.out.row.later hbb).later h) bX.out.lp;rw[qE.out] at this;exact this.mono fun e w' ⟨A',c',h1,h2,h3,h4⟩=>⟨A',c',by rw[h1,qE.out],h2,h3,h4⟩)
     have HCM:=zh (show ∀ W,Below Wb.heap.size Wb W->Calls Tryz.prog f #[nv rk rn rs P2 rm d2] W fun e w'=>∃ v,e=.returned v/\NewB W B v w' from fun W h=>by
      rw[<-HB.out];exact zvz (hmap r.b _ _ ((iw.out.later hbb).later h).any))
     have oz:=zh (show ∀ b,Wb.heap.size<=b/\(none:Option Nat)≠some b->(w.heap.size+2<=b/\b≠g)/\some b≠(Value.slice A' j c').ownBlock from fun b hb=>⟨⟨by omega,by omega⟩,fun e=>by have:=hs.own.block b e.symm;omega⟩);have sI:=zh (show some wr.heap.size≠(Value.slice A' j c').ownBlock from fun e=>by have:=hs.own.block _ e.symm;omega);have jf:=zh (hs.later hbb);have hp0:Pq Wb Wb 35 none none none:=Pq.start Wb _;have jF:=zh hzb;clear hs jE hbb hpb hlb q0 q1 q2 q3 q4 q5 g1 hzb;have hne:¬ wr.heap.size=g:=by omega
     have hne':¬ g=wr.heap.size:=by omega
     -- region 8 begins
     have hSS:(fun w':World=>(w'.cell? ⟨wr.heap.size,0,none⟩=some (.string r.s)/\w'.cell? ⟨wr.heap.size,1,none⟩=some (.slice P1 rl d1)/\w'.cell? ⟨wr.heap.size,2,none⟩=some (.int .u8 rk)/\w'.cell? ⟨wr.heap.size,3,none⟩=some (.int .i64 rn)/\w'.cell? ⟨wr.heap.size,4,none⟩=some (.string rs)/\w'.cell? ⟨wr.heap.size,5,none⟩=some (.slice P2 rm d2))) Wb.drew/\(fun w':World=>w'.cell? ⟨g,1,none⟩=some (.slice A' j c')) Wb.drew:=⟨ve.out _ hp0.drew.low,xe⟩
     refine wp_region_noPanic ?_;refine zkc (fun w':World=>(w'.cell? ⟨wr.heap.size,0,none⟩=some (.string r.s)/\w'.cell? ⟨wr.heap.size,1,none⟩=some (.slice P1 rl d1)/\w'.cell? ⟨wr.heap.size,2,none⟩=some (.int .u8 rk)/\w'.cell? ⟨wr.heap.size,3,none⟩=some (.int .i64 rn)/\w'.cell? ⟨wr.heap.size,4,none⟩=some (.string rs)/\w'.cell? ⟨wr.heap.size,5,none⟩=some (.slice P2 rm d2))) (fun w':World=>w'.cell? ⟨g,1,none⟩=some (.slice A' j c')) 13 (by kernel_rfl) ?_;refine zT 0 hSS ?_;(try simp only[zQ]);refine zkV (i:=1) (v:=?_) rfl (by kernel_rfl) (by kernel_rfl) (by kernel_rfl) (by decide) rfl (by kernel_rfl) (by kernel_rfl) (fun _ _ _ h=>h) (Or.inl ⟨by rfl,?_⟩) hSS ?_;rotate_left 1
     ·(intro w hSw;(try dsimp only at hSw);(try simp only[zA,zB,zC]);go_simp;(try with_reducible rfl))
     (try simp only[zQ]);refine zT 2 hSS ?_;(try simp only[zQ]);refine zT 3 hSS ?_;(try simp only[zQ]);refine zT 4 hSS ?_;(try simp only[zQ]);refine zT 5 hSS ?_;(try simp only[zQ]);refine zT 7 hSS ?_;(try simp only[zQ]);refine zT 8 hSS ?_;(try simp only[zQ]);refine zT 9 hSS ?_;(try simp only[zQ]);refine zo 6 fun K hK=>?_;refine zlM (by rfl) (.func 78) (.tmp 29) _ (by rfl) 78 _ zyd (by rfl) _ (by rfl) _ (zxL (jl.out _ hp0.drew.low)) ?_;rintro v2 w2 ⟨A6,c6,rfl,bM,hc6,nY⟩;have hpv:=Pq.putV (w:=Wb) hp0.drew bM nY
     have aB:(fun w':World=>(w'.cell? ⟨wr.heap.size,0,none⟩=some (.string r.s)/\w'.cell? ⟨wr.heap.size,1,none⟩=some (.slice P1 rl d1)/\w'.cell? ⟨wr.heap.size,2,none⟩=some (.int .u8 rk)/\w'.cell? ⟨wr.heap.size,3,none⟩=some (.int .i64 rn)/\w'.cell? ⟨wr.heap.size,4,none⟩=some (.string rs)/\w'.cell? ⟨wr.heap.size,5,none⟩=some (.slice P2 rm d2))) w2/\(fun w':World=>w'.cell? ⟨g,1,none⟩=some (.slice A' j c')) w2:=⟨ve.out _ hpv.low,zb hpv.low xe⟩
     refine hK.out _ _ aB ?_;clear hK K hSS;(try simp only[zQ]);refine zo 10 fun K hK=>?_;refine zlM (by rfl) (.tmp 31) (.tmp 33) _ (by rfl) f fn hfn (by rfl) _ (by rfl) _ (HCM.out _ hpv.low) ?_;rintro v3 w3 ⟨A7,c7,rfl,hn7,qi⟩;have hpq:=Pq.putM (w:=Wb) hpv hn7 qi;have xc:w3.cell? ⟨g,1,none⟩=some (.slice A' j c'):=zb hpq.low xe;have aW:(fun w':World=>(w'.cell? ⟨wr.heap.size,0,none⟩=some (.string r.s)/\w'.cell? ⟨wr.heap.size,1,none⟩=some (.slice P1 rl d1)/\w'.cell? ⟨wr.heap.size,2,none⟩=some (.int .u8 rk)/\w'.cell? ⟨wr.heap.size,3,none⟩=some (.int .i64 rn)/\w'.cell? ⟨wr.heap.size,4,none⟩=some (.string rs)/\w'.cell? ⟨wr.heap.size,5,none⟩=some (.slice P2 rm d2))) w3/\(fun w':World=>w'.cell? ⟨g,1,none⟩=some (.slice A' j c')) w3:=⟨ve.out _ hpq.low,xc⟩
     have hs3:=jf.out.later hpq.low;have hpr3:PrR w3 (fun b=>(w.heap.size+2<=b/\b≠g)/\some b≠(Value.slice A' j c').ownBlock) ⟨r.s,r.ps,B⟩ A6 c6 A7 c7:=⟨bX.out.name,(hpq.vars _ _ rfl).mono oz.out,bX.out.lp,hc6,(hpq.main _ _ rfl).mono oz.out⟩
     refine hK.out _ _ aW ?_;clear hK K aB;(try simp only[zQ]);refine zT 11 aW ?_;(try simp only[zQ]);refine zo 12 fun K hK=>?_;(try simp only[zA,zB,zC]);go_simp;refine hK.out _ _ ⟨ve.out _ (hpq.alloc _).low,zke xc _⟩ ?_;clear hK K aW;(try simp only[zQ]);refine zp 13 fun K hK=>?_;refine zoq (by rfl) (.tmp 25) (.tmp 36) 33 (by rfl) 103 i0 _ Tryz.underlying33 hi0 hz0 hz1 hz2 rfl (w.heap.size+2) (fun b=>w.heap.size+2<=b/\b≠g) (.slice A' j c') _ (by rfl) hs3.own ⟨r.s,r.ps,B⟩ rl qE.out A6 c6 A7 c7 (by rfl) hpr3 hlen1 hs3.size ?_;intro v8 w4 hown2 hg2 dZ;obtain⟨A8,c8,wD,_,_⟩:=hown2.row;rw[HT1.out] at wD;have hne2:v8.ownBlock≠some g:=(fun e=>by rcases dZ with h|⟨b,h,h'⟩;rw[h] at e;exact hs3.ne e;rw[h] at e;injection e with e;have:=hpq.low.size;have:=jF.out;omega)
     have hst:=hs3.put hown2 hg2 hne2 dZ;have hbx:=(hg2.block _ (zki hs3.box) (fun e=>hs3.ne e.symm)).trans hs3.box;have hy0:w4.cell? ⟨g,1,none⟩=some (.slice A' j c'):=zc hbx rfl;have hy1:w4.frozen? ⟨g,1,none⟩=false:=zf hbx;have hkb:=(hg2.block _ (by have:=hpq.low.size;have:=jF.out;omega) sI.out).trans (hpq.low.block _ (by have:=jF.out;omega));have eZ:=zh (HS2.out _ hkb);have eP:=zh (HS2.out _ ((Below.heap_setCell w4 ⟨g,1,none⟩ v8 _ hne).trans hkb));rw[wD] at hst eP;have HST:=zh hst;clear hst hne2 hkb hbx hg2 dZ hown2;rw[wD];refine hK.out _ _ eZ.out ?_;clear hK K hpr3 hs3 hpq hpv nY qi hn7 bM xc;(try simp only[zQ]);refine zp 14 fun K hK=>?_;(try simp only[zA,zB,zC]);go_simp;refine hK.out _ _ eZ.out ?_;clear hK K;(try simp only[zQ]);refine zp 15 fun K hK=>?_;(try simp only[zA,zB,zC]);go_simp;refine hK.out _ _ eP.out ?_;clear hK K;(try simp only[zQ]);refine zd ?_
     refine NoPanic.normal ?_
     -- region 8 ends
     all_goals
      go_wp2_with fail
      go_roundw
      case rel =>
       have h1:=HST.out;have e2:=HT.out;have e3:mapR F r=⟨r.s,r.ps,B⟩:=by unfold mapR;rw[HB.out]
       rw[e3] at e2;rw[e2] at h1;exact⟨j+1,A8,c8,by omega,by go_num,h1⟩
      case measure=>simp[intOf];omega
    ·obtain rfl:j=L2:=by omega
     rw[List.take_of_length_le (by rw[HL2.out];omega)] at hs;have g0:wr.cell? ⟨g,0,none⟩=some (.slice A4 L1 c4):=zc hs.box rfl;have g1:wr.cell? ⟨g,1,none⟩=some (.slice A' j c'):=zc hs.box rfl;have g2:wr.cell? ⟨g,2,none⟩=some (.int .u8 B0.k):=zc hs.box rfl;have g3:wr.cell? ⟨g,3,none⟩=some (.int .i64 B0.n):=zc hs.box rfl;have g4:wr.cell? ⟨g,4,none⟩=some (.string B0.s):=zc hs.box rfl;have g5:wr.cell? ⟨g,5,none⟩=some (.slice A5 B0.ks.length c5):=zc hs.box rfl;have r0:wr.cell? ⟨w.heap.size+1,0,none⟩=some (.slice none 0 0):=zc hs.res rfl;have r1:wr.cell? ⟨w.heap.size+1,1,none⟩=some (.slice none 0 0):=zc hs.res rfl;have r2:wr.cell? ⟨w.heap.size+1,2,none⟩=some (.int .u8 0):=zc hs.res rfl;have r3:wr.cell? ⟨w.heap.size+1,3,none⟩=some (.int .i64 0):=zc hs.res rfl;have r4:wr.cell? ⟨w.heap.size+1,4,none⟩=some (.string ⟨#[]⟩):=zc hs.res rfl
     have r5:wr.cell? ⟨w.heap.size+1,5,none⟩=some (.slice none 0 0):=zc hs.res rfl;have rz:∀ i,wr.frozen? ⟨w.heap.size+1,i,none⟩=false:=fun i=>zf hs.res;have HRES:=zh (hs.result (A2:=A') (l2:=j) (c2:=c') rfl jU.out.symm HR.out.lv HC4.out (From w.heap.size) (fun b hb=>by show w.heap.size<=b;omega) (fun b hb=>by show w.heap.size<=b;omega));have HEQ:=zh (show znz p=⟨p.vs,p.prs.map (mapR F),B0⟩ by rw[HPF.out,HB0.out]);clear hs;go_wp2_with fail;exact bodyPost_ret (v:=pv A4 L1 c4 A' j c' B0.k B0.n B0.s A5 B0.ks.length c5) (by simp[results,Tryz.results29,go_sem,r0,r1,r2,r3,r4,r5]) rfl ⟨_,rfl,by rw[HEQ.out];exact HRES.out.1,HRES.out.2⟩
theorem zt7 (t:T):∀ (v:Value) (w:World),NV w Any t v ->
  Calls Tryz.prog 15 #[v] w fun e w'=>e=.returned (.int .i64 (wrap64 (size t)))/\Below w.heap.size w w':=by
 induction t using T.ind with
 | _ k n s ks ih =>
 intro v w hv;obtain⟨A,c,rfl,hf,hlk,hlc,hrow⟩:=hv.open_;simp only[T.k_nd,T.n_nd,T.s_nd,T.ks_nd] at *
 have ak:=zkx hlk;generalize hlen:ks.length=l at *
 have HL:=zh hlen;clear hlen hf hv hlk;go_enter Tryz.func15,Tryz.ntmps15;go_wp2
 go_loopw [3,9] (fun x i wr=>∃ j:Nat,j<=l/\i=.int .i64 j/\x=.int .i64 (wrap64 (1+zkK (ks.take j)))/\Below w.heap.size w wr) (fun _ i _=>l-(intOf i).toNat)
 case atStart=>exact⟨0,Nat.zero_le _,rfl,by simp[zkK,wrap64],(Below.refl _ _).alloc (Nat.le_refl _) _⟩
 case round =>
  obtain⟨j,hj,rfl,rfl,hb⟩:=hrel;by_cases hlt:j<l
  ·have hi:j<ks.length:=by rw[HL.out];exact hlt
   obtain⟨a,t,A',c',rfl,_,Ht,c0,c1,c2,c3,hn⟩:=(hrow.later hb).get hi;have ih1:=zh (ih ks[j] (List.getElem_mem hi));rw[Ht.out] at ih1;clear ih hrow;go_wp2_with fail;refine(ih1.out _ _ ?_).mono ?_
   ·exact hn.later ((Below.refl _ _).alloc (Nat.le_refl _) _)
   rintro e w1 ⟨rfl,hb1⟩;go_wp2_with fail
   go_roundw
   case rel=>exact⟨j+1,by omega,by go_num,by rw[zxh,zqa _ _ hi,Ht.out];simp[Int.add_assoc],hb.trans (((Below.refl _ _).alloc hb.size _).trans (hb1.mono (by simp;have:=hb.size;omega)))⟩
   case measure=>simp[intOf];omega
  ·go_wp2;go_ret;have:ks.length=j:=by have:=HL.out;omega
   exact⟨by rw[List.take_of_length_le (by omega)];simp[size],hb⟩
def zmv (p:PG):Bool:=decide (p.prs.length<=4)&&zkE p&&decide (wrap64 (size p.m)<=100)&&p.prs.all (fun r=>decide (wrap64 (size r.b)<=100))
theorem zrq (p:PG) (S:Nat->Prop) (v:Value) (w:World) (hv:PV w S p v):Calls Tryz.prog 28 #[v] w fun e w'=>e=.returned (.int .i64 (if zmv p then 1 else 0))/\Below w.heap.size w w':=by
 obtain⟨R,hR⟩:∃ R,(if zmv p=true then (1:Int) else 0)=R:=⟨_,rfl⟩
 rw[hR];have HRR:=zh hR;clear hR;have HV:=zh hv;obtain⟨A1,c1,A2,c2,A3,c3,rfl,hr⟩:=hv;have HR:=zh hr;have hv2:=zlE hr.lp;have HX:=zh (show zmv p=(decide (p.prs.length<=4)&&zkE p&&decide (wrap64 (size p.m)<=100)&&p.prs.all (fun r=>decide (wrap64 (size r.b)<=100))) from rfl);have jA:=hr.lpc;obtain⟨L1,hL1⟩:∃ L,p.vs.length=L:=⟨_,rfl⟩
 obtain⟨L2,hL2⟩:∃ L,p.prs.length=L:=⟨_,rfl⟩
 obtain⟨k,hk⟩:∃ k,p.m.k=k:=⟨_,rfl⟩
 obtain⟨n,hn⟩:∃ n,p.m.n=n:=⟨_,rfl⟩
 obtain⟨s,hs⟩:∃ s,p.m.s=s:=⟨_,rfl⟩
 obtain⟨l3,hl3⟩:∃ l,p.m.ks.length=l:=⟨_,rfl⟩
 have HL2:=zh hL2;have hm:=hr.main;rw[hk,hn,hs,hl3] at hm;have HM:=zh hm;have hx:=HX.out;rw[hL2] at hx hv2 jA;have hvv:=HV.out;rw[hL1,hL2,hk,hn,hs,hl3] at hvv;rw[hL1,hL2,hk,hn,hs,hl3];clear hr hm HX HV hL1 hL2 hk hn hs hl3;have HX:=zh hx;have HV:=zh hvv;clear hx hvv;have hb0:∀ o,Below w.heap.size w (w.alloc o):=fun o=>(Below.refl _ _).alloc (Nat.le_refl _) _;have HB0:=zh hb0;clear hb0;by_cases h4:4<L2
 ·have HF:=zh (show zmv p=false by rw[HX.out];simp;intro h;omega);have h4':(4:Int)<(L2:Int):=by omega
  go_enter Tryz.func28,Tryz.ntmps28;go_wp2_with fail;go_ret;exact⟨by rw[<-HRR.out,HF.out];rfl,HB0.out _⟩
 have h4':(L2:Int)<=4:=by omega
 have hx:=HX.out;rw[decide_eq_true (show L2<=4 by omega),Bool.true_and] at hx;clear HX h4;have HX:=zh hx;clear hx;go_enter Tryz.func28,Tryz.ntmps28;go_wp2_with fail;refine(zmD p S _ _ (HV.out.later (HB0.out _))).mono ?_;rintro e w1 ⟨rfl,aa⟩;have q1:Below w.heap.size w w1:=(HB0.out _).trans (aa.mono (by simp));have hbx:w1.heap[w.heap.size]?=some (.cells #[.slice A1 L1 c1,.slice A2 L2 c2,.int .u8 k,.int .i64 n,.string s,.slice A3 l3 c3] 35 (0,0)):=(aa.block _ (by simp)).trans (heap_alloc_new w _);have x2:w1.cell? ⟨w.heap.size,2,none⟩=some (.int .u8 k):=zc hbx rfl;have x3:w1.cell? ⟨w.heap.size,3,none⟩=some (.int .i64 n):=zc hbx rfl;have x4:w1.cell? ⟨w.heap.size,4,none⟩=some (.string s):=zc hbx rfl;have x5:w1.cell? ⟨w.heap.size,5,none⟩=some (.slice A3 l3 c3):=zc hbx rfl;have aO:=zh hbx;have hx:=HX.out;clear aa hbx
 cases hvl:zkE p
 ·rw[hvl] at hx;have HF:=zh (show zmv p=false by rw[hx];rfl);clear hx;go_wp2_with fail;go_ret;exact⟨by rw[<-HRR.out,HF.out];rfl,q1⟩
 rw[hvl,Bool.true_and] at hx;have bf:=zh hx;clear hx HX hvl;go_wp2_with fail;refine(zt7 p.m _ _ (HM.out.later q1).any).mono ?_;rintro e w2 ⟨rfl,ag⟩;have q2:Below w.heap.size w w2:=q1.trans (ag.mono q1.size);have hbx:w2.heap[w.heap.size]?=some (.cells #[.slice A1 L1 c1,.slice A2 L2 c2,.int .u8 k,.int .i64 n,.string s,.slice A3 l3 c3] 35 (0,0)):=(ag.block _ (zki aO.out)).trans aO.out;have y1:w2.cell? ⟨w.heap.size,1,none⟩=some (.slice A2 L2 c2):=zc hbx rfl;have nP:=zh hbx;have hx:=bf.out;obtain⟨z,hz⟩:∃ z,wrap64 (size p.m)=z:=⟨_,rfl⟩
 rw[hz] at hx ⊢;clear hbx ag hz bf aO x2 x3 x4 x5;by_cases mY:100<z
 ·have HF:=zh (show zmv p=false by rw[hx,decide_eq_false (show ¬ z<=100 by omega)];rfl);clear hx;go_wp2_with fail;go_ret;exact⟨by rw[<-HRR.out,HF.out];rfl,q2⟩
 rw[decide_eq_true (show z<=100 by omega),Bool.true_and] at hx;have h100':z<=100:=by omega
 have jS:=zh hx;clear hx mY;go_wp2_with fail
 go_loopw [3] (fun i wr=>∃ j:Nat,j<=L2/\i=.int .i64 j/\Below w2.heap.size w2 wr/\Hid ((p.prs.take j).all (fun r=>decide (wrap64 (size r.b)<=100))=true)) (fun i _=>L2-(intOf i).toNat)
 case atStart=>exact⟨0,Nat.zero_le _,rfl,Below.refl _ _,zh (by simp)⟩
 case round =>
  obtain⟨j,hj,rfl,hb,HA⟩:=hrel;clear y1;have hq:Below w.heap.size w wr:=q2.trans (hb.mono q2.size);have y1:wr.cell? ⟨w.heap.size,1,none⟩=some (.slice A2 L2 c2):=zb hb (zc nP.out rfl);by_cases hlt:j<L2
  ·have hlt':j<p.prs.length:=by rw[HL2.out];exact hlt
   obtain⟨a,r,B1,d1,B2,d2,rfl,_,Hr,⟨z0,z1,z2,z3,z4,z5⟩,hrr⟩:=(HR.out.procs.later hq).nd hlt';have iw:=zh hrr.body.any;have HT:=zh (show(p.prs.take (j+1)).all (fun r=>decide (wrap64 (size r.b)<=100))=decide (wrap64 (size r.b)<=100) by rw[zry hlt' HA.out,Hr.out]);have HN:=zh (show decide (wrap64 (size r.b)<=100)=false->zmv p=false from fun h=>by rw[jS.out,zrz hlt' (by rw[Hr.out];exact h)]);clear hrr z0 z1;go_wp2_with fail;refine(zt7 r.b _ _ iw.out).mono ?_;rintro e w4 ⟨rfl,dn⟩;obtain⟨y,hy⟩:∃ y,wrap64 (size r.b)=y:=⟨_,rfl⟩
   have vD:=HN.out;have u7:=HT.out;rw[hy] at vD u7 ⊢;have xB:=zh (hb.trans (dn.mono hb.size));have HQ5:=zh (hq.trans (dn.mono hq.size));clear hy;by_cases g100:100<y
   ·have HF:=zh (vD (decide_eq_false (show ¬ y<=100 by omega)));clear vD u7;go_wp2_with fail;go_ret;exact⟨by rw[<-HRR.out,HF.out];rfl,HQ5.out⟩
   ·have g100':y<=100:=by omega
    have HG:=zh (u7.trans (decide_eq_true g100'));clear vD u7 g100;go_wp2_with fail
    go_roundw
    case rel=>exact⟨j+1,by omega,by go_num,xB.out,HG⟩
    case measure=>simp[intOf];omega
  ·obtain rfl:j=L2:=by omega
   have HF:=zh (show zmv p=true by rw[jS.out];have:=HA.out;rw[List.take_of_length_le (by rw[HL2.out];omega)] at this;exact this);go_wp2_with fail;go_ret;exact⟨by rw[<-HRR.out,HF.out];rfl,hq⟩
theorem zuW {p:PG} (h:zkE p=true):p.prs.length<=64:=by
 unfold zkE at h;simp only[Bool.and_eq_true,decide_eq_true_eq] at h;exact h.1.1.1.2
theorem zsr {p:PG} (h:zmv p=true):zkE p=true:=by
 unfold zmv at h;simp only[Bool.and_eq_true] at h;exact h.1.1.2
theorem zu9 {p:PG} {v:Value} {w:World} (h:zmv p=true) (hv:PV w Any p v):Calls Tryz.prog 28 #[v] w fun e w'=>e=.returned (.int .i64 1)/\Below w.heap.size w w' :=
 (zrq p Any v w hv).mono fun e w' ⟨he,hb⟩=>⟨by rw[he,h];rfl,hb⟩
theorem zva {p:PG} {v:Value} {w:World} (h:zmv p=false) (hv:PV w Any p v):Calls Tryz.prog 28 #[v] w fun e w'=>e=.returned (.int .i64 0)/\Below w.heap.size w w' :=
 (zrq p Any v w hv).mono fun e w' ⟨he,hb⟩=>⟨by rw[he,h];rfl,hb⟩
theorem zmo:∀ a b:List T,zkK (a++b)=zkK a+zkK b
 | [],b=>by simp[zkK]
 | t::ts,b=>by simp[zkK,zmo ts b];omega
theorem zwq {ks:List T} {d:Nat} (h:∀ t∈ks,dep t<=d):deps ks<=d:=by
 induction ks with
 | nil=>simp[deps]
 | cons t ts ih =>
  simp only[deps];have h1:=h t (by simp);have h2:=ih fun u hu=>h u (by simp[hu]);omega
theorem zsp (acc:List T) (t:T):zkK (zl6 acc t)<=zkK acc+size t:=by
 rcases List.eq_nil_or_concat acc with rfl|⟨m,b,rfl⟩
 ·simp[zpe,zkK]
 ·rw[List.concat_eq_append]
  cases hc:canc b t
  ·rw[zlx hc];simp[zmo,zkK];omega
  ·rw[zlG hc];simp[zmo,zkK];omega
theorem zsM (l:List T):zkK (foldC l)<=zkK l:=by
 induction l using zor with
 | h0=>simp[foldC,zkK]
 | h1 l a ih =>
  rw[zlB,zmo];have:=zsp (foldC l) a;simp only[zkK] at *
  omega
theorem zpf {f:T->T}:∀ {ks:List T},(∀ t∈ks,size (f t)<=size t)->zkK (ks.map f)<=zkK ks
 | [],_=>by simp[zkK]
 | t::ts,h=>by
  have h1:=h t (by simp);have h2:=zpf (ks:=ts) fun u hu=>h u (by simp[hu]);simp only[List.map_cons,zkK];omega
theorem zvb (t:T):(size (stm t)<=size t/\dep (stm t)<=dep t)/\(size (simp t)<=size t/\dep (simp t)<=dep t):=by
 induction t using T.ind with
 | _ k n s ks ih =>
 constructor
 ·rw[zlq];have h1:zkK (ks.map skF)<=zkK ks:=zpf fun t ht=>by
   unfold skF;split
   ·exact(ih t ht).2.1
   ·exact Nat.le_refl _
  have h2:deps (ks.map skF)<=deps ks:=zwq fun u hu=>by
   obtain⟨t,ht,rfl⟩:=List.mem_map.1 hu;refine Nat.le_trans ?_ (zoL ht);unfold skF;split
   ·exact(ih t ht).2.2
   ·exact Nat.le_refl _
  simp only[size,dep];omega
 ·rw[znI];have h1:zkK (ks.map stm)<=zkK ks:=zpf fun t ht=>(ih t ht).1.1;have h3:=zsM (ks.map stm);have h2:deps (foldC (ks.map stm))<=deps ks:=zwq fun u hu=>by
   obtain⟨t,ht,rfl⟩:=List.mem_map.1 (zl1 u hu);exact Nat.le_trans (ih t ht).1.2 (zoL ht)
  simp only[size,dep];omega
theorem zr4 {t:T} (h:zk1 t=true):zk1 (simp t)=true:=by
 rw[zmf] at h ⊢;have:=(zvb t).2;exact⟨⟨by omega,by omega⟩,ztE h.2⟩
theorem zuc {p:PG} (h:zkE p=true):zkE (znz p)=true:=by
 rw[zm2 h];unfold zkE at h ⊢;simp only[Bool.and_eq_true,List.length_map,List.all_map] at h ⊢;refine⟨⟨h.1.1,?_⟩,zr4 h.2⟩;rw[List.all_eq_true];intro r hr;have:=(List.all_eq_true.1 h.1.2) r hr;simp only[Function.comp,mapR];unfold zoQ at this ⊢;simp only[Bool.and_eq_true] at this ⊢;exact⟨this.1,zr4 this.2⟩
end Go.Proofs.YtckhofdinldhpaaGreat
namespace Go.Proofs.YtckhofdinldhpaaGreat
open Go
theorem zoY (f:T->T) (ps:List PR) (s:ByteArray):idxP (ps.map (mapR f)) s=idxP ps s:=by
 unfold idxP;rw[List.findIdx?_map];rfl
theorem zvp (f:T->T) (ps:List PR) (s:ByteArray):zlJ (ps.map (mapR f)) s=zlJ ps s:=by
 unfold zlJ;rw[zoY]
theorem zuC (f:T->T) (ps:List PR) (k:Int) (s:ByteArray) (l:Nat) (vs:List VD):zld (ps.map (mapR f)) k s l vs=zld ps k s l vs:=by
 unfold zld;rw[zoY]
 cases idxP ps s with
 | none=>rfl
 | some i =>
  simp only[List.getElem?_map]
  cases ps[i]? with
  | none=>rfl
  | some r=>rfl
theorem zyI (f:T->T) (ps:List PR) (s:ByteArray) (l i:Nat) (m:ByteArray) (vs:List VD):argE (ps.map (mapR f)) s l i m vs=argE ps s l i m vs:=by
 unfold argE;rw[zoY]
 cases idxP ps s with
 | none=>rfl
 | some j =>
  simp only[List.getElem?_map]
  cases ps[j]? with
  | none=>rfl
  | some r=>rfl
theorem ztY (f:T->T) (ps:List PR) (s:ByteArray) (l:Nat) (vs:List VD):∀ (ks:List T) (i:Nat),cntA (ps.map (mapR f)) s l i ks vs=cntA ps s l i ks vs
 | [],_=>by simp[cntA]
 | t::ts,i=>by rw[cntA,cntA,zyI,ztY f ps s l vs ts]
theorem ztW (f:T->T) (ps:List PR) (k:Int) (s:ByteArray):∀ (ks:List T),(∀ t∈ks,∀ vs,cntV (ps.map (mapR f)) t vs=cntV ps t vs)->∀ (i:Nat) (vs:List VD),cntK (ps.map (mapR f)) k s i ks vs=cntK ps k s i ks vs
 | [],_,_,_=>by simp[cntK]
 | t::ts,h,i,vs=>by rw[cntK,cntK,h t List.mem_cons_self,ztW f ps k s ts (fun t ht=>h t (List.mem_cons_of_mem _ ht))]
theorem ztV (f:T->T) (ps:List PR) (t:T):∀ vs,cntV (ps.map (mapR f)) t vs=cntV ps t vs:=by
 induction t using T.ind with
 | _ k n s ks ih =>
  intro vs;rw[cntV,cntV,zuC,ztY,ztW f ps k s ks ih]
theorem zsT (ps:List PR) (k:Int) (s:ByteArray) (vs:List VD):∀ (ks:List T) (i:Nat),cntK ps k s i ks vs=0↔∀ j (h:j<ks.length),cntV ps ks[j] (zlz k s (i+j) vs)=0
 | [],i=>by simp[cntK]
 | t::ts,i=>by
  rw[cntK,Nat.add_eq_zero_iff,zsT ps k s vs ts (i+1)]
  constructor
  ·rintro⟨h1,h2⟩ j hj;rcases j with _|j
   ·simpa using h1
   ·have:=h2 j (by simpa using hj);rw[show i+1+j=i+(j+1) by omega] at this;simpa using this
  ·intro h;refine⟨h 0 (by simp),fun j hj=>?_⟩;have:=h (j+1) (by simpa using hj);rw[show i+1+j=i+(j+1) by omega];simpa using this
theorem zvS (s:ByteArray) (i:Nat) (vs:List VD):zlz 57 s i vs=vs:=by simp[zlz]
theorem zwt (ps:List PR) (n:Int) (s:ByteArray) (ks:List T) (vs:List VD):cntV ps (.nd 57 n s ks) vs=0↔∀ t∈ks,cntV ps t vs=0:=by
 rw[cntV,if_neg (by omega)];have hf:zld ps 57 s ks.length vs=0:=by simp[zld]
 rw[hf,Nat.add_eq_zero_iff,zsT];simp only[zvS,one1,if_true,true_and]
 constructor
 ·intro h t ht;obtain⟨j,hj,rfl⟩:=List.getElem_of_mem ht;exact h j hj
 ·intro h j hj;exact h _ (List.getElem_mem hj)
theorem ztU (ps:List PR) (t:T):(isS t=true->∀ vs,cntV ps t vs=0->cntV ps (stm t) vs=0)/\(isB t=true->∀ vs,cntV ps t vs=0->cntV ps (simp t) vs=0):=by
 induction t using T.ind with
 | _ k n s ks ih =>
  refine⟨fun h vs h0=>?_,fun h vs h0=>?_⟩
  ·have tN:=(zoK h).2;rcases zlb h with⟨_,h1⟩|h1
   ·rw[zlq,zqT h1];exact h0
   ·have hk:¬ (k=50\/k=51):=by rcases h1 with⟨h1,_⟩|⟨h1,_⟩|⟨h1,_⟩<;>omega
    rw[zlq];rw[cntV,if_neg hk,Nat.add_eq_zero_iff,zsT] at h0 ⊢;refine⟨by simpa using h0.1,fun j hj=>?_⟩;have hj':j<ks.length:=by simpa using hj
    have h2:=h0.2 j hj';rw[List.getElem_map];rcases tN _ (List.getElem_mem hj') with h3|h3
    ·rw[znG h3];exact h2
    ·rw[znH h3];exact(ih _ (List.getElem_mem hj')).2 h3 _ h2
  ·obtain⟨rfl,_,h1⟩:=(zmt _ _ _ _).1 h;rw[znI,zwt];rw[zwt] at h0;intro t ht;have:=zl1 t ht;obtain⟨u,hu,rfl⟩:=List.mem_map.1 this;exact(ih u hu).1 (h1 u hu) vs (h0 u hu)
theorem zzD (l:List T):rejN l=0↔∀ x∈l,rejE x=0:=by
 unfold rejN;rw[List.length_eq_zero_iff,List.filter_eq_nil_iff];simp
theorem zvn (n:Int) (s:ByteArray) (ks:List T):rejE (.nd 57 n s ks)=0:=by rw[zl4];simp
theorem zrx (k n:Int) (s:ByteArray) (ks:List T):po (.nd k n s ks)=.nd k n s ks::pos ks:=by rw[po]
theorem ztm {k n:Int} {s:ByteArray} {ks:List T} (h:isS (.nd k n s ks)=true):rejE (stm (.nd k n s ks))=rejE (.nd k n s ks):=by
 rw[zlq];rcases zlb h with⟨_,h1⟩|⟨hk,_,a,b,c,d,rfl,ha,hb,hc,hd⟩|⟨rfl,_⟩|⟨rfl,_⟩
 ·rw[zqT h1]
 ·have h0:kidC (.nd k n s ([a,b,c,d].map skF)) 0=kidC (.nd k n s [a,b,c,d]) 0:=by simp[kidC,znG ha]
  have h3:kidC (.nd k n s ([a,b,c,d].map skF)) 3=kidC (.nd k n s [a,b,c,d]) 3:=by simp[kidC,znG hd]
  rw[zl4,zl4,h0,h3];rcases hk with rfl|rfl<;>simp
 ·rw[zl4,zl4];simp
 ·rw[zl4,zl4];simp
theorem zxA (t:T):(isS t=true->(∀ x∈po t,rejE x=0)->∀ x∈po (stm t),rejE x=0)/\(isB t=true->(∀ x∈po t,rejE x=0)->∀ x∈po (simp t),rejE x=0):=by
 induction t using T.ind with
 | _ k n s ks ih =>
  have iD:(∀ x∈po (.nd k n s ks),rejE x=0)->∀ t∈ks,∀ x∈po t,rejE x=0:=fun h t ht x hx=>h x (by rw[zrx];exact List.mem_cons_of_mem _ (zk8.2 ⟨t,ht,hx⟩));refine⟨fun h h0 x hx=>?_,fun h h0 x hx=>?_⟩
  ·have tN:=(zoK h).2;have hs:=ztm h;rw[zlq] at hx hs;rw[zrx,List.mem_cons] at hx;rcases hx with rfl|hx
   ·rw[hs];exact h0 _ (by rw[zrx];exact List.mem_cons_self)
   ·obtain⟨t,ht,hx⟩:=zk8.1 hx;obtain⟨u,hu,rfl⟩:=List.mem_map.1 ht;rcases tN u hu with h3|h3
    ·rw[znG h3] at hx;exact iD h0 u hu x hx
    ·rw[znH h3] at hx;exact(ih u hu).2 h3 (iD h0 u hu) x hx
  ·obtain⟨rfl,_,h1⟩:=(zmt _ _ _ _).1 h;rw[znI,zrx,List.mem_cons] at hx;rcases hx with rfl|hx
   ·exact zvn _ _ _
   ·obtain⟨t,ht,hx⟩:=zk8.1 hx;obtain⟨u,hu,rfl⟩:=List.mem_map.1 (zl1 t ht);exact(ih u hu).1 (h1 u hu) (iD h0 u hu) x hx
theorem zsB (ps:List PR):∀ j,j<=ps.length->(prcN ps j=0↔∀ q (h:q<ps.length),q<j->prcE ps q ps[q]=0)
 | 0,_=>by simp[prcN]
 | j+1,hj=>by
  rw[zn5 (by omega),Nat.add_eq_zero_iff,zsB ps j (by omega)]
  constructor
  ·rintro⟨h1,h2⟩ q hq hqj;by_cases e:q<j
   ·exact h1 q hq e
   ·obtain rfl:q=j:=by omega
    exact h2
  ·exact fun h=>⟨fun q hq hqj=>h q hq (by omega),h j (by omega) (by omega)⟩
theorem zyr {p:PG} (hv:zkE p=true) (h:chkN p=0):chkN (znz p)=0:=by
 obtain⟨hb,hm,_⟩:=zmX hv;rw[zm2 hv];unfold chkN at h ⊢;simp only[Nat.add_eq_zero_iff] at h ⊢;refine⟨⟨h.1.1,?_⟩,?_⟩
 ·rw[zsB _ _ (Nat.le_refl _)];have h2:=(zsB _ _ (Nat.le_refl _)).1 h.1.2;intro q hq _;have hq':q<p.prs.length:=by simpa using hq
  have h3:=h2 q hq' hq';unfold prcE at h3 ⊢;simp only[List.getElem_map,zvp,ztV,Nat.add_eq_zero_iff] at h3 ⊢;exact⟨h3.1,(ztU p.prs p.prs[q].b).2 ((zmf _).1 (hb _ (List.getElem_mem hq'))).2 _ h3.2⟩
 ·rw[ztV];exact(ztU p.prs p.m).2 ((zmf _).1 hm).2 _ h.2
theorem zxy {p:PG} (hv:zkE p=true) (h:rjT p=0):rjT (znz p)=0:=by
 obtain⟨hb,hm,_⟩:=zmX hv;rw[zm2 hv];unfold rjT rjP at h ⊢;rw[Nat.add_eq_zero_iff] at h ⊢;have key:∀ t,zk1 t=true->rejN (po t)=0->rejN (po (simp t))=0:=fun t ht h0=>by
  rw[zzD] at h0 ⊢;exact(zxA t).2 ((zmf _).1 ht).2 h0
 refine⟨?_,key _ hm h.2⟩;have h1:=h.1;simp only[List.map_map];have:∀ l:List PR,(∀ r∈l,zk1 r.b=true)->(l.map fun r=>rejN (po r.b)).sum=0->(l.map ((fun r=>rejN (po r.b)) ∘ mapR simp)).sum=0:=by
  intro l
  induction l with
  | nil=>intro _ _;rfl
  | cons r l ih =>
   intro hl h0;simp only[List.map_cons,List.sum_cons,Nat.add_eq_zero_iff] at h0 ⊢;exact⟨key _ (hl r List.mem_cons_self) h0.1,ih (fun r hr=>hl r (List.mem_cons_of_mem _ hr)) h0.2⟩
 exact this _ hb h1
theorem zzM {p:PG} (h:okB p=true):okB (znz p)=true:=by
 unfold okB at h ⊢;simp only[Bool.and_eq_true,decide_eq_true_eq] at h ⊢;exact⟨⟨zuc h.1.1,zyr h.1.1 h.1.2⟩,zxy h.1.1 h.2⟩
end Go.Proofs.YtckhofdinldhpaaGreat
namespace Go.Proofs.YtckhofdinldhpaaGreat
open Go Go.RowKit
theorem zpn (P:T->Prop) (hs:∀ u,isS u=true->P u->P (stm u)) (hb:∀ ks,P (.nd 57 0 ⟨#[]⟩ ks)) (t:T):(isS t=true->(∀ x∈po t,P x)->∀ x∈po (stm t),P x)/\(isB t=true->(∀ x∈po t,P x)->∀ x∈po (simp t),P x):=by
 induction t using T.ind with
 | _ k n s ks ih =>
  have iD:(∀ x∈po (.nd k n s ks),P x)->∀ t∈ks,∀ x∈po t,P x:=fun h t ht x hx=>h x (by rw[zrx];exact List.mem_cons_of_mem _ (zk8.2 ⟨t,ht,hx⟩));refine⟨fun h h0 x hx=>?_,fun h h0 x hx=>?_⟩
  ·have tN:=(zoK h).2;have hs:=hs _ h (h0 _ (by rw[zrx];exact List.mem_cons_self));rw[zlq] at hx hs;rw[zrx,List.mem_cons] at hx;rcases hx with rfl|hx
   ·exact hs
   ·obtain⟨t,ht,hx⟩:=zk8.1 hx;obtain⟨u,hu,rfl⟩:=List.mem_map.1 ht;rcases tN u hu with h3|h3
    ·rw[znG h3] at hx;exact iD h0 u hu x hx
    ·rw[znH h3] at hx;exact(ih u hu).2 h3 (iD h0 u hu) x hx
  ·obtain⟨rfl,_,h1⟩:=(zmt _ _ _ _).1 h;rw[znI,zrx,List.mem_cons] at hx;rcases hx with rfl|hx
   ·exact hb _
   ·obtain⟨t,ht,hx⟩:=zk8.1 hx;obtain⟨u,hu,rfl⟩:=List.mem_map.1 (zl1 t ht);exact(ih u hu).1 (h1 u hu) (iD h0 u hu) x hx
theorem zy6 (ks:List T):OkN (.nd 57 0 ⟨#[]⟩ ks):=⟨zvn _ _ _,fun h=>by simp at h⟩
theorem zvw (u:T) (h:isS u=true) (ho:OkN u):OkN (stm u):=by
 obtain⟨k,n,s,ks⟩:=u;refine⟨(ztm h).trans ho.1,fun hk=>?_⟩;rw[zKH] at hk;obtain⟨m1,m2⟩:=ho.2 hk;simp only[T.k_nd] at hk;rcases zlb h with⟨h1,_⟩|⟨h1,_⟩|⟨_,_,a,b,c,rfl,ha,hb,hc⟩|⟨h1,_⟩
 ·omega
 ·omega
 ·rw[zlq];have e0:kid (.nd k n s ([a,b,c].map skF)) 0=a:=by simp[kid,znG ha]
  have e2:kid (.nd k n s ([a,b,c].map skF)) 2=c:=by simp[kid,znG hc]
  rw[e0,e2];exact⟨m1,m2⟩
 ·omega
theorem ztp (f:T->T) (ps:List PR) (s:ByteArray):prcI (ps.map (mapR f)) s=prcI ps s:=by rw[zqP,zqP,zoY]
def CalN (prs:List PR) (u:T):Prop:=(u.k=50\/u.k=51)->∃ i,prcI prs u.s=some i
theorem zr2 {prs:List PR} {t:T} (h:CalB prs t):(isS t=true->CalB (prs.map (mapR simp)) (stm t))/\(isB t=true->CalB (prs.map (mapR simp)) (simp t)):=by
 have h0:∀ x∈po t,CalN prs x:=fun x hx=>h x hx;have h1:∀ x∈po t,CalN (prs.map (mapR simp)) x:=fun x hx hk=>by rw[ztp];exact h x hx hk
 have key:=zpn (CalN (prs.map (mapR simp))) (fun u hu h=>by
  obtain⟨k,n,s,ks⟩:=u;intro hk;rw[zlq];rw[zKH] at hk;exact h hk) (fun ks hk=>by simp at hk) t
 exact⟨fun hs x hx=>key.1 hs h1 x hx,fun hs x hx=>key.2 hs h1 x hx⟩
theorem RvT.simp {prs:List PR} {t:T} (h:RvT prs t):RvT (prs.map (mapR simp)) (stm t) where
 gp:=⟨zow h.gp.1,(zr2 h.gp.2.1).1 h.gp.1,fun q hq=>by
  obtain⟨q0,h0,rfl⟩:=List.mem_map.1 hq;obtain⟨h1,h2⟩:=h.gp.2.2 q0 h0;exact⟨ztE h1,(zr2 h2).2 h1⟩⟩
 ok:=(zpn OkN zvw zy6 t).1 h.gp.1 h.ok
 pr:=fun q hq=>by
  obtain⟨q0,h0,rfl⟩:=List.mem_map.1 hq;exact(zpn OkN zvw zy6 q0.b).2 (h.gp.2.2 q0 h0).1 (h.pr q0 h0)
theorem zv6 (u:T) (_:isS u=true) (h:Fld u.k u.n u.s):Fld (stm u).k (stm u).n (stm u).s:=by
 obtain⟨k,n,s,ks⟩:=u;rw[zlq];exact h
theorem zzh (ks:List T):Fld (T.nd 57 0 ⟨#[]⟩ ks).k (T.nd 57 0 ⟨#[]⟩ ks).n (T.nd 57 0 ⟨#[]⟩ ks).s:=⟨⟨by simp,by simp⟩,⟨by simp,by simp⟩,Nat.zero_le _⟩
theorem LitB.stm {t:T} (h:LitB t) (hs:isS t=true):LitB (stm t):=(zpn (fun u=>Fld u.k u.n u.s) zv6 zzh t).1 hs h
theorem LitB.simp {t:T} (h:LitB t) (hs:isB t=true):LitB (simp t):=(zpn (fun u=>Fld u.k u.n u.s) zv6 zzh t).2 hs h
theorem PrB.simp {prs:List PR} (h:PrB prs) (hb:∀ q∈prs,isB q.b=true):PrB (prs.map (mapR simp)):=fun q hq=>by
 obtain⟨q0,h0,rfl⟩:=List.mem_map.1 hq;obtain⟨h1,h2,h3⟩:=h q0 h0;exact⟨h1.simp (hb q0 h0),h2,h3⟩
theorem zpR (f:T->RS->Out) (σ:T->T):∀ (l:List T) (r:RS),zkp f (l.map σ) r=zkp (fun t=>f (σ t)) l r
 | [],_=>rfl
 | t::l,r=>by
  rw[List.map_cons,zkp,zkp];congr 1;funext r1;exact zpR f σ l r1
theorem znT {f f':T->RS->Out}:∀ (l:List T) (r:RS),(∀ t∈l,∀ r,f t r=f' t r)->zkp f l r=zkp f' l r
 | [],_,_=>rfl
 | t::l,r,h=>by
  rw[zkp,zkp,h t (List.mem_cons_self ..)];congr 1;funext r1;exact znT l r1 fun u hu=>h u (List.mem_cons_of_mem _ hu)
theorem zpt {F:Int} {f f':T->RS->Out} {en te:T} {l1 l2 m1 m2:List T} (h1:∀ r,zkp f l1 r=zkp f' m1 r) (h2:∀ r,zkp f l2 r=zkp f' m2 r):∀ (m:Nat) (r:RS),zk9 F f en te l1 l2 m r=zk9 F f' en te m1 m2 m r
 | 0,_=>rfl
 | m+1,r=>by
  rw[zk9,zk9,h1];congr 1;funext r1;congr 1;funext b r2
  split
  ·rfl
  ·rw[h2];congr 1;funext r3;congr 1;funext r4;exact zpt h1 h2 m r4
section
variable {prs:List PR} {F:Int} {g:Nat} {back:Bool} {t:T} {r:RS}
theorem zo2 (h2:t.k≠52) (h3:t.k≠53) (h4:t.k≠54) (h5:t.k≠55) (h0:¬ (t.k=50\/t.k=51)):zkk prs F (g+1) back t r=(zkw F r).bind fun r=>zkf r (if back=true then zlp r.S t else doE r.S t):=by
 rw[zkk,if_neg h2,if_neg h3,if_neg h4,if_neg h5,if_neg h0]
theorem zq5 (h2:t.k=52):zkk prs F (g+1) back t r=zk0 F (fstT back t) r fun yes r=>(zkp (zkk prs F g back) (blkL back (if yes=true then kid t 1 else kid t 2)) r).bind (zkn F (lstT back t) yes):=by
 rw[zkk,if_pos h2]
theorem zod (h3:t.k=53):zkk prs F (g+1) back t r=(zkn F (fstT back t) true r).bind (zk9 F (zkk prs F g back) (fstT back t) (lstT back t) (blkL back (kid t 1)) (blkL back (kid t 2)) g):=by
 rw[zkk,if_neg (by omega),if_pos h3]
theorem zo1 (h4:t.k=54):zkk prs F (g+1) back t r=(zkw F r).bind fun r=>valO (fstT back t) r fun x r=>(zkf r (zkv r.S ⟨t.s,1,0⟩ x)).bind fun r=>(zkp (zkk prs F g back) (blkL back (kid t 1)) r).bind fun r=>(zkw F r).bind fun r=>valO (lstT back t) r fun x r=>zkf r (zku r.S t.s x):=by
 rw[zkk,if_neg (by omega),if_neg (by omega),if_pos h4]
theorem zo0 (h5:t.k=55):zkk prs F (g+1) back t r=(zkw F r).bind fun r=>(zkf r (zkv r.S ⟨t.s,3,0⟩ 0)).bind fun r=>(zkp (zkk prs F g back) (blkL back (kid t 0)) r).bind fun r=>(zkw F r).bind fun r=>zkf r (zku r.S t.s 0):=by
 rw[zkk,if_neg (by omega),if_neg (by omega),if_neg (by omega),if_pos h5]
theorem zoe {i:Nat} {q:PR} (h0:t.k=50\/t.k=51) (hi:prcI prs t.s=some i) (hq:prs.getD i ⟨⟨#[]⟩,[],nil0⟩=q) {bk:Bool} (hb:(back != decide (t.k=51))=bk):zkk prs F (g+1) back t r=(zkw F r).bind fun r=>(zkf r (zkT r.S q.ps (t.ks.map (·.s)))).bind fun r=>(zkp (zkk prs F g bk) (blkL bk q.b) { r with ent:=r.ent.set i (r.ent.getD i 0+1) }).bind fun r=>(zkw F r).bind fun r=>zkf r (zla r.S):=by
 subst hq hb;rw[zkk,if_neg (by omega),if_neg (by omega),if_neg (by omega),if_neg (by omega),if_pos h0,hi]
theorem zpH (h0:t.k=50\/t.k=51) (hi:prcI prs t.s=none):zkk prs F (g+1) back t r=.err 0:=by
 rw[zkk,if_neg (by omega),if_neg (by omega),if_neg (by omega),if_neg (by omega),if_pos h0,hi]
end
theorem zq4 {prs:List PR} {F:Int}:∀ (g:Nat) (back:Bool) (u:T),isS u=true->∀ r,zkk prs F g back (inv false u) r=zkk prs F g (!back) u r
 | 0,_,_,_,_=>rfl
 | g+1,back,u,hu,r=>by
  have hb:∀ (b:T),isB b=true->∀ r,zkp (zkk prs F g back) (blkL back (inv false b)) r=zkp (zkk prs F g (!back)) (blkL (!back) b) r:=fun b hb r=>by
   obtain⟨k,n,s,ks⟩:=b;obtain⟨rfl,-,h1⟩:=(zmt _ _ _ _).1 hb;have e:blkL back (inv false (.nd 57 n s ks))=(blkL (!back) (.nd 57 n s ks)).map (inv false):=by
    rw[zm8];unfold blkL
    cases back<;>simp
   rw[e,zpR];exact znT _ _ fun t ht r=>zq4 g back t (h1 t (zkR ht)) r
  obtain⟨k,n,s,ks⟩:=u;rcases zlb hu with⟨hk,hks⟩|⟨hk,_,a,b,c,d,rfl,ha,hb1,hb2,hd⟩|⟨rfl,_,a,b,c,rfl,ha,hb1,hc⟩|⟨rfl,_,b,rfl,hb1⟩
  ·rw[zmy hk hks];by_cases h50:k=50\/k=51
   ·have he:exch k=50\/exch k=51:=by rcases h50 with rfl|rfl<;>decide
    have hd:(back != decide (exch k=51))=((!back) != decide (k=51)):=by rcases h50 with rfl|rfl<;>cases back<;>decide
    cases hi:prcI prs s with
    | none=>rw[zpH (t:=.nd (exch k) n s ks) he hi,zpH (t:=.nd k n s ks) h50 hi]
    | some i=>rw[zoe (t:=.nd (exch k) n s ks) he hi rfl hd,zoe (t:=.nd k n s ks) h50 hi rfl rfl];rfl
   ·obtain⟨h2,h3,h4,h5,-⟩:=hk;obtain⟨h6,h7⟩:=not_or.1 h50;have hx:exch k=zkL k:=by
     unfold exch zkL
     (repeat' split)<;>first|rfl|omega
    have hv:zkL k≠52/\zkL k≠53/\zkL k≠54/\zkL k≠55/\¬ (zkL k=50\/zkL k=51):=by
     unfold zkL
     (repeat' split)<;>omega
    rw[hx,zo2 (t:=.nd (zkL k) n s ks) hv.1 hv.2.1 hv.2.2.1 hv.2.2.2.1 hv.2.2.2.2,zo2 (t:=.nd k n s ks) h2 h3 h4 h5 h50];congr 1;funext r1
    cases back
    ·simp only[Bool.not_false,if_true,Bool.false_eq_true,if_false,zlp]
    ·simp only[Bool.not_true,if_true,Bool.false_eq_true,if_false,zlp,ztF]
  ·rw[zrN hk ha hb1 hb2 hd];have e1:fstT back (.nd k n s [d,inv false b,inv false c,a])=fstT (!back) (.nd k n s [a,b,c,d]):=by cases back<;>rfl
   have e2:lstT back (.nd k n s [d,inv false b,inv false c,a])=lstT (!back) (.nd k n s [a,b,c,d]):=by cases back<;>rfl
   rcases hk with rfl|rfl
   ·rw[zq5 (t:=.nd 52 n s [d,inv false b,inv false c,a]) rfl,zq5 (t:=.nd 52 n s [a,b,c,d]) rfl,e1,e2];congr 1;funext yes r1;congr 1
    cases yes
    ·exact hb c hb2 r1
    ·exact hb b hb1 r1
   ·rw[zod (t:=.nd 53 n s [d,inv false b,inv false c,a]) rfl,zod (t:=.nd 53 n s [a,b,c,d]) rfl,e1,e2];congr 1;funext r1;exact zpt (hb b hb1) (hb c hb2) g r1
  ·rw[zm6 ha hb1 hc];have e1:fstT back (.nd 54 n s [c,inv false b,a])=fstT (!back) (.nd 54 n s [a,b,c]):=by cases back<;>rfl
   have e2:lstT back (.nd 54 n s [c,inv false b,a])=lstT (!back) (.nd 54 n s [a,b,c]):=by cases back<;>rfl
   have k1:kid (.nd 54 n s [c,inv false b,a]) 1=inv false b:=rfl;have j1:kid (.nd 54 n s [a,b,c]) 1=b:=rfl;rw[zo1 (t:=.nd 54 n s [c,inv false b,a]) rfl,zo1 (t:=.nd 54 n s [a,b,c]) rfl,e1,e2,k1,j1];simp only[hb b hb1];rfl
  ·rw[zmz hb1];have k1:kid (.nd 55 n s [inv false b]) 0=inv false b:=rfl;have j1:kid (.nd 55 n s [b]) 0=b:=rfl;rw[zo0 (t:=.nd 55 n s [inv false b]) rfl,zo0 (t:=.nd 55 n s [b]) rfl,k1,j1];simp only[hb b hb1];rfl
structure Wk0 (F0:Int) (r x:RS):Prop where
 e:Eqv r.S x.S
 n:x.n<=r.n
 f:(r.n:Int)<=F0
structure Wk1 (F0:Int) (r x:RS):Prop where
 w:Wk0 F0 r x
 i:RInv x
 d:NdS x.S
def WkO (P:RS->RS->Prop) (o o':Out):Prop:=∀ r',o=.ok r'->∃ x',o'=.ok x'/\P r' x'
section
variable {P Q:RS->RS->Prop} {F0 F:Int} {r x:RS} {t:T}
theorem WkO.bind {o o':Out} {f f':RS->Out} (h:WkO P o o') (hf:∀ r x,P r x->WkO Q (f r) (f' x)):WkO Q (o.bind f) (o'.bind f'):=fun r' hr=>by
 obtain⟨r1,h1,h2⟩:=zkq hr;obtain⟨x1,g1,g2⟩:=h r1 h1;obtain⟨x2,k1,k2⟩:=hf r1 x1 g2 r' h2;exact⟨x2,by rw[g1,zm5];exact k1,k2⟩
theorem WkO.same (h:P r x):WkO P (.ok r) (.ok x):=fun r' e=>by
 injection e with e;subst e;exact⟨x,rfl,h⟩
theorem WkO.err {e:Int} {o':Out}:WkO P (.err e) o':=fun r' h=>by cases h
theorem WkO.step {f f':RS->Out} (eX:F0<=F) (h:Wk0 F0 r x) (hf:(r.n:Int)<F0->(x.n:Int)<F->WkO Q (f { r with n:=r.n+1 }) (f' { x with n:=x.n+1 })):WkO Q ((zkw F0 r).bind f) ((zkw F x).bind f'):=fun r' hr=>by
 obtain⟨r1,h1,h2⟩:=zkq hr;obtain⟨rfl,hn⟩:=zky h1;have:=h.n;have hx:(x.n:Int)<F:=by omega
 rw[zlF hx,zm5];exact hf hn hx r' h2
theorem Wk1.tick (hF:F<=1000000) (h:Wk1 F0 r x) (h1:(r.n:Int)<F0) (h2:(x.n:Int)<F):Wk1 F0 { r with n:=r.n+1 } { x with n:=x.n+1 }:=⟨⟨h.w.e,by have:=h.w.n;simp only;omega,by simp only;omega⟩,h.i.tick hF h2,h.d⟩
theorem WkO.val {f f':Int->RS->Out} (h:Eqv r.S x.S) (hf:∀ v,v=(zkH x.S.look t).1->WkO Q (f v r) (f' v x)):WkO Q (valO t r f) (valO t x f'):=by
 unfold valO;rw[<-h.look]
 split
 ·exact WkO.err
 ·exact hf _ rfl
theorem WkO.holds {f f':Bool->RS->Out} (hF:F<=1000000) (eX:F0<=F) (h:Wk1 F0 r x) (hf:∀ b r1 x1,Wk1 F0 r1 x1->WkO Q (f b r1) (f' b x1)):WkO Q (zk0 F0 t r f) (zk0 F t x f'):=by
 unfold zk0;exact WkO.step eX h.w fun h1 h2=>WkO.val (by exact h.w.e) fun v _=>hf _ _ _ (h.tick hF h1 h2)
theorem WkO.assert {b:Bool} (hF:F<=1000000) (eX:F0<=F) (h:Wk1 F0 r x):WkO (Wk1 F0) (zkn F0 t b r) (zkn F t b x):=by
 unfold zkn;refine WkO.holds hF eX h fun b1 r1 x1 h1=>?_
 split
 ·exact WkO.same h1
 ·exact WkO.err
theorem WkO.store {R R':Int×ST} (h:R.1=0->R'.1=0/\Q { r with S:=R.2 } { x with S:=R'.2 }):WkO Q (zkf r R) (zkf x R'):=fun r' hr=>by
 obtain⟨h0,rfl⟩:=zkZ hr;obtain⟨h1,h2⟩:=h h0;exact⟨_,zln h1,h2⟩
theorem WkO.loop (hF:F<=1000000) (eX:F0<=F) {e e':T->RS->Out} {en te:T} {l1 l2 m1 m2:List T} (h1:∀ r x,Wk1 F0 r x->WkO (Wk1 F0) (zkp e l1 r) (zkp e' m1 x)) (h2:∀ r x,Wk1 F0 r x->WkO (Wk1 F0) (zkp e l2 r) (zkp e' m2 x)) :
  ∀ (m:Nat) (r x:RS),Wk1 F0 r x->WkO (Wk1 F0) (zk9 F0 e en te l1 l2 m r) (zk9 F e' en te m1 m2 m x)
 | 0,_,_,_=>fun r' h=>by cases h
 | m+1,r,x,h=>by
  rw[zk9,zk9];refine(h1 r x h).bind fun r1 x1 g1=>WkO.holds hF eX g1 fun b r2 x2 g2=>?_
  split
  ·exact WkO.same g2
  ·exact(h2 r2 x2 g2).bind fun r3 x3 g3=>(WkO.assert hF eX g3).bind fun r4 x4 g4=>WkO.loop hF eX h1 h2 m r4 x4 g4
theorem Wk0.op {R R':Int×ST} (h:Wk0 F0 r x) (h1:(r.n:Int)<F0) (ho:OpS True Eqv R R') (h0:R.1=0):R'.1=0/\Wk0 F0 { r with n:=r.n+1,S:=R.2 } { x with n:=x.n+1,S:=R'.2 }:=by
 obtain⟨a1,a2⟩:=ho.1 h0;exact⟨a1,a2,by have:=h.n;simp only;omega,by simp only;omega⟩
theorem Wk1.open_ (hF:F<=1000000) (h:Wk1 F0 r x) (h1:(r.n:Int)<F0) (h2:(x.n:Int)<F) {v:VD} (hv:FldV v) {y:Int} (hy:I64 y) (h0:(zkv r.S v y).1=0):(zkv x.S v y).1=0/\Wk1 F0 { r with n:=r.n+1,S:=(zkv r.S v y).2 } { x with n:=x.n+1,S:=(zkv x.S v y).2 }:=by
 obtain⟨a1,a2⟩:=h.w.op h1 ((znR F).open_ x.n _ _ v y h2 h.w.e) h0;refine⟨a1,a2,RInv.store h.i hF h2 (zn6 h.i.wf v hv y hy (by have:=h.i.fb.cur;have:=h.i.n;omega)) (h.i.fb.open_ _ _),?_⟩
 show NdS (zkv x.S v y).2
 rw[(zmJ a1).2.2];exact h.d.open_ h.i.wf _ _
theorem Wk1.enter (hF:F<=1000000) (h:Wk1 F0 r x) (h1:(r.n:Int)<F0) (h2:(x.n:Int)<F) {ps:List VD} {ks:List T} (hf:∀ v∈ps,FldV v) (hl:ps.length<=1000) (hd:dupB ks=false) (h0:(zkT r.S ps (ks.map (·.s))).1=0):(zkT x.S ps (ks.map (·.s))).1=0/\Wk1 F0 { r with n:=r.n+1,S:=(zkT r.S ps (ks.map (·.s))).2 } { x with n:=x.n+1,S:=(zkT x.S ps (ks.map (·.s))).2 }:=by
 obtain⟨a1,a2⟩:=h.w.op h1 ((znR F).enter x.n _ _ ps (ks.map (·.s)) h2 h.w.e) h0;refine⟨a1,a2,RInv.store h.i hF h2 (zpK h.i.wf _ (ks.map (·.s)) hf (by omega)) (h.i.fb.enter _ _ hl),?_⟩;obtain⟨f,f1,f2,f3,f4⟩:=zpJ a1;obtain⟨kd,hc⟩:=h.i.wf.cur
 show NdS (zkT x.S ps (ks.map (·.s))).2
 rw[f4];refine⟨h.d.1,fun g hg=>?_⟩;rcases List.mem_append.1 hg with hg|hg
 ·exact h.d.2 g hg
 ·obtain rfl:=List.mem_singleton.1 hg;rcases zq7 h.d.cur hc.len ps ks ⟨[],[],0⟩ g hd (by simp) (by simp) f2 with h8|h8<;>exact h8.1
theorem zr5 {e':T->RS->Out}:∀ (m:List T) (x x':RS),(∀ u∈m,∀ x x',RInv x->NdS x.S->e' u x=.ok x'->RInv x'/\NdS x'.S)->RInv x->NdS x.S->zkp e' m x=.ok x'->RInv x'/\NdS x'.S
 | [],x,x',_,hi,hd,h=>by
  injection h with h;subst h;exact⟨hi,hd⟩
 | u::m,x,x',hk,hi,hd,h=>by
  rw[zkp] at h;obtain⟨x1,h1,h2⟩:=zkq h;obtain⟨a1,a2⟩:=hk u (List.mem_cons_self ..) x x1 hi hd h1;exact zr5 m x1 x' (fun v hv=>hk v (List.mem_cons_of_mem _ hv)) a1 a2 h2
theorem ztC {e e':T->RS->Out} {σ:T->T}:∀ (L:List T),(∀ t∈L,∀ r x,Wk1 F0 r x->WkO (Wk1 F0) (e t r) (e' (σ t) x)) ->
  (∀ t∈L,∀ x x',RInv x->NdS x.S->e' (σ t) x=.ok x'->RInv x'/\NdS x'.S) ->
  (∀ t∈L,∀ b x x1 x2,canc (σ t) b=true->RInv x->NdS x.S->(x1.n:Int)<=F0->e' (σ t) x=.ok x1->e' b x1=.ok x2->Eqv x.S x2.S/\x.n<=x2.n) ->
  ∀ r x,Wk1 F0 r x->WkO (Wk1 F0) (zkp e L r) (zkp e' (foldC (L.map σ)) x):=by
 intro L
 induction L using zor with
 | h0=>exact fun _ _ _ r x h=>WkO.same h
 | h1 L t ih =>
  intro H1 H2 H3 r x h r' hr;rw[zng] at hr;obtain⟨r1,h1,h2⟩:=zkq hr;obtain⟨x1,g1,g2⟩:=ih (fun u hu=>H1 u (by simp[hu])) (fun u hu=>H2 u (by simp[hu])) (fun u hu=>H3 u (by simp[hu])) r x h r1 h1;rw[zkp] at h2;obtain⟨r2,h3,h4⟩:=zkq h2;injection h4 with h4;subst h4;obtain⟨x2,g3,g4⟩:=H1 t (by simp) r1 x1 g2 r2 h3;have one:∀ (m:List T) y,zkp e' m x=.ok y->e' (σ t) y=.ok x2->zkp e' (m++[σ t]) x=.ok x2:=fun m y hy hy2=>by
   rw[zng,hy,zm5,zkp,hy2,zm5];rfl
  rw[List.map_append,zrS]
  show ∃ x',zkp e' (zl6 (foldC (L.map σ)) (σ t)) x=.ok x'/\_
  unfold zl6;rcases hl:(foldC (L.map σ)).getLast? with _|a
  ·have hn:foldC (L.map σ)=[]:=List.getLast?_eq_none_iff.1 hl;rw[hn] at g1;exact⟨x2,one [] x1 g1 g3,g4⟩
  ·obtain⟨m,hm⟩:=List.getLast?_eq_some_iff.1 hl;simp only;by_cases hc:canc a (σ t)=true
   ·rw[if_pos hc];rw[hm] at g1 ⊢;rw[List.dropLast_concat];rw[zng] at g1;obtain⟨x0,k1,k2⟩:=zkq g1;rw[zkp] at k2;obtain⟨x3,k3,k4⟩:=zkq k2;injection k4 with k4;subst k4;have hmem:∀ u∈m++[a],∃ s∈L,u=σ s:=fun u hu=>by
     obtain⟨s,hs,e⟩:=List.mem_map.1 (zl1 u (hm▸hu));exact⟨s,hs,e.symm⟩
    obtain⟨i0,d0⟩:=zr5 m x x0 (fun u hu y y' hi hd hy=>by
     obtain⟨s,hs,rfl⟩:=hmem u (by simp[hu]);exact H2 s (by simp[hs]) y y' hi hd hy) h.i h.d k1
    obtain⟨s,hs,rfl⟩:=hmem a (by simp);have hx3:=g2.w.n;have hf3:=g2.w.f;obtain⟨q1,q2⟩:=H3 s (by simp[hs]) (σ t) x0 x3 x2 hc i0 d0 (by omega) k3 g3;have:=g4.w.n;exact⟨x0,k1,⟨g4.w.e.trans q1.symm,by omega,g4.w.f⟩,i0,d0⟩
   ·rw[if_neg hc];exact⟨x2,one _ x1 g1 g3,g4⟩
end
section
variable {prs:List PR} {F0 F:Int}
theorem zqL (hF:F<=1000000) (hp:PrB prs) {g:Nat} {back:Bool} {t:T} (hl:LitB t) {x x':RS} (hi:RInv x) (hd:NdS x.S) (h:zkk prs F g back t x=.ok x'):RInv x'/\NdS x'.S:=by
 obtain⟨h1,h2⟩:=zlC hF hp g back t x x' hl hi h;exact⟨h1,hd.keep h2⟩
theorem zrp (hF:F<=1000000) (h2F:2*F0<=F) (hp:PrB prs) {g:Nat} {back:Bool} {t:T} (ht:RvT prs t) (hl:LitB t) {x x1 x2:RS} (hi:RInv x) (hd:NdS x.S) (hn:(x1.n:Int)<=F0) (h1:zkk prs F g back t x=.ok x1) (h2:zkk prs F g (!back) t x1=.ok x2):Eqv x.S x2.S/\x.n<=x2.n:=by
 obtain⟨⟨a0,a1⟩,a2,a3⟩:=zof hF hp g back t ht hl x x1 hi hd h1;obtain⟨y,b1,b2,b3⟩:=a1 x1 (Eqv.refl a2.wf) (by omega);rw[h2] at b1;injection b1 with b1;subst b1;exact⟨b2,by omega⟩
theorem zr6 {prs':List PR} (hF:F<=1000000) (h2F:2*F0<=F) (hp':PrB prs') {g:Nat} {back:Bool} (hst:∀ t,RvT prs t->LitB t->∀ r x,Wk1 F0 r x->WkO (Wk1 F0) (zkk prs F0 g back t r) (zkk prs' F g back (stm t) x))
  (dR:∀ t,RvT prs t->RvT prs' (stm t)) {b:T} (hb:isB b=true) (hks:∀ u∈b.ks,RvT prs u) (hl:LitB b):∀ r x,Wk1 F0 r x->WkO (Wk1 F0) (zkp (zkk prs F0 g back) (blkL back b) r) (zkp (zkk prs' F g back) (blkL back (simp b)) x):=by
 obtain⟨k,n,s,ks⟩:=b;have hS:∀ t∈ks,isS t=true:=fun t ht=>(hks t ht).gp.1;have hL:∀ t∈ks,LitB t:=fun t ht=>hl.kid ht;have hR:∀ t∈ks,RvT prs t:=hks;intro r x h;rw[znI]
 cases back
 ·show WkO _ (zkp _ ks r) (zkp _ (foldC (ks.map stm)) x)
  refine ztC ks (fun t ht=>hst t (hR t ht) (hL t ht)) (fun t ht x x' hi hd hx=>zqL hF hp' ((hL t ht).stm (hS t ht)) hi hd hx) (fun t ht b x x1 x2 hc hi hd hn hx1 hx2=>?_) r x h;obtain⟨c1,-,-,rfl⟩:=(znw _ _).1 hc;rw[zq4 _ _ _ c1] at hx2;exact zrp hF h2F hp' (dR t (hR t ht)) ((hL t ht).stm (hS t ht)) hi hd hn hx1 hx2
 ·show WkO _ (zkp _ ks.reverse r) (zkp _ (foldC (ks.map stm)).reverse x)
  have hSs:∀ t∈ks.map stm,isS t=true:=fun t ht=>by
   obtain⟨u,hu,rfl⟩:=List.mem_map.1 ht;exact zow (hS u hu)
  have key:=ztC (e:=zkk prs F0 g true) (e':=fun t=>zkk prs' F g true (inv false t)) (σ:=fun t=>inv false (stm t)) ks.reverse (fun t ht r x h=>by
   have ht:=List.mem_reverse.1 ht;rw[zm7 (zow (hS t ht))];exact hst t (hR t ht) (hL t ht) r x h) (fun t ht x x' hi hd hx=>by
   have ht:=List.mem_reverse.1 ht;rw[zm7 (zow (hS t ht))] at hx;exact zqL hF hp' ((hL t ht).stm (hS t ht)) hi hd hx) (fun t ht b x x1 x2 hc hi hd hn hx1 hx2=>by
   have ht:=List.mem_reverse.1 ht;obtain⟨c1,-,-,rfl⟩:=(znw _ _).1 hc;rw[zm7 (zow (hS t ht))] at hx1 hx2;rw[zq4 _ _ _ (zow (hS t ht))] at hx2;exact zrp hF h2F hp' (dR t (hR t ht)) ((hL t ht).stm (hS t ht)) hi hd hn hx1 hx2) r x h
  have e:ks.reverse.map (fun t=>inv false (stm t))=((ks.map stm).map (inv false)).reverse:=by rw[List.map_reverse,List.map_map];rfl
  rw[e,zrQ _ hSs,<-List.map_reverse] at key;have e2:zkp (fun t=>zkk prs' F g true (inv false t)) ((foldC (ks.map stm)).reverse.map (inv false)) x=zkp (zkk prs' F g true) (foldC (ks.map stm)).reverse x:=by
   rw[zpR];exact znT _ _ fun t ht r=>by rw[zm7 (hSs t (zl1 t (List.mem_reverse.1 ht)))]
  rw[e2] at key;exact key
theorem zvT {prs:List PR} {i:Nat} {q:PR} (h:prs[i]?=some q):(prs.map (mapR simp)).getD i ⟨⟨#[]⟩,[],nil0⟩=⟨q.s,q.ps,simp q.b⟩:=by
 rw[List.getD_eq_getElem?_getD,List.getElem?_map,h];rfl
theorem ztg (hF:F<=1000000) (h2F:2*F0<=F) (gT:0<=F0) (hp:PrB prs) (hq:∀ q∈prs,isB q.b=true):∀ (g:Nat) (back:Bool) (t:T),RvT prs t->LitB t->∀ r x,Wk1 F0 r x->WkO (Wk1 F0) (zkk prs F0 g back t r) (zkk (prs.map (mapR simp)) F g back (stm t) x)
 | 0,_,_,_,_=>fun r x _ r' h=>by cases h
 | g+1,back,t,ht,hl=>fun r x h=>by
  have eX:F0<=F:=by omega
  have hp':=hp.simp hq;have hb:∀ (back:Bool) (b:T),isB b=true->(∀ u∈b.ks,RvT prs u)->LitB b->∀ r x,Wk1 F0 r x->WkO (Wk1 F0) (zkp (zkk prs F0 g back) (blkL back b) r) (zkp (zkk (prs.map (mapR simp)) F g back) (blkL back (simp b)) x):=fun back b hb hks hlb =>
   zr6 hF h2F hp' (fun t ht hl=>ztg hF h2F gT hp hq g back t ht hl) (fun t ht=>ht.simp) hb hks hlb
  have main:WkO (Wk0 F0) (zkk prs F0 (g+1) back t r) (zkk (prs.map (mapR simp)) F (g+1) back (stm t) x):=by
   have hs:=ht.gp.1;have ht2:=ht.two;have ht3:=ht.loc;have ht4:=ht.stk;have ht5:=ht.cal;have hown:=ht.own.1;obtain⟨k,n,s,ks⟩:=t;simp only[T.k_nd,T.s_nd] at ht2 ht3 ht4 ht5;rcases zlb hs with⟨hk,hks⟩|⟨hk,_,a,b,c,d,rfl,ha,hb1,hb2,hd⟩|⟨rfl,_,a,b,c,rfl,ha,hb1,hc⟩|⟨rfl,_,b,rfl,hb1⟩
   ·have est:stm (.nd k n s ks)=.nd k n s ks:=by rw[zlq,zqT hks]
    rw[est];by_cases h50:k=50\/k=51
    ·have hdup:dupB ks=false:=by
      rw[zl4] at hown;rw[if_neg (by omega),if_neg (by omega),if_neg (by omega),if_neg (by omega),if_neg (by omega),if_pos h50] at hown
      cases hd:dupB ks with
      | true=>rw[hd] at hown;cases hown
      | false=>rfl
     cases hi:prcI prs s with
     | none =>
      rw[zpH (t:=.nd k n s ks) h50 hi];exact WkO.err
     | some i =>
      obtain⟨-,hlt⟩:=zoU _ _ _ hi;have hget:=List.getElem?_eq_getElem hlt;obtain⟨q,hqe⟩:∃ q,prs[i]=q:=⟨_,rfl⟩
      rw[hqe] at hget;have hR:=ht5 h50 i hi;obtain⟨q1,q2,q3⟩:=hp.getD i;rw[getD_some hget] at hR q1 q2 q3;rw[zoe (t:=.nd k n s ks) h50 hi (getD_some hget) rfl,zoe (t:=.nd k n s ks) h50 ((ztp simp prs s).trans hi) (zvT hget) rfl];refine WkO.step eX h.w fun h1 h2=>(WkO.store (Q:=Wk1 F0) fun h0=>h.enter hF h1 h2 q2 q3 hdup h0).bind fun r2 x2 g2=>WkO.bind (P:=Wk1 F0) (hb _ q.b (hq q (List.mem_of_getElem? hget)) hR q1 { r2 with ent:=r2.ent.set i (r2.ent.getD i 0+1) } { x2 with ent:=x2.ent.set i (x2.ent.getD i 0+1) } ⟨⟨g2.w.e,g2.w.n,g2.w.f⟩,⟨g2.i.wf,g2.i.fb,g2.i.n⟩,g2.d⟩) fun r3 x3 g3=>?_;exact WkO.step eX g3.w fun h1 h2=>WkO.store fun h0=>g3.w.op h1 ((znR F).leave x3.n _ _ h2 g3.w.e) h0
    ·obtain⟨j2,j3,j4,j5,-⟩:=hk;rw[zo2 (t:=.nd k n s ks) j2 j3 j4 j5 h50,zo2 (t:=.nd k n s ks) j2 j3 j4 j5 h50];refine WkO.step eX h.w fun h1 h2=>WkO.store fun h0=>h.w.op h1 ?_ h0
     cases back
     ·exact(znR F).do_ x.n _ _ _ h2 h.w.e
     ·exact(znR F).undo x.n _ _ (.nd k n s ks) h2 h.w.e
   ·have est:stm (.nd k n s [a,b,c,d])=.nd k n s [a,simp b,simp c,d]:=by rw[zlq];simp[znG ha,znH hb1,znH hb2,znG hd]
    obtain⟨r1,r2⟩:=ht2 hk;have l1:=hl.kid (t:=b) (by simp);have l2:=hl.kid (t:=c) (by simp);have e1:fstT back (.nd k n s [a,simp b,simp c,d])=fstT back (.nd k n s [a,b,c,d]):=by cases back<;>rfl
    have e2:lstT back (.nd k n s [a,simp b,simp c,d])=lstT back (.nd k n s [a,b,c,d]):=by cases back<;>rfl
    have up:∀ {o o':Out},WkO (Wk1 F0) o o'->WkO (Wk0 F0) o o':=fun h r' hr=>by
     obtain⟨x',q1,q2⟩:=h r' hr;exact⟨x',q1,q2.w⟩
    rw[est];rcases hk with rfl|rfl
    ·rw[zq5 (t:=.nd 52 n s [a,simp b,simp c,d]) rfl,zq5 (t:=.nd 52 n s [a,b,c,d]) rfl,e1,e2];refine WkO.holds hF eX h fun yes r1' uC h1=>WkO.bind (P:=Wk1 F0) ?_ fun r2' x2' h2=>up (WkO.assert hF eX h2)
     cases yes
     ·exact hb back c hb2 r2 l2 r1' uC h1
     ·exact hb back b hb1 r1 l1 r1' uC h1
    ·rw[zod (t:=.nd 53 n s [a,simp b,simp c,d]) rfl,zod (t:=.nd 53 n s [a,b,c,d]) rfl,e1,e2];exact up ((WkO.assert hF eX h).bind fun r1' uC h1=>WkO.loop hF eX (hb back b hb1 r1 l1) (hb back c hb2 r2 l2) g r1' uC h1)
   ·have est:stm (.nd 54 n s [a,b,c])=.nd 54 n s [a,simp b,c]:=by rw[zlq];simp[znG ha,znH hb1,znG hc]
    obtain⟨-,r1⟩:=ht3 rfl;have l1:=hl.kid (t:=b) (by simp);have e1:fstT back (.nd 54 n s [a,simp b,c])=fstT back (.nd 54 n s [a,b,c]):=by cases back<;>rfl
    have e2:lstT back (.nd 54 n s [a,simp b,c])=lstT back (.nd 54 n s [a,b,c]):=by cases back<;>rfl
    have kC:LitB (fstT back (.nd 54 n s [a,b,c])):=by unfold fstT;split<;>exact hl.kidD _
    have ky:=zoy hl 1 (.inl rfl);rw[est,zo1 (t:=.nd 54 n s [a,simp b,c]) rfl,zo1 (t:=.nd 54 n s [a,b,c]) rfl,e1,e2];refine WkO.step eX h.w fun h1 h2=>WkO.val (by exact h.w.e) fun v hv=>(WkO.store (Q:=Wk1 F0) fun h0=>h.open_ hF h1 h2 ky (by rw[hv];exact LitB.expr h.i.wf kC) h0).bind fun r2 x2 g2=>WkO.bind (P:=Wk1 F0) (hb back b hb1 r1 l1 r2 x2 g2) fun r3 x3 g3=>?_;exact WkO.step eX g3.w fun h1 h2=>WkO.val (by exact g3.w.e) fun v _=>WkO.store fun h0=>g3.w.op h1 ((znR F).close x3.n _ _ _ _ h2 g3.w.e) h0
   ·have est:stm (.nd 55 n s [b])=.nd 55 n s [simp b]:=by rw[zlq];simp[znH hb1]
    have r1:=ht4 rfl;have l1:=hl.kid (t:=b) (by simp);have ky:=zoy hl 3 (.inr rfl);rw[est,zo0 (t:=.nd 55 n s [simp b]) rfl,zo0 (t:=.nd 55 n s [b]) rfl];refine WkO.step eX h.w fun h1 h2=>(WkO.store (Q:=Wk1 F0) fun h0=>h.open_ hF h1 h2 ky zero_I64 h0).bind fun r2 x2 g2=>WkO.bind (P:=Wk1 F0) (hb back b hb1 r1 l1 r2 x2 g2) fun r3 x3 g3=>?_;exact WkO.step eX g3.w fun h1 h2=>WkO.store fun h0=>g3.w.op h1 ((znR F).close x3.n _ _ _ _ h2 g3.w.e) h0
  intro r' hr;obtain⟨x',h1,h2⟩:=main r' hr;obtain⟨h3,h4⟩:=zqL hF hp' (hl.stm ht.gp.1) h.i h.d h1;exact⟨x',h1,h2,h3,h4⟩
end
theorem zxt {p:PG} {s:SS} {F:Int} {g:Nat} {back:Bool} (hF:F<=2000) (hg:4000*2000+2000<=g) (hok:okB p=true) (hl:LitB p.m) (hp:PrB p.prs) (hf:∀ u∈p.vs,FldV u) (hI:s.I) (h:(resO p s F g back).2.2.1=0) :
  (resO (znz p) s F g back).2.2.1=0/\(resO (znz p) s F g back).2.1<=(resO p s F g back).2.1/\(resO (znz p) s F g back).1=(resO p s F g back).1:=by
 have hg1:F.toNat*2000+2000<=g:=by omega
 obtain⟨hle,hsame,-⟩:=ztJ hg1 h;obtain⟨h1,h2,h3,r',hr',he⟩:=zvi hg1 h;obtain⟨hb1,hb2⟩:=zo8 h1;obtain⟨hi,hn⟩:=zu7 (e:=List.replicate p.prs.length 0) (by have:=(zlX h1).1;omega) h3 hf hI;rw[he] at hle hsame ⊢;simp only at hle hsame ⊢
 -- the run with the fuel max F 0
 have k0:=(zpl (F:=F) (F':=max F 0) g back p.m ⟨newS p.vs s,0,List.replicate p.prs.length 0⟩ r' hr').2.1 (.inl hle);have hRv:=zyQ hok;have hsim:=zr6 (F0:=max F 0) (F:=2*max F 0) (prs:=p.prs) (by omega) (Int.le_refl _) (hp.simp hb2) (fun t ht hl=>ztg (by omega) (Int.le_refl _) (by omega) hp hb2 g back t ht hl) (fun t ht=>ht.simp) hb1 hRv hl ⟨newS p.vs s,0,List.replicate p.prs.length 0⟩ ⟨newS p.vs s,0,List.replicate (p.prs.map (mapR simp)).length 0⟩ ⟨⟨Eqv.refl hi.wf,Nat.le_refl _,by simp only;omega⟩,⟨hi.wf,hi.fb,hi.n⟩,hn⟩;obtain⟨x',q1,q2⟩:=hsim r' k0;have hn':=q2.w.n;have k1:=(zpl (F:=2*max F 0) (F':=F) g back (simp p.m) ⟨newS p.vs s,0,List.replicate (p.prs.map (mapR simp)).length 0⟩ x' q1).2.1 (by
  rcases Int.lt_or_le F 0 with h0|h0
  ·right
   simp only;omega
  ·left
   omega)
 have e:=zm2 h1;have hok2:=zzM hok;obtain⟨v1,v2,-⟩:=zpr hok2;have hvs:(znz p).vs=p.vs:=by rw[e]
 rw[zqN v1 v2 (by rw[hvs];exact h3)];rw[e];simp only;rw[k1];simp only[outR];exact⟨trivial,hn',q2.w.e.state⟩
end Go.Proofs.YtckhofdinldhpaaGreat
namespace Go.Proofs.YtckhofdinldhpaaGreat
open Go.RowKit
theorem zKm (a0 a1 a2 a3 b0 b1 b2 b3 c0 c1 c2 c3 d0 d1 d2 d3:Value) (w:World):(Instr.buildSlice 27 4 #[(0,.agg #[a0,a1,a2,a3]),(1,.agg #[b0,b1,b2,b3]),(2,.agg #[c0,c1,c2,c3]),(3,.agg #[d0,d1,d2,d3])]).run Tryz.prog w=.ok (.slice (some ⟨w.heap.size,0,none⟩) 4 4) (w.alloc (.cells #[a0,a1,a2,a3,b0,b1,b2,b3,c0,c1,c2,c3,d0,d1,d2,d3] 29)):=by kernel_rfl
theorem zyu (s:ByteArray) (w:World):(Instr.build 29 #[(0,.int .u8 2),(2,.string s)]).run Tryz.prog w=.ok (nv 2 0 s none 0 0) w:=by kernel_rfl
theorem zyC (w:World):(Instr.build 29 #[(0,.int .u8 1),(1,.int .i64 1)]).run Tryz.prog w=.ok (nv 1 1 ⟨#[]⟩ none 0 0) w:=by kernel_rfl
theorem zsu (W:World) (E:TypeId) (cs:Array Value) (ts:List T) (S:Nat->Prop) (hS:S W.heap.size)
  (h:∀ i (hi:i<ts.length),∃ u0 u1 u2 u3,cs[i*4]?=some u0/\cs[i*4+1]?=some u1/\cs[i*4+2]?=some u2/\cs[i*4+3]?=some u3/\NV (W.alloc (.cells cs E)) S ts[i] (.agg #[u0,u1,u2,u3])) :
  zkX (W.alloc (.cells cs E)) S (some ⟨W.heap.size,0,none⟩) ts:=by
 intro i hi;obtain⟨u0,u1,u2,u3,h0,h1,h2,h3,hn⟩:=h i hi;have hh:(W.alloc (.cells cs E)).heap[W.heap.size]?=some (.cells cs E (0,0)):=heap_alloc_new W _;have ha:(⟨W.heap.size,0,none⟩:Addr).add (i*4)=⟨W.heap.size,i*4,none⟩:=by unfold Addr.add;split<;>simp_all
 refine⟨⟨W.heap.size,0,none⟩,u0,u1,u2,u3,rfl,hS,?_,hn⟩;rw[ha];exact⟨zc hh h0,zc hh h1,zc hh h2,zc hh h3⟩
def opT (k:Int) (s:ByteArray):T:=.nd k 0 ⟨#[]⟩ [.nd 2 0 s [],.nd 1 1 ⟨#[]⟩ []]
theorem zvJ (w:World) (S:Nat->Prop) (k n:Int) (s:ByteArray) (hf:Fld k n s):NV w S (.nd k n s []) (.agg #[.int .u8 k,.int .i64 n,.string s,.slice none 0 0]) :=
 NV.shut (ks:=[]) hf (Nat.zero_le _) (Nat.zero_le _) zkX.nil
theorem znC (k:Int) (s:ByteArray) (w:World) (hk:0<=k/\k<256) (hs:s.size<=maxLen):Calls Tryz.prog 74 #[.int .u8 k,.string s] w (znV w (opT k s)):=by
 have h2:=zsV;have hv:=zyu;have hn:=zyC;have ho:=zsW;have HK:=zh hk;have HS:=zh hs;clear hk hs;go_enter Tryz.func74,Tryz.ntmps74;go_wp2_with fail;refine bodyPost_ret (v:=nv k 0 ⟨#[]⟩ (some ⟨w.heap.size+1,0,none⟩) 2 2) (by simp[results,Tryz.results74,go_sem]) rfl ⟨k,0,⟨#[]⟩,some ⟨w.heap.size+1,0,none⟩,2,2,rfl,?_,?_⟩
 ·have h1:=zsu (w.alloc (.cells #[.int .u8 k,.int .i64 0,.string ⟨#[]⟩,.slice (some ⟨w.heap.size+1,0,none⟩) 2 2] 29)) 29 #[.int .u8 2,.int .i64 0,.string s,.slice none 0 0,.int .u8 1,.int .i64 1,.string ⟨#[]⟩,.slice none 0 0] [.nd 2 0 s [],.nd 1 1 ⟨#[]⟩ []] (From w.heap.size) (by simp) (by
   intro i hi;rcases i with _|_|i
   ·exact⟨_,_,_,_,rfl,rfl,rfl,rfl,zvJ _ _ 2 0 s ⟨⟨by omega,by omega⟩,⟨by omega,by omega⟩,HS.out⟩⟩
   ·exact⟨_,_,_,_,rfl,rfl,rfl,rfl,zvJ _ _ 1 1 ⟨#[]⟩ ⟨⟨by omega,by omega⟩,⟨by omega,by omega⟩,by decide⟩⟩
   ·simp at hi;omega)
  simp only[World.size_alloc] at h1;exact NV.shut (ks:=[.nd 2 0 s [],.nd 1 1 ⟨#[]⟩ []]) ⟨HK.out,⟨by omega,by omega⟩,by decide⟩ (by simp[LK]) (by simp) h1
 ·exact((Below.refl _ _).alloc (Nat.le_refl _) _).alloc (by simp) _
theorem NV.nv_eq {w:World} {S:Nat->Prop} {t:T} {k n:Int} {s:ByteArray} {A:Option Addr} {l c:Nat} (h:NV w S t (nv k n s A l c)):k=t.k/\n=t.n/\s=t.s/\l=t.ks.length:=by
 obtain⟨A',c',e,_⟩:=h.open_;simp only[nv,Value.agg.injEq,Array.mk.injEq,List.cons.injEq,Value.int.injEq,Value.string.injEq,Value.slice.injEq,true_and,and_true] at e;exact⟨e.1,e.2.1,e.2.2.1,e.2.2.2.2.1⟩
theorem row4 (W:World) (E:TypeId) {t1 t2 t3 t4:T} {k1 n1 k2 n2 k3 n3 k4 n4:Int} {s1 s2 s3 s4:ByteArray} {A1 A2 A3 A4:Option Addr} {l1 c1 l2 c2 l3 c3 l4 c4:Nat}
  (h1:NV W Any t1 (nv k1 n1 s1 A1 l1 c1)) (h2:NV W Any t2 (nv k2 n2 s2 A2 l2 c2)) (h3:NV W Any t3 (nv k3 n3 s3 A3 l3 c3)) (h4:NV W Any t4 (nv k4 n4 s4 A4 l4 c4)) :
  NV (W.alloc (.cells #[.int .u8 k1,.int .i64 n1,.string s1,.slice A1 l1 c1,.int .u8 k2,.int .i64 n2,.string s2,.slice A2 l2 c2,.int .u8 k3,.int .i64 n3,.string s3,.slice A3 l3 c3,.int .u8 k4,.int .i64 n4,.string s4,.slice A4 l4 c4] E)) Any (.nd 57 0 ⟨#[]⟩ [t1,t2,t3,t4]) (nv 57 0 ⟨#[]⟩ (some ⟨W.heap.size,0,none⟩) 4 4):=by
 refine NV.shut (ks:=[t1,t2,t3,t4]) ⟨⟨by omega,by omega⟩,⟨by omega,by omega⟩,by decide⟩ (by simp[LK]) (by simp) (zsu W E _ _ Any trivial ?_);have hb:=fun(o:Obj)=>(Below.refl W.heap.size W).alloc (Nat.le_refl _) o;intro i hi;rcases i with _|_|_|_|i
 ·exact⟨_,_,_,_,rfl,rfl,rfl,rfl,h1.later (hb _)⟩
 ·exact⟨_,_,_,_,rfl,rfl,rfl,rfl,h2.later (hb _)⟩
 ·exact⟨_,_,_,_,rfl,rfl,rfl,rfl,h3.later (hb _)⟩
 ·exact⟨_,_,_,_,rfl,rfl,rfl,rfl,h4.later (hb _)⟩
 ·simp at hi;omega
theorem row2 (W:World) (E:TypeId) {t1 t2:T} {k1 n1 k2 n2:Int} {s1 s2:ByteArray} {A1 A2:Option Addr} {l1 c1 l2 c2:Nat}
  (h1:NV W Any t1 (nv k1 n1 s1 A1 l1 c1)) (h2:NV W Any t2 (nv k2 n2 s2 A2 l2 c2)) :
  NV (W.alloc (.cells #[.int .u8 k1,.int .i64 n1,.string s1,.slice A1 l1 c1,.int .u8 k2,.int .i64 n2,.string s2,.slice A2 l2 c2] E)) Any (.nd 57 0 ⟨#[]⟩ [t1,t2]) (nv 57 0 ⟨#[]⟩ (some ⟨W.heap.size,0,none⟩) 2 2):=by
 refine NV.shut (ks:=[t1,t2]) ⟨⟨by omega,by omega⟩,⟨by omega,by omega⟩,by decide⟩ (by simp[LK]) (by simp) (zsu W E _ _ Any trivial ?_);have hb:=fun(o:Obj)=>(Below.refl W.heap.size W).alloc (Nat.le_refl _) o;intro i hi;rcases i with _|_|i
 ·exact⟨_,_,_,_,rfl,rfl,rfl,rfl,h1.later (hb _)⟩
 ·exact⟨_,_,_,_,rfl,rfl,rfl,rfl,h2.later (hb _)⟩
 ·simp at hi;omega
theorem zpS (A:Option Addr) (l c:Nat) (w:World):Calls Tryz.prog 73 #[.slice A l c] w fun e w'=>e=.returned (nv 57 0 ⟨#[]⟩ A l c)/\Below w.heap.size w w':=by
 have ho:=zsW;go_enter Tryz.func73,Tryz.ntmps73;go_wp2_with fail;exact bodyPost_ret (v:=nv 57 0 ⟨#[]⟩ A l c) (by simp[results,Tryz.results73,go_sem]) rfl ⟨rfl,(Below.refl _ _).alloc (Nat.le_refl _) _⟩
theorem zwE (w:World):Calls Tryz.prog 27 #[] w fun e w'=>e=.returned (.bool true)/\Below w.heap.size w w':=by
 have h2:=zsV;have h4:=zKm;go_enter Tryz.func27,Tryz.ntmps27;go_wp2_with fail;refine(znC 40 ⟨#[120]⟩ _ ⟨by omega,by omega⟩ (by unfold maxLen;decide)).mono ?_;rintro e w1 ⟨k1,n1,s1,A1,l1,c1,rfl,hw1,aa⟩;go_wp2_with fail;refine(znC 42 ⟨#[121]⟩ _ ⟨by omega,by omega⟩ (by unfold maxLen;decide)).mono ?_;rintro e w2 ⟨k2,n2,s2,A2,l2,c2,rfl,hw2,ag⟩;go_wp2_with fail;refine(znC 42 ⟨#[121]⟩ _ ⟨by omega,by omega⟩ (by unfold maxLen;decide)).mono ?_;rintro e w3 ⟨k3,n3,s3,A3,l3,c3,rfl,hw3,az⟩;go_wp2_with fail;refine(znC 41 ⟨#[120]⟩ _ ⟨by omega,by omega⟩ (by unfold maxLen;decide)).mono ?_;rintro e w4 ⟨k4,n4,s4,A4,l4,c4,rfl,hw4,dn⟩;go_wp2_with fail;have m4:=row4 w4 29 (hw1.any.later (ag.trans ((az.mono ag.size).trans (dn.mono (Nat.le_trans ag.size az.size))))) (hw2.any.later (az.trans (dn.mono az.size))) (hw3.any.later dn) hw4.any
 have q4:=(aa.trans ((ag.mono aa.size).trans ((az.mono (Nat.le_trans aa.size ag.size)).trans (dn.mono (Nat.le_trans aa.size (Nat.le_trans ag.size az.size)))))).alloc (Nat.le_trans aa.size (Nat.le_trans ag.size (Nat.le_trans az.size dn.size))) (.cells #[.int .u8 k1,.int .i64 n1,.string s1,.slice A1 l1 c1,.int .u8 k2,.int .i64 n2,.string s2,.slice A2 l2 c2,.int .u8 k3,.int .i64 n3,.string s3,.slice A3 l3 c3,.int .u8 k4,.int .i64 n4,.string s4,.slice A4 l4 c4] 29);clear hw1 hw2 hw3 hw4 aa ag az dn;refine(zpS _ _ _ _).mono ?_;rintro e w5 ⟨rfl,bU⟩;go_wp2_with fail;refine(zpX _ _ _ (m4.later bU)).mono ?_;rintro e w6 ⟨k6,n6,s6,A6,l6,c6,rfl,sU,nY⟩;obtain⟨rfl,rfl,rfl,rfl⟩:=sU.nv_eq;have q6:Below w.heap.size w w6:=q4.trans ((bU.mono q4.size).trans (nY.mono (Nat.le_trans q4.size bU.size)));clear sU nY bU q4 m4
 generalize oW:zr7 (.nd 57 0 ⟨#[]⟩ [opT 40 ⟨#[120]⟩,opT 42 ⟨#[121]⟩,opT 42 ⟨#[121]⟩,opT 41 ⟨#[120]⟩])=t6;have e6k:t6.k=57:=by rw[<-oW];decide +kernel
 have e6l:t6.ks.length=0:=by rw[<-oW];decide +kernel
 rw[e6k,e6l];clear oW e6k e6l;go_wp2_with fail;have nY:Below w6.heap.size w6 (w6.alloc (.cells #[.int .u8 57,.int .i64 t6.n,.string t6.s,.slice A6 0 c6] 29)):=(Below.refl _ _).alloc (Nat.le_refl _) _;refine(znC 56 ⟨#[120]⟩ _ ⟨by omega,by omega⟩ (by unfold maxLen;decide)).mono ?_;rintro e w7 ⟨k7,n7,s7,A7,l7,c7,rfl,hw7,qi⟩;go_wp2_with fail;refine(znC 56 ⟨#[120]⟩ _ ⟨by omega,by omega⟩ (by unfold maxLen;decide)).mono ?_;rintro e w8 ⟨k8,n8,s8,A8,l8,c8,rfl,hw8,uX⟩;go_wp2_with fail;have mw8:=row2 w8 29 (hw7.any.later uX) hw8.any;have uD:=((qi.trans (uX.mono qi.size)).alloc (Nat.le_trans qi.size uX.size) (.cells #[.int .u8 k7,.int .i64 n7,.string s7,.slice A7 l7 c7,.int .u8 k8,.int .i64 n8,.string s8,.slice A8 l8 c8] 29))
 clear hw7 hw8 qi uX;refine(zpS _ _ _ _).mono ?_;rintro e w9 ⟨rfl,uW⟩;go_wp2_with fail;refine(zpX _ _ _ (mw8.later uW)).mono ?_;rintro e aQ ⟨k10,n10,s10,oL,l10,c10,rfl,dw,kT⟩;obtain⟨rfl,rfl,rfl,rfl⟩:=dw.nv_eq;have iy:=uD.trans ((uW.mono uD.size).trans (kT.mono (Nat.le_trans uD.size uW.size)));clear dw kT uW uD mw8;generalize ht10:zr7 (.nd 57 0 ⟨#[]⟩ [opT 56 ⟨#[120]⟩,opT 56 ⟨#[120]⟩])=t10;have ew10l:t10.ks.length=2:=by rw[<-ht10];decide +kernel
 rw[ew10l];clear ht10 ew10l;go_wp2_with fail;have kT:Below aQ.heap.size aQ (aQ.alloc (.cells #[.int .u8 t10.k,.int .i64 t10.n,.string t10.s,.slice oL 2 c10] 29)):=(Below.refl _ _).alloc (Nat.le_refl _) _;refine(znC 40 ⟨#[120]⟩ _ ⟨by omega,by omega⟩ (by unfold maxLen;decide)).mono ?_;rintro e aJ ⟨k11,n11,s11,A11,l11,c11,rfl,dX,nu⟩;go_wp2_with fail;refine(znC 40 ⟨#[120]⟩ _ ⟨by omega,by omega⟩ (by unfold maxLen;decide)).mono ?_;rintro e fU ⟨k12,n12,s12,A12,l12,c12,rfl,hw12,ni⟩;go_wp2_with fail;have mw12:=row2 fU 29 (dX.any.later ni) hw12.any;have mg:=((nu.trans (ni.mono nu.size)).alloc (Nat.le_trans nu.size ni.size) (.cells #[.int .u8 k11,.int .i64 n11,.string s11,.slice A11 l11 c11,.int .u8 k12,.int .i64 n12,.string s12,.slice A12 l12 c12] 29))
 clear dX hw12 nu ni;refine(zpS _ _ _ _).mono ?_;rintro e rO ⟨rfl,ng⟩;go_wp2_with fail;refine(zpX _ _ _ (mw12.later ng)).mono ?_;rintro e sP ⟨k14,n14,s14,A14,l14,c14,rfl,hw14,bw14⟩;obtain⟨rfl,rfl,rfl,rfl⟩:=hw14.nv_eq;have jm:=mg.trans ((ng.mono mg.size).trans (bw14.mono (Nat.le_trans mg.size ng.size)));clear hw14 bw14 ng mg mw12;generalize ht14:zr7 (.nd 57 0 ⟨#[]⟩ [opT 40 ⟨#[120]⟩,opT 40 ⟨#[120]⟩])=t14;have ew14l:t14.ks.length=2:=by rw[<-ht14];decide +kernel
 rw[ew14l];clear ht14 ew14l;have B1:Below (w6.heap.size+1) (w6.alloc (.cells #[.int .u8 57,.int .i64 t6.n,.string t6.s,.slice A6 0 c6] 29)) aQ:=iy.mono (by simp);have B2:Below (aQ.heap.size+1) (aQ.alloc (.cells #[.int .u8 t10.k,.int .i64 t10.n,.string t10.s,.slice oL 2 c10] 29)) sP:=jm.mono (by simp);have d0:sP.cell? ⟨w6.heap.size,0,none⟩=some (.int .u8 57):=zb jm (zke (zb iy (by simp)) _);have d3:sP.cell? ⟨w6.heap.size,3,none⟩=some (.slice A6 0 c6):=zb jm (zke (zb iy (by simp)) _);have f3:sP.cell? ⟨aQ.heap.size,3,none⟩=some (.slice oL 2 c10):=zb jm (by simp);have d0':=zke d0;have d3':=zke d3;have f3':=zke f3
 have tV:Below w.heap.size w sP:=q6.trans ((nY.mono q6.size).trans ((iy.mono (by have:=q6.size;simp;omega)).trans ((kT.mono (Nat.le_trans q6.size (Nat.le_trans (by simp) iy.size))).trans (jm.mono (by have:=q6.size;have:=iy.size;simp at *;omega)))));clear B1 B2 iy jm nY kT q6 h2 h4;go_wp2_with fail;refine(znC 40 ⟨#[120]⟩ _ ⟨by omega,by omega⟩ (by unfold maxLen;decide)).mono ?_;rintro e w15 ⟨k15,n15,s15,A15,l15,c15,rfl,hw15,qp⟩;go_wp2_with fail;refine(znC 41 ⟨#[120]⟩ _ ⟨by omega,by omega⟩ (by unfold maxLen;decide)).mono ?_;rintro e w16 ⟨k16,n16,s16,A16,l16,c16,rfl,hw16,qo⟩;go_wp2_with fail;refine(zpW _ _ _ _ _ (hw15.any.later qo) hw16.any).mono ?_;rintro e w17 ⟨rfl,bw17⟩;have ec:canc (opT 40 ⟨#[120]⟩) (opT 41 ⟨#[120]⟩)=true:=by decide +kernel
 rw[ec];go_wp2_with fail;go_ret;exact⟨rfl,(tV.alloc tV.size _).trans ((qp.mono (by have:=tV.size;simp;omega)).trans ((qo.mono (by have:=tV.size;have:=qp.size;simp at *;omega)).trans (bw17.mono (by have:=tV.size;have:=qp.size;have:=qo.size;simp at *;omega))))⟩
end Go.Proofs.YtckhofdinldhpaaGreat
namespace Go.Proofs.YtckhofdinldhpaaGreat
open Go Go.RowKit
def FwP (W:World) (R:SS×Nat×Int×List Nat) (e:Ending) (W':World):Prop:=∃ v1 v2 v3,e=.returned (.agg #[v1,v2,v3,.int .i64 (R.2.1:Int),.int .i64 R.2.2.1]) /\
 OwnS W' W.heap.size R.1 (.agg #[v1,v2,v3])/\Below W.heap.size W W'/\LimR R
theorem zLL (p:PG) (s:SS) (F:Int) (g:Nat) (v sv:Value) (W:World) (hp:PV W Any p v) (hs:SV W Any s sv) (hcl:s.cells.length<=5864062014800) (hF:I64 F) (rZ:F<=1000000) (hg:F.toNat*2000+2000<=g) :
  Calls Tryz.prog 30 #[v,sv,.int .i64 F] W (FwP W (resO p s F g true)):=by
 have HPX:=zh hp;have HSX:=zh hs;obtain⟨A1,c1,A2,c2,A3,c3,rfl,jL⟩:=hp;obtain⟨A,c,B,d,D,e,rfl,hr1,hr2,hr3,hc1,hc2,hc3,hl1,hl2,hl3,hl4⟩:=hs;have HST:=zh (fun w' (hb:Below W.heap.size W w')=>zu8 p s F g true _ _ w' (HPX.out.later hb) (HSX.out.later hb) hcl hF rZ hg);have hb3:=zkb (zkb (zkb (Below.refl W.heap.size W) (.cells #[.slice A1 p.vs.length c1,.slice A2 p.prs.length c2,.int .u8 p.m.k,.int .i64 p.m.n,.string p.m.s,.slice A3 p.m.ks.length c3] 35)) (.cells #[.slice A s.cells.length c,.slice B s.tin.length d,.slice D s.tout.length e] 26)) (.cells #[.slice none 0 0,.slice none 0 0,.slice none 0 0,.int .i64 0,.int .i64 0] 50)
 have k2:=heap_alloc_new ((W.alloc (.cells #[.slice A1 p.vs.length c1,.slice A2 p.prs.length c2,.int .u8 p.m.k,.int .i64 p.m.n,.string p.m.s,.slice A3 p.m.ks.length c3] 35)).alloc (.cells #[.slice A s.cells.length c,.slice B s.tin.length d,.slice D s.tout.length e] 26)) (.cells #[.slice none 0 0,.slice none 0 0,.slice none 0 0,.int .i64 0,.int .i64 0] 50);simp only[World.size_alloc] at k2;obtain⟨Re,hRe⟩:∃ R,resO p s F g true=R:=⟨_,rfl⟩
 rw[hRe] at HST;have HR:=zh hRe;have HB3:=zh hb3;have bg:=zh k2;have hz3:W.heap.size+3<=(((W.alloc (.cells #[.slice A1 p.vs.length c1,.slice A2 p.prs.length c2,.int .u8 p.m.k,.int .i64 p.m.n,.string p.m.s,.slice A3 p.m.ks.length c3] 35)).alloc (.cells #[.slice A s.cells.length c,.slice B s.tin.length d,.slice D s.tout.length e] 26)).alloc (.cells #[.slice none 0 0,.slice none 0 0,.slice none 0 0,.int .i64 0,.int .i64 0] 50)).heap.size:=by simp
 rw[hRe];clear jL hr1 hr2 hr3 hRe hb3 k2 hl1 hl2 hl3 hl4 hc1 hc2 hc3;go_enter Tryz.func30,Tryz.ntmps30;go_wp2_with fail;refine(HST.out _ HB3.out).mono ?_;rintro e9 w9 ⟨A9,c9,v1,v2,v3,rfl,dx,-,-,bJ,hlm9⟩;have sK:=zh hlm9;clear hlm9;obtain⟨A4,c4,B5,d5,D6,e6,h6⟩:=dx.slices;injection h6 with h6;injection h6 with h6;injection h6 with h6 h7;injection h7 with h7 h8;injection h8 with h8 _;subst h6 h7 h8;have dU:=zh dx;have dh:=zh bJ;have aH:=zkd bg.out bJ;have x0:w9.cell? ⟨W.heap.size+1+1,0,none⟩=some (.slice none 0 0):=zc aH rfl;have x1:w9.cell? ⟨W.heap.size+1+1,1,none⟩=some (.slice none 0 0):=zc aH rfl;have x2:w9.cell? ⟨W.heap.size+1+1,2,none⟩=some (.slice none 0 0):=zc aH rfl;have x3:w9.cell? ⟨W.heap.size+1+1,3,none⟩=some (.int .i64 0):=zc aH rfl;have x4:w9.cell? ⟨W.heap.size+1+1,4,none⟩=some (.int .i64 0):=zc aH rfl
 have xf:∀ o,w9.frozen? ⟨W.heap.size+1+1,o,none⟩=false:=fun _=>zf aH;have y0:=fun o=>zke x0 o;have y1:=fun o=>zke x1 o;have y2:=fun o=>zke x2 o;have y3:=fun o=>zke x3 o;have y4:=fun o=>zke x4 o;have hlt9:W.heap.size+1+1<w9.heap.size:=zki aH;have iN:=zh aH;clear dx bJ aH;go_wp2_with fail;obtain⟨hh,hch⟩:=set5 (u0:=.slice A4 Re.1.cells.length c4) (u1:=.slice B5 Re.1.tin.length d5) (u2:=.slice D6 Re.1.tout.length e6) (u3:=.int .i64 (Re.2.1:Int)) (u4:=.int .i64 Re.2.2.1) iN.out;obtain⟨aQ,dw⟩:∃ zz,(((((w9.setCell ⟨W.heap.size+1+1,0,none⟩ (.slice A4 Re.1.cells.length c4)).setCell ⟨W.heap.size+1+1,1,none⟩ (.slice B5 Re.1.tin.length d5)).setCell ⟨W.heap.size+1+1,2,none⟩ (.slice D6 Re.1.tout.length e6)).setCell ⟨W.heap.size+1+1,3,none⟩ (.int .i64 (Re.2.1:Int))).setCell ⟨W.heap.size+1+1,4,none⟩ (.int .i64 Re.2.2.1))=zz:=⟨_,rfl⟩
 rw[dw] at hh hch ⊢;obtain⟨aJ,dX⟩:∃ zz,aQ.alloc (.cells #[.slice A4 Re.1.cells.length c4,.slice B5 Re.1.tin.length d5,.slice D6 Re.1.tout.length e6,.int .i64 (Re.2.1:Int),.int .i64 Re.2.2.1] 50)=zz:=⟨_,rfl⟩
 rw[dX];have t0:aJ.cell? ⟨W.heap.size+1+1,0,none⟩=some (.slice A4 Re.1.cells.length c4):=dX▸zke (zc hh rfl) _;have t1:aJ.cell? ⟨W.heap.size+1+1,1,none⟩=some (.slice B5 Re.1.tin.length d5):=dX▸zke (zc hh rfl) _;have t2:aJ.cell? ⟨W.heap.size+1+1,2,none⟩=some (.slice D6 Re.1.tout.length e6):=dX▸zke (zc hh rfl) _;have t3:aJ.cell? ⟨W.heap.size+1+1,3,none⟩=some (.int .i64 (Re.2.1:Int)):=dX▸zke (zc hh rfl) _;have t4:aJ.cell? ⟨W.heap.size+1+1,4,none⟩=some (.int .i64 Re.2.2.1):=dX▸zke (zc hh rfl) _;refine bodyPost_ret (v:=.agg #[.slice A4 Re.1.cells.length c4,.slice B5 Re.1.tin.length d5,.slice D6 Re.1.tout.length e6,.int .i64 (Re.2.1:Int),.int .i64 Re.2.2.1]) (by simp[results,Tryz.results30,go_sem,t0,t1,t2,t3,t4]) rfl ?_;have hz33:=hz3;have hb39:Below W.heap.size W w9:=zka HB3.out dh.out;have hc11:Chg (fun b=>b=W.heap.size+1+1) w9 aJ:=dX▸hch.alloc _
 have mD:=dU.out.chg hc11 fun b hb=>by omega
 have mW:=hb39.trans (hc11.below hb39.size fun b hb=>by omega);exact⟨_,_,_,rfl,mD.lower (by omega),mW,sK.out⟩
theorem zLM (p:PG) (s:SS) (F:Int) (v sv:Value) (W:World) (hp:PV W Any p v) (hs:SV W Any s sv) (hcl:s.cells.length<=5864062014800) (hF:I64 F) :
  Calls Tryz.prog 7 #[v,sv,.int .i64 F] W fun e W'=>e=.returned (.bool true)/\Below W.heap.size W W':=by
 have sG:=zh hp;have xx:=zh hs;obtain⟨A1,c1,A2,c2,A3,c3,rfl,jL⟩:=hp;obtain⟨A,c,B,d,D,e,rfl,hr1,hr2,hr3,hc1,hc2,hc3,hl1,hl2,hl3,hl4⟩:=hs;have hb2:=zkb (zkb (Below.refl W.heap.size W) (.cells #[.slice A1 p.vs.length c1,.slice A2 p.prs.length c2,.int .u8 p.m.k,.int .i64 p.m.n,.string p.m.s,.slice A3 p.m.ks.length c3] 35)) (.cells #[.slice A s.cells.length c,.slice B s.tin.length d,.slice D s.tout.length e] 26);have k0:=zkl (heap_alloc_new W (.cells #[.slice A1 p.vs.length c1,.slice A2 p.prs.length c2,.int .u8 p.m.k,.int .i64 p.m.n,.string p.m.s,.slice A3 p.m.ks.length c3] 35)) (.cells #[.slice A s.cells.length c,.slice B s.tin.length d,.slice D s.tout.length e] 26)
 have k1:=heap_alloc_new (W.alloc (.cells #[.slice A1 p.vs.length c1,.slice A2 p.prs.length c2,.int .u8 p.m.k,.int .i64 p.m.n,.string p.m.s,.slice A3 p.m.ks.length c3] 35)) (.cells #[.slice A s.cells.length c,.slice B s.tin.length d,.slice D s.tout.length e] 26);rw[World.size_alloc] at k1;obtain⟨w2,hw2⟩:∃ x,(W.alloc (.cells #[.slice A1 p.vs.length c1,.slice A2 p.prs.length c2,.int .u8 p.m.k,.int .i64 p.m.n,.string p.m.s,.slice A3 p.m.ks.length c3] 35)).alloc (.cells #[.slice A s.cells.length c,.slice B s.tin.length d,.slice D s.tout.length e] 26)=x:=⟨_,rfl⟩
 rw[hw2] at hb2 k0 k1;have HB2:=zh hb2;have aM:=zh k0;have aD:=zh k1;clear jL hr1 hr2 hr3 hb2 k0 k1 hc1 hc2 hc3 hl1 hl2 hl3 hl4;have HAW:=zh (zwE w2);have df:=zh hF;have dO:=zh hcl;go_enter Tryz.func7,Tryz.ntmps7;go_wp2_with fail;refine HAW.out.mono ?_;rintro e3 w3 ⟨rfl,b3⟩;clear hw2 HAW;have bK:=zkd aM.out b3;have dB:=zkd aD.out b3;have p0:w3.cell? ⟨W.heap.size,0,none⟩=some (.slice A1 p.vs.length c1):=zc bK rfl;have p1:w3.cell? ⟨W.heap.size,1,none⟩=some (.slice A2 p.prs.length c2):=zc bK rfl;have p2:w3.cell? ⟨W.heap.size,2,none⟩=some (.int .u8 p.m.k):=zc bK rfl;have p3:w3.cell? ⟨W.heap.size,3,none⟩=some (.int .i64 p.m.n):=zc bK rfl;have p4:w3.cell? ⟨W.heap.size,4,none⟩=some (.string p.m.s):=zc bK rfl;have p5:w3.cell? ⟨W.heap.size,5,none⟩=some (.slice A3 p.m.ks.length c3):=zc bK rfl
 have s0:w3.cell? ⟨W.heap.size+1,0,none⟩=some (.slice A s.cells.length c):=zc dB rfl;have s1:w3.cell? ⟨W.heap.size+1,1,none⟩=some (.slice B s.tin.length d):=zc dB rfl;have s2:w3.cell? ⟨W.heap.size+1,2,none⟩=some (.slice D s.tout.length e):=zc dB rfl;clear bK dB;go_wp2_with fail
 cases hsm:zmv p
 ·refine(zva hsm (sG.out.later (zka HB2.out b3))).mono ?_;rintro e4 w4 ⟨rfl,b4⟩;have q4:=zka (zka HB2.out b3) b4;clear p0 p1 p2 p3 p4 p5 s0 s1 s2 b3 b4;go_wp2_with fail;go_ret;exact⟨rfl,q4⟩
 ·refine(zu9 hsm (sG.out.later (zka HB2.out b3))).mono ?_;rintro e4 w4 ⟨rfl,b4⟩;have su:=zka b3 b4;have HSMP:=zh hsm;clear hsm b3 b4 p0 p1 p2 p3 p4 p5 s0 s1 s2;by_cases hle:F<=2000;rotate_left 1
  ·have hF1:(2000:Int)<F:=by omega
   have q4:=zka HB2.out su;clear hle;go_wp2_with fail;go_ret;exact⟨rfl,q4⟩
  have hF1:¬ ((2000:Int)<F):=by omega
  have lZ:=zh hle;clear hle;obtain⟨ob,aR⟩:∃ b,okB p=b:=⟨_,rfl⟩
  have oz:=zh aR;have ll:=zh (zLj p _ w4 (sG.out.later (zka HB2.out su)));rw[aR] at ll;clear aR;have bK:=zkd aM.out su;have dB:=zkd aD.out su;have p0:w4.cell? ⟨W.heap.size,0,none⟩=some (.slice A1 p.vs.length c1):=zc bK rfl;have p1:w4.cell? ⟨W.heap.size,1,none⟩=some (.slice A2 p.prs.length c2):=zc bK rfl;have p2:w4.cell? ⟨W.heap.size,2,none⟩=some (.int .u8 p.m.k):=zc bK rfl;have p3:w4.cell? ⟨W.heap.size,3,none⟩=some (.int .i64 p.m.n):=zc bK rfl;have p4:w4.cell? ⟨W.heap.size,4,none⟩=some (.string p.m.s):=zc bK rfl;have p5:w4.cell? ⟨W.heap.size,5,none⟩=some (.slice A3 p.m.ks.length c3):=zc bK rfl;have s0:w4.cell? ⟨W.heap.size+1,0,none⟩=some (.slice A s.cells.length c):=zc dB rfl;have s1:w4.cell? ⟨W.heap.size+1,1,none⟩=some (.slice B s.tin.length d):=zc dB rfl;have s2:w4.cell? ⟨W.heap.size+1,2,none⟩=some (.slice D s.tout.length e):=zc dB rfl;clear bK dB
  go_wp2_with fail;refine ll.out.mono ?_;rintro e5 w5 ⟨rfl,b5⟩;have sj:=zka su b5;clear p0 p1 p2 p3 p4 p5 s0 s1 s2 ll b5 su hF1
  cases ob
  ·have q5:=zka HB2.out sj;go_wp2_with fail;go_ret;exact⟨rfl,q5⟩
  have bX:=zh (zs5 p Any _ w5 (sG.out.later (zka HB2.out sj)) (zuW (zsr HSMP.out)));have bK:=zkd aM.out sj;have dB:=zkd aD.out sj;have p0:w5.cell? ⟨W.heap.size,0,none⟩=some (.slice A1 p.vs.length c1):=zc bK rfl;have p1:w5.cell? ⟨W.heap.size,1,none⟩=some (.slice A2 p.prs.length c2):=zc bK rfl;have p2:w5.cell? ⟨W.heap.size,2,none⟩=some (.int .u8 p.m.k):=zc bK rfl;have p3:w5.cell? ⟨W.heap.size,3,none⟩=some (.int .i64 p.m.n):=zc bK rfl;have p4:w5.cell? ⟨W.heap.size,4,none⟩=some (.string p.m.s):=zc bK rfl;have p5:w5.cell? ⟨W.heap.size,5,none⟩=some (.slice A3 p.m.ks.length c3):=zc bK rfl;have s0:w5.cell? ⟨W.heap.size+1,0,none⟩=some (.slice A s.cells.length c):=zc dB rfl;have s1:w5.cell? ⟨W.heap.size+1,1,none⟩=some (.slice B s.tin.length d):=zc dB rfl;have s2:w5.cell? ⟨W.heap.size+1,2,none⟩=some (.slice D s.tout.length e):=zc dB rfl;clear bK dB
  go_wp2_with fail;refine bX.out.mono ?_;rintro e6 w6 ⟨v6,rfl,hv6,b6⟩;obtain⟨G,hG⟩:∃ G,znz p=G:=⟨_,rfl⟩
  have HG:=zh hG;rw[hG] at hv6;have hv6':=hv6;obtain⟨D1,e1,D2,e2,D3,e3,rfl,bM⟩:=hv6;have hal:=(Below.refl w6.heap.size w6).alloc (Nat.le_refl _) (.cells #[.slice D1 G.vs.length e1,.slice D2 G.prs.length e2,.int .u8 G.m.k,.int .i64 G.m.n,.string G.m.s,.slice D3 G.m.ks.length e3] 35);have wS:=(hv6'.later hal).mono fun _ _=>(trivial:Any _)
  have hQ:=heap_alloc_new w6 (.cells #[.slice D1 G.vs.length e1,.slice D2 G.prs.length e2,.int .u8 G.m.k,.int .i64 G.m.n,.string G.m.s,.slice D3 G.m.ks.length e3] 35);clear p0 p1 p2 p3 p4 p5 s0 s1 s2 bX hG bM hv6';go_upto_region 6 with fail;obtain⟨w7,hw7⟩:∃ x,w6.alloc (.cells #[.slice D1 G.vs.length e1,.slice D2 G.prs.length e2,.int .u8 G.m.k,.int .i64 G.m.n,.string G.m.s,.slice D3 G.m.ks.length e3] 35)=x:=⟨_,rfl⟩
  rw[hw7] at hal wS hQ ⊢;have si:=zka (zka sj b6) hal;have HV7:=zh wS;have xK:=zh hQ;obtain⟨gb,hgb⟩:∃ x,w6.heap.size=x:=⟨_,rfl⟩
  rw[hgb] at xK ⊢;clear hw7 hgb hal wS hQ sj b6;have rZ:F<=1000000:=by have:=lZ.out;omega
  have wY:F.toNat*2000+2000<=9000000:=by have:=lZ.out;omega
  obtain⟨R0,hR0⟩:∃ R,resO p s F 9000000 true=R:=⟨_,rfl⟩
  have qG:=zh hR0;have hPV7:=sG.out.later (zka HB2.out si);have bK:=zkd aM.out si;have dB:=zkd aD.out si;have p0:w7.cell? ⟨W.heap.size,0,none⟩=some (.slice A1 p.vs.length c1):=zc bK rfl;have p1:w7.cell? ⟨W.heap.size,1,none⟩=some (.slice A2 p.prs.length c2):=zc bK rfl;have p2:w7.cell? ⟨W.heap.size,2,none⟩=some (.int .u8 p.m.k):=zc bK rfl;have p3:w7.cell? ⟨W.heap.size,3,none⟩=some (.int .i64 p.m.n):=zc bK rfl;have p4:w7.cell? ⟨W.heap.size,4,none⟩=some (.string p.m.s):=zc bK rfl;have p5:w7.cell? ⟨W.heap.size,5,none⟩=some (.slice A3 p.m.ks.length c3):=zc bK rfl;have s0:w7.cell? ⟨W.heap.size+1,0,none⟩=some (.slice A s.cells.length c):=zc dB rfl;have s1:w7.cell? ⟨W.heap.size+1,1,none⟩=some (.slice B s.tin.length d):=zc dB rfl;have s2:w7.cell? ⟨W.heap.size+1,2,none⟩=some (.slice D s.tout.length e):=zc dB rfl;clear bK dB
  have hcon:=zLL p s F 9000000 _ _ _ hPV7 (xx.out.later (zka HB2.out si)) hcl df.out rZ wY;rw[hR0] at hcon;have lH:=zh hcon;clear hcon;go_wp2_with fail;refine lH.out.mono ?_;rintro e8 w8 ⟨v1,v2,v3,rfl,jM,mR,rT⟩;obtain⟨A8,c8,B8,d8,D8,g8,hv⟩:=jM.slices;injection hv with hv;simp only[Array.mk.injEq,List.cons.injEq,and_true] at hv;obtain⟨rfl,rfl,rfl⟩:=hv;have gG:=zh jM;have HL8:=zh rT;have hq8:=zka si mR;clear jM rT lH;clear p0 p1 p2 p3 p4 p5 s0 s1 s2 hPV7 hR0;have HKG8:=zh (zkd xK.out mR);obtain⟨S0,n0,e0,l0⟩:=R0;dsimp only at gG HL8 qG ⊢;go_upto_region 7 with fail;have ka:=heap_alloc_new w8 (.cells #[.slice A8 S0.cells.length c8,.slice B8 S0.tin.length d8,.slice D8 S0.tout.length g8,.int .i64 (n0:Int),.int .i64 e0] 50)
  have gB:=zkb (Below.refl w8.heap.size w8) (.cells #[.slice A8 S0.cells.length c8,.slice B8 S0.tin.length d8,.slice D8 S0.tout.length g8,.int .i64 (n0:Int),.int .i64 e0] 50);obtain⟨w9,o6⟩:∃ x,w8.alloc (.cells #[.slice A8 S0.cells.length c8,.slice B8 S0.tin.length d8,.slice D8 S0.tout.length g8,.int .i64 (n0:Int),.int .i64 e0] 50)=x:=⟨_,rfl⟩
  obtain⟨rP,o5⟩:∃ x,w8.heap.size=x:=⟨_,rfl⟩
  rw[o6] at ka gB;rw[o5] at ka;rw[o6,o5];clear o6 o5;have uL:=zka hq8 gB;have dU:=zh (gG.out.later gB);have HV9:=zh (HV7.out.later (zka mR gB));have HKG9:=zh (zkd HKG8.out gB);have mf:=zh ka;clear ka gB gG HKG8 xK mR si HV7 hq8;by_cases he0:e0=0;rotate_left 1
  ·have x4:w9.cell? ⟨rP,4,none⟩=some (.int .i64 e0):=zc mf.out rfl;have q9:=zka HB2.out uL;go_wp2_with fail;go_ret;exact⟨rfl,q9⟩
  subst he0;have x4:w9.cell? ⟨rP,4,none⟩=some (.int .i64 0):=zc mf.out rfl;go_upto_region 9 with fail;clear x4;have hvv:=(zpr oz.out).1;obtain⟨t1,t2,t3⟩:=sG.out.lit hvv;have hsl:=zxt (F:=F) (g:=9000000) (back:=true) lZ.out (by decide) oz.out t1 t2 t3 xx.out.nums (by rw[qG.out]);have hfl:=(ztJ (p:=p) (s:=s) (F:=F) (g:=9000000) (back:=true) wY (by rw[qG.out])).1;rw[qG.out,HG.out] at hsl;rw[qG.out] at hfl;obtain⟨R2,hR2⟩:∃ R,resO G s F 9000000 true=R:=⟨_,rfl⟩
  rw[hR2] at hsl;obtain⟨z0,z1,z2,z3,z4,z5⟩:=box6 HKG9.out;have dB:=zkd aD.out uL;have s0:w9.cell? ⟨W.heap.size+1,0,none⟩=some (.slice A s.cells.length c):=zc dB rfl;have s1:w9.cell? ⟨W.heap.size+1,1,none⟩=some (.slice B s.tin.length d):=zc dB rfl;have s2:w9.cell? ⟨W.heap.size+1,2,none⟩=some (.slice D s.tout.length e):=zc dB rfl;have hPV9:=HV9.out;clear dB hvv t1 t2 t3;have hcon:=zLL G s F 9000000 _ _ _ hPV9 (xx.out.later (zka HB2.out uL)) hcl df.out rZ wY;rw[hR2] at hcon;have lH:=zh hcon;clear hcon;go_wp2_with fail;refine lH.out.mono ?_;rintro e10 aQ ⟨v1,v2,v3,rfl,jw,kK,hl10⟩;obtain⟨oL,c10,B10,d10,vQ,g10,hv⟩:=jw.slices;injection hv with hv;simp only[Array.mk.injEq,List.cons.injEq,and_true] at hv;obtain⟨rfl,rfl,rfl⟩:=hv;have dN:=zh jw;have HL10:=zh hl10;have hq10:=zka uL kK;clear jw hl10 lH;clear z0 z1 z2 z3 z4 z5 s0 s1 s2 hPV9 hR2
  obtain⟨S2,n2,e2',l2⟩:=R2;simp only at hsl hfl;obtain⟨u1,u2,u3⟩:=hsl;subst u1 u3;dsimp only at dN HL10 ⊢;have qU:=zh (zkd mf.out kK);go_upto_region 10 with fail;have ka:=heap_alloc_new aQ (.cells #[.slice oL S2.cells.length c10,.slice B10 S2.tin.length d10,.slice vQ S2.tout.length g10,.int .i64 (n2:Int),.int .i64 0] 50);have gB:=zkb (Below.refl aQ.heap.size aQ) (.cells #[.slice oL S2.cells.length c10,.slice B10 S2.tin.length d10,.slice vQ S2.tout.length g10,.int .i64 (n2:Int),.int .i64 0] 50);obtain⟨aJ,o6⟩:∃ x,aQ.alloc (.cells #[.slice oL S2.cells.length c10,.slice B10 S2.tin.length d10,.slice vQ S2.tout.length g10,.int .i64 (n2:Int),.int .i64 0] 50)=x:=⟨_,rfl⟩
  obtain⟨jY,o5⟩:∃ x,aQ.heap.size=x:=⟨_,rfl⟩
  rw[o6] at ka gB;rw[o5] at ka;rw[o6,o5];clear o6 o5;have hq11:=zka HB2.out (zka hq10 gB);have hn20:(n2:Int)<=(n0:Int):=by omega
  have k8:=zkd qU.out gB;have x0:aJ.cell? ⟨rP,0,none⟩=some (.slice A8 S2.cells.length c8):=zc k8 rfl;have x1:aJ.cell? ⟨rP,1,none⟩=some (.slice B8 S2.tin.length d8):=zc k8 rfl;have x2:aJ.cell? ⟨rP,2,none⟩=some (.slice D8 S2.tout.length g8):=zc k8 rfl;have x3:aJ.cell? ⟨rP,3,none⟩=some (.int .i64 (n0:Int)):=zc k8 rfl;have y0:aJ.cell? ⟨jY,0,none⟩=some (.slice oL S2.cells.length c10):=zc ka rfl;have y1:aJ.cell? ⟨jY,1,none⟩=some (.slice B10 S2.tin.length d10):=zc ka rfl;have y2:aJ.cell? ⟨jY,2,none⟩=some (.slice vQ S2.tout.length g10):=zc ka rfl;have y3:aJ.cell? ⟨jY,3,none⟩=some (.int .i64 (n2:Int)):=zc ka rfl;have y4:aJ.cell? ⟨jY,4,none⟩=some (.int .i64 0):=zc ka rfl;have hsx:S2.Sm:=by
   obtain⟨-,h2⟩:=HL10.out;obtain⟨a1,a2,a3,a4⟩:=h2 rfl;simp only at a1 a2 a3 a4;have:=lZ.out;exact⟨by omega,fun l hl=>by have:=a2 l hl;omega,by omega,by omega⟩
  have HQE:=zh (zs3 S2 S2 _ _ aJ ((dN.out.later gB).sv hsx.lim) ((dU.out.later (zka kK gB)).sv hsx.lim) hsx hsx);rw[show eqS S2 S2=true by simp[eqS]] at HQE;have fT:=zh hq11;clear ka gB k8 hsx hq11 hfl u2;go_wp2_with fail;refine HQE.out.mono ?_;rintro e12 fU ⟨rfl,b12⟩;clear x0 x1 x2 x3 y0 y1 y2 y3 y4;go_wp2_with fail;go_ret;exact⟨rfl,zka fT.out b12⟩
end Go.Proofs.YtckhofdinldhpaaGreat
namespace Go.Proofs.YtckhofdinldhpaaGreat
open Go.RowKit Go.ChangeShapes Go.WideShapes Go.ChangeAt Go.Deep
theorem zoh:Tryz.prog.cellsOf 29=4:=by kernel_rfl
theorem zwy:Tryz.prog.bytesOf 29=56:=by kernel_rfl
theorem zKc:Tryz.prog.cellsOf 5=1:=by kernel_rfl
theorem ztZ:Tryz.prog.cellsOf 3=1:=by kernel_rfl
theorem zys:Tryz.prog.cellsOf 9=1:=by kernel_rfl
theorem zwx:Tryz.prog.cellsOf 27=1:=by kernel_rfl
theorem zmq {H:Type} {P:Program} {e:TypeId}:∀ {l:List (DataW H)} {d:DataW H},d∈l->∀ n∈d.weights P e,n∈DataW.weightsAll P e l
 | d0::l,d,hd,n,hn=>by
  simp only[DataW.weightsAll,List.mem_append];rcases List.mem_cons.1 hd with rfl|hd
  ·exact .inl hn
  ·exact .inr (zmq hd n hn)
theorem zn3 {H:Type}:∀ (ks:List T) (ds:List (DataW H)),ks.length=ds.length->(∀ i (h:i<ks.length) (h':i<ds.length),size ks[i]<=Rows.uptoBulk ds[i])->zkK ks<=Rows.uptoBulkAll ds
 | [],[],_,_=>by simp[zkK]
 | t::ts,d::ds,hl,h=>by
  have h0:=h 0 (Nat.zero_lt_succ _) (Nat.zero_lt_succ _);have h1:=zn3 ts ds (by simpa using hl) (fun i hi hi'=>h (i+1) (Nat.succ_lt_succ hi) (Nat.succ_lt_succ hi'));simp only[List.getElem_cons_zero] at h0;simp only[zkK,Rows.uptoBulkAll];omega
 | [],_::_,hl,_=>by simp at hl
 | _::_,[],hl,_=>by simp at hl
section
variable {H:Type} {enc:TypeId×Value->H} {w:World} {held:Bool}
def zeroT':T:=.nd 0 0 ⟨#[]⟩ []
theorem zrD:∀ (fuel:Nat) (cs:List Value) (x:DataW H×List MemPlace),DataW.trod enc Tryz.prog w 0 (fun _=>true) held fuel 29 cs=some x ->
  (∀ n∈x.1.weights Tryz.prog 29,n<=reachBytes) ->
  ∃ t u0 u1 u2 u3,cs=[u0,u1,u2,u3]/\NV w Any t (.agg #[u0,u1,u2,u3])/\t.ks.length*56<=reachBytes/\size t<=Rows.uptoBulk x.1:=by
 intro fuel
 induction fuel using Nat.strongRecOn with
 | _ fuel ih =>
 intro cs x h hw;have hts:=DataW.trod_struct Tryz.underlying29 h;obtain⟨xs,n,hfu,hx,hcl,hxl,hg⟩:=hts;subst hx;rw[zoh] at hcl
 match cs,hcl with
 | [c0,c1,c2,c3],_ =>
 match xs,hxl with
 | [y0,y1,y2,y3],_ =>
 have g0:=hg 0 _ rfl;have g1:=hg 1 _ rfl;have g2:=hg 2 _ rfl;have g3:=hg 3 _ rfl;simp only[zKc,ztZ,zys,zwx,List.drop_zero,List.take_succ_cons,List.take_zero,List.drop_succ_cons,List.getElem?_cons_zero,List.getElem?_cons_succ] at g0 g1 g2 g3;obtain⟨k,e0,e0',wk⟩:=DataW.trod_int Tryz.underlying5 g0;obtain⟨m,e1,xg,wm⟩:=DataW.trod_int Tryz.underlying3 g1;obtain⟨s,e2,e2',ws⟩:=DataW.trod_string Tryz.underlying9 g2;injection e0 with e0;injection e1 with e1;injection e2 with e2;subst e0 e1 e2 e0' xg e2';have hf:Fld k m s:=by
  refine⟨?_,?_,ws⟩
  ·have:=wk;simp[Lit.wf,IntKind.min,IntKind.max,IntKind.signed,IntKind.bits] at this;omega
  ·have:=wm;simp[Lit.wf,IntKind.min,IntKind.max,IntKind.signed,IntKind.bits] at this;omega
 have hsl:=DataW.trod_slice Tryz.underlying27 g3;rcases hsl with⟨e3,e3'⟩|⟨a,len,cap,elems,rest,n',hn',e3,e3',_,hl,hm,hel,hat,hsp,_⟩
 ·injection e3 with e3;subst e3 e3';refine⟨.nd k m s [],_,_,_,_,rfl,NV.shut (ks:=[]) hf (Nat.zero_le _) (Nat.zero_le _) zkX.nil,by simp,?_⟩;simp only[size,zkK,List.map_cons,List.map_nil,Rows.uptoBulk];omega
 ·injection e3 with e3;subst e3 e3';obtain⟨hrl,_⟩:=hsp rfl;rw[zoh] at hat
  -- what the reach says of this slice,and of its elements
  have hws:∀ q∈DataW.weights Tryz.prog 27 (.slice (elems.map (·.1)) (rest.map (·.1)):DataW H),q<=reachBytes:=by
   intro q hq;refine hw q ?_;simp only[List.map_cons,List.map_nil,DataW.weights,Tryz.underlying29];simp only[DataW.weightsEach,List.map_cons,List.map_nil,List.mem_append];exact .inr (.inr (.inr (.inl hq)))
  simp only[DataW.weights,Tryz.underlying27,zwy] at hws;have hcap:cap*56<=reachBytes:=by
   have:=hws _ (List.mem_cons_self ..);simp only[List.length_map] at this;rw[hel,hrl] at this;rw[show cap=len+(cap-len) by omega];exact this
  have hwe:∀ y∈elems,∀ q∈y.1.weights Tryz.prog 29,q<=reachBytes:=fun y hy q hq =>
   hws q (List.mem_cons_of_mem _ (List.mem_append_left _ (zmq (List.mem_map_of_mem hy) q hq)))
  have key:∀ i (hi:i<elems.length),∃ t u0 u1 u2 u3,w.cells? 0 (a.add (i*4)) 4=some [u0,u1,u2,u3]/\NV w Any t (.agg #[u0,u1,u2,u3])/\size t<=Rows.uptoBulk elems[i].1:=by
   intro i hi;have h1:=hat i (by omega);rw[List.getElem?_eq_getElem hi] at h1;obtain⟨cs',hcs,ht⟩:=Option.bind_eq_some_iff.1 h1;obtain⟨t,u0,u1,u2,u3,rfl,hn,_,hb⟩:=ih n' (by omega) cs' elems[i] ht (hwe _ (List.getElem_mem hi));exact⟨t,u0,u1,u2,u3,hcs,hn,hb⟩
  have hex:∃ ks:List T,ks.length=elems.length/\∀ i (h:i<ks.length) (h':i<elems.length),(∃ u0 u1 u2 u3,w.cells? 0 (a.add (i*4)) 4=some [u0,u1,u2,u3]/\NV w Any ks[i] (.agg #[u0,u1,u2,u3]))/\size ks[i]<=Rows.uptoBulk elems[i].1:=by
   classical
   refine⟨(List.range elems.length).map fun i=>if h:i<elems.length then (key i h).choose else zeroT',by simp,fun i h h'=>?_⟩;simp only[List.getElem_map,List.getElem_range,h',dif_pos];obtain⟨u0,u1,u2,u3,h1,h2,h3⟩:=(key i h').choose_spec;exact⟨⟨u0,u1,u2,u3,h1,h2⟩,h3⟩
  obtain⟨ks,hkl,hks⟩:=hex;have hlen:ks.length=len:=by omega
  have hLK:ks.length<=LK:=by unfold LK;unfold reachBytes at hcap;omega
  refine⟨.nd k m s ks,_,_,_,_,rfl,?_,?_,?_⟩
  ·rw[<-hlen];refine NV.shut hf hLK (by omega) fun i hi=>?_;obtain⟨⟨u0,u1,u2,u3,hc,hn⟩,_⟩:=hks i hi (by omega);obtain⟨_,_,hcell⟩:=World.cells?_some hc;refine⟨a,u0,u1,u2,u3,rfl,trivial,⟨?_,?_,?_,?_⟩,hn⟩
   ·have:=hcell 0 (by omega);simpa[Addr.add] using this
   ·have:=hcell 1 (by omega);simpa[Addr.add] using this
   ·have:=hcell 2 (by omega);simpa[Addr.add] using this
   ·have:=hcell 3 (by omega);simpa[Addr.add] using this
  ·simp only[T.ks_nd];omega
  ·have hb:=zn3 ks (elems.map (·.1)) (by simp[hkl]) (fun i h h'=>by
    have:=(hks i h (by simpa using h')).2;simpa using this)
   simp only[size,List.map_cons,List.map_nil,Rows.uptoBulk,Rows.uptoBulkAll];omega
end
theorem Tryz.own:ownKnob Tryz.prog.godebug=none:=by kernel_rfl
theorem Tryz.laidOut:laidOutB Tryz.prog=true:=by kernel_rfl
end Go.Proofs.YtckhofdinldhpaaGreat
