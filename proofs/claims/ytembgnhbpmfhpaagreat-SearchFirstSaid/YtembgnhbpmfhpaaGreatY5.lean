/-
  Texts of the proof, put together without their remarks: Scl, Ip, Ir, Stn, Enp, Enq, En1, En2, En3, En4, Rfv, En5.
-/
import Derived.Test.YtembgnhbpmfhpaaGreatY4
import Derived.Recover
import Derived.Deep.Cut
set_option linter.unusedSimpArgs false
set_option linter.unusedVariables false
set_option maxHeartbeats 8000000
set_option maxRecDepth 100000
namespace Go.Proofs.YtembgnhbpmfhpaaGreat
open Tryz
section
open Go Go.RowKit
theorem k_2(l5 l9:Bool)(v5 v8 v8' v9 v12:Value)(b3:Nat)(s:SS):updR (zoJ false false false l5 l9 v5 v8' v9 v12 b3 s) (some .inp) ⟨v8,3,1,s.tin.length,zkg s.tin⟩=zoJ false true false l5 l9 v5 v8 v9 v12 b3 s:=by
 funext i;rcases i with _|i
 ·rfl
 ·cases i<;>rfl
theorem k_5(l2 l9:Bool)(v5 v8 v9 v12 v12':Value)(b3:Nat)(s:SS):updR (zoJ false l2 false false l9 v5 v8 v9 v12' b3 s) (some .out) ⟨v12,3,1,s.tout.length,zkg s.tout⟩=zoJ false l2 false true l9 v5 v8 v9 v12 b3 s:=by
 funext i;rcases i with _|i
 ·rfl
 ·cases i<;>rfl
theorem k_7(l2 l5:Bool)(v5 v8 v9 v12:Value)(b3 b3':Nat)(s:SS):updR (zoJ false l2 false l5 false v5 v8 v9 v12 b3' s) none ⟨boxV b3,32,3,1,[.slice none 0 0,.slice none 0 0,.slice none 0 0]⟩=zoJ false l2 false l5 true v5 v8 v9 v12 b3 s:=by
 funext i;rcases i with _|i
 ·rfl
 ·cases i<;>rfl
theorem zKA(vi vo v5 v9:Value)(fc:Nat->Value)(b3:Nat)(s:SS):updR (updR (zoJ false true false true true v5 vi v9 vo b3 s) none ⟨boxV b3,32,3,1,[.slice none 0 0,vi,vo]⟩) (some .all) ⟨.slice none 0 0,30,1,0,[]⟩=zlU (.slice none 0 0) vi vo fc b3 s 0:=by
 funext i;rcases i with _|i
 ·rfl
 ·cases i<;>rfl
theorem zxI(vc iP vi vo:Value)(fc:Nat->Value)(b3:Nat)(s:SS)(j:Nat)(l:List Int)(v8:Value)(hl:s.cells.getD j []=l) :
  updR (updR (updR (zlU vc vi vo fc b3 s j) (some (.el j)) ⟨v8,3,1,l.length,zkg l⟩) (some .all) ⟨iP,30,1,j+1,(List.range j).map fc++[v8]⟩) none ⟨boxV b3,32,3,1,[iP,vi,vo]⟩=zlU iP vi vo (fun i=>if i=j then v8 else fc i) b3 s (j+1):=by
 rw[<-zsQ vc iP vi vo fc b3 s j l v8 v8 hl];congr 2;funext i;by_cases e:i=some (.el j)
 ·subst e;simp[updR]
 ·simp[updR,e]
theorem zp7(s:SS)(v:Value)(w:World)(hv:SV w Any s v)(hcl:s.cells.length<=5864062014800):Calls prog 47 #[v] w fun e W'=>∃v',e=.returned v'/\OwnS W' w.heap.size s v'/\Below w.heap.size w W':=by
 have h1:=bS12;have HV:=zh hv;obtain⟨A,c,B,d,D,e,rfl,hr1,hr2,hr3,hc1,hc2,hc3,hl1,hl2,hl3,hl4⟩:=hv;have hk:=heap_alloc_new w (.cells #[.slice A s.cells.length c,.slice B s.tin.length d,.slice D s.tout.length e] 32);have hbw:Below w.heap.size w ((w.alloc (.cells #[.slice A s.cells.length c,.slice B s.tin.length d,.slice D s.tout.length e] 32)).alloc (.cells #[.slice none 0 0,.slice none 0 0,.slice none 0 0] 32)):=zka (zka zr _) _;have hk2:=zkf hk (.cells #[.slice none 0 0,.slice none 0 0,.slice none 0 0] 32);have hz1:((w.alloc (.cells #[.slice A s.cells.length c,.slice B s.tin.length d,.slice D s.tout.length e] 32)).alloc (.cells #[.slice none 0 0,.slice none 0 0,.slice none 0 0] 32)).heap.size=w.heap.size+1+1:=by simp
 have hk3:=heap_alloc_new (w.alloc (.cells #[.slice A s.cells.length c,.slice B s.tin.length d,.slice D s.tout.length e] 32)) (.cells #[.slice none 0 0,.slice none 0 0,.slice none 0 0] 32);rw[World.size_alloc]at hk3;have HI:=zh (show s.I from⟨fun l hl=>by
  obtain⟨i,hi,rfl⟩:=List.mem_iff_getElem.1 hl;obtain⟨_,_,_,_,_,_,_,hr⟩:=hr1 i hi;exact hr.fits,hr2.fits,hr3.fits⟩)
 go_enter func47,ntmps47;go_upto_region 1 with fail;obtain⟨w1,hw1⟩:=zX ((w.alloc (.cells #[.slice A s.cells.length c,.slice B s.tin.length d,.slice D s.tout.length e] 32)).alloc (.cells #[.slice none 0 0,.slice none 0 0,.slice none 0 0] 32));rw[hw1]at hbw hk2 hk3 hz1 ⊢;have HB1:=zh hbw;have aB:=zh hk2;have gK:=zh hk3;have HR1:=zh (hr1.later hbw);have HR2:=zh (hr2.later hbw);have HR3:=zh (hr3.later hbw);have HL:=zh (show s.Lim from⟨hl1,hl2,hl3,hl4⟩);clear hk hbw hk2 hk3 hw1 hr1 hr2 hr3 hl1 hl2 hl3 hl4 HV;obtain⟨z0,z1,z2⟩:=zky aB.out;have hSS:zW (fun w':World=>zv w' w.heap.size 1 (.slice B s.tin.length d)/\zv w' w.heap.size 2 (.slice D s.tout.length e)) zU w1.drew:=⟨⟨z1,z2⟩,trivial⟩
 refine wp_region_noPanic ?_;refine zG hSS 8 ?_;refine zT 0 hSS ?_;refine zT 1 hSS ?_;refine zT 3 hSS ?_;refine zT 4 hSS ?_;refine zrF (fun A f l a wr=>∃(l2 l5 l6 l7:Bool) (v8 v12 v13 v3:Value) (b3:Nat),f=(!l2).toNat+(!l5).toNat+(!l6).toNat+(!l7).toNat+1/\l = #[true,true,l2,true,true,l5,l6,l7,false] /\
  a=(((A.put (some 8) v8).put (some 11) v12).put (some 12) v13).put (some 3) v3/\Hid (Below w1.heap.size w1 wr)/\Hid (Rws wr w1.heap.size (zoJ false l2 false l5 l7 undef v8 undef v12 b3 s))/\Hid ((l5=true->l2=true)/\(l6=true->v13=.agg #[.slice none 0 0,v8,v12]/\l2=true/\l5=true)/\(l7=true->v3=.pointer (some ⟨b3,0,none⟩)))/\Hid (l7=false->v3=undef)) (fun A f l a wr h=>?_) ?_ ⟨false,false,false,false,undef,undef,undef,undef,0,rfl,rfl,(by simp only[Act.put,zD,zE,zF]),zh zr.drew,zh (zyq _ _ _ _ _ _ _ _),zh ⟨fun h=>(by cases h),fun h=>(by cases h),fun h=>(by cases h)⟩,zh (fun _=>rfl)⟩
 ·obtain⟨_,_,_,_,_,_,_,_,_,_,_,_,hb,_⟩:=h;exact⟨⟨zb hb.out z1,zb hb.out z2⟩,trivial⟩
 rintro A' hA f l a wr ⟨l2,l5,l6,l7,v8,v12,v13,v3,b3,hf,rfl,ha,ah,HRW,HC,HU⟩;by_cases hall:(l2&&l5&&l6&&l7)=true
 ·left
  simp only[Bool.and_eq_true]at hall;obtain⟨⟨⟨rfl,rfl⟩,rfl⟩,rfl⟩:=hall;obtain⟨-,lJ,h3⟩:=HC.out;obtain⟨rfl,-,-⟩:=lJ rfl;obtain rfl:=h3 rfl;subst hf ha hA;have hrow:=HRW.out.row none;obtain⟨B8,c8,e8,-,-⟩:=zkd (HRW.out.row (some .inp));change v8=.slice B8 s.tin.length c8 at e8;obtain⟨kX,c12,e12,-,-⟩:=zkd (HRW.out.row (some .out));change v12=.slice kX s.tout.length c12 at e12;subst e8 e12;have hbx:=zlS hrow;have c0:wr.cell? ⟨b3,0,none⟩=some (.slice none 0 0):=zc hbx rfl;have c1:wr.cell? ⟨b3,1,none⟩=some (.slice none 0 0):=zc hbx rfl;have c2:wr.cell? ⟨b3,2,none⟩=some (.slice none 0 0):=zc hbx rfl;have cf:∀j,wr.frozen? ⟨b3,j,none⟩=false:=fun j=>zf hbx;refine zp 8 fun K hK=>?_;(try simp only[zQ]);go_simp;have hb3:w1.heap.size<=b3/\b3<wr.heap.size:=hrow.lt b3 rfl
  have hch:Chg (fun b=>b=b3) wr (((wr.setCell ⟨b3,0,none⟩ (.slice none 0 0)).setCell ⟨b3,1,none⟩ (.slice B8 s.tin.length c8)).setCell ⟨b3,2,none⟩ (.slice kX s.tout.length c12)) :=
   (((Chg.refl (fun b=>b=b3) wr).setCell (p:=⟨b3,0,none⟩) (.inl rfl) _).setCell (p:=⟨b3,1,none⟩) (.inl rfl) _).setCell (p:=⟨b3,2,none⟩) (.inl rfl) _
  have hh:=heap_setCell_same _ b3 2 _ _ (.slice kX s.tout.length c12) (heap_setCell_same _ b3 1 _ _ (.slice B8 s.tin.length c8) (heap_setCell_same wr b3 0 _ _ (.slice none 0 0) hbx));have aX:=zh (ah.out.trans (hch.below ah.out.size fun b e=>by omega));have hrw:=(HRW.out.upd none (r:=⟨boxV b3,32,3,1,[.slice none 0 0,.slice B8 s.tin.length c8,.slice kX s.tout.length c12]⟩) (hch.mono fun b _ e=>by subst e;rfl) (ztY hb3.1 hh) (fun b hb=>.inl hb)).upd (some .all) (r:=⟨.slice none 0 0,30,1,0,[]⟩) (Chg.refl _ _) (zrb _ _ _) (fun b hb=>by simp[Value.ownBlock]at hb);rw[zKA (fc:=fun _=>.slice none 0 0)]at hrw;have rA:=zh hrw;obtain⟨w2,hw2⟩:=zX (((wr.setCell ⟨b3,0,none⟩ (.slice none 0 0)).setCell ⟨b3,1,none⟩ (.slice B8 s.tin.length c8)).setCell ⟨b3,2,none⟩ (.slice kX s.tout.length c12));rw[hw2]at aX rA ⊢
  have aM:(fun w':World=>zv w' w.heap.size 1 (.slice B s.tin.length d)/\zv w' w.heap.size 2 (.slice D s.tout.length e)) w2:=⟨zb aX.out z1,zb aX.out z2⟩
  refine hK.out _ _ aM ?_;clear hK K hSS aM hch hh hrw hw2 hbx c0 c1 c2 cf hrow HRW ah HU HC lJ h3 h1;refine zd ?_;refine NoPanic.normal ?_;obtain⟨vi,kZ⟩:=zX (Value.slice B8 s.tin.length c8);obtain⟨vo,qL⟩:=zX (Value.slice kX s.tout.length c12);rw[kZ,qL]at rA;have wW:=zh kZ;have HVO:=zh qL;clear kZ qL;have q0:=zb aX.out z0;go_wp2_with fail;clear q0
  go_loopw [16] (fun i wr=>∃j:Nat,j<=s.cells.length/\i=.int .i64 j/\Hid (Below w1.heap.size w1 wr)/\∃vc fc,Hid (Rws wr w1.heap.size (zlU vc vi vo fc b3 s j))) (fun i _=>s.cells.length-(intOf i).toNat)
  case atStart=>exact⟨0,Nat.zero_le _,rfl,aX,_,_,rA⟩
  case round =>
   clear aX rA;obtain⟨j,hj,rfl,ah,vc,fc,HRW⟩:=hrel;have y0:=zb ah.out z0;by_cases hlt:j<s.cells.length
   ·have hj1:(j:Int)<(s.cells.length:Int):=by omega
    have hj0:(0:Int)<=(j:Int):=by omega
    obtain⟨a,l,Al,cl,rfl,Hl,hcl0,hlc,hrl⟩:=(HR1.out.later ah.out).nd hlt;have gT:=zh hrl;have bK:=zh (show l.length<=LI by rw[<-Hl.out];exact HL.out.2.1 _ (List.getElem_mem hlt));have hbx:=zlS (HRW.out.row none);have x0:wr.cell? ⟨b3,0,none⟩=some vc:=zc hbx rfl;have hz0:wr.frozen? ⟨b3,0,none⟩=false:=zf hbx;obtain⟨Av,cv,bN,-⟩:=zkd (HRW.out.row (some .all));change vc=.slice Av j cv at bN;subst bN;have hS0:zU wr.drew/\(fun w':World=>zv w' b3 0 (.slice Av j cv)) wr.drew:=⟨trivial,x0⟩
    obtain⟨i0,hi0,hq0,hq1,hq2⟩:=info_parts zm6;have dQ:=zh (zkO l Al cl Any wr.drew (gT.out.later zr.drew) bK.out);go_upto_region 5 with fail;refine wp_region_noPanic ?_;refine zkk zU (fun w':World=>zv w' b3 0 (.slice Av j cv)) 7 (by kernel_rfl) ?_;refine zT 0 hS0 ?_;refine zJ 1 hS0 ?_;refine zT 2 hS0 ?_;have hsz:=ah.out.size;have had:Calls prog 70 [.slice Al l.length cl].toArray wr.drew fun e w'=>∃v,e=.returned v/\(w'.ownsRow wr.heap.size 3 1 v l.length (zkg l)/\Below wr.heap.size wr w') :=
     dQ.out.mono fun e w' ⟨v,h1,h2,_,h4⟩=>⟨v,h1,h2,zkb (zs wr).drew h4⟩
    refine zo 3 fun K hK=>?_;refine zke (by rfl) (.func 70) [.tmp 22] _ (by rfl) 70 _ znd (by rfl) _ (by rfl) _ had ?_;rintro v8 wb ⟨ho,hbb⟩;have hd1:=HRW.out.upd (some (.el j)) (r:=⟨v8,3,1,l.length,zkg l⟩) (Chg.of_below hbb) (zln ho hsz) (fun b hb=>.inr (ho.lt b hb).1);have HD1:=zh hd1;have dW:=zh hbb;have hS2:zU wb/\(fun w':World=>zv w' b3 0 (.slice Av j cv)) wb:=⟨trivial,zb dW.out x0⟩
    obtain⟨A8,mM,rfl,-⟩:=zkd ho;refine hK.out _ _ hS2 ?_;clear hK K hd1 ho hS0 hbb had;(try simp only[zQ]);have h1:=zz1;refine zo 4 fun K hK=>?_;(try simp only[zA,zB,zC]);go_simp;have jX:=zh (show Below wr.heap.size wr (wb.alloc (.cells #[.slice A8 l.length mM] 30))from zka dW.out _);have HD2:=zh (HD1.out.later (show Below wb.heap.size wb (wb.alloc (.cells #[.slice A8 l.length mM] 30))from zka zr _));have aI:=zh (show(wb.alloc (.cells #[.slice A8 l.length mM] 30)).heap[wb.heap.size]?=some (.cells #[.slice A8 l.length mM] 30 (0,0))from heap_alloc_new wb _);have Ak:zU (wb.alloc (.cells #[.slice A8 l.length mM] 30))/\(fun w':World=>zv w' b3 0 (.slice Av j cv)) (wb.alloc (.cells #[.slice A8 l.length mM] 30)):=⟨trivial,zb jX.out x0⟩
    obtain⟨wc,hwc⟩:=zX ((wb.alloc (.cells #[.slice A8 l.length mM] 30)));rw[hwc]at jX HD2 aI Ak ⊢;refine hK.out _ _ Ak ?_;clear hK K hwc hS2 HD1;(try simp only[zQ]);have oP:=(zkb ah.out jX.out).size;have hrow:=HD2.out.row (some .all);rw[zkj (by simp)]at hrow;change wc.ownsRow w1.heap.size 30 1 (.slice Av j cv) j ((List.range j).map fc)at hrow;refine zo 5 fun K hK=>?_;refine zkP (by rfl) (.tmp 21) (.tmp 24) 29 (by rfl) w1.heap.size 30 i0 _ 1 24 underlying29 hi0 hq0 hq1 hq2 rfl (by decide) (.slice Av j cv) j ((List.range j).map fc) (by rfl) hrow ⟨wb.heap.size,0,none⟩ 1 1 [.slice A8 l.length mM] (by rfl) rfl (fun q u hq=>by
     match q,hq with
     | 0,hq=>injection hq with hq;subst hq;exact zc aI.out rfl) (fun u hu=>by simp at hu;subst hu;rfl) (by unfold maxLen;omega) (by omega) oP (fun vd wd ho hg aj=>?_)
    have hd3:=HD2.out.upd (some .all) (r:=⟨vd,30,1,j+1,(List.range j).map fc++[.slice A8 l.length mM]⟩) ((Chg.row hg).mono fun b _ hb=>hb) ho (fun b hb=>by
     rcases aj with h5|h5
     ·exact .inl (h5▸hb)
     ·exact .inr (by rw[h5]at hb;injection hb with hb;omega))
    have HD3:=zh hd3;have hav:∀g,(Value.slice Av j cv).ownBlock=some g->(zlU (.slice Av j cv) vi vo fc b3 s j (some .all)).v.ownBlock=some g:=fun g e=>e;have hsep:∀g,(Value.slice Av j cv).ownBlock=some g->g≠b3:=fun g e h=>HRW.out.sep (some .all) none g (by simp) e (by rw[h];rfl);have hlo:∀g,(Value.slice Av j cv).ownBlock=some g->w1.heap.size<=g:=fun g e=>(HRW.out.lt (some .all) g e).1;have gu:Chg (fun b=>(Value.slice Av j cv).ownBlock=some b) wc wd:=Chg.row hg;have gM:=zh (show Below w1.heap.size w1 wd from(zkb ah.out jX.out).grown hg oP (fun g e=>hlo g e));have jq:=zlS (HD3.out.row none);have e0:wd.cell? ⟨b3,0,none⟩=some (.slice Av j cv):=zc jq rfl;have ez:wd.frozen? ⟨b3,0,none⟩=false:=zf jq;have hab:a.block<w1.heap.size:=by
     obtain⟨a',_,_,e',_,hc',_⟩:=HR1.out j hlt;injection e' with e';subst e';have:=World.block_lt_of_cell? w1 _ hc';rwa[zkz]at this
    have mG:zU wd/\(fun w':World=>zv w' b3 0 (.slice Av j cv)) wd:=⟨trivial,e0⟩
    have hd4:=HD3.out.set none (g:=b3) (o:=0) (by rfl) (by show 0<3;decide) vd;have hd5:Rws (wd.setCell ⟨b3,0,none⟩ vd) w1.heap.size (zlU vd vi vo (fun i=>if i=j then .slice A8 l.length mM else fc i) b3 s (j+1)):=by
     rw[<-zxI (.slice Av j cv) vd vi vo fc b3 s j l (.slice A8 l.length mM) (by rw[List.getD_eq_getElem?_getD,List.getElem?_eq_getElem hlt];exact Hl.out)];exact hd4
    have HD5:=zh hd5;have hb3lt:=(HD3.out.lt none b3 rfl)
    have rP:=zh (show Below w1.heap.size w1 (wd.setCell ⟨b3,0,none⟩ vd)from gM.out.trans ((((Chg.refl (fun b=>b=b3) wd).setCell (p:=⟨b3,0,none⟩) (.inl rfl) vd)).below gM.out.size fun b e=>by omega));obtain⟨Ad,cd',rfl,-⟩:=zkd ho;refine hK.out _ _ mG ?_;clear hK K hd3 hd4 hd5 ho hg aj hrow Ak gu hav hsep hlo jq;(try simp only[zQ]);refine zo 6 fun K hK=>?_;(try simp only[zA,zB,zC]);go_simp;refine hK.out _ _ mG ?_;clear hK K;(try simp only[zQ]);refine zp 7 fun K hK=>?_;(try simp only[zA,zB,zC]);go_simp;refine hK.out _ _ trivial ?_;clear hK K;(try simp only[zQ]);refine zd ?_;refine NoPanic.normal ?_;go_wp2_with fail
    go_roundw
    case rel=>exact⟨j+1,by omega,by go_num,rP,_,_,HD5⟩
    case measure=>simp[intOf];omega
   ·obtain rfl:j=s.cells.length:=by omega
    have hj1:¬ (s.cells.length:Int)<(s.cells.length:Int):=by omega
    have hbx:=zlS (HRW.out.row none);have x0:wr.cell? ⟨b3,0,none⟩=some vc:=zc hbx rfl;have x1:wr.cell? ⟨b3,1,none⟩=some vi:=zc hbx rfl;have x2:wr.cell? ⟨b3,2,none⟩=some vo:=zc hbx rfl;obtain⟨Av,cv,bN,-⟩:=zkd (HRW.out.row (some .all));change vc=.slice Av s.cells.length cv at bN;subst bN;rw[<-wW.out]at x1;rw[<-HVO.out]at x2;have hk3:=zkc gK.out ah.out;have q0:wr.cell? ⟨w.heap.size+1,0,none⟩=some (.slice none 0 0):=zc hk3 rfl;have q1:wr.cell? ⟨w.heap.size+1,1,none⟩=some (.slice none 0 0):=zc hk3 rfl;have q2:wr.cell? ⟨w.heap.size+1,2,none⟩=some (.slice none 0 0):=zc hk3 rfl;have cf:∀j,wr.frozen? ⟨w.heap.size+1,j,none⟩=false:=fun j=>zf hk3;have dD:=zh (zqo HRW.out);have HK3E:=zh hk3;clear hbx hk3 HRW;go_wp2_with fail
    have hch:Chg (fun b=>b=w.heap.size+1) wr (((wr.setCell ⟨w.heap.size+1,0,none⟩ (.slice Av s.cells.length cv)).setCell ⟨w.heap.size+1,1,none⟩ (.slice B8 s.tin.length c8)).setCell ⟨w.heap.size+1,2,none⟩ (.slice kX s.tout.length c12)) :=
     (((Chg.refl (fun b=>b=w.heap.size+1) wr).setCell (p:=⟨w.heap.size+1,0,none⟩) (.inl rfl) _).setCell (p:=⟨w.heap.size+1,1,none⟩) (.inl rfl) _).setCell (p:=⟨w.heap.size+1,2,none⟩) (.inl rfl) _
    have hh:=heap_setCell_same _ (w.heap.size+1) 2 _ _ (.slice kX s.tout.length c12) (heap_setCell_same _ (w.heap.size+1) 1 _ _ (.slice B8 s.tin.length c8) (heap_setCell_same wr (w.heap.size+1) 0 _ _ (.slice Av s.cells.length cv) HK3E.out));obtain⟨w9,dw⟩:=zX (((wr.setCell ⟨w.heap.size+1,0,none⟩ (.slice Av s.cells.length cv)).setCell ⟨w.heap.size+1,1,none⟩ (.slice B8 s.tin.length c8)).setCell ⟨w.heap.size+1,2,none⟩ (.slice kX s.tout.length c12));rw[dw]at hch hh ⊢;have t0:w9.cell? ⟨w.heap.size+1,0,none⟩=some (.slice Av s.cells.length cv):=zc hh (by simp);have t1:w9.cell? ⟨w.heap.size+1,1,none⟩=some (.slice B8 s.tin.length c8):=zc hh (by simp);have t2:w9.cell? ⟨w.heap.size+1,2,none⟩=some (.slice kX s.tout.length c12):=zc hh (by simp)
    refine bodyPost_ret (v:=.agg #[.slice Av s.cells.length cv,.slice B8 s.tin.length c8,.slice kX s.tout.length c12]) (by simp[results,results47,go_sem,t0,t1,t2]) rfl ⟨_,rfl,?_,(zkb HB1.out ah.out).trans (hch.below (zkb HB1.out ah.out).size fun b e=>by omega)⟩;have hrw:=dD.out.chg hch (fun i b hb e=>by have:=(dD.out.lt i b hb).1;omega);rw[<-wW.out,<-HVO.out]at hrw;exact⟨_,_,_,_,rfl,hrw.mono (by omega),HI.out⟩
 ·right
  have bC:=HC.out;have hcc:(l5=true->l2=true)/\(l6=true->l2=true/\l5=true):=⟨bC.1,fun h=>(bC.2.1 h).2⟩
  refine⟨f-1,?_,?_,?_⟩
  ·clear HC bC HRW HU ha ah hcc;subst hf;revert hall;revert l2 l5 l6 l7
   decide
  ·clear HC bC HRW HU ha ah hf;revert hall hcc;revert l2 l5 l6 l7
   decide +kernel
  intro i hi;have hcase:(i=2/\l2=false)\/(i=5/\l5=false/\l2=true)\/(i=6/\l6=false/\l2=true/\l5=true)\/(i=7/\l7=false):=by
   refine of_decide_eq_true ((List.all_eq_true (p:=fun i=>decide ((i=2/\l2=false)\/(i=5/\l5=false/\l2=true)\/(i=6/\l6=false/\l2=true/\l5=true)\/(i=7/\l7=false)))).1 ?_ i hi);clear HC bC HRW HU ha ah hf hi;revert hall hcc;revert l2 l5 l6 l7
   decide +kernel
  clear hi hall;subst ha hA;rcases hcase with⟨rfl,rfl⟩|⟨rfl,rfl,rfl⟩|⟨rfl,rfl,rfl,rfl⟩|⟨rfl,rfl⟩
  ·refine wpOp_step rfl (fun K' aa=>?_);have hK:=zh aa;clear aa;have hsz:=ah.out.size;have had:Calls prog 70 [.slice B s.tin.length d].toArray wr fun e w'=>∃v,e=.returned v/\(w'.ownsRow wr.heap.size 3 1 v s.tin.length (zkg s.tin)/\Below wr.heap.size wr w') :=
    (zkO s.tin B d Any wr (HR2.out.later ah.out) HL.out.2.2.1).mono fun e w' ⟨v,h1,h2,_,h4⟩=>⟨v,h1,h2,h4⟩
   refine zke (by rfl) (.func 70) [.tmp 7] _ (by rfl) 70 _ znd (by rfl) _ (by rfl) _ had ?_;rintro v' w' ⟨ho,hb⟩;obtain rfl:l6=false:=by
    rcases l6 with _|_
    ·rfl
    ·exact absurd (hcc.2 rfl).1 (by decide)
   obtain rfl:l5=false:=by
    rcases l5 with _|_
    ·rfl
    ·exact absurd (hcc.1 rfl) (by decide)
   have hrw:=HRW.out.upd (some .inp) (r:=⟨v',3,1,s.tin.length,zkg s.tin⟩) (Chg.of_below hb) (zln ho hsz) (fun b hb=>.inr (ho.lt b hb).1);rw[k_2]at hrw;exact hK.out _ _ ⟨true,false,false,l7,_,v12,v13,v3,b3,(by subst hf;simp<;>omega),rfl,(by simp only[zQ]),zh (zkb ah.out hb),zh hrw,zh ⟨fun h=>(by cases h),fun h=>(by cases h),bC.2.2⟩,HU⟩
  ·refine wpOp_step rfl (fun K' aa=>?_);have hK:=zh aa;clear aa;have hsz:=ah.out.size;have had:Calls prog 70 [.slice D s.tout.length e].toArray wr fun e w'=>∃v,e=.returned v/\(w'.ownsRow wr.heap.size 3 1 v s.tout.length (zkg s.tout)/\Below wr.heap.size wr w') :=
    (zkO s.tout D e Any wr (HR3.out.later ah.out) HL.out.2.2.2).mono fun e w' ⟨v,h1,h2,_,h4⟩=>⟨v,h1,h2,h4⟩
   refine zke (by rfl) (.func 70) [.tmp 10] _ (by rfl) 70 _ znd (by rfl) _ (by rfl) _ had ?_;rintro v' w' ⟨ho,hb⟩;obtain rfl:l6=false:=by
    rcases l6 with _|_
    ·rfl
    ·exact absurd (hcc.2 rfl).2 (by decide)
   have hrw:=HRW.out.upd (some .out) (r:=⟨v',3,1,s.tout.length,zkg s.tout⟩) (Chg.of_below hb) (zln ho hsz) (fun b hb=>.inr (ho.lt b hb).1);rw[k_5]at hrw;exact hK.out _ _ ⟨true,true,false,l7,v8,_,v13,v3,b3,(by subst hf;simp<;>omega),rfl,(by simp only[zQ]),zh (zkb ah.out hb),zh hrw,zh ⟨fun _=>rfl,fun h=>(by cases h),bC.2.2⟩,HU⟩
  ·refine wpOp_step rfl (fun K' aa=>?_);have hK:=zh aa;clear aa;obtain⟨B8,c8,e8,-,-⟩:=zkd (HRW.out.row (some .inp));change v8=.slice B8 s.tin.length c8 at e8;obtain⟨kX,c12,e12,-,-⟩:=zkd (HRW.out.row (some .out));change v12=.slice kX s.tout.length c12 at e12;subst e8 e12;(try simp only[zQ]);go_simp;exact hK.out _ _ ⟨true,true,true,l7,_,_,_,v3,b3,(by subst hf;simp<;>omega),rfl,(by simp only[Act.put,zD,zE,zF]),ah,HRW,zh ⟨fun _=>rfl,fun _=>⟨rfl,rfl,rfl⟩,bC.2.2⟩,HU⟩
  ·refine wpOp_step rfl (fun K' aa=>?_);have hK:=zh aa;clear aa;obtain rfl:=HU.out rfl;(try simp only[zQ]);go_simp;have hsz:=ah.out.size;have hrw:=HRW.out.upd none (r:=⟨boxV wr.heap.size,32,3,1,[.slice none 0 0,.slice none 0 0,.slice none 0 0]⟩) (W':=wr.alloc (.cells #[.slice none 0 0,.slice none 0 0,.slice none 0 0] 32)) (Chg.of_below (zka zr _)) (zwd wr _ hsz _ _ _ _) (fun b hb=>.inr (by simp[Value.ownBlock]at hb;omega));rw[k_7]at hrw;exact hK.out _ _ ⟨l2,l5,l6,true,v8,v12,v13,_,wr.heap.size,(by subst hf;simp<;>omega),rfl,(by simp only[Act.put,zD,zE,zF]),zh (zka ah.out _),zh hrw,zh ⟨bC.1,bC.2.1,fun _=>rfl⟩,zh (fun h=>(by cases h))⟩
structure RS where
 S:ST
 n:Nat
 ent:List Nat
inductive Out where
 | gas
 | err (e:Int)
 | ok (r:RS)
def Out.bind:Out->(RS->Out)->Out
 | .ok r,f=>f r
 | .err e,_=>.err e
 | .gas,_=>.gas
def zkE(F:Int)(r:RS):Out:=if F<=r.n then .err 18 else .ok { r with n:=r.n+1 }
def zkl(r:RS)(R:Int×ST):Out:=if R.1≠0 then .err R.1 else .ok { r with S:=R.2 }
def valO(t:T)(r:RS)(f:Int->RS->Out):Out:=if (zlP r.S.look t).2≠0 then .err (zlP r.S.look t).2 else f (zlP r.S.look t).1 r
def zli(F:Int)(t:T)(r:RS)(f:Bool->RS->Out):Out:=(zkE F r).bind fun r=>valO t r fun x r=>f (decide (x≠0)) r
def zkv(F:Int)(t:T)(b:Bool)(r:RS):Out:=zli F t r fun b' r=>if b'=b then .ok r else .err 15
def zlb(f:T->RS->Out):List T->RS->Out
 | [],r=>.ok r
 | t::ts,r=>(f t r).bind (zlb f ts)
def blkL(back:Bool)(b:T):List T:=if back=true then b.ks.reverse else b.ks
def zl7(F:Int)(f:T->RS->Out)(entry test:T)(l1 l2:List T):Nat->RS->Out
 | 0,_=>.gas
 | m+1,r=>(zlb f l1 r).bind fun r=>zli F test r fun b r=>if b=true then .ok r else(zlb f l2 r).bind fun r=>(zkv F entry false r).bind (zl7 F f entry test l1 l2 m)
def prcI:List PR->ByteArray->Option Nat
 | [],_=>none
 | q::qs,s=>if (q.s.toList==s.toList)=true then some 0 else(prcI qs s).map (· + 1)
def kid(t:T)(i:Nat):T:=t.ks.getD i nil0
def fstT(back:Bool)(t:T):T:=if back=true then kid t (t.ks.length-1)else kid t 0
def lstT(back:Bool)(t:T):T:=if back=true then kid t 0 else kid t (t.ks.length-1)
def zkB(prs:List PR)(F:Int):Nat->Bool->T->RS->Out
 | 0,_,_,_=>.gas
 | g+1,back,t,r =>
  if t.k=52 then
   zli F (fstT back t) r fun yes r=>(zlb (zkB prs F g back) (blkL back (if yes=true then kid t 1 else kid t 2)) r).bind (zkv F (lstT back t) yes)
  else if t.k=53 then
   (zkv F (fstT back t) true r).bind (zl7 F (zkB prs F g back) (fstT back t) (lstT back t) (blkL back (kid t 1)) (blkL back (kid t 2)) g)
  else if t.k=54 then
   (zkE F r).bind fun r=>valO (fstT back t) r fun x r=>(zkl r (zlV r.S ⟨t.s,1,0⟩ x)).bind fun r=>(zlb (zkB prs F g back) (blkL back (kid t 1)) r).bind fun r =>
    (zkE F r).bind fun r=>valO (lstT back t) r fun x r=>zkl r (zk8 r.S t.s x)
  else if t.k=55 then
   (zkE F r).bind fun r=>(zkl r (zlV r.S ⟨t.s,3,0⟩ 0)).bind fun r=>(zlb (zkB prs F g back) (blkL back (kid t 0)) r).bind fun r =>
    (zkE F r).bind fun r=>zkl r (zk8 r.S t.s 0)
  else if t.k=50\/t.k=51 then
   match prcI prs t.s with
   | none=>.err 0
   | some i=>(zkE F r).bind fun r=>(zkl r (zlQ r.S (prs.getD i ⟨⟨#[]⟩,[],nil0⟩).ps (t.ks.map (·.s)))).bind fun r =>
     (zlb (zkB prs F g (back != decide (t.k=51))) (blkL (back != decide (t.k=51)) (prs.getD i ⟨⟨#[]⟩,[],nil0⟩).b) { r with ent:=r.ent.set i (r.ent.getD i 0+1) }).bind fun r =>
      (zkE F r).bind fun r=>zkl r (zl1 r.S)
  else(zkE F r).bind fun r=>zkl r (if back=true then zod r.S t else doE r.S t)
def runO(prs:List PR)(F:Int)(g:Nat)(back:Bool)(b:T)(r:RS):Out:=zlb (zkB prs F g back) (blkL back b) r
def Good(n:Nat)(o:Out):Prop:=o ≠ .gas/\∀r,o=.ok r->n<=r.n
theorem Good.err(n:Nat)(e:Int):Good n (.err e):=⟨by simp,by simp⟩
theorem Good.ok{n:Nat}{r:RS}(h:n<=r.n):Good n (.ok r):=⟨by simp,fun r' e=>by injection e with e;subst e;exact h⟩
theorem Good.mono{m n:Nat}{o:Out}(h:Good n o)(hm:m<=n):Good m o:=⟨h.1,fun r e=>Nat.le_trans hm (h.2 r e)⟩
theorem Good.bind{m n:Nat}{o:Out}{f:RS->Out}(h:Good n o)(uU:m<=n)(hf:∀r,n<=r.n->o=.ok r->Good m (f r)):Good m (o.bind f):=by
 cases o with
 | gas=>exact absurd rfl h.1
 | err e=>exact Good.err _ _
 | ok r=>exact hf r (h.2 r rfl) rfl
theorem zlz{F:Int}{r r':RS}(h:zkE F r=.ok r'):r'={ r with n:=r.n+1 }/\(r.n:Int)<F:=by
 unfold zkE at h
 split at h
 ·cases h
 ·injection h with h;exact⟨h.symm,by omega⟩
theorem zku(F:Int)(r:RS):Good (r.n+1) (zkE F r):=by
 unfold zkE
 split
 ·exact Good.err _ _
 ·exact Good.ok zl
theorem zkD(r:RS)(R:Int×ST):Good r.n (zkl r R):=by
 unfold zkl
 split
 ·exact Good.err _ _
 ·exact Good.ok zl
theorem zoc{m:Nat}{t:T}{r:RS}{f:Int->RS->Out}(hf:∀x,Good m (f x r)):Good m (valO t r f):=by
 unfold valO
 split
 ·exact Good.err _ _
 ·exact hf _
theorem zm0{m:Nat}{F:Int}{t:T}{r:RS}{f:Bool->RS->Out}(hm:m<=r.n+1)(hf:∀b,(r.n:Int)<F->Good m (f b { r with n:=r.n+1 })):Good m (zli F t r f):=by
 unfold zli;refine(zku F r).bind hm fun r' _ e=>?_;obtain⟨rfl,h⟩:=zlz e;exact zoc fun x=>hf _ h
theorem zlj(F:Int)(t:T)(b:Bool)(r:RS):Good (r.n+1) (zkv F t b r):=by
 unfold zkv;refine zm0 zl fun b' _=>?_
 split
 ·exact Good.ok zl
 ·exact Good.err _ _
theorem znI{F:Int}{t:T}{b:Bool}{r r':RS}(h:zkv F t b r=.ok r'):r'={ r with n:=r.n+1 }/\(r.n:Int)<F:=by
 unfold zkv zli at h
 cases hs:zkE F r with
 | gas=>rw[hs]at h;cases h
 | err e=>rw[hs]at h;cases h
 | ok r1 =>
  rw[hs]at h;obtain⟨rfl,hl⟩:=zlz hs;simp only[Out.bind,valO]at h
  split at h
  ·cases h
  ·split at h
   ·injection h with h;exact⟨h.symm,hl⟩
   ·cases h
theorem zlL{f:T->RS->Out}:∀(l:List T) (r:RS),(∀t∈l,∀r',r.n<=r'.n->Good r'.n (f t r'))->Good r.n (zlb f l r)
 | [],r,_=>Good.ok zl
 | t::ts,r,h=>by
  rw[zlb];refine(h t (List.mem_cons_self ..) r zl).bind zl fun r1 h1 _=>?_;exact(zlL ts r1 fun u hu r' hr'=>h u (List.mem_cons_of_mem _ hu) r' (Nat.le_trans h1 hr')).mono h1
theorem zo5{F:Int}{f:T->RS->Out}{entry test:T}{l1 l2:List T}:∀(m:Nat) (r:RS),F.toNat-r.n<m->(∀t∈l1,∀r',r.n<=r'.n->Good r'.n (f t r'))->(∀t∈l2,∀r',r.n<=r'.n->Good r'.n (f t r'))->Good r.n (zl7 F f entry test l1 l2 m r)
 | 0,_,h,_,_=>by omega
 | m+1,r,h,h1,h2=>by
  rw[zl7];refine(zlL l1 r h1).bind zl fun r1 hr1 _=>?_;refine zm0 (by omega) fun b hF=>?_
  split
  ·exact Good.ok (by simp only;omega)
  ·refine(zlL l2 { r1 with n:=r1.n+1 } fun t ht r' hr'=>h2 t ht r' (by simp only at hr';omega)).bind (by simp only;omega) fun r2 hr2 _=>?_;refine(zlj F entry false r2).bind (by simp only at hr2;omega) fun r3 hr3 e=>?_;obtain⟨rfl,hF2⟩:=znI e;refine(zo5 m _ ?_ (fun t ht r' hr'=>h1 t ht r' ?_) (fun t ht r' hr'=>h2 t ht r' ?_)).mono ?_
   all_goals (simp only at *;omega)
theorem zmc:∀ {ts:List T} {u:T},u∈ts->size u<=zle ts
 | t::ts,u,h=>by
  rw[zle];rcases List.mem_cons.1 h with rfl|h
  ·omega
  ·have:=zmc h;omega
theorem zwv{t:T}{i:Nat}(h:i<t.ks.length):size (kid t i)<size t:=by
 obtain⟨k,n,s,ks⟩:=t;have h':i<ks.length:=h;have:kid (.nd k n s ks) i=ks[i]:=by simp[kid,h']
 rw[this,size];have:=zmc (List.getElem_mem h');omega
theorem zpK{t u:T}(h:u∈t.ks):size u<size t:=by
 obtain⟨k,n,s,ks⟩:=t;rw[size];have:=zmc (ts:=ks) h;omega
theorem zlK{back:Bool}{b u:T}(h:u∈blkL back b):u∈b.ks:=by
 unfold blkL at h
 split at h
 ·simpa using h
 ·exact h
theorem zup(t:T)(i:Nat):∀u∈(kid t i).ks,size u+1<size t:=by
 intro u hu;by_cases h:i<t.ks.length
 ·have:=zwv h;have:=zpK hu;omega
 ·have:kid t i=nil0:=by
   unfold kid;rw[List.getD_eq_getElem?_getD,List.getElem?_eq_none (by omega)];rfl
  rw[this]at hu;simp[nil0]at hu
theorem zl9{prs:List PR}{F:Int}{M:Nat}(hM:∀q∈prs,size q.b<=M)(hM1:1<=M):∀(g:Nat) (back:Bool) (t:T) (r:RS),(F.toNat-r.n)*M+size t<=g->Good r.n (zkB prs F g back t r)
 | 0,_,t,r,h=>by
  have:0<size t:=by obtain⟨k,n,s,ks⟩:=t;rw[size];omega
  omega
 | g+1,back,t,r,h=>by
  have hmul:∀a b:Nat,a<=b->a*M<=b*M:=fun a b h=>Nat.mul_le_mul_right _ h;have hone:F.toNat-r.n<=(F.toNat-r.n)*M:=Nat.le_mul_of_pos_right _ hM1;have hb:∀(back:Bool) i r1,r.n<=r1.n->Good r1.n (zlb (zkB prs F g back) (blkL back (kid t i)) r1):=fun back i r1 h1 =>
   zlL _ _ fun u hu r2 h2=>zl9 hM hM1 g back u r2 (by
    have:=zup t i u (zlK hu);have:=hmul (F.toNat-r2.n) (F.toNat-r.n) (by omega);omega)
  rw[zkB]
  split
  ·refine zm0 (by omega) fun yes hF=>?_;have:Good (r.n+1) (zlb (zkB prs F g back) (blkL back (if yes=true then kid t 1 else kid t 2)) { r with n:=r.n+1 }):=by
    split
    ·exact hb back 1 _ (by simp only;omega)
    ·exact hb back 2 _ (by simp only;omega)
   exact this.bind (by omega) fun r1 h1 _=>(zlj _ _ _ _).mono (by omega)
  ·split
   ·refine(zlj _ _ _ _).bind (by omega) fun r1 h1 e=>?_;obtain⟨rfl,hF⟩:=znI e;have hs:0<size t:=by obtain⟨k,n,s,ks⟩:=t;rw[size];omega
    refine(zo5 g _ (by simp only;omega) (fun u hu r' hr'=>?_) (fun u hu r' hr'=>?_)).mono (by simp only;omega)
    ·have:=zup t 1 u (zlK hu);have:=hmul (F.toNat-r'.n) (F.toNat-r.n) (by simp only at hr';omega);exact zl9 hM hM1 g back u r' (by omega)
    ·have:=zup t 2 u (zlK hu);have:=hmul (F.toNat-r'.n) (F.toNat-r.n) (by simp only at hr';omega);exact zl9 hM hM1 g back u r' (by omega)
   ·split
    ·refine(zku F r).bind (by omega) fun r1 h1 _=>zoc fun x=>?_;refine(zkD r1 _).bind (by omega) fun r2 h2 _=>?_;refine(hb back 1 r2 (by omega)).bind (by omega) fun r3 h3 _=>?_;refine(zku F r3).bind (by omega) fun r4 h4 _=>zoc fun x=>?_;exact(zkD r4 _).mono (by omega)
    ·split
     ·refine(zku F r).bind (by omega) fun r1 h1 _=>?_;refine(zkD r1 _).bind (by omega) fun r2 h2 _=>?_;refine(hb back 0 r2 (by omega)).bind (by omega) fun r3 h3 _=>?_;refine(zku F r3).bind (by omega) fun r4 h4 _=>?_;exact(zkD r4 _).mono (by omega)
     ·split
      ·split
       ·exact Good.err _ _
       ·rename_i i hi;refine(zku F r).bind (by omega) fun r1 h1 e1=>?_;obtain⟨rfl,hF⟩:=zlz e1;refine(zkD _ _).bind (by simp only;omega) fun r2 h2 _=>?_;have hbody:Good r2.n (zlb (zkB prs F g (back != decide (t.k=51))) (blkL (back != decide (t.k=51)) (prs.getD i ⟨⟨#[]⟩,[],nil0⟩).b) { r2 with ent:=r2.ent.set i (r2.ent.getD i 0+1) }):=by
         refine zlL _ _ fun u hu r3 h3=>zl9 hM hM1 g _ u r3 ?_;have hu':=zlK hu;by_cases hi:i<prs.length
         ·have hq:prs.getD i ⟨⟨#[]⟩,[],nil0⟩=prs[i]:=by simp[hi]
          rw[hq]at hu';have hl:=zpK hu';have hMq:=hM _ (List.getElem_mem hi);have hsub:F.toNat-r3.n+1<=F.toNat-r.n:=by simp only at h2 h3;omega
          have:=hmul _ _ hsub;rw[Nat.add_mul,Nat.one_mul]at this;omega
         ·have hq:prs.getD i ⟨⟨#[]⟩,[],nil0⟩=⟨⟨#[]⟩,[],nil0⟩:=by
           rw[List.getD_eq_getElem?_getD,List.getElem?_eq_none (by omega)];rfl
          rw[hq]at hu';simp[nil0]at hu'
        refine hbody.bind (by simp only at h2;omega) fun r3 h3 _=>?_;refine(zku F r3).bind (by simp only at h2;omega) fun r4 h4 _=>?_;exact(zkD r4 _).mono (by simp only at h2;omega)
      ·refine(zku F r).bind (by omega) fun r1 h1 _=>?_;exact(zkD r1 _).mono (by omega)
abbrev zlE(x:Int):Ending:=.panicked [{ v:=.iface 198 (.agg #[.int .i64 x]),recovered:=false }]
theorem zp5(x:Int)(hx:x≠0)(w:World):Calls prog 201 #[.int .i64 x] w fun e w'=>e=zlE x/\w'=w:=by
 have e1:(x==0)=false:=by simpa using hx
 have hb:∀w,(Instr.build 198 #[(0,.int .i64 x)]).run prog w=.ok (.agg #[.int .i64 x]) w:=fun w=>by kernel_rfl
 go_enter func201,ntmps201;go_wp2_with fail;exact⟨rfl,rfl,rfl⟩
theorem zme{W W':World}{base:Nat}{E:TypeId}{size:Nat}{v:Value}{n:Nat}{xs:List Value}(h:W.ownsRow base E size v n xs)(hk:∀b,v.ownBlock=some b->W'.heap[b]?=W.heap[b]?):W'.ownsRow base E size v n xs:=by
 obtain⟨e1,h2⟩:=h;refine⟨e1,?_⟩;rcases h2 with h2|⟨g,cap,cur,rfl,hb,hg,rest⟩
 ·exact .inl h2
 ·exact .inr ⟨g,cap,cur,rfl,hb,(hk g rfl).trans hg,rest⟩
structure RC where
 w:World
 n0:Nat
 sb:Nat
 rb:Nat
 p:PG
 A1:Option Addr
 c1:Nat
 A2:Option Addr
 c2:Nat
 A3:Option Addr
 c3:Nat
 F:Int
 ev:Value
 kb:Nat->Prop
structure RC.Ok(C:RC):Prop where
 pg:PgR C.w Any C.p C.A1 C.c1 C.A2 C.c2 C.A3 C.c3
 F:I64 C.F
 F6:C.F<=1000000
 rb:C.n0<=C.rb/\¬ C.kb C.rb
 ev:C.ev.ownBlock≠some C.rb/\∀b,C.ev.ownBlock=some b->¬ C.kb b
 ps:∀q∈C.p.prs,q.ps.length<=1000
def RC.cells(C:RC)(n:Nat):Array Value := #[.slice C.A1 C.p.vs.length C.c1,.slice C.A2 C.p.prs.length C.c2,.int .u8 C.p.m.k,.int .i64 C.p.m.n,.string C.p.m.s,.slice C.A3 C.p.m.ks.length C.c3,.pointer (some ⟨C.sb,0,none⟩),.int .i64 n,.int .i64 C.F,C.ev]
def FB(j:Nat)(S:ST):Prop:=S.base.vs.length<=1000+j/\∀f∈S.calls,f.vs.length<=1000+j
structure RI(C:RC)(W:World)(r:RS):Prop where
 ks:KS C.w C.n0 C.sb (fun b=>C.kb b\/b=C.rb\/C.ev.ownBlock=some b) W r.S
 box:W.heap[C.rb]?=some (.cells (C.cells r.n) 147 (0,0))
 ent:W.ownsRow C.n0 3 1 C.ev r.ent.length (zkg (r.ent.map Int.ofNat))
 el:r.ent.length=C.p.prs.length
 en:∀c∈r.ent,c<=r.n
 n:(r.n:Int)<=1000000
 fb:FB r.n r.S
section
variable {C:RC} {W W' W'':World} {r r':RS}
theorem RI.below(h:RI C W r):Below C.w.heap.size C.w W:=h.ks.bl
theorem RI.later(h:RI C W r)(hb:Below W.heap.size W W'):RI C W' r:=⟨h.ks.later hb,zkc h.box hb,zko h.ent hb,h.el,h.en,h.n,h.fb⟩
def RunP(C:RC)(W:World)(o:Out)(e:Ending)(W':World):Prop :=
 Kpt C.n0 C.kb W W'/\Below C.w.heap.size C.w W'/\match o with
 | .gas=>True
 | .err x=>e=zlE x
 | .ok r=>(∃u,e=.returned u)/\RI C W' r
theorem RI.cells(h:RI C W r):W.cell? ⟨C.rb,6,none⟩=some (.pointer (some ⟨C.sb,0,none⟩))/\W.cell? ⟨C.rb,7,none⟩=some (.int .i64 r.n)/\W.cell? ⟨C.rb,8,none⟩=some (.int .i64 C.F)/\W.cell? ⟨C.rb,9,none⟩=some C.ev/\∀o,W.frozen? ⟨C.rb,o,none⟩=false :=
 ⟨zc h.box rfl,zc h.box rfl,zc h.box rfl,zc h.box rfl,fun _=>zf h.box⟩
theorem FB.mono{j k:Nat}{S:ST}(h:FB j S)(hk:j<=k):FB k S:=⟨by have:=h.1;omega,fun f hf=>by have:=h.2 f hf;omega⟩
theorem Kpt.chg{n0:Nat}{kb Cc:Nat->Prop}(h:Chg Cc W W')(hC:∀b,Cc b->n0<=b/\¬ kb b):Kpt n0 kb W W' :=
 ⟨h.size,fun b hb hk=>h.block b hb fun hc=>by rcases hk with hk|hk;have:=(hC b hc).1;omega;exact(hC b hc).2 hk⟩
theorem RI.tick(hC:C.Ok)(h:RI C W r)(hF:(r.n:Int)<C.F):RI C (W.setCell ⟨C.rb,7,none⟩ (.int .i64 ((r.n:Int)+1))) { r with n:=r.n+1 }/\Kpt C.n0 C.kb W (W.setCell ⟨C.rb,7,none⟩ (.int .i64 ((r.n:Int)+1))):=by
 have hch:Chg (fun b=>b=C.rb) W (W.setCell ⟨C.rb,7,none⟩ (.int .i64 ((r.n:Int)+1))):=(Chg.refl (fun b=>b=C.rb) W).setCell (p:=⟨C.rb,7,none⟩) (.inl rfl) _;have hn:=h.ks.hn;refine⟨⟨h.ks.chg hch fun b _ e=>⟨by have:=hC.rb.1;omega,.inr (.inr (.inl e))⟩,?_,zme h.ent fun b hb=>?_,h.el,fun c hc=>by have:=h.en c hc;simp only;omega,by have:=hC.F6;simp only;omega,h.fb.mono (Nat.le_succ _)⟩,Kpt.chg hch fun b e=>⟨by have:=hC.rb.1;omega,by rw[e];exact hC.rb.2⟩⟩
 ·have:=heap_setCell_same W C.rb 7 _ _ (.int .i64 ((r.n:Int)+1)) h.box;rw[this];simp[RC.cells]
 ·have hne:b≠C.rb:=fun e=>hC.ev.1 (by rw[hb,e]);have hlt:=(h.ent.lt b hb).2;exact hch.block b hlt hne
end
theorem zlX{C:RC}(hC:C.Ok){W:World}{r:RS}(h:RI C W r):Calls prog 179 #[.pointer (some ⟨C.rb,0,none⟩)] W (RunP C W (zkE C.F r)):=by
 obtain⟨-,y7,y8,-,yf⟩:=h.cells;have wC:=h.n;obtain⟨rb,hrb⟩:=zX (C.rb);obtain⟨F,hF⟩:=zX (C.F);obtain⟨n,hn⟩:=zX (r.n);have HS:=zh (show(fun w':World=>zv w' rb 7 (.int .i64 n)/\zv w' rb 8 (.int .i64 F)) W.drew from⟨by rw[<-hrb,<-hn];exact y7,by rw[<-hrb,<-hF];exact y8⟩);have hd:Below W.heap.size W W.drew:=zr.drew;have HK:=zh (show Kpt C.n0 C.kb W W.drew/\Below C.w.heap.size C.w W.drew from⟨Kpt.of_below hd,zkb h.below hd⟩);have HT:=zh (fun hlt=>RI.tick hC h hlt);have dW:=zh h.below;have yf':∀o,W.drew.frozen? ⟨rb,o,none⟩=false:=by rw[<-hrb];exact yf
 rw[hrb]at HT;rw[hn]at HT wC;rw[hF]at HT;by_cases hlt:F<=(n:Int)
 ·have HO:=zh (show zkE C.F r=.err 18 by unfold zkE;rw[if_pos (by rw[hF,hn];exact hlt)]);rw[hrb];clear h y7 y8 yf hrb hF hn HT;go_enter func179,ntmps179;go_upto_region 0 with fail
  go_region_held3 (fun w':World=>zv w' rb 7 (.int .i64 n)/\zv w' rb 8 (.int .i64 F))
   (with_reducible exact HS.out)
   (first|fail)
  go_wp2_with fail;refine(zp5 18 (by decide) _).mono ?_;rintro e w1 ⟨rfl,rfl⟩;refine⟨rfl,?_⟩;rw[HO.out];exact⟨HK.out.1,HK.out.2,rfl⟩
 ·have hw1:IntKind.i64.wrap ((n:Int)+1)=(n:Int)+1:=IntWalk.i64_in _ (by omega);have HO:=zh (show zkE C.F r=.ok { r with n:=n+1 } by unfold zkE;rw[if_neg (by rw[hF,hn];exact hlt),hn]);have HT2:=zh (HT.out (by omega));rw[hrb];have hlt':¬ F<=(n:Int):=hlt;clear h y7 y8 yf hrb hF hn HT;go_enter func179,ntmps179;go_upto_region 0 with fail
  go_region_held3 (fun w':World=>zv w' rb 7 (.int .i64 n)/\zv w' rb 8 (.int .i64 F))
   (with_reducible exact HS.out)
   (first|fail)
  obtain⟨z7,z8⟩:=HS.out;go_wp2_with fail;go_end0;rw[HO.out];have hd2:∀W:World,Below W.heap.size W W.drew:=fun W=>zr.drew;exact⟨HT2.out.2.trans (Kpt.of_below (hd2 _)),(HT2.out.1.later (hd2 _)).below,⟨_,rfl⟩,HT2.out.1.later (hd2 _)⟩
theorem zla(p:Addr)(x:Int)(w:World):Calls prog 180 #[.pointer (some p),.int .i64 x] w fun e w'=>w'=w/\((x=0/\∃u,e=.returned u)\/(x≠0/\e=zlE x)):=by
 by_cases hx:x=0
 ·subst hx;go_enter func180,ntmps180;go_wp2_with fail;go_end0;exact⟨rfl,.inl ⟨trivial,_,rfl⟩⟩
 ·have e1:(x != 0)=true:=by simpa using hx
  go_enter func180,ntmps180;go_wp2_with fail;refine(zp5 x hx _).mono ?_;rintro e w1 ⟨rfl,rfl⟩;exact⟨rfl,rfl,.inr ⟨hx,rfl⟩⟩
theorem zwG:IsFn prog 166 f166:=⟨func166,by kernel_rfl,by kernel_rfl⟩
theorem zzV(w:World)(n0 sb:Nat)(kb:Nat->Prop)(S:ST)(hw:S.WF):zry 166 f166 (.pointer (some ⟨sb,0,none⟩)) (fun W=>KS w n0 sb kb W S) S.look where
 isFn:=zwG
 later:=fun _ _ h hb=>h.later hb
 fits:=(zuc 0 ⟨0,0,undef,undef,undef,undef,undef,fun _=>undef,fun _=>undef,fun _=>0,fun _=>undef⟩ S hw).fits
 call:=fun s W h=>by
  refine(h.cell s).mono ?_;rintro e W' ⟨v,l,b,rfl,hlk,hl0,ho,hf,hb⟩;refine⟨hb,?_⟩
  cases b
  ·obtain rfl:=hl0 rfl;obtain⟨A,c,rfl,-⟩:=zkd ho;exact .inl ⟨by simpa using hlk,A,c,rfl⟩
  ·obtain⟨A,c,rfl,-,hr⟩:=zq8 ho hf;exact .inr ⟨l,A,c,by simpa using hlk,rfl,hr⟩
theorem zxf{f:FuncId}{fn:Func}{rv:Value}{Rd:World->Prop}{look:ByteArray->Option (List Int)}(hL:zry f fn rv Rd look)(t:T)(v:Value)(w:World)(hv:NV w Any t v)(hR:Rd w) :
  Calls prog 216 #[v,.func (.func f) #[rv] #[]] w fun e w'=>e=.returned (.tuple #[.bool (decide ((zlP look t).1≠0)),.int .i64 (zlP look t).2])/\Below w.heap.size w w':=by
 have HV:=zh hv;obtain⟨A,c,rfl,-⟩:=hv.open_;have rM:=zh (fun w' (hb:Below w.heap.size w w')=>zp6 hL t _ w' (hv.later hb) (hL.later _ _ hR hb));obtain⟨⟨x,y⟩,hx⟩:=zX (zlP look t);rw[hx]at rM ⊢;dsimp only[NumE]at rM ⊢;clear hv hR hx;go_enter func216,ntmps216;have hb0:=zka (zs w) (.cells #[.int .u8 t.k,.int .i64 t.n,.string t.s,.slice A t.ks.length c] 41);have HB0:=zh hb0;obtain⟨x0,x1,x2,x3⟩:=box4 (heap_alloc_new w (.cells #[.int .u8 t.k,.int .i64 t.n,.string t.s,.slice A t.ks.length c] 41));clear hb0;go_wp2_with fail;refine(rM.out _ HB0.out).mono ?_;rintro e w1 ⟨rfl,ae⟩;have HB1:=zh (zkb HB0.out ae);clear ae x0 x1 x2 x3;by_cases h0:x=0
 ·subst h0;go_wp2_with fail;go_ret2;exact⟨by simp,HB1.out⟩
 ·have e1:(x != 0)=true:=by simpa using h0
  go_wp2_with fail;go_ret2;exact⟨by simp[h0],HB1.out⟩
def RC.plus(C:RC)(lo hi:Nat):RC:={ C with kb:=fun b=>C.kb b\/(lo<=b/\b<hi) }
section
variable {C:RC} {W W' W'':World} {r r':RS} {lo hi:Nat}
theorem RI.rlt(h:RI C W r):C.rb<W.heap.size:=zkp h.box
theorem RI.plus(hC:C.Ok)(h:RI C W r)(hb:Below W.heap.size W W'):(C.plus W.heap.size W'.heap.size).Ok/\RI (C.plus W.heap.size W'.heap.size) W' r:=by
 have h1:=h.rlt;refine⟨⟨hC.pg,hC.F,hC.F6,⟨hC.rb.1,fun hk=>?_⟩,⟨hC.ev.1,fun b hb' hk=>?_⟩,hC.ps⟩,⟨h.ks.also hb fun b hk=>?_,zkc h.box hb,zko h.ent hb,h.el,h.en,h.n,h.fb⟩⟩
 ·rcases hk with hk|hk
  ·exact hC.rb.2 hk
  ·have:W.heap.size<=C.rb:=hk.1;omega
 ·rcases hk with hk|hk
  ·exact hC.ev.2 b hb' hk
  ·have:=(h.ent.lt b hb').2;have:=hk.1;omega
 ·rcases hk with(hk|hk)|hk|hk
  ·exact .inl (.inl hk)
  ·exact .inr hk
  ·exact .inl (.inr (.inl hk))
  ·exact .inl (.inr (.inr hk))
theorem RI.less(h:RI (C.plus lo hi) W r):RI C W r :=
 ⟨h.ks.less fun b hk=>hk.elim (fun hk=>.inl (.inl hk)) .inr,h.box,h.ent,h.el,h.en,h.n,h.fb⟩
theorem Kpt.less(h:Kpt C.n0 (C.plus lo hi).kb W W'):Kpt C.n0 C.kb W W':=⟨h.size,fun b hb hk=>h.kept b hb (hk.imp id .inl)⟩
theorem Kpt.plus{b o:Nat}{u:Value}(h:Kpt C.n0 (C.plus lo hi).kb W W')(hb:lo<=b/\b<hi)(hc:W.cell? ⟨b,o,none⟩=some u):W'.cell? ⟨b,o,none⟩=some u:=h.cell (.inr (.inr hb)) hc
end
def zKU(C:RC)(W:World)(t:T)(r:RS)(e:Ending)(W':World):Prop :=
 Kpt C.n0 C.kb W W'/\Below C.w.heap.size C.w W'/\((∃x,e=zlE x/\∀f,zli C.F t r f=.err x)\/∃b r',e=.returned (.bool b)/\RI C W' r'/\∀f,zli C.F t r f=f b r')
theorem zos{C:RC}(hC:C.Ok){W:World}{r:RS}(h:RI C W r)(t:T)(v:Value)(hv:NV C.w Any t v):Calls prog 198 #[.pointer (some ⟨C.rb,0,none⟩),v] W (zKU C W t r):=by
 have HV:=zh hv;obtain⟨A,c,rfl,-⟩:=hv.open_;have ma:∀(fn:Fn) (first cap:Array Value) (w:World),(Instr.makeFunc fn first cap).run prog w=.ok (.func fn first cap) w:=fun _ _ _ _=>rfl;have hb0:=zka (zs W) (.cells #[.int .u8 t.k,.int .i64 t.n,.string t.s,.slice A t.ks.length c] 41);obtain⟨cZ,h1⟩:=h.plus hC hb0;have hz1:(W.alloc (.cells #[.int .u8 t.k,.int .i64 t.n,.string t.s,.slice A t.ks.length c] 41)).heap.size=W.heap.size+1:=by simp
 have hbx:=box4 (heap_alloc_new W (.cells #[.int .u8 t.k,.int .i64 t.n,.string t.s,.slice A t.ks.length c] 41));have aJ:=zh (Kpt.of_below (n0:=C.n0) (kb:=C.kb) hb0);obtain⟨W1,hW1⟩:=zX (W.alloc (.cells #[.int .u8 t.k,.int .i64 t.n,.string t.s,.slice A t.ks.length c] 41));rw[hW1]at cZ h1 hz1 hbx aJ;have lT:=zh cZ;have H1:=zh h1;have HST:=zh (zlX cZ h1);obtain⟨hi,hhi⟩:=zX (W1.heap.size);rw[hhi]at lT H1 HST hz1;have aX:=zh hbx;have HZ1:=zh (show W.heap.size<hi by omega);clear hv cZ h1 hbx hb0 h hhi hz1;go_enter func198,ntmps198;go_wp2_with fail;refine HST.out.mono ?_;rintro e w1 ⟨hk1,hbl1,ho1⟩;have aB:=zh (aJ.out.trans (Kpt.less (C:=C) hk1));have HB1:=zh hbl1
 cases hs:zkE C.F r with
 | gas=>exact absurd hs (zku _ _).1
 | err x =>
  rw[show zkE (C.plus W.heap.size hi).F r=zkE C.F r from rfl,hs]at ho1;subst ho1;exact⟨rfl,aB.out,HB1.out,.inl ⟨x,rfl,fun f=>by unfold zli;rw[hs];rfl⟩⟩
 | ok r1 =>
  rw[show zkE (C.plus W.heap.size hi).F r=zkE C.F r from rfl,hs]at ho1;obtain⟨⟨u,rfl⟩,hr1⟩:=ho1;have x0:=Kpt.plus (C:=C) hk1 (b:=W.heap.size) ⟨zl,HZ1.out⟩ aX.out.1;have x1:=Kpt.plus (C:=C) hk1 (b:=W.heap.size) ⟨zl,HZ1.out⟩ aX.out.2.1;have x2:=Kpt.plus (C:=C) hk1 (b:=W.heap.size) ⟨zl,HZ1.out⟩ aX.out.2.2.1;have x3:=Kpt.plus (C:=C) hk1 (b:=W.heap.size) ⟨zl,HZ1.out⟩ aX.out.2.2.2;have HS:=zh hs;have HR1:=zh hr1.less;obtain⟨y6,-⟩:=hr1.cells;have y6':w1.cell? ⟨C.rb,6,none⟩=some (.pointer (some ⟨C.sb,0,none⟩)):=y6;have uh:=zh (fun w' (hb:Below w1.heap.size w1 w')=>zxf (zzV C.w C.n0 C.sb _ r1.S HR1.out.ks.wf) t _ w' (HV.out.later (zkb HR1.out.below hb)) (HR1.out.ks.later hb));obtain⟨⟨x,y⟩,hx⟩:=zX (zlP r1.S.look t);rw[hx]at uh;dsimp only at uh;obtain⟨bb,hbb⟩:=zX (decide (x≠0));rw[hbb]at uh;have aP:=zh hx;have HBBB:=zh hbb;clear hbb hk1 hbl1 hs hr1 y6 hx HST aX
  have az:=zh (show ∀w',Below w1.heap.size w1 w'->(fun w':World=>zv w' W.heap.size 0 (.int .u8 t.k)/\zv w' W.heap.size 1 (.int .i64 t.n)/\zv w' W.heap.size 2 (.string t.s)/\zv w' W.heap.size 3 (.slice A t.ks.length c)/\zv w' C.rb 6 (.pointer (some ⟨C.sb,0,none⟩))) w' from fun w' hb=>⟨zb hb x0,zb hb x1,zb hb x2,zb hb x3,zb hb y6'⟩);have gV:=zh (az.out _ zr.drew);clear x0 x1 x2 x3 y6';go_upto_region 2 with fail
  go_region_held3 (fun w':World=>zv w' W.heap.size 0 (.int .u8 t.k)/\zv w' W.heap.size 1 (.int .i64 t.n)/\zv w' W.heap.size 2 (.string t.s)/\zv w' W.heap.size 3 (.slice A t.ks.length c)/\zv w' C.rb 6 (.pointer (some ⟨C.sb,0,none⟩)))
   (first|with_reducible exact dH.out|with_reducible exact gV.out)
   (first
    | (go_at_call 216;refine(uh.out _ zr.drew).mono ?_;rintro e y1 ⟨rfl,dU⟩;have b1:=zkb (zs w1).drew dU;have dH:=zh (az.out _ b1))
    | fail)
  have HB2:=zh b1;clear b1 dU dH;go_wp2_with fail;refine(zla _ y _).mono ?_;rintro e w3 ⟨rfl,hcs⟩;rcases hcs with⟨rfl,u2,rfl⟩|⟨hy,rfl⟩
  ·go_wp2_with fail;go_ret;refine⟨aB.out.trans (Kpt.of_below HB2.out),zkb HB1.out HB2.out,.inr ⟨bb,r1,rfl,HR1.out.later HB2.out,fun f=>?_⟩⟩;unfold zli;rw[HS.out];simp only[Out.bind,valO,aP.out];simp[<-HBBB.out]
  ·refine⟨rfl,aB.out.trans (Kpt.of_below HB2.out),zkb HB1.out HB2.out,.inl ⟨y,rfl,fun f=>?_⟩⟩;unfold zli;rw[HS.out];simp only[Out.bind,valO,aP.out];rw[if_pos hy]
theorem zns(x:Int):I64 (wrap64 x):=by
 unfold wrap64 I64
 constructor<;>omega
theorem zr7(b:Bool):I64 (numI b):=by
 cases b
 ·exact⟨by decide,by decide⟩
 ·exact⟨by decide,by decide⟩
theorem zero_I64:I64 0:=⟨by decide,by decide⟩
theorem zrM{x y:Int}(h:I64 x):I64 (x.tmod y):=by
 obtain⟨h1,h2⟩:=h;rcases Int.le_total 0 x with h0|h0
 ·have a1:=Int.tmod_nonneg y h0;have a2:(x.tmod y).natAbs<=x.natAbs:=by rw[Int.natAbs_tmod];exact Nat.mod_le _ _
  exact⟨by omega,by omega⟩
 ·have a1:=Int.tmod_nonneg y (show 0 <= -x by omega);rw[Int.neg_tmod]at a1;have a2:(x.tmod y).natAbs<=x.natAbs:=by rw[Int.natAbs_tmod];exact Nat.mod_le _ _
  exact⟨by omega,by omega⟩
theorem zwW{k x y:Int}(hx:I64 x):I64 (divE k x y).1:=by
 unfold divE
 repeat' split
 all_goals first|exact zero_I64|exact zns _|exact zrM hx
theorem zx6(k x:Int):I64 (unE k x).1:=by
 unfold unE
 split
 ·exact zns _
 ·exact zr7 _
theorem zyx{c:Prop}[Decidable c]{a b:Int×Int}(ha:I64 a.1)(hb:I64 b.1):I64 (if c then a else b).1:=by
 split
 ·exact ha
 ·exact hb
theorem zy5{k x y:Int}(hx:I64 x):I64 (apE k x y).1:=by
 unfold apE
 repeat' apply zyx
 all_goals first|exact zns _|exact zwW hx|exact zrM hx|exact ztn _|exact zr7 _|exact zero_I64
theorem zwA{l:List Int}(h:∀x∈l,I64 x)(i:Nat):I64 (l.getD i 0):=by
 rw[List.getD_eq_getElem?_getD];rcases hx:l[i]? with _|x
 ·exact zero_I64
 ·exact h x (List.mem_of_getElem? hx)
theorem zyT{look:ByteArray->Option (List Int)}(hl:∀s l,look s=some l->l.length<=100000/\∀x∈l,I64 x){k n:Int}{s:ByteArray}{rs:List (Int×Int)}(hn:I64 n)(h0:I64 (rs.getD 0 (0,0)).1):I64 (evK look k n s rs).1:=by
 unfold evK
 split
 ·exact hn
 ·split
  ·unfold varE
   split
   ·exact zero_I64
   ·rename_i l hlk;obtain⟨h1,h2⟩:=hl s l hlk
    repeat' split
    all_goals first|exact zwA h2 _|exact zero_I64|exact⟨by simp only;omega,by simp only;omega⟩
  ·repeat' split
   all_goals first|exact zx6 _ _|exact zy5 h0|exact zero_I64
theorem zuK{look:ByteArray->Option (List Int)}(hl:∀s l,look s=some l->l.length<=100000/\∀x∈l,I64 x){w:World}:∀(m:Nat) (t:T) (v:Value),size t<=m->NV w Any t v->I64 (evE look t).1
 | 0,t,_,h,_=>by obtain⟨k,n,s,ks⟩:=t;rw[size]at h;omega
 | m+1,.nd k n s ks,v,h,hv=>by
  obtain⟨A,c,-,hf,-,-,hrow⟩:=hv.open_;rw[evE];refine zyT hl hf.2.1 ?_;rw[zn3,List.getD_eq_getElem?_getD,List.getElem?_map];rcases hk:ks[0]? with _|u
  ·exact zero_I64
  ·obtain⟨h1,h2⟩:=List.getElem?_eq_some_iff.1 hk;obtain⟨a,u0,u1,u2,u3,-,-,-,hn⟩:=hrow 0 h1;have hs:=zmc (List.getElem_mem h1);rw[size]at h;have:=zuK hl m ks[0] _ (by omega) hn;rw[h2]at this;exact this
theorem zwq{S:ST}(h:S.WF):∀s l,S.look s=some l->l.length<=100000/\∀x∈l,I64 x:=fun s l hl=>by
 obtain⟨i,id,h1,h2,rfl⟩:=ST.look_num hl;obtain⟨kd,hc⟩:=h.cur;have:=h.cells id (hc.num id (List.mem_of_getElem? h2));exact⟨by omega,this.2⟩
theorem zwP{S:ST}(h:S.WF){w:World}{t:T}{v:Value}(hv:NV w Any t v):I64 (zlP S.look t).1:=by
 unfold zlP
 split
 ·exact zuK (zwq h) _ _ _ zl hv
 ·exact zero_I64
def ValP(C:RC)(W:World)(t:T)(r:RS)(e:Ending)(W':World):Prop :=
 Below W.heap.size W W'/\((∃x,e=zlE x/\∀f,valO t r f=.err x)\/∃x,e=.returned (.int .i64 x)/\I64 x/\∀f,valO t r f=f x r)
theorem zqb{C:RC}{W:World}{r:RS}(h:RI C W r)(t:T)(v:Value)(hv:NV C.w Any t v):Calls prog 200 #[.pointer (some ⟨C.rb,0,none⟩),v] W (ValP C W t r):=by
 have HV:=zh hv;obtain⟨A,c,rfl,-⟩:=hv.open_;have ma:∀(fn:Fn) (first cap:Array Value) (w:World),(Instr.makeFunc fn first cap).run prog w=.ok (.func fn first cap) w:=fun _ _ _ _=>rfl;have hb0:=zka (zs W) (.cells #[.int .u8 t.k,.int .i64 t.n,.string t.s,.slice A t.ks.length c] 41);have hbx:=box4 (heap_alloc_new W (.cells #[.int .u8 t.k,.int .i64 t.n,.string t.s,.slice A t.ks.length c] 41));obtain⟨y6,-⟩:=(h.later hb0).cells;have HR:=zh (h.later hb0);have HB0:=zh hb0;obtain⟨w1,hW1⟩:=zX (W.alloc (.cells #[.int .u8 t.k,.int .i64 t.n,.string t.s,.slice A t.ks.length c] 41));rw[hW1]at hbx HR HB0 y6;obtain⟨x0,x1,x2,x3⟩:=hbx;have uh:=zh (fun w' (hb:Below w1.heap.size w1 w')=>zp6 (zzV C.w C.n0 C.sb _ r.S HR.out.ks.wf) t _ w' (HV.out.later (zkb HR.out.below hb)) (HR.out.ks.later hb));obtain⟨⟨x,y⟩,hx⟩:=zX (zlP r.S.look t);rw[hx]at uh;have aP:=zh hx
 have az:=zh (show ∀w',Below w1.heap.size w1 w'->(fun w':World=>zv w' W.heap.size 0 (.int .u8 t.k)/\zv w' W.heap.size 1 (.int .i64 t.n)/\zv w' W.heap.size 2 (.string t.s)/\zv w' W.heap.size 3 (.slice A t.ks.length c)/\zv w' C.rb 6 (.pointer (some ⟨C.sb,0,none⟩))) w' from fun w' hb=>⟨zb hb x0,zb hb x1,zb hb x2,zb hb x3,zb hb y6⟩);have gV:=zh (az.out _ zr.drew);clear hv hb0 hx x0 x1 x2 x3 y6 h;go_enter func200,ntmps200;go_upto_region 1 with fail;clear hW1
 go_region_held3 (fun w':World=>zv w' W.heap.size 0 (.int .u8 t.k)/\zv w' W.heap.size 1 (.int .i64 t.n)/\zv w' W.heap.size 2 (.string t.s)/\zv w' W.heap.size 3 (.slice A t.ks.length c)/\zv w' C.rb 6 (.pointer (some ⟨C.sb,0,none⟩)))
  (first|with_reducible exact dH.out|with_reducible exact gV.out)
  (first
   | (go_at_call 167;refine(uh.out _ zr.drew).mono ?_;rintro e y1 ⟨rfl,dU⟩;have b1:=zkb (zs w1).drew dU;have dH:=zh (az.out _ b1))
   | fail)
 have HB2:=zh (zkb HB0.out b1);clear b1 dU dH;go_wp2_with fail;refine(zla _ y _).mono ?_;rintro e w3 ⟨rfl,hcs⟩;rcases hcs with⟨rfl,u2,rfl⟩|⟨hy,rfl⟩
 ·go_wp2_with fail;go_ret;refine⟨HB2.out,.inr ⟨x,rfl,?_,fun f=>?_⟩⟩
  ·have:=zwP HR.out.ks.wf HV.out;rw[aP.out]at this;exact this
  ·unfold valO;rw[aP.out];simp
 ·refine⟨rfl,HB2.out,.inl ⟨y,rfl,fun f=>?_⟩⟩;unfold valO;rw[aP.out,if_pos hy]
theorem zmQ{C:RC}(hC:C.Ok){W:World}{r:RS}(h:RI C W r)(t:T)(v:Value)(hv:NV C.w Any t v)(b:Bool):Calls prog 199 #[.pointer (some ⟨C.rb,0,none⟩),v,.bool b] W (RunP C W (zkv C.F t b r)):=by
 have HV:=zh hv;obtain⟨A,c,rfl,-⟩:=hv.open_;have hb0:=zka (zs W) (.cells #[.int .u8 t.k,.int .i64 t.n,.string t.s,.slice A t.ks.length c] 41);obtain⟨x0,x1,x2,x3⟩:=box4 (heap_alloc_new W (.cells #[.int .u8 t.k,.int .i64 t.n,.string t.s,.slice A t.ks.length c] 41));have aJ:=zh (Kpt.of_below (n0:=C.n0) (kb:=C.kb) hb0);have iK:=zh (zos hC (h.later hb0) t _ hv);clear hv hb0 h;go_enter func199,ntmps199;go_wp2_with fail;refine iK.out.mono ?_;rintro e w1 ⟨hk1,hb1,ho⟩;have aB:=zh (aJ.out.trans hk1);have HB1:=zh hb1;clear hk1 hb1 iK x0 x1 x2 x3 aJ;rcases ho with⟨x,rfl,hx⟩|⟨b1,r1,rfl,hr1,hx⟩
 ·refine⟨rfl,aB.out,HB1.out,?_⟩;rw[show zkv C.F t b r=.err x from hx _]
 ·have HX:=zh (show zkv C.F t b r=if b1=b then .ok r1 else .err 15 from hx _);have HR:=zh hr1;clear hr1 hx;by_cases hbb:b1=b
  ·subst hbb;have bD:=zh (show zkv C.F t b1 r=.ok r1 by rw[HX.out,if_pos rfl]);clear HX;go_wp2_with fail;go_end0;refine⟨aB.out,HB1.out,?_⟩;rw[bD.out];exact⟨⟨_,rfl⟩,HR.out⟩
  ·have e1:(b1 != b)=true:=by simpa using hbb
   have e2:(b1==b)=false:=by simpa using hbb
   go_wp2_with fail;refine(zp5 15 (by decide) _).mono ?_;rintro e w2 ⟨rfl,rfl⟩;refine⟨rfl,aB.out,HB1.out,?_⟩;rw[HX.out,if_neg hbb]
def zS(vs:List VD):SS:=⟨vs.map fun v=>List.replicate (fixE v).toNat 0,[],[]⟩
theorem bMkI(n:Nat)(hn:n<=4096)(w:World):(Instr.makeSlice 30 (.int .i64 (n:Int)) (.int .i64 (n:Int))).run prog w=.ok (.slice (some ⟨w.heap.size,0,none⟩) n n) (w.alloc (.cells (madeCells #[.int .i64 0] n) 3)):=by
 obtain⟨i,hi,h1,h2,h3⟩:=info_parts zlO;have:=zll (P:=prog) 30 3 i (.int .i64 0) underlying30 hi h1 .i64 .i64 n n zl (by rw[h3];omega) (by omega) w;rw[h2,Nat.mul_one]at this;exact this
theorem ztZ(w:World)(n0 n:Nat)(h:n0<=w.heap.size)(hn:n<=4096):(w.alloc (.cells (madeCells #[.int .i64 0] n) 3)).ownsRow n0 3 1 (.slice (some ⟨w.heap.size,0,none⟩) n n) (List.replicate n (0:Int)).length (zkg (List.replicate n 0)) :=
 ⟨by simp[zkg],.inr ⟨w.heap.size,n,madeCells #[.int .i64 0] n,by simp,h,heap_alloc_new w _,by simp,by unfold maxLen;omega,by rw[size_madeCells];simp,by rw[zm8];simp[zkg]⟩⟩
theorem zq7{W:World}{n0 b3:Nat}{vi:Value}{fc:Nat->Value}{s:SS}(hn:n0<=b3)(h:W.heap[b3]?=some (.cells #[.slice none 0 0,vi,.slice none 0 0] 32 (0,0)))(hv:W.ownsRow n0 3 1 vi 0 [])(hne:vi.ownBlock≠some b3)(h1:s.tin=[])(h2:s.tout=[]) :
  Rws W n0 (zlU (.slice none 0 0) vi (.slice none 0 0) fc b3 s 0):=by
 refine⟨fun i=>?_,fun i j b hij hi hj=>?_⟩
 ·rcases i with _|i
  ·exact ztY hn h
  ·cases i with
   | all=>exact zrb _ _ _
   | inp=>simp only[zlU,h1];exact hv
   | out=>simp only[zlU,h2];exact zrb _ _ _
   | el i=>simp only[zlU,Nat.not_lt_zero,if_false];exact zlZ W n0
 ·rcases i with _|i<;>rcases j with _|j
  ·exact hij rfl
  ·cases j<;>simp[zlU,nilR,Value.ownBlock,boxV]at hi hj
   subst hi;exact hne hj
  ·cases i<;>simp[zlU,nilR,Value.ownBlock,boxV]at hi hj
   subst hj;exact hne hi
  ·cases i<;>cases j<;>simp[zlU,nilR,Value.ownBlock]at hi hj hij
theorem zqY{v:VD}(h:vdB v=true):0<=fixE v/\fixE v<=16:=by
 unfold vdB at h;unfold fixE
 split
 ·omega
 ·rename_i h1
  split at h
  ·have:=eq_of_beq h;omega
  ·split at h
   ·have:=of_decide_eq_true h;omega
   ·cases h
theorem zSLim(vs:List VD)(h:svB vs=true):(zS vs).Lim:=by
 simp only[svB,Bool.and_eq_true,decide_eq_true_eq,List.all_eq_true]at h;refine⟨by simp only[zS,List.length_map];unfold LI;omega,fun l hl=>?_,Nat.zero_le _,Nat.zero_le _⟩;obtain⟨v,hv,rfl⟩:=List.mem_map.1 hl;have:=zqY (h.2 v hv);rw[List.length_replicate];unfold LI;omega
theorem st3{W:World}{b:Nat}{a0 a1 a2:Value}{ty:TypeId}(v0 v1 v2:Value)(h:W.heap[b]?=some (.cells #[a0,a1,a2] ty (0,0))) :
  ∃W',((W.setCell ⟨b,0,none⟩ v0).setCell ⟨b,1,none⟩ v1).setCell ⟨b,2,none⟩ v2=W'/\Chg (fun q=>q=b) W W'/\W'.heap[b]?=some (.cells #[v0,v1,v2] ty (0,0)):=by
 have hch:Chg (fun q=>q=b) W (((W.setCell ⟨b,0,none⟩ v0).setCell ⟨b,1,none⟩ v1).setCell ⟨b,2,none⟩ v2) :=
  (((Chg.refl (fun q=>q=b) W).setCell (p:=⟨b,0,none⟩) (.inl rfl) _).setCell (p:=⟨b,1,none⟩) (.inl rfl) _).setCell (p:=⟨b,2,none⟩) (.inl rfl) _
 have hh:=heap_setCell_same _ b 2 _ _ v2 (heap_setCell_same _ b 1 _ _ v1 (heap_setCell_same W b 0 _ _ v0 h));exact⟨_,rfl,hch,by simpa using hh⟩
def zKR(vs:List VD)(w:World)(e:Ending)(w':World):Prop:=Below w.heap.size w w'/\∃v er,e=.returned (.tuple #[v,.int .i64 er])/\(svB vs=false->er=3/\v=.agg #[.slice none 0 0,.slice none 0 0,.slice none 0 0])/\(svB vs=true->er=0/\OwnS w' w.heap.size (zS vs) v)
theorem zyI:IsFn prog 56 f56:=⟨func56,by kernel_rfl,by kernel_rfl⟩
theorem zxj(vs:List VD)(A:Option Addr)(c:Nat)(w:World)(hrow:RowV w Any A vs)(hl:vs.length<=LV):Calls prog 97 #[.slice A vs.length c,.slice none 0 0] w (zKR vs w):=by
 have hb1:=zka (zs w) (.cells #[.slice none 0 0,.slice none 0 0,.slice none 0 0] 32);have hk1:=heap_alloc_new w (.cells #[.slice none 0 0,.slice none 0 0,.slice none 0 0] 32);have h1:=bS12;have af:=zh hrow;obtain⟨b0,hb0⟩:=zX (svB vs);have HB0:=zh hb0;have kJ:=zh (fun w' (hb:Below w.heap.size w w')=>hb0▸zoW vs A c w' (hrow.later hb) hl);clear hrow hl hb0;go_enter func97,ntmps97;go_upto_region 1 with fail;obtain⟨w1,hw1⟩:=zX (w.alloc (.cells #[.slice none 0 0,.slice none 0 0,.slice none 0 0] 32));rw[hw1]at hb1 hk1 ⊢;have HB1:=zh hb1;have aB:=zh hk1;clear hw1 hb1 hk1;go_wp2_with fail;refine(kJ.out _ HB1.out).mono ?_;rintro e w2 ⟨rfl,hb2⟩;have HB2:=zh (zkb HB1.out hb2);have aR:=zh (zkc aB.out hb2);have q0:w2.cell? ⟨w.heap.size,0,none⟩=some (.slice none 0 0):=zc aR.out rfl;have q1:w2.cell? ⟨w.heap.size,1,none⟩=some (.slice none 0 0):=zc aR.out rfl
 have q2:w2.cell? ⟨w.heap.size,2,none⟩=some (.slice none 0 0):=zc aR.out rfl;have cf:∀j,w2.frozen? ⟨w.heap.size,j,none⟩=false:=fun j=>zf aR.out;clear hb2
 cases b0
 ·obtain⟨w9,dw,bG,fF⟩:=st3 (.slice none 0 0) (.slice none 0 0) (.slice none 0 0) aR.out;have aF:=zh (HB2.out.trans (bG.below HB2.out.size fun q e=>by have e:q=w.heap.size:=e;omega));obtain⟨t0,t1,t2⟩:=zky fF;clear bG fF;go_wp2_with fail;refine bodyPost_ret (v:=.tuple #[.agg #[.slice none 0 0,.slice none 0 0,.slice none 0 0],.int .i64 3]) (by simp[results,results97,go_sem,t0,t1,t2]) rfl ?_;exact⟨aF.out,_,_,rfl,fun _=>⟨rfl,rfl⟩,fun h=>by rw[HB0.out]at h;cases h⟩
 ·have dQ:=zh (zkO [] none 0 Any w2 (fun i hi=>absurd hi (Nat.not_lt_zero i)) (Nat.zero_le _));have hsv:=HB0.out;simp only[svB,Bool.and_eq_true,decide_eq_true_eq,List.all_eq_true]at hsv;have kK:=zh hsv;have hln:vs.length<=32:=hsv.1;clear hsv;go_wp2_with fail;refine dQ.out.mono ?_;rintro e w3 ⟨vi,rfl,bA,-,kF⟩;have HB3:=zh (zkb HB2.out kF);have dC:=zh bA;clear bA q0 q1 q2 cf dQ;obtain⟨B,d,rfl,-⟩:=zkd dC.out;have hk4:=heap_alloc_new w3 (.cells #[.slice none 0 0,.slice none 0 0,.slice none 0 0] 32);have hb4:=zka (zs w3) (.cells #[.slice none 0 0,.slice none 0 0,.slice none 0 0] 32);obtain⟨w4,hw4⟩:=zX (w3.alloc (.cells #[.slice none 0 0,.slice none 0 0,.slice none 0 0] 32));rw[hw4]at hk4 hb4;obtain⟨b3,hb3⟩:=zX (w3.heap.size);rw[hb3]at hk4;obtain⟨w5,ig,bQ,jm⟩:=st3 (.slice none 0 0) (.slice B 0 d) (.slice none 0 0) hk4
  have aQ:=zh (HB3.out.trans (hb4.trans (bQ.below hb4.size fun q e=>by have e:q=b3:=e;omega) |>.mono HB3.out.size));have rA:=zh (zq7 (n0:=w.heap.size+1) (fc:=fun _=>.slice none 0 0) (s:=zS vs) (by have:=kF.size;have:=zkp aR.out;omega) jm (zln (zme (zko dC.out hb4) fun q hq=>bQ.block q (Nat.lt_of_lt_of_le (dC.out.lt q hq).2 hb4.size) fun e=>by have e:q=b3:=e;have:=(dC.out.lt q hq).2;omega) (by have:=zkp aR.out;omega)) (fun e=>by have:=(dC.out.lt _ e).2;omega) rfl rfl);obtain⟨d0,d1,d2⟩:=zky hk4;have cf:∀j,w4.frozen? ⟨b3,j,none⟩=false:=fun j=>zf hk4;have yK:=zh jm;have iI:=zh ((bQ.block _ (Nat.lt_of_lt_of_le (zkp aR.out) (Nat.le_trans (zkb zr kF).size hb4.size)) fun e=>by have e:w.heap.size=b3:=e;have:=zkp aR.out;have:=kF.size;omega).trans (zkc (zkc aR.out kF) hb4));clear hb4 hk4 bQ jm kF;go_wp2_with fail
  clear hw4 ig d0 d1 d2 cf h1;obtain⟨vi,kZ⟩:=zX (Value.slice B 0 d);rw[kZ]at rA;have wW:=zh kZ;clear kZ dC yK
  go_loopw [22] (fun i wr=>∃j:Nat,j<=vs.length/\i=.int .i64 j/\Hid (Below w.heap.size w wr)/\∃vc fc,Hid (Rws wr (w.heap.size+1) (zlU vc vi (.slice none 0 0) fc b3 (zS vs) j))/\Hid (wr.heap[w.heap.size]?=some (.cells #[.slice none 0 0,.slice none 0 0,.slice none 0 0] 32 (0,0)))) (fun i _=>vs.length-(intOf i).toNat)
  case atStart=>exact⟨0,Nat.zero_le _,rfl,aQ,_,_,rA,iI⟩
  case round =>
   clear rA aQ iI;obtain⟨j,hj,rfl,ah,vc,fc,HRW,HK⟩:=hrel;by_cases hlt:j<vs.length
   ·have hj1:(j:Int)<(vs.length:Int):=by omega
    have hj0:(0:Int)<=(j:Int):=by omega
    obtain⟨a,v,rfl,-,Hv,⟨p0,p1,p2⟩,hf⟩:=(af.out.later ah.out).nd hlt;have hfx:=zqY (kK.out.2 _ (List.getElem_mem hlt));rw[Hv.out]at hfx;obtain⟨m,hm⟩:=zX ((fixE v).toNat);have hm2:fixE v=(m:Int):=by omega
    have wD:m<=4096:=by omega
    have jI:=zh (fun w'=>hm2▸zqF v w');have hgd:(zS vs).cells.getD j []=List.replicate m 0:=by
     rw[<-hm,<-Hv.out];simp[zS,List.getD_eq_getElem?_getD,List.getElem?_map,List.getElem?_eq_getElem hlt]
    have HGD:=zh hgd;obtain⟨oK,vk,vn⟩:=v;simp only at p0 p1 p2;have hbx:=zlS (HRW.out.row none);obtain⟨Av,cv,bN,-⟩:=zkd (HRW.out.row (some .all));change vc=.slice Av j cv at bN;subst bN;have jR:=heap_alloc_new wr (.cells #[.string oK,.int .u8 vk,.int .i64 vn] 57);have dz:=zka (zs wr) (.cells #[.string oK,.int .u8 vk,.int .i64 vn] 57);obtain⟨w9,dw⟩:=zX (wr.alloc (.cells #[.string oK,.int .u8 vk,.int .i64 vn] 57));rw[dw]at jR dz;have aF:=zh dz;have uw:=zh (HRW.out.later aF.out);obtain⟨e0,e1,e2⟩:=zky jR;have hbx:=zlS (uw.out.row none);have x0:w9.cell? ⟨b3,0,none⟩=some (.slice Av j cv):=zc hbx rfl;clear jR dz hgd hm2 hfx hf;go_upto_region 9 with fail;clear dw p0 p1 p2;obtain⟨vb,hvb⟩:=zX (wr.heap.size);have eZ:=zh hvb;rw[hvb]at e0 e1 e2 ⊢
    have hS0:(fun w':World=>zN3 w' vb (.string oK) (.int .u8 vk) (.int .i64 vn)) w9.drew/\(fun w':World=>zv w' b3 0 (.slice Av j cv)) w9.drew:=⟨⟨e0,e1,e2⟩,x0⟩
    have az:=zh (show ∀w',Below w9.heap.size w9 w'->(fun w':World=>zN3 w' vb (.string oK) (.int .u8 vk) (.int .i64 vn)) w'/\(fun w':World=>zv w' b3 0 (.slice Av j cv)) w' from fun w' h=>⟨⟨zb h e0,zb h e1,zb h e2⟩,zb h x0⟩);obtain⟨i0,hi0,hq0,hq1,hq2⟩:=info_parts zm6;refine wp_region_noPanic ?_;refine zkk (fun w':World=>zN3 w' vb (.string oK) (.int .u8 vk) (.int .i64 vn)) (fun w':World=>zv w' b3 0 (.slice Av j cv)) 8 (by kernel_rfl) ?_;clear e0 e1 e2 x0 hvb;refine zT 0 hS0 ?_;refine zJ 1 hS0 ?_;refine zT 2 hS0 ?_;refine zo 3 fun K hK=>?_;have had:Calls prog 56 [.agg #[.string oK,.int .u8 vk,.int .i64 vn]].toArray w9.drew fun e w'=>∃u,e=.returned u/\(u=.int .i64 (m:Int)/\Below w9.heap.size w9 w') :=
     (jI.out _).mono fun e w' ⟨h1,h2⟩=>⟨_,h1,rfl,zkb (zs w9).drew h2⟩
    refine zke (by rfl) (.func 56) [.tmp 28] _ (by rfl) 56 _ zyI (by rfl) _ (by rfl) _ had ?_;rintro v8 wb ⟨rfl,hbb⟩;have dW:=zh hbb;refine hK.out _ _ (az.out _ hbb) ?_;clear hK K hS0 hbb had;(try simp only[zQ]);have hmk:=bMkI m wD wb;refine zo 4 fun K hK=>?_;(try simp only[zA,zB,zC]);go_simp;have hb4:=zkb dW.out (zka (zs wb) (.cells (madeCells #[.int .i64 0] m) 3));have hsz:=ah.out.size;have hd1:=(uw.out.later dW.out).upd (some (.el j)) (r:=⟨.slice (some ⟨wb.heap.size,0,none⟩) m m,3,1,(List.replicate m (0:Int)).length,zkg (List.replicate m 0)⟩) (Chg.of_below (zka (zs wb) (.cells (madeCells #[.int .i64 0] m) 3))) (ztZ wb (w.heap.size+1) m (by have:=aF.out.size;have:=dW.out.size;have:=zkp HK.out;omega) wD) (fun b hb=>.inr (by have hb:some wb.heap.size=some b:=hb;injection hb with hb;omega));have HD1:=zh hd1;have aG:=zh hb4
    obtain⟨g,hg⟩:=zX (wb.heap.size);obtain⟨wx,hwx⟩:=zX (wb.alloc (.cells (madeCells #[.int .i64 0] m) 3));rw[hwx]at HD1 aG ⊢;rw[hg]at HD1 ⊢;refine hK.out _ _ (az.out _ aG.out) ?_;clear hK K hmk hd1 hb4 hwx hg uw;(try simp only[zQ]);have h1:=zz1;refine zo 5 fun K hK=>?_;(try simp only[zA,zB,zC]);go_simp;have jX:=zh (zkb aG.out (zka (zs wx) (.cells #[.slice (some ⟨g,0,none⟩) m m] 30)));have HD2:=zh (HD1.out.later (zka (zs wx) (.cells #[.slice (some ⟨g,0,none⟩) m m] 30)));have aI:=zh (heap_alloc_new wx (.cells #[.slice (some ⟨g,0,none⟩) m m] 30));obtain⟨wc,hwc⟩:=zX (wx.alloc (.cells #[.slice (some ⟨g,0,none⟩) m m] 30));rw[hwc]at jX HD2 aI ⊢;refine hK.out _ _ (az.out _ jX.out) ?_;clear hK K hwc HD1 h1;(try simp only[zQ]);have hbC:=zkb ah.out (zkb aF.out jX.out);have oP:=hbC.size;have hrow:=HD2.out.row (some .all);rw[zkj (by simp)]at hrow
    change wc.ownsRow (w.heap.size+1) 30 1 (.slice Av j cv) j ((List.range j).map fc)at hrow;refine zo 6 fun K hK=>?_;refine zkP (by rfl) (.tmp 27) (.tmp 31) 29 (by rfl) (w.heap.size+1) 30 i0 _ 1 24 underlying29 hi0 hq0 hq1 hq2 rfl (by decide) (.slice Av j cv) j ((List.range j).map fc) (by rfl) hrow ⟨wx.heap.size,0,none⟩ 1 1 [.slice (some ⟨g,0,none⟩) m m] (by rfl) rfl (fun q u hq=>by
     match q,hq with
     | 0,hq=>injection hq with hq;subst hq;exact zc aI.out rfl) (fun u hu=>by simp at hu;subst hu;rfl) (by unfold maxLen;omega) (by omega) (by have:=aF.out.size;have:=jX.out.size;have:=zkp HK.out;omega) (fun vd wd ho hg aj=>?_)
    have hd3:=HD2.out.upd (some .all) (r:=⟨vd,30,1,j+1,(List.range j).map fc++[.slice (some ⟨g,0,none⟩) m m]⟩) ((Chg.row hg).mono fun b _ hb=>hb) ho (fun b hb=>by
     rcases aj with h5|h5
     ·exact .inl (h5▸hb)
     ·exact .inr (by rw[h5]at hb;injection hb with hb;omega))
    have HD3:=zh hd3;have hlo:∀g,(Value.slice Av j cv).ownBlock=some g->w.heap.size+1<=g:=fun g e=>(HRW.out.lt (some .all) g e).1;have gu:Chg (fun b=>(Value.slice Av j cv).ownBlock=some b) wc wd:=Chg.row hg;have hbD:=hbC.grown hg oP (fun g e=>by have:=hlo g e;omega);have mG:(fun w':World=>zN3 w' vb (.string oK) (.int .u8 vk) (.int .i64 vn)) wd:=by
     obtain⟨f0,f1,f2⟩:=(az.out _ jX.out).1;have hne:∀b,(Value.slice Av j cv).ownBlock=some b->b≠vb:=fun b h e=>by have:=(HRW.out.lt (some .all) b h).2;have:=eZ.out;omega
     have hk:=gu.block vb (World.block_lt_of_cell? wc _ f0) fun h=>hne _ h rfl;exact⟨zkK f0 hk,zkK f1 hk,zkK f2 hk⟩
    have jq:=zlS (HD3.out.row none);have e0:wd.cell? ⟨b3,0,none⟩=some (.slice Av j cv):=zc jq rfl;have ez:wd.frozen? ⟨b3,0,none⟩=false:=zf jq;have hd4:=HD3.out.set none (g:=b3) (o:=0) (by rfl) (by show 0<3;decide) vd;have hd5:Rws (wd.setCell ⟨b3,0,none⟩ vd) (w.heap.size+1) (zlU vd vi (.slice none 0 0) (fun i=>if i=j then .slice (some ⟨g,0,none⟩) m m else fc i) b3 (zS vs) (j+1)):=by
     rw[<-zxI (.slice Av j cv) vd vi (.slice none 0 0) fc b3 (zS vs) j (List.replicate m 0) (.slice (some ⟨g,0,none⟩) m m) HGD.out];exact hd4
    have HD5:=zh hd5;have hb3lt:=(HD3.out.lt none b3 rfl)
    have hkd:wd.heap[w.heap.size]?=some (.cells #[.slice none 0 0,.slice none 0 0,.slice none 0 0] 32 (0,0)):=gu.keep (zkc (zkc HK.out aF.out) jX.out) fun h=>by have:=hlo _ h;omega
    have hcs:=((Chg.refl (fun b=>b=b3) wd).setCell (p:=⟨b3,0,none⟩) (.inl rfl) vd)
    have rP:=zh (show Below w.heap.size w (wd.setCell ⟨b3,0,none⟩ vd)from hbD.trans (hcs.below hbD.size fun b e=>by omega));have oF:=zh (hcs.keep hkd fun e=>by have e:w.heap.size=b3:=e;have:=hb3lt;omega);have hS5:(fun w':World=>zN3 w' vb (.string oK) (.int .u8 vk) (.int .i64 vn)) (wd.setCell ⟨b3,0,none⟩ vd):=by
     obtain⟨f0,f1,f2⟩:=mG;have hk:=hcs.block vb (World.block_lt_of_cell? wd _ f0) fun e=>by have e:vb=b3:=e;have:=(HRW.out.lt none b3 rfl).2;have:=eZ.out;omega
     exact⟨zkK f0 hk,zkK f1 hk,zkK f2 hk⟩
    obtain⟨Ad,cd',rfl,-⟩:=zkd ho;refine hK.out _ _ ⟨mG,e0⟩ ?_;clear hK K hd3 hd4 hd5 ho hg aj hrow gu hlo jq hkd hcs hbC hbD az;(try simp only[zQ]);refine zo 7 fun K hK=>?_;(try simp only[zA,zB,zC]);go_simp;refine hK.out _ _ ⟨mG,e0⟩ ?_;clear hK K;(try simp only[zQ]);refine zp 8 fun K hK=>?_;(try simp only[zA,zB,zC]);go_simp;refine hK.out _ _ hS5 ?_;clear hK K;(try simp only[zQ]);refine zd ?_;refine NoPanic.normal ?_;clear mG hS5 e0 ez;go_wp2_with fail
    go_roundw
    case rel=>exact⟨j+1,by omega,by go_num,rP,_,_,HD5,oF⟩
    case measure=>simp[intOf];omega
   ·obtain rfl:j=vs.length:=by omega
    have hj1:¬ (vs.length:Int)<(vs.length:Int):=by omega
    have hbx:=zlS (HRW.out.row none);obtain⟨x0,x1,x2⟩:=zky hbx;obtain⟨Av,cv,bN,-⟩:=zkd (HRW.out.row (some .all));change vc=.slice Av vs.length cv at bN;subst bN;rw[<-wW.out]at x1;obtain⟨w9,dw,bG,fF⟩:=st3 (.slice Av vs.length cv) (.slice B 0 d) (.slice none 0 0) HK.out;obtain⟨q0,q1,q2⟩:=zky HK.out;have cf:∀j,wr.frozen? ⟨w.heap.size,j,none⟩=false:=fun j=>zf HK.out;obtain⟨t0,t1,t2⟩:=zky fF;have aF:=zh (ah.out.trans (bG.below ah.out.size fun q e=>by have e:q=w.heap.size:=e;omega));clear fF hbx;go_wp2_with fail;refine bodyPost_ret (v:=.tuple #[.agg #[.slice Av vs.length cv,.slice B 0 d,.slice none 0 0],.int .i64 0]) (by simp[results,results97,go_sem,t0,t1,t2]) rfl ?_;refine⟨aF.out,_,_,rfl,fun h=>(by rw[HB0.out]at h;cases h),fun _=>⟨rfl,?_⟩⟩;have hre:=zqo (b3:=b3) (s:=zS vs) (by rw[show(zS vs).cells.length=vs.length by simp[zS]];exact HRW.out)
    have hrw:=hre.chg bG (fun i b hb e=>by
     have e:b=w.heap.size:=e;have:=(hre.lt i b hb).1;omega)
    rw[<-wW.out]at hrw;exact⟨_,_,_,_,rfl,hrw.mono (by omega),⟨fun l hl x hx=>by
     obtain⟨v,_,rfl⟩:=List.mem_map.1 hl;obtain rfl:=List.eq_of_mem_replicate hx;unfold I64;omega,fun x hx=>(by cases hx),fun x hx=>(by cases hx)⟩⟩
def unrk(r:Int):Int:=if r<0 then 0 else if r.tmod 2=1 then r.tdiv 2+1 else -(r.tdiv 2)
abbrev Bn:=Nat×Nat
def wlo(bs:List Bn):Nat:=(bs.map (·.1)).sum
def whi(h:Int)(bs:List Bn):Int:=(bs.map fun b=>(b.2:Int)*h).sum
def ranE(lo hi:Int):List Int:=(List.range (hi-lo+1).toNat).map fun(m:Nat)=>lo+(m:Int)
def hdC(x:Int):List (List Int)->List (List Int)
 | []=>[]
 | l::ls=>(x::l)::ls
def numE(h:Int)(bs:List Bn)(rec:Int->List (List (List Int))):Nat->Int->List (List (List Int))
 | 0,left=>(rec left).map ([] :: ·)
 | k+1,left=>(ranE (max 0 (left-1-k*h-whi h bs)) (min (h-1) (left-1-k-wlo bs))).flatMap fun r=>(numE h bs rec k (left-1-r)).map (hdC (unrk r))
def zkT(h:Int):List Bn->Int->List (List (List Int))
 | [],_=>[[]]
 | (lo,hi)::bs,left=>(ranE (max lo ((left-whi h bs+h-1).tdiv h)) (min hi (left-wlo bs))).flatMap fun m=>numE h bs (zkT h bs) m.toNat left
def allB(h:Int)(bs:List Bn):List (List (List Int)):=(ranE (wlo bs) (whi h bs)).flatMap (zkT h bs)
def FitB(v:Int):List Bn->List (List Int)->Prop
 | [],[]=>True
 | (lo,hi)::bs,x::xs=>lo<=x.length/\x.length<=hi/\(∀e∈x,-v<=e/\e<=v)/\FitB v bs xs
 | _,_=>False
theorem zkY{lo hi x:Int}(h:x∈ranE lo hi):lo<=x/\x<=hi:=by
 obtain⟨m,hm,rfl⟩:=List.mem_map.1 h;have:=List.mem_range.1 hm;omega
theorem zty{v r:Int}(h0:0<=r)(h1:r<=2*v) : -v<=unrk r/\unrk r<=v:=by
 unfold unrk;rw[Int.tmod_eq_emod_of_nonneg h0,Int.tdiv_eq_ediv_of_nonneg h0];rw[if_neg (by omega)]
 split<;>omega
theorem zr8{v h:Int}(hh:h=2*v+1){bs:List Bn}{rec:Int->List (List (List Int))}(hr:∀left,∀x∈rec left,FitB v bs x) :
  ∀(k:Nat) (left:Int),∀x∈numE h bs rec k left,∃l ls,x=l::ls/\l.length=k/\(∀e∈l,-v<=e/\e<=v)/\FitB v bs ls
 | 0,left,x,hx=>by
  obtain⟨y,hy,rfl⟩:=List.mem_map.1 hx;exact⟨[],y,rfl,rfl,by simp,hr _ _ hy⟩
 | k+1,left,x,hx=>by
  rw[numE]at hx;obtain⟨r,hr1,hx⟩:=List.mem_flatMap.1 hx;obtain⟨y,hy,rfl⟩:=List.mem_map.1 hx;obtain⟨l,ls,rfl,h1,h2,h3⟩:=zr8 hh hr k _ y hy;have h4:=zkY hr1;refine⟨unrk r::l,ls,rfl,by simp[h1],fun e he=>?_,h3⟩;rcases List.mem_cons.1 he with rfl|he
  ·exact zty (by omega) (by omega)
  ·exact h2 e he
theorem zqJ{v h:Int}(hh:h=2*v+1):∀(bs:List Bn) (left:Int),∀x∈zkT h bs left,FitB v bs x
 | [],left,x,hx=>by
  simp only[zkT,List.mem_singleton]at hx;subst hx;trivial
 | (lo,hi)::bs,left,x,hx=>by
  rw[zkT]at hx;obtain⟨m,hm,hx⟩:=List.mem_flatMap.1 hx;obtain⟨l,ls,rfl,h1,h2,h3⟩:=zr8 hh (zqJ hh bs) _ _ x hx;have h4:=zkY hm;exact⟨by omega,by omega,h2,h3⟩
theorem zn8{v h:Int}(hh:h=2*v+1){bs:List Bn}:∀x∈allB h bs,FitB v bs x:=fun x hx=>by
 obtain⟨w,_,hx⟩:=List.mem_flatMap.1 hx;exact zqJ hh bs w x hx
theorem FitB.len{v:Int}:∀ {bs:List Bn} {x:List (List Int)},FitB v bs x->x.length=bs.length
 | [],[],_=>rfl
 | _::_,_::_,h=>by simp[FitB.len h.2.2.2]
 | [],_::_,h=>h.elim
 | _::_,[],h=>h.elim
theorem FitB.get{v:Int}:∀ {bs:List Bn} {x:List (List Int)},FitB v bs x->∀i (h1:i<bs.length) (h2:i<x.length),bs[i].1<=x[i].length/\x[i].length<=bs[i].2/\∀e∈x[i],-v<=e/\e<=v
 | b::bs,y::x,h,0,_,_=>⟨h.1,h.2.1,h.2.2.1⟩
 | b::bs,y::x,h,i+1,h1,h2=>FitB.get h.2.2.2 i (by simpa using h1) (by simpa using h2)
def sumZ(f:Int->Nat)(A:Int):Nat->Nat
 | 0=>0
 | n+1=>sumZ f A n+f (A+n)
theorem ztC{f g:Int->Nat}(A:Int)(h:∀x,f x<=g x):∀n,sumZ f A n<=sumZ g A n
 | 0=>zl
 | n+1=>Nat.add_le_add (ztC A h n) (h _)
theorem zrO(f g:Int->Nat)(A:Int):∀n,sumZ (fun x=>f x+g x) A n=sumZ f A n+sumZ g A n
 | 0=>rfl
 | n+1=>by
  rw[sumZ,sumZ,sumZ,zrO f g A n];omega
theorem zqi(A:Int):∀n,sumZ (fun _=>0) A n=0
 | 0=>rfl
 | n+1=>by rw[sumZ,zqi A n]
theorem zoX(f:Int->Nat)(A d:Int):∀n,sumZ (fun x=>f (x-d)) A n=sumZ f (A-d) n
 | 0=>rfl
 | n+1=>by
  rw[sumZ,sumZ,zoX f A d n,show A+(n:Int)-d=A-d+n by omega]
theorem zpx(f:Int->Nat):∀(n:Nat) (A lo hi:Int),A<=lo->hi<A+n->((ranE lo hi).map f).sum<=sumZ f A n:=by
 have key:∀(m:Nat) (lo:Int),(((List.range m).map fun(i:Nat)=>lo+(i:Int)).map f).sum=sumZ f lo m:=by
  intro m lo
  induction m with
  | zero=>rfl
  | succ m ih=>rw[List.range_succ,List.map_append,List.map_append,List.sum_append,ih,sumZ];simp
 have mono:∀(a m:Nat) (A:Int),sumZ f (A+a) m<=sumZ f A (a+m):=by
  intro a m A
  induction m with
  | zero=>exact Nat.zero_le _
  | succ m ih =>
   rw[sumZ,show a+(m+1)=(a+m)+1 by omega,sumZ,show A+(a:Int)+m=A+((a+m:Nat):Int) by omega];omega
 have grow:∀(m k:Nat) (A:Int),sumZ f A m<=sumZ f A (m+k):=by
  intro m k A
  induction k with
  | zero=>exact zl
  | succ k ih=>rw[show m+(k+1)=(m+k)+1 by omega,sumZ];omega
 intro n A lo hi h1 h2;unfold ranE;rw[key];by_cases hm:hi-lo+1<=0
 ·rw[show(hi-lo+1).toNat=0 by omega];exact Nat.zero_le _
 ·obtain⟨a,rfl⟩:∃a:Nat,lo=A+a:=⟨(lo-A).toNat,by omega⟩
  refine Nat.le_trans (mono a _ A) ?_;have:=grow (a+(hi-(A+a)+1).toNat) (n-(a+(hi-(A+a)+1).toNat)) A;rwa[show a+(hi-(A+a)+1).toNat+(n-(a+(hi-(A+a)+1).toNat))=n by omega]at this
theorem znZ{α β:Type}(f:α->List β):∀l:List α,(l.flatMap f).length=(l.map fun x=>(f x).length).sum
 | []=>rfl
 | x::l=>by rw[List.flatMap_cons,List.length_append,znZ f l,List.map_cons,List.sum_cons]
def Tot(f:Int->Nat)(N:Nat):Prop:=∀(A:Int) (n:Nat),sumZ f A n<=N
theorem Tot.shift{f:Int->Nat}{N:Nat}(h:Tot f N)(d:Int):Tot (fun x=>f (x-d)) N:=fun A n=>by rw[zoX];exact h _ _
theorem Tot.le{f g:Int->Nat}{N:Nat}(h:Tot f N)(hg:∀x,g x<=f x):Tot g N:=fun A n=>Nat.le_trans (ztC A hg n) (h A n)
theorem Tot.add{f g:Int->Nat}{N M:Nat}(h:Tot f N)(h':Tot g M):Tot (fun x=>f x+g x) (N+M):=fun A n=>by rw[zrO];exact Nat.add_le_add (h A n) (h' A n)
theorem Tot.many{f:Int->Int->Nat}{F:Nat->Nat}(h:∀i:Nat,Tot (fun x=>f x i) (F i))(lo:Nat):∀m,Tot (fun x=>sumZ (f x) lo m) (((List.range m).map fun i=>F (lo+i)).sum)
 | 0=>fun A n=>by rw[show(fun x=>sumZ (f x) lo 0)=fun _=>0 from rfl,zqi];exact Nat.zero_le _
 | m+1=>by
  rw[List.range_succ,List.map_append,List.sum_append];have:=(Tot.many h lo m).add (h (lo+m));simp only[List.map_cons,List.map_nil,List.sum_cons,List.sum_nil,Nat.add_zero];refine this.le fun x=>?_;rw[sumZ];exact Nat.le_of_eq (by rw[show((lo:Int)+(m:Int))=((lo+m:Nat):Int) by omega])
def nLst(h:Nat)(b:Bn):Nat:=((List.range (b.2+1-b.1)).map fun i=>h ^ (b.1+i)).sum
def nAll(h:Nat):List Bn->Nat
 | []=>1
 | b::bs=>nLst h b*nAll h bs
def fD(h:Int)(bs:List Bn)(w:Int):Nat:=if (wlo bs:Int)<=w/\w<=whi h bs then(zkT h bs w).length else 0
def fN(h:Int)(bs:List Bn)(k:Nat)(w:Int):Nat:=if (k+wlo bs:Int)<=w/\w<=k*h+whi h bs then(numE h bs (zkT h bs) k w).length else 0
theorem zmF{f g:Int->Nat}:∀ {l:List Int},(∀x∈l,f x=g x)->(l.map f).sum=(l.map g).sum
 | [],_=>rfl
 | x::l,h=>by
  rw[List.map_cons,List.map_cons,List.sum_cons,List.sum_cons,h x (List.mem_cons_self ..),zmF fun y hy=>h y (List.mem_cons_of_mem _ hy)]
theorem zxM{h:Nat}{bs:List Bn}{N:Nat}(hr:Tot (fD h bs) N):∀k,Tot (fN h bs k) (h ^ k*N)
 | 0=>by
  refine Tot.le (by simpa using hr) fun x=>?_;unfold fN fD;rw[numE,List.length_map];simp
 | k+1=>by
  have h1:∀i:Nat,Tot (fun w=>(fun(w r:Int)=>fN h bs k (w-1-r)) w i) (h ^ k*N):=fun i=>by
   refine((zxM hr k).shift (1+(i:Int))).le fun x=>?_;simp only;rw[show x-1-(i:Int)=x-(1+i) by omega];exact zl
  have h2:=Tot.many (f:=fun(w r:Int)=>fN h bs k (w-1-r)) (F:=fun _=>h ^ k*N) h1 0 h;have e:((List.range h).map fun _=>h ^ k*N).sum=h ^ (k+1)*N:=by
   rw[List.map_const',List.sum_replicate_nat,List.length_range,Nat.pow_succ,Nat.mul_comm (h ^ k) h,Nat.mul_assoc]
  rw[e]at h2;refine h2.le fun x=>?_;unfold fN
  split
  ·rw[numE,znZ];simp only[List.length_map];rw[zmF (g:=fun r=>fN h bs k (x-1-r)) fun r hr=>by
    have hr:=zkY hr;unfold fN;rw[if_pos (by omega)]]
   exact zpx (fun r=>fN h bs k (x-1-r)) h 0 _ _ (by omega) (by omega)
  ·exact Nat.zero_le _
theorem ztV:Tot (fun w=>if w=0 then 1 else 0) 1:=by
 have key:∀(A:Int) (n:Nat),sumZ (fun w=>if w=0 then 1 else 0) A n=if A<=0/\0<A+n then 1 else 0:=by
  intro A n
  induction n with
  | zero=>rw[sumZ,if_neg (by omega)]
  | succ n ih =>
   rw[sumZ,ih];by_cases h1:A<=0/\0<A+(n:Int)
   ·rw[if_pos h1,if_neg (by omega),if_pos (by omega)]
   ·rw[if_neg h1];by_cases h2:A+(n:Int)=0
    ·rw[if_pos h2,if_pos (by omega)]
    ·rw[if_neg h2,if_neg (by omega)]
 intro A n;rw[key]
 split<;>omega
theorem zqf{a h m:Int}(hh:0<h)(hm:0<=m)(h1:(a+h-1).tdiv h<=m):a<=m*h:=by
 by_cases ha:0<=a+h-1
 ·rw[Int.tdiv_eq_ediv_of_nonneg ha]at h1;have h2:=Int.emod_lt_of_pos (a+h-1) hh;have h3:=Int.mul_ediv_add_emod (a+h-1) h;have h4:h*((a+h-1) / h)<=h*m:=Int.mul_le_mul_of_nonneg_left h1 (by omega);rw[Int.mul_comm m h];omega
 ·have:0<=m*h:=Int.mul_nonneg hm (by omega);omega
theorem zxN{h:Nat}(hh:0<h):∀bs:List Bn,(∀b∈bs,b.1<=b.2)->Tot (fD h bs) (nAll h bs)
 | [],_=>by
  refine ztV.le fun x=>?_;unfold fD;simp only[wlo,whi,zkT,List.map_nil,List.sum_nil,List.length_cons,List.length_nil];by_cases hx:x=0
  ·rw[if_pos hx];split<;>omega
  ·rw[if_neg hx,if_neg (by omega)];exact zl
 | (lo,hi)::bs,hb=>by
  have ih:=zxN hh bs fun b h=>hb b (List.mem_cons_of_mem _ h);have hlh:lo<=hi:=hb (lo,hi) (List.mem_cons_self ..);have h1:∀i:Nat,Tot (fun w=>(fun(w m:Int)=>fN h bs m.toNat w) w i) (h ^ i*nAll h bs):=fun i=>zxM ih i;have h2:=Tot.many (f:=fun(w m:Int)=>fN h bs m.toNat w) (F:=fun i=>h ^ i*nAll h bs) h1 lo (hi+1-lo);have e:((List.range (hi+1-lo)).map fun i=>h ^ (lo+i)*nAll h bs).sum=nAll h ((lo,hi)::bs):=by
   rw[nAll,nLst]
   induction List.range (hi+1-lo)with
   | nil=>simp
   | cons x l ih=>rw[List.map_cons,List.sum_cons,ih,List.map_cons,List.sum_cons,Nat.add_mul]
  rw[e]at h2;refine h2.le fun x=>?_;have e1:wlo ((lo,hi)::bs)=lo+wlo bs:=by simp[wlo]
  have e2:whi h ((lo,hi)::bs)=hi*h+whi h bs:=by simp[whi]
  rw[fD,zkT]
  split
  ·rename_i hx;rw[znZ,zmF (g:=fun m=>fN h bs m.toNat x) fun m hm=>by
    have hm:=zkY hm;have hm0:0<=m:=by omega
    have hc:(x-whi h bs+h-1).tdiv h<=m:=by omega
    have hc2:=zqf (by omega) hm0 hc;rw[fN,if_pos];rw[show((m.toNat:Nat):Int)=m by omega];omega]
   exact zpx (fun m=>fN h bs m.toNat x) (hi+1-lo) lo _ _ (by omega) (by omega)
  ·exact Nat.zero_le _
theorem zp1{h:Nat}(hh:0<h){bs:List Bn}(hb:∀b∈bs,b.1<=b.2):(allB h bs).length<=nAll h bs:=by
 unfold allB;rw[znZ,zmF (g:=fD h bs) fun w hw=>by
  have hw:=zkY hw;rw[fD,if_pos hw]]
 refine Nat.le_trans (zpx (fD h bs) (whi h bs-wlo bs+1).toNat (wlo bs) _ _ (by omega) (by omega)) (zxN hh bs hb _ _)
def maxC:Int:=1099511627776
def prdE(x y:Int):Int:=if maxC.tdiv y<x then maxC+1 else x*y
def lcL(lo:Nat)(v:Int):Nat->Int×Int
 | 0=>(0,1)
 | n+1=>(if lo<=n then min ((lcL lo v n).1+(lcL lo v n).2) (maxC+1)else(lcL lo v n).1,prdE (lcL lo v n).2 v)
def lcE(b:Bn)(v:Int):Int:=(lcL b.1 v (b.2+1)).1
def cntE(v:Int)(bs:List Bn):Int:=bs.foldl (fun s b=>prdE s (lcE b v)) 1
structure Sat(c:Int)(n:Nat):Prop where
 le:c<=maxC->(n:Int)<=c
 top:c<=maxC+1
 pos:0<=c
theorem Sat.prd{c d:Int}{n m:Nat}(h:Sat c n)(h':Sat d m)(hc:1<=c)(hd:1<=d):Sat (prdE c d) (n*m)/\1<=prdE c d:=by
 unfold prdE
 split
 ·exact⟨⟨fun h=>by omega,Int.le_refl _,by unfold maxC;omega⟩,by unfold maxC;omega⟩
 ·rename_i h1;rw[Int.tdiv_eq_ediv_of_nonneg (by unfold maxC;omega)]at h1;have h2:c<=maxC / d:=by omega
  have h3:c*d<=maxC:=by
   have h4:=Int.mul_le_mul_of_nonneg_right h2 (show 0<=d by omega);have h5:=Int.ediv_mul_le maxC (show d≠0 by omega);omega
  have h4:1*1<=c*d:=Int.mul_le_mul hc hd (by decide) (by omega);have h5:c*1<=c*d:=Int.mul_le_mul_of_nonneg_left hd (by omega);have h6:1*d<=c*d:=Int.mul_le_mul_of_nonneg_right hc (by omega);refine⟨⟨fun _=>?_,by omega,by omega⟩,by omega⟩;have a:=h.le (by omega);have b:=h'.le (by omega);rw[Int.natCast_mul];exact Int.mul_le_mul a b (by omega) (by omega)
theorem Sat.sum{c d:Int}{n m:Nat}(h:Sat c n)(h':Sat d m):Sat (min (c+d) (maxC+1)) (n+m):=by
 have h0:=h.pos;have h1:=h'.pos;refine⟨fun hle=>?_,by omega,by unfold maxC;omega⟩;have a:=h.le (by omega);have b:=h'.le (by omega);omega
theorem zuk{v:Nat}(hv:1<=v)(hv2:(v:Int)<=maxC)(lo:Nat):∀n,Sat (lcL lo v n).1 (((List.range (n-lo)).map fun i=>v ^ (lo+i)).sum)/\Sat (lcL lo v n).2 (v ^ n)/\1<=(lcL lo v n).2/\(lo<n->1<=(lcL lo v n).1)
 | 0=>by
  simp only[lcL];refine⟨⟨fun _=>?_,by decide,by decide⟩,⟨fun _=>by simp,by decide,by decide⟩,by decide,fun h=>by omega⟩;rw[Nat.zero_sub];exact Int.le_refl _
 | n+1=>by
  obtain⟨h1,h2,h3,h4⟩:=zuk hv hv2 lo n;have hp:=h2.prd (d:=(v:Int)) (m:=v) ⟨fun _=>Int.le_refl _,by omega,by omega⟩ h3 (by omega);rw[lcL];refine⟨?_,by rw[Nat.pow_succ];exact hp.1,hp.2,fun hl=>?_⟩
  ·simp only
   split
   ·rename_i hl;rw[show n+1-lo=(n-lo)+1 by omega,List.range_succ,List.map_append,List.sum_append];simp only[List.map_cons,List.map_nil,List.sum_cons,List.sum_nil,Nat.add_zero];rw[show lo+(n-lo)=n by omega];exact h1.sum h2
   ·rename_i hl;rw[show n+1-lo=n-lo by omega];exact h1
  ·have:=h1.pos;simp only;rw[if_pos (by omega)];unfold maxC;omega
theorem zul{v:Nat}(hv:1<=v)(hv2:(v:Int)<=maxC){b:Bn}(hb:b.1<=b.2):Sat (lcE b v) (nLst v b)/\1<=lcE b v:=by
 obtain⟨h1,-,-,h4⟩:=zuk hv hv2 b.1 (b.2+1);exact⟨h1,h4 (by omega)⟩
theorem zuQ{v:Nat}(hv:1<=v)(hv2:(v:Int)<=maxC):∀(bs:List Bn) (c:Int) (n:Nat),(∀b∈bs,b.1<=b.2)->Sat c n->1<=c->Sat (bs.foldl (fun s b=>prdE s (lcE b v)) c) (n*nAll v bs)/\1<=bs.foldl (fun s b=>prdE s (lcE b v)) c
 | [],c,n,_,h,hc=>by rw[nAll,Nat.mul_one];exact⟨h,hc⟩
 | b::bs,c,n,hb,h,hc=>by
  obtain⟨a1,a2⟩:=zul hv hv2 (hb b (List.mem_cons_self ..));obtain⟨b1,b2⟩:=h.prd a1 hc a2;have:=zuQ hv hv2 bs _ _ (fun x hx=>hb x (List.mem_cons_of_mem _ hx)) b1 b2;rw[List.foldl_cons,nAll,<-Nat.mul_assoc];exact this
theorem zxb{v:Nat}(hv:1<=v)(hv2:(v:Int)<=maxC){bs:List Bn}(hb:∀b∈bs,b.1<=b.2)(hc:cntE v bs<=maxC):((allB v bs).length:Int)<=cntE v bs:=by
 have h1:=(zuQ hv hv2 bs 1 1 hb ⟨fun _=>Int.le_refl _,by decide,by decide⟩ (by decide)).1.le hc;have h2:=zp1 (h:=v) (by omega) hb;rw[Nat.one_mul]at h1;unfold cntE at hc ⊢;omega
theorem zs7(r:Int)(w:World)(hr:0<=r/\r<=1000000):Calls prog 131 #[.int .i64 r] w fun e w'=>e=.returned (.int .i64 (unrk r))/\w'=w:=by
 obtain⟨q,hq⟩:=zX (r.tdiv 2);obtain⟨m,hm⟩:=zX (r.tmod 2);have hq1:0<=q/\q<=1000000:=by
  rw[<-hq,Int.tdiv_eq_ediv_of_nonneg hr.1];omega
 have hm1:0<=m/\m<2:=by
  rw[<-hm,Int.tmod_eq_emod_of_nonneg hr.1];omega
 have hwq:IntKind.i64.wrap q=q:=IntWalk.i64_in _ (by omega);have vY:IntKind.i64.wrap m=m:=IntWalk.i64_in _ (by omega);have hwq1:IntKind.i64.wrap (q+1)=q+1:=IntWalk.i64_in _ (by omega);have hwq2:IntKind.i64.wrap (-q) = -q:=IntWalk.i64_in _ (by omega);have hr0:¬ r<0:=by omega
 have HU:=zh (show unrk r=if m=1 then q+1 else -q by unfold unrk;rw[if_neg hr0,hq,hm]);by_cases h:m=1
 ·have e1:(m==1)=true:=by simpa using h
  go_enter func131,ntmps131;go_wp2_with fail;go_ret;exact⟨by rw[HU.out,if_pos h];rfl,rfl⟩
 ·have e1:(m==1)=false:=by simpa using h
  go_enter func131,ntmps131;go_wp2_with fail;go_ret;exact⟨by rw[HU.out,if_neg h];rfl,rfl⟩
def RowB(w:World)(S:Nat->Prop)(A:Option Addr)(bs:List Bn):Prop :=
 ∀i (hi:i<bs.length),∃a:Addr,A=some a/\S a.block/\w.cell? (a.add (i*2))=some (.int .i64 (bs[i].1:Int))/\w.cell? ⟨(a.add (i*2)).block,(a.add (i*2)).off+1,none⟩=some (.int .i64 (bs[i].2:Int))
theorem RowB.keep{w w':World}{S S':Nat->Prop}{A:Option Addr}{bs:List Bn}(h:RowB w S A bs)(hS:∀b,S b->b<w.heap.size->S' b)(hk:∀b,S b->b<w.heap.size->w'.heap[b]?=w.heap[b]?):RowB w' S' A bs:=fun i hi=>by
 obtain⟨a,hA,iA,h0,h1⟩:=h i hi;have hlt:a.block<w.heap.size:=by have:=World.block_lt_of_cell? w _ h0;rwa[zkz]at this
 refine⟨a,hA,hS _ iA hlt,zkK h0 ?_,zkK h1 ?_⟩
 all_goals simp only[zkz];exact hk _ iA hlt
theorem RowB.later{w w':World}{S:Nat->Prop}{A:Option Addr}{bs:List Bn}(h:RowB w S A bs)(hb:Below w.heap.size w w'):RowB w' S A bs:=h.keep (fun _ hb _=>hb) fun b _ hlt=>hb.block b hlt
def zqS(w:World)(b:Nat)(h:Int)(bs:List Bn):Prop :=
 ∀i,i<=bs.length->w.cell? ⟨b,i*2,none⟩=some (.int .i64 (wlo (bs.drop i):Int))/\w.cell? ⟨b,i*2+1,none⟩=some (.int .i64 (whi h (bs.drop i)))
theorem zqS.keep{w w':World}{b:Nat}{h:Int}{bs:List Bn}(hr:zqS w b h bs)(hk:w'.heap[b]?=w.heap[b]?):zqS w' b h bs:=fun i hi =>
 ⟨zkK (hr i hi).1 hk,zkK (hr i hi).2 hk⟩
theorem zvO{bs:List Bn}{i:Nat}(hi:i<bs.length):wlo (bs.drop i)=wlo (bs.drop (i+1))+bs[i].1:=by
 unfold wlo;rw[List.drop_eq_getElem_cons hi,List.map_cons,List.sum_cons];omega
theorem zvP{h:Int}{bs:List Bn}{i:Nat}(hi:i<bs.length):whi h (bs.drop i)=whi h (bs.drop (i+1))+bs[i].2*h:=by
 unfold whi;rw[List.drop_eq_getElem_cons hi,List.map_cons,List.sum_cons];omega
theorem zu3:(prog.info? 102).map (fun i=>(i.zero,i.size,i.bytes))=some (some (.agg #[.int .i64 0,.int .i64 0]),2,16):=by kernel_rfl
theorem bMkB(n:Nat)(hn:n<=4096)(w:World):(Instr.makeSlice 98 (.int .i64 (n:Int)) (.int .i64 (n:Int))).run prog w=.ok (.slice (some ⟨w.heap.size,0,none⟩) n n) (w.alloc (.cells (madeCells #[.int .i64 0,.int .i64 0] (n*2)) 102)):=by
 have h:=zu3;obtain⟨i,hi,hz⟩:=Option.map_eq_some_iff.1 h;injection hz with h1 h2;injection h2 with h2 h3;have:=zll (P:=prog) 98 102 i (.agg #[.int .i64 0,.int .i64 0]) underlying98 hi h1 .i64 .i64 n n zl (by rw[h3];omega) (by omega) w;rw[h2]at this;exact this
def zKb(w:World)(b:Nat)(h:Int)(bs:List Bn)(k:Nat):Prop :=
 ∃us:Array Value,w.heap[b]?=some (.cells us 102 (0,0))/\us.size=(bs.length+1)*2/\∀i,k<=i->i<=bs.length->us[i*2]?=some (.int .i64 (wlo (bs.drop i):Int))/\us[i*2+1]?=some (.int .i64 (whi h (bs.drop i)))
theorem zzl{bs:List Bn}(hb:∀b∈bs,b.1<=1000/\b.2<=1000):wlo bs<=bs.length*1000:=by
 induction bs with
 | nil=>simp[wlo]
 | cons b bs ih =>
  have h1:=hb b (List.mem_cons_self ..);have h2:=ih fun c hc=>hb c (List.mem_cons_of_mem _ hc);have e:wlo (b::bs)=b.1+wlo bs:=by simp[wlo]
  rw[e,List.length_cons];omega
theorem zzm{bs:List Bn}{h:Nat}(hb:∀b∈bs,b.1<=1000/\b.2<=1000):0<=whi h bs/\whi h bs<=bs.length*(1000*h):=by
 induction bs with
 | nil=>exact⟨Int.le_refl _,by rw[List.length_nil];show(0:Int)<=_;omega⟩
 | cons b bs ih =>
  have h1:=hb b (List.mem_cons_self ..);have h2:=ih fun c hc=>hb c (List.mem_cons_of_mem _ hc);have e:whi h (b::bs)=b.2*h+whi h bs:=by unfold whi;rw[List.map_cons,List.sum_cons]
  rw[e,List.length_cons];have h4:((bs.length+1:Nat):Int)*(1000*(h:Int))=bs.length*(1000*(h:Int))+1000*(h:Int):=by rw[Int.natCast_add,Int.add_mul];omega
  have h5:(0:Int)<=(b.2:Int)*(h:Int):=Int.mul_nonneg (by omega) (by omega);have h6:(b.2:Int)*(h:Int)<=1000*(h:Int):=Int.mul_le_mul_of_nonneg_right (by omega) (by omega);omega
theorem ztv{bs:List Bn}{h:Nat}(hb:∀b∈bs,b.1<=1000/\b.2<=1000)(hn:bs.length<=1000)(hh:h<=10000):wlo bs<=1000000/\0<=whi h bs/\whi h bs<=10000000000:=by
 have h1:=zzl hb;have h2:=zzm (h:=h) hb;refine⟨by omega,h2.1,Int.le_trans h2.2 ?_⟩;have h3:(bs.length:Int)*(1000*(h:Int))<=1000*(1000*(h:Int)):=Int.mul_le_mul_of_nonneg_right (by omega) (by omega);omega
theorem zsy{bs:List Bn}(hb:∀b∈bs,b.1<=1000/\b.2<=1000)(i:Nat):∀b∈bs.drop i,b.1<=1000/\b.2<=1000:=fun b h=>hb b (List.mem_of_mem_drop h)
theorem zzz(n i:Nat)(hi:i<n):(madeCells #[Value.int .i64 0,.int .i64 0] n)[i]?=some (.int .i64 0):=by
 unfold madeCells;rw[Array.getElem?_map,Array.getElem?_eq_getElem (by simpa using hi)];have h:i % 2<2:=Nat.mod_lt _ (by decide);rcases Nat.lt_succ_iff_lt_or_eq.1 h with h|h
 ·simp[show i % 2=0 by omega]
 ·simp[h]
theorem setU{W:World}{b o:Nat}{us:Array Value}{ty:TypeId}(v:Value)(h:W.heap[b]?=some (.cells us ty (0,0))):∃W',W.setCell ⟨b,o,none⟩ v=W'/\Chg (fun q=>q=b) W W'/\W'.heap[b]?=some (.cells (us.setIfInBounds o v) ty (0,0)) :=
 ⟨_,rfl,(Chg.refl (fun q=>q=b) W).setCell (p:=⟨b,o,none⟩) (.inl rfl) _,heap_setCell_same W b o us ty v h⟩
theorem zqX(bs:List Bn)(h:Nat)(A:Option Addr)(c:Nat)(w:World)(hr:RowB w Any A bs)(hn:bs.length<=1000)(hb:∀b∈bs,b.1<=1000/\b.2<=1000)(hh:h<=10000) :
  Calls prog 94 #[.slice A bs.length c,.int .i64 h] w fun e w'=>∃b,e=.returned (.slice (some ⟨b,0,none⟩) (bs.length+1) (bs.length+1))/\w.heap.size<=b/\zqS w' b h bs/\Below w.heap.size w w':=by
 have HR:=zh (hr.keep (S':=fun q=>q<w.heap.size) (fun _ _ h=>h) fun _ _ _=>rfl);have HB:=zh hb;have HH:=zh hh;have hmk:=bMkB (bs.length+1) (by omega) w;obtain⟨n,hnn⟩:=zX (bs.length);rw[hnn]at hn hmk ⊢;rw[show((n+1:Nat):Int)=(n:Int)+1 from rfl]at hmk;have HN:=zh hnn;have hwn:IntKind.i64.wrap ((n:Int)+1)=(n:Int)+1:=IntWalk.i64_in _ (by omega);have vY:IntKind.i64.wrap ((n:Int)-1)=(n:Int)-1:=IntWalk.i64_in _ (by omega);have hk0:=heap_alloc_new w (.cells (madeCells #[.int .i64 0,.int .i64 0] ((n+1)*2)) 102);have hb0:=zka (zs w) (.cells (madeCells #[.int .i64 0,.int .i64 0] ((n+1)*2)) 102);clear hr hnn hb hh;go_enter func94,ntmps94;go_upto_region 2 with fail;obtain⟨w1,hw1⟩:=zX (w.alloc (.cells (madeCells #[.int .i64 0,.int .i64 0] ((n+1)*2)) 102));rw[hw1]at hb0 hk0 ⊢;have HB0:=zh hb0;have aJ:=zh hk0;clear hw1 hb0 hk0 hmk;obtain⟨b,hbb⟩:=zX (w.heap.size);have dW:=zh hbb
 rw[hbb]at aJ ⊢;clear hbb;go_wp2_with fail
 go_loopw [6] (fun iv wr=>∃k:Nat,k<=n/\iv=.int .i64 ((k:Int)-1)/\Hid (Chg (fun q=>q=b) w1 wr)/\Hid (zKb wr b h bs k)) (fun iv _=>(intOf iv+1).toNat)
 case atStart =>
  refine⟨n,zl,rfl,zh (Chg.refl _ _),zh ⟨_,aJ.out,?_,?_⟩⟩
  ·rw[size_madeCells,HN.out]
  ·intro j h1 h2;obtain rfl:j=n:=by have:=HN.out;omega
   rw[List.drop_of_length_le (by rw[HN.out];exact zl),zzz _ _ (by omega),zzz _ _ (by omega)];exact⟨rfl,rfl⟩
 case round =>
  obtain⟨k,hk,rfl,HC,qd⟩:=hrel;by_cases hlt:0<k
  ·obtain⟨i,rfl⟩:∃i,k=i+1:=⟨k-1,by omega⟩
   obtain⟨us,hu,dS,lg⟩:=qd.out;have hin:i<bs.length:=by have:=HN.out;omega
   have hin1:i+1<=bs.length:=by omega
   obtain⟨a,rfl,has,x0,x1⟩:=(HR.out.later HB0.out).keep (w':=wr) (S':=fun q=>q<w.heap.size) (fun _ h _=>h) (fun q h hq=>HC.out.block q hq (fun e=>by have e:q=b:=e;have h:q<w.heap.size:=h;have:=dW.out;omega)) i hin;have e1:((i+1:Nat):Int)-1=(i:Int):=by omega
   rw[e1];have hlt1:(0:Int)<=(i:Int):=by omega
   obtain⟨y0,y1⟩:wr.cell? ⟨b,(i+1)*2,none⟩=some (.int .i64 (wlo (bs.drop (i+1)):Int))/\wr.cell? ⟨b,(i+1)*2+1,none⟩=some (.int .i64 (whi h (bs.drop (i+1)))):=⟨zc hu (lg (i+1) zl hin1).1,zc hu (lg (i+1) zl hin1).2⟩
   obtain⟨z0,hz0⟩:∃u,us[i*2]?=some u:=⟨_,Array.getElem?_eq_getElem (by omega)⟩
   obtain⟨z1,hz1⟩:∃u,us[i*2+1]?=some u:=⟨_,Array.getElem?_eq_getElem (by omega)⟩
   have y2:wr.cell? ⟨b,i*2,none⟩=some z0:=zc hu hz0;have cf:∀o,wr.frozen? ⟨b,o,none⟩=false:=fun o=>zf hu;have hw1:=ztv (zsy HB.out i) (by rw[List.length_drop,HN.out];omega) HH.out;have hw2:=ztv (zsy HB.out (i+1)) (by rw[List.length_drop,HN.out];omega) HH.out;obtain⟨w5,ig,bQ,jm⟩:=setU (o:=i*2) (.int .i64 (wlo (bs.drop i):Int)) hu;have mh:w5.drew.heap[b]?=some (.cells (us.setIfInBounds (i*2) (.int .i64 (wlo (bs.drop i):Int))) 102 (0,0)):=jm;obtain⟨w6,oO,hc6,sQ⟩:=setU (o:=i*2+1) (.int .i64 (whi h (bs.drop i))) mh;have nN:=zh ((HC.out.trans bQ.drew).trans hc6.drew);have xB:=zh (show zKb w6.drew b h bs i from⟨_,sQ,by simpa using dS,fun j h1 h2=>by
    by_cases e:j=i
    ·subst e;refine⟨?_,?_⟩
     ·rw[Array.getElem?_setIfInBounds_ne (by omega),Array.getElem?_setIfInBounds_self_of_lt (by omega)]
     ·rw[Array.getElem?_setIfInBounds_self_of_lt (by rw[Array.size_setIfInBounds];omega)]
    ·rw[Array.getElem?_setIfInBounds_ne (by omega),Array.getElem?_setIfInBounds_ne (by omega),Array.getElem?_setIfInBounds_ne (by omega),Array.getElem?_setIfInBounds_ne (by omega)];exact lg j (by omega) h2⟩)
   have hwi1:IntKind.i64.wrap ((i:Int)-1)=(i:Int)-1:=IntWalk.i64_in _ (by omega);have hl0:=zvO hin;have hl1:=zvP (h:=h) hin;have hwl:IntKind.i64.wrap ((wlo (bs.drop (i+1)):Int)+(bs[i].1:Int))=(wlo (bs.drop i):Int):=by rw[hl0];exact IntWalk.i64_in _ (by omega)
   have hwm1:IntKind.i64.wrap ((bs[i].2:Int)*(h:Int))=(bs[i].2:Int)*(h:Int):=IntWalk.i64_in _ (by omega);have hwh:IntKind.i64.wrap (whi h (bs.drop (i+1))+(bs[i].2:Int)*(h:Int))=whi h (bs.drop i):=by rw[hl1];exact IntWalk.i64_in _ (by omega)
   have y3:w5.drew.cell? ⟨b,i*2+1,none⟩=some z1:=zc mh (by rw[Array.getElem?_setIfInBounds_ne (by omega)];exact hz1);have y4:w5.drew.cell? ⟨b,(i+1)*2+1,none⟩=some (.int .i64 (whi h (bs.drop (i+1)))):=zc mh (by rw[Array.getElem?_setIfInBounds_ne (by omega)];exact(lg (i+1) zl hin1).2);have cf5:∀o,w5.drew.frozen? ⟨b,o,none⟩=false:=fun o=>zf mh;have x5:w5.drew.cell? ⟨(a.add (i*2)).block,(a.add (i*2)).off+1,none⟩=some (.int .i64 (bs[i].2:Int)):=zkK x1 (bQ.block _ (World.block_lt_of_cell? wr _ x1) (by rw[zkz];have:=dW.out;have has:a.block<w.heap.size:=has;omega));have HL0:=zh hl0;have iH:=zh hl1;have hwi:IntKind.i64.wrap ((i:Int)+1)=(i:Int)+1:=IntWalk.i64_in _ (by omega);have hp0:(0:Int)<=(i:Int)+1:=by omega
   have hp1:(i:Int)+1<(n:Int)+1:=by omega
   have hp2:(i:Int)<(n:Int)+1:=by omega
   have hp3:(i:Int)<(n:Int):=by omega
   have HU:=zh hu;have HUS:=zh dS;have HUU:=zh lg;generalize bs[i].1=lo,bs[i].2=hi,wlo (bs.drop (i+1))=L1,whi h (bs.drop (i+1))=L2,wlo (bs.drop i)=M1,whi h (bs.drop i)=M2 at *
   clear hu dS lg hl0 hl1 hw1 hw2 mh HB HH;go_upto_region 5 with fail
   go_region
   go_upto_region 6 with fail
   go_region
   clear ig oO;go_wp2_with fail
   go_roundw
   case rel=>exact⟨i,by omega,rfl,nN,xB⟩
   case measure=>simp[intOf]
  ·obtain rfl:k=0:=by omega
   have hlt1:¬ (0:Int)<=((0:Nat):Int)-1:=by omega
   go_wp2_with fail;go_ret;obtain⟨us,hu,dS,lg⟩:=qd.out;refine⟨b,rfl,by rw[dW.out];exact zl,fun j hj=>⟨zc hu (lg j (Nat.zero_le _) hj).1,zc hu (lg j (Nat.zero_le _) hj).2⟩,HB0.out.trans (HC.out.below HB0.out.size fun q e=>by have e:q=b:=e;have:=dW.out;omega)⟩
structure BX where
 v:Int
 l:Int
 i:Int
def okI(x:Int):Bool:=decide (0<=x/\x<=1000)
def BX.ok(b:BX):Bool:=okI b.v&&okI b.l&&okI b.i
def len1(b:BX)(v:VD):Bn:=if v.k=3 then(0,b.l.toNat)else((fixE v).toNat,(fixE v).toNat)
def lenE(vs:List VD)(b:BX):List Bn:=vs.map (len1 b)++[(0,b.i.toNat)]
def znU(bs:List Bn):List Value:=bs.flatMap fun b=>[.int .i64 (b.1:Int),.int .i64 (b.2:Int)]
theorem zqC:∀(bs:List Bn) (i:Nat) (h:i<bs.length),(znU bs)[i*2]?=some (.int .i64 (bs[i].1:Int))/\(znU bs)[i*2+1]?=some (.int .i64 (bs[i].2:Int))
 | b::bs,0,_=>by simp[znU]
 | b::bs,i+1,h=>by
  have:=zqC bs i (by simpa using h);unfold znU at this ⊢;rw[List.flatMap_cons,show(i+1)*2=i*2+2 by omega,show i*2+2+1=i*2+1+2 by omega];simpa using this
theorem RowB.of_own{W:World}{n0 n c:Nat}{A:Option Addr}{bs:List Bn}(h:W.ownsRow n0 102 2 (.slice A n c) n (znU bs))(hn:bs.length=n):RowB W (fun q=>n0<=q) A bs:=fun i hi=>by
 rcases h.2 with⟨e1,e2⟩|⟨g,cap,cur,e,hb,hg,-⟩
 ·omega
 ·injection e with e1 e2 e3;subst e1;obtain⟨h0,h1⟩:=zqC bs i hi;refine⟨_,rfl,hb,?_,?_⟩
  ·rw[Addr.add_lit,Nat.zero_add,World.ownsRow.cellAt h (i*2) (by omega)];exact h0
  ·rw[Addr.add_lit,Nat.zero_add,World.ownsRow.cellAt h (i*2+1) (by omega)];exact h1
theorem bB1(x y:Int)(w:World):(Instr.buildSlice 98 1 #[(0,.agg #[.int .i64 x,.int .i64 y])]).run prog w=.ok (.slice (some ⟨w.heap.size,0,none⟩) 1 1) (w.alloc (.cells #[.int .i64 x,.int .i64 y] 102)):=by kernel_rfl
theorem zlM{ops:Array Oper}{rest:List Oper}{o:Oper}{a:Act}{W:World}{Q:Exit->Act->World->Prop}(hgd:o.guard=none)(s x:Operand)
  (ho:o.op=.call { callee:=.builtin .append,args := #[s,x],argTypes := #[98,98] })(base:Nat)(v:Value)(n:Nat)(xs:List Value)(hs:a.eval s=v)(hrow:W.ownsRow base 102 2 v n xs)
  (b:Nat)(y0 y1:Int)(hx:a.eval x=.slice (some ⟨b,0,none⟩) 1 1)(hc:W.heap[b]?=some (.cells #[.int .i64 y0,.int .i64 y1] 102 (0,0)))(hl:n+1<=1000000)(hb:base<=W.heap.size)
  (h:∀v' w',w'.ownsRow base 102 2 v' (n+1) (xs++[.int .i64 y0,.int .i64 y1])->W.grownBy w' v.ownBlock->wpList prog ops Q rest (a.put o.dst v') w') :
  wpList prog ops Q (o::rest) a W:=by
 obtain⟨i,hi,hz0,hz1,hz2⟩:=info_parts zu3;refine wpList_append_own_at (P:=prog) _ hgd s x 98 ho base 102 i _ 2 16 underlying98 hi hz0 hz1 hz2 rfl (by decide) v n xs hs hrow ⟨b,0,none⟩ 1 1 [.int .i64 y0,.int .i64 y1] hx (by simp) (fun j u hj=>?_) (fun u hu=>?_) (by unfold maxLen;omega) (by omega) hb (fun v' w' h1 h2 _ _=>h v' w' h1 h2)
 ·rw[Addr.add_lit,Nat.zero_add];exact zc hc (by simpa using hj)
 ·simp only[List.mem_cons,List.not_mem_nil,or_false]at hu;rcases hu with rfl|rfl<;>rfl
theorem zok{W0 W1 wr:World}{j c9:Nat}{A9:Option Addr}{y0 y1:Nat}{bs:List Bn}(hy:bs[j]?=some (y0,y1))(h1:Below W1.heap.size W1 wr)(h0:Below W0.heap.size W0 wr)(hn:W0.heap.size<=W1.heap.size)
  (ho:wr.ownsRow W1.heap.size 102 2 (.slice A9 j c9) j (znU (bs.take j)))(v':Value)(w':World)
  (h:w'.ownsRow W1.heap.size 102 2 v' (j+1) (znU (bs.take j)++[.int .i64 (y0:Int),.int .i64 (y1:Int)]))(hg:(wr.alloc (.cells #[.int .i64 (y0:Int),.int .i64 (y1:Int)] 102)).grownBy w' (Value.slice A9 j c9).ownBlock) :
  ∃A' c',v'=.slice A' (j+1) c'/\Hid (Below W0.heap.size W0 w')/\Hid (Below W1.heap.size W1 w')/\Hid (w'.ownsRow W1.heap.size 102 2 (.slice A' (j+1) c') (j+1) (znU (bs.take (j+1)))):=by
 obtain⟨A',c',rfl,-⟩:=zkd h;have hlt:=ho.lt;refine⟨A',c',rfl,zh ?_,zh ?_,zh ?_⟩
 ·have h2:=zka h0 (.cells #[.int .i64 (y0:Int),.int .i64 (y1:Int)] 102);exact h2.trans ((Chg.row hg).below h2.size fun q e=>by have:=(hlt q e).1;omega)
 ·have h2:=zka h1 (.cells #[.int .i64 (y0:Int),.int .i64 (y1:Int)] 102);exact h2.trans ((Chg.row hg).below h2.size fun q e=>(hlt q e).1)
 ·have e:znU (bs.take (j+1))=znU (bs.take j)++[.int .i64 (y0:Int),.int .i64 (y1:Int)]:=by
   rw[List.take_add_one,hy];simp[znU]
  rw[e];exact h
def LenP(vs:List VD)(b:BX)(w:World)(e:Ending)(w':World):Prop:=Below w.heap.size w w'/\(((b.ok&&svB vs)=false/\e=.returned (.tuple #[.slice none 0 0,.bool false]))\/((b.ok&&svB vs)=true/\∃A c,e=.returned (.tuple #[.slice A (vs.length+1) c,.bool true])/\RowB w' (fun q=>w.heap.size<=q) A (lenE vs b)))
theorem zrh(vs:List VD)(b:BX)(A:Option Addr)(c:Nat)(w:World)(hrow:RowV w Any A vs)(hl:vs.length<=LV):Calls prog 51 #[.slice A vs.length c,.agg #[.int .i64 b.v,.int .i64 b.l,.int .i64 b.i]] w (LenP vs b w):=by
 obtain⟨bv,bl,bi⟩:=b;simp only;have hb1:=zka (zs w) (.cells #[.int .i64 bv,.int .i64 bl,.int .i64 bi] 24);have hk1:=heap_alloc_new w (.cells #[.int .i64 bv,.int .i64 bl,.int .i64 bi] 24);have af:=zh hrow;have yx:=zh (fun w' (hb:Below w.heap.size w w')=>zxj vs A c w' (hrow.later hb) hl);clear hrow hl;go_enter func51,ntmps51;go_upto_region 1 with fail;obtain⟨w1,hw1⟩:=zX (w.alloc (.cells #[.int .i64 bv,.int .i64 bl,.int .i64 bi] 24));rw[hw1]at hb1 hk1 ⊢;obtain⟨x0,x1,x2⟩:=zky hk1;have HB1:=zh hb1;have aB:=zh hk1;clear hw1 hb1 hk1;go_wp2_with fail
 go_loopw [20] (fun i wr=>∃j:Nat,j<=3/\i=.int .i64 j/\wr=w1/\Hid (∀k,k<j->okI ([bv,bl,bi].getD k 0)=true)) (fun i _=>3-(intOf i).toNat)
 case atStart=>exact⟨0,by omega,rfl,rfl,zh fun k hk=>by omega⟩
 case round =>
  obtain⟨j,hj,rfl,rfl,fu⟩:=hrel;by_cases hlt:j<3
  ·have key:∃x,x=[bv,bl,bi].getD j 0:=⟨_,rfl⟩
   obtain⟨x,hx⟩:=key;have hj1:(j:Int)<3:=by omega
   have hj0:(0:Int)<=(j:Int):=by omega
   obtain⟨x,hx⟩:=zX ([bv,bl,bi].getD j 0);have hix:(Instr.index 140 (.agg #[.int .i64 bv,.int .i64 bl,.int .i64 bi]) (.int .i64 (j:Int))).run prog wr=.ok (.int .i64 x) wr:=by
    rw[<-hx];rcases j with _|_|_|j
    ·kernel_rfl
    ·kernel_rfl
    ·kernel_rfl
    ·omega
   have HX:=zh hx;clear hx;have hno:okI x=false->(BX.ok ⟨bv,bl,bi⟩&&svB vs)=false:=fun h=>by
    rw[<-HX.out]at h;unfold BX.ok;rcases j with _|_|_|j
    ·have h:okI bv=false:=h;simp[h]
    ·have h:okI bl=false:=h;simp[h]
    ·have h:okI bi=false:=h;simp[h]
    ·omega
   have df:=zh hno;clear hno;by_cases h1:x<0
   ·have HF:=zh (df.out (decide_eq_false (by omega)));go_wp2_with fail;go_ret2;exact⟨HB1.out,.inl ⟨HF.out,rfl⟩⟩
   ·by_cases h2:1000<x
    ·have HF:=zh (df.out (decide_eq_false (by omega)));go_wp2_with fail;go_ret2;exact⟨HB1.out,.inl ⟨HF.out,rfl⟩⟩
    ·have HT:=zh (show okI x=true from decide_eq_true (by omega));go_wp2_with fail
     go_roundw
     case rel=>exact⟨j+1,by omega,by go_num,trivial,zh fun k hk=>by
      by_cases e:k=j
      ·subst e;rw[HX.out];exact HT.out
      ·exact fu.out k (by omega)⟩
     case measure=>simp[intOf];omega
  ·obtain rfl:j=3:=by omega
   have nQ:=zh (show BX.ok ⟨bv,bl,bi⟩=true by
    have h0:okI bv=true:=fu.out 0 (by omega);have h1:okI bl=true:=fu.out 1 (by omega);have h2:okI bi=true:=fu.out 2 (by omega);simp[BX.ok,h0,h1,h2])
   clear fu;go_wp2_with fail;refine(yx.out _ HB1.out).mono ?_;rintro e w2 ⟨hb2,v,er,rfl,hs0,hs1⟩;have HB2:=zh (zkb HB1.out hb2);have aR:=zh (zkc aB.out hb2);obtain⟨sv,hsv⟩:=zX (svB vs);have kK:=zh hsv;rw[hsv]at hs0 hs1;clear hsv hb2
   cases sv
   ·obtain⟨rfl,rfl⟩:=hs0 rfl;have HF:=zh (show(BX.ok ⟨bv,bl,bi⟩&&svB vs)=false by rw[kK.out];simp);clear hs0 hs1 x0 x1 x2;go_wp2_with fail;go_ret2;exact⟨zka HB2.out _,.inl ⟨HF.out,rfl⟩⟩
   ·obtain⟨rfl,hos⟩:=hs1 rfl;have HT:=zh (show(BX.ok ⟨bv,bl,bi⟩&&svB vs)=true by rw[kK.out,nQ.out];rfl);have hsv2:=hos.svR (zSLim vs kK.out);obtain⟨A2,c2,B2,d2,D2,e2,rfl,hr2,-⟩:=hsv2;clear hs0 hs1 x0 x1 x2;obtain⟨nv,nW⟩:=zX (vs.length);have hzn:(zS vs).cells.length=nv:=by rw[<-nW];simp[zS]
    have oQ:=kK.out;simp only[svB,Bool.and_eq_true,decide_eq_true_eq,List.all_eq_true]at oQ;have HS3:=zh oQ;have hn32:nv<=32:=by rw[<-nW];exact oQ.1
    rw[hzn]at hos ⊢;have lN:=zh nW;have hb3:=zka HB2.out (.cells #[.slice A2 nv c2,.slice B2 (zS vs).tin.length d2,.slice D2 (zS vs).tout.length e2] 32);obtain⟨w3,hw3⟩:=zX (w2.alloc (.cells #[.slice A2 nv c2,.slice B2 (zS vs).tin.length d2,.slice D2 (zS vs).tout.length e2] 32));have tJ:Below w2.heap.size w2 w3:=by rw[<-hw3];exact zka zr _
    have hk3:=heap_alloc_new w2 (.cells #[.slice A2 nv c2,.slice B2 (zS vs).tin.length d2,.slice D2 (zS vs).tout.length e2] 32);rw[hw3]at hb3 hk3;have x3:w3.cell? ⟨w2.heap.size,0,none⟩=some (.slice A2 nv c2):=zc hk3 rfl;have HB3:=zh hb3;have HR3:=zh ((hr2.keep (S':=Any) (fun _ _ _=>trivial) fun _ _ _=>rfl).later tJ);have gK:=zh (zkc aR.out tJ);clear hb3 tJ hk3 hr2 hos nW oQ hzn yx;rw[lN.out];go_wp2_with fail;clear hw3 x3
    go_loopw [40,10] (fun i lv wr=>∃j:Nat,j<=nv/\i=.int .i64 j/\∃A9 c9,lv=.slice A9 j c9/\Hid (Below w.heap.size w wr)/\Hid (Below w3.heap.size w3 wr)/\Hid (wr.ownsRow w3.heap.size 102 2 (.slice A9 j c9) j (znU ((lenE vs ⟨bv,bl,bi⟩).take j)))) (fun i _ _=>nv-(intOf i).toNat)
    case atStart=>exact⟨0,Nat.zero_le _,rfl,none,0,rfl,HB3,zh zr,zh ⟨rfl,.inl ⟨rfl,rfl⟩⟩⟩
    case round =>
     obtain⟨j,hj,rfl,A9,c9,rfl,ah,kV,vH⟩:=hrel;have hkb:=zkc gK.out kV.out;obtain⟨x0,x1,x2⟩:=zky hkb;by_cases hlt:j<nv
     ·have hj1:(j:Int)<(nv:Int):=by omega
      have hj0:(0:Int)<=(j:Int):=by omega
      obtain⟨a,v,rfl,-,Hv,⟨p0,p1,p2⟩,hf⟩:=(af.out.later ah.out).nd (show j<vs.length by rw[lN.out];exact hlt);obtain⟨a2,q,A3,c3,rfl,Hq,hcq,-,-⟩:=(HR3.out.later kV.out).nd (i:=j) (by simp[zS];rw[lN.out];exact hlt);have hle:(lenE vs ⟨bv,bl,bi⟩)[j]?=some (len1 ⟨bv,bl,bi⟩ v):=by
       have h9:j<vs.length:=by rw[lN.out];exact hlt
       simp only[lenE];rw[List.getElem?_append_left (by simpa using h9),List.getElem?_map,List.getElem?_eq_getElem h9,Hv.out];rfl
      have j3:q.length=(fixE v).toNat:=by rw[<-Hq.out,<-Hv.out];simp[zS]
      have HQL:=zh j3;have dN:=zh hle;have dx:w.heap.size<=w3.heap.size:=HB3.out.size;have hl4:j+1<=1000000:=by omega
      have hwi:IntKind.i64.wrap ((j:Int)+1)=(j:Int)+1:=IntWalk.i64_in _ (by omega);obtain⟨s9,k9,n9⟩:=v;simp only at p0 p1 p2;clear j3 hle hf;by_cases h3:k9=3
      ·obtain⟨L,rfl⟩:∃L:Nat,bl=(L:Int):=⟨bl.toNat,by
        have:=nQ.out;simp only[BX.ok,okI,Bool.and_eq_true,decide_eq_true_eq]at this;omega⟩
       have hrow:=zko vH.out (zka (zs wr) (.cells #[.int .i64 0,.int .i64 (L:Int)] 102));have hk4:=heap_alloc_new wr (.cells #[.int .i64 0,.int .i64 (L:Int)] 102);have HX:=zh (zok (y0:=0) (y1:=L) (by rw[dN.out];simp[len1,h3]) kV.out ah.out dx vH.out);have hbb:=bB1 0 (L:Int) wr;have hs4:w3.heap.size<=(wr.alloc (.cells #[.int .i64 0,.int .i64 (L:Int)] 102)).heap.size:=by have:=kV.out.size;simp;omega
       subst h3;go_wp2_with (at_builtin;refine zlM rfl (.tmp 51) (.tmp 55) rfl w3.heap.size (.slice A9 j c9) j _ rfl hrow wr.heap.size _ _ rfl hk4 hl4 hs4 ?_;intro v' w' ho hg;obtain⟨A',c',rfl,aQ,kP,iE⟩:=HX.out _ _ ho hg;clear ho hg)
       go_roundw
       case rel=>exact⟨j+1,by omega,by go_num,A',c',rfl,aQ,kP,iE⟩
       case measure=>simp[intOf];omega
      ·have e3:(k9==3)=false:=by simpa using h3
       obtain⟨L,hL⟩:∃L:Nat,(fixE ⟨s9,k9,n9⟩).toNat=L:=⟨_,rfl⟩
       have zz:=HQL.out;rw[hL]at zz;rw[zz]at hcq;have hrow:=zko vH.out (zka (zs wr) (.cells #[.int .i64 (L:Int),.int .i64 (L:Int)] 102));have hk4:=heap_alloc_new wr (.cells #[.int .i64 (L:Int),.int .i64 (L:Int)] 102);have HX:=zh (zok (y0:=L) (y1:=L) (by rw[dN.out];simp[len1,h3,hL]) kV.out ah.out dx vH.out);have hbb:=bB1 (L:Int) (L:Int) wr;have hs4:w3.heap.size<=(wr.alloc (.cells #[.int .i64 (L:Int),.int .i64 (L:Int)] 102)).heap.size:=by have:=kV.out.size;simp;omega
       clear hL zz h3;go_wp2_with (at_builtin;refine zlM rfl (.tmp 57) (.tmp 63) rfl w3.heap.size (.slice A9 j c9) j _ rfl hrow wr.heap.size _ _ rfl hk4 hl4 hs4 ?_;intro v' w' ho hg;obtain⟨A',c',rfl,aQ,kP,iE⟩:=HX.out _ _ ho hg;clear ho hg)
       go_roundw
       case rel=>exact⟨j+1,by omega,by go_num,A',c',rfl,aQ,kP,iE⟩
       case measure=>simp[intOf];omega
     ·obtain rfl:j=nv:=by omega
      have hj1:¬ (j:Int)<(j:Int):=by omega
      obtain⟨L,rfl⟩:∃L:Nat,bi=(L:Int):=⟨bi.toNat,by
       have:=nQ.out;simp only[BX.ok,okI,Bool.and_eq_true,decide_eq_true_eq]at this;omega⟩
      have hrow:=zko vH.out (zka (zs wr) (.cells #[.int .i64 0,.int .i64 (L:Int)] 102));have hk4:=heap_alloc_new wr (.cells #[.int .i64 0,.int .i64 (L:Int)] 102);have HX:=zh (zok (y0:=0) (y1:=L) (by simp only[lenE];rw[List.getElem?_append_right (by simp[lN.out])];simp[lN.out]) kV.out ah.out (show w.heap.size<=w3.heap.size from HB3.out.size) vH.out);have hbb:=bB1 0 (L:Int) wr;have hl4:j+1<=1000000:=by omega
      have hs4:w3.heap.size<=(wr.alloc (.cells #[.int .i64 0,.int .i64 (L:Int)] 102)).heap.size:=by have:=kV.out.size;simp;omega
      go_wp2_with (at_builtin;refine zlM rfl (.tmp 66) (.tmp 70) rfl w3.heap.size (.slice A9 j c9) j _ rfl hrow wr.heap.size _ _ rfl hk4 hl4 hs4 ?_;intro v' w' ho hg;obtain⟨A',c',rfl,aQ,kP,iE⟩:=HX.out _ _ ho hg;clear ho hg)
      go_ret2;refine⟨aQ.out,.inr ⟨HT.out,A',c',by rw[lN.out];rfl,?_⟩⟩;have hlen:(lenE vs ⟨bv,bl,(L:Int)⟩).length=j+1:=by simp[lenE,lN.out]
      have h5:=iE.out;rw[List.take_of_length_le (by rw[hlen];exact zl)]at h5;exact(RowB.of_own h5 hlen).keep (fun q h _=>Nat.le_trans HB3.out.size h) fun _ _ _=>rfl
def cntR(vs:List VD)(b:BX):Int×Int:=if (b.ok&&svB vs)=true then(if maxC<cntE (2*b.v+1) (lenE vs b)then(0,5)else(cntE (2*b.v+1) (lenE vs b),0))else(0,1)
theorem zlJ{vs:List VD}{b:BX}(h:(b.ok&&svB vs)=true):(lenE vs b).length=vs.length+1/\vs.length<=32/\(∀q∈lenE vs b,q.1<=q.2/\q.1<=1000/\q.2<=1000)/\0<=b.v/\b.v<=1000:=by
 simp only[BX.ok,okI,svB,Bool.and_eq_true,decide_eq_true_eq,List.all_eq_true]at h;obtain⟨⟨⟨h1,h2⟩,h3⟩,h4,h5⟩:=h;refine⟨by simp[lenE],h4,fun q hq=>?_,h1.1,h1.2⟩;rcases List.mem_append.1 hq with hq|hq
 ·obtain⟨v,hv,rfl⟩:=List.mem_map.1 hq;have:=zqY (h5 v hv);unfold len1
  split
  ·exact⟨Nat.zero_le _,by omega,by omega⟩
  ·exact⟨zl,by omega,by omega⟩
 ·obtain rfl:=List.mem_singleton.1 hq;exact⟨Nat.zero_le _,by omega,by omega⟩
def zz6{α:Type}(Y:Nat->α->Array Value->Nat->World->Prop)(n:Nat)(P:Program)(gf:FuncId)(lb:Array Value)(xs:List α)(R:Nat->Prop)(W:World):Prop :=
 ∀(l:Nat) (J Jx:List α->(Nat->Prop)->World->Prop) (C:Nat->Prop) (W1:World),l<W1.heap.size->(∀b,C b->¬ R b)->Chg C W W1 ->
  (∀pre C W W',J pre C W->Chg (fun b=>¬ C b) W W'->J pre C W')->(∀pre C W,J pre C W->∀b,C b->b<W.heap.size) ->
  (∀pre x C W vs g,J pre C W->(∀b,C b->b<g)->(pre++[x]) <+: xs->Y l x vs g W ->
   YieldAt (Fw none) (n-1) P l vs W fun e W' =>
    (e=.returned (.bool true)/\∃C',J (pre++[x]) C' W'/\(∀b,C' b->C b\/g<=b)/\Chg C W W') \/
    (e=.returned (.bool false)/\∃C',Jx (pre++[x]) C' W'/\Chg C W W')) ->
  J [] C W1 ->
  CallsIn (Fw none) n P gf (#[.func (.yield l) #[] #[]]++lb) W1 fun e W'=>(∃v,e=.returned v)/\((∃C',J xs C' W'/\Chg C W1 W')\/(∃pre C',Jx pre C' W'/\Chg C W1 W'))
def zzv{α:Type}(I Ix:List α->(Nat->Prop)->World->Prop)(pre:List α)(C:Nat->Prop)(g:Nat)(W:World):Exit->Act->World->Prop
 | .normal,_,W'=>∃C',I pre C' W'/\(∀b,C' b->C b\/g<=b)/\Chg C W W'
 | .ret,_,W'=>∃C',Ix pre C' W'/\(∀b,C' b->C b\/g<=b)/\Chg C W W'
 | _,_,_=>False
theorem zsS{α:Type}{Y:Nat->α->Array Value->Nat->World->Prop}{n:Nat}{P:Program}{g:Operand}{ps:Array Tmp}{assign body:Code}{Q:Exit->Act->World->Prop}{a:Act}{w:World}{gf:FuncId}{lb:Array Value}{xs:List α}{R:Nat->Prop}
  (hg:a.eval g=.func (.func gf) #[] lb)(eg:∀args w,(callFunc gf args).run P w=.ok (.enter gf args) w)(hseq:zz6 Y (n-1) P gf lb xs R w)(hps:∀l x vs g W,Y l x vs g W->vs.size=ps.size/\l<g)
  (I Ix:List α->(Nat->Prop)->World->Prop)(C0:Nat->Prop)(hI:∀pre C W W',I pre C W->Chg (fun b=>¬ C b) W W'->I pre C W')(hIx:∀pre C W W',Ix pre C W->Chg (fun b=>¬ C b) W W'->Ix pre C W')
  (hIlt:∀pre C W,I pre C W->∀b,C b->b<W.heap.size)(hIxlt:∀pre C W,Ix pre C W->∀b,C b->b<W.heap.size)(hC:∀b,C0 b->¬ R b)(hRlt:∀b,R b->b<w.heap.size)(h0:I [] C0 w)
  (hround:∀l pre x C W vs g,I pre C W->(∀b,C b->b<g)->¬ C l->w.heap.size<l->l<W.heap.size->(pre++[x]) <+: xs->Y l x vs g W ->
   assign.wpIn (Fw (some l)) (n-1-1) P (Exit.then (fun a1 W1=>Chg C W W1/\∀W2,Chg (· = l) W1 W2->body.wpIn (Fw (some l)) (n-1-1) P (zzv I Ix (pre++[x]) C g W2) a1 W2) (fun _ _ _=>False))
    { tmps:=(ps.zip vs).foldl (fun t (p,v)=>t.setIfInBounds p v) a.tmps,defers:=[] } W)
  (hdone:∀D C W',D=w.heap.size->I xs C W'->Chg C0 w W'->W'.heap[D]?=some (.deferred (some []))->Q .normal { a with defers:={ target:=.collected D,args := #[] }::a.defers } W')
  (hstop:∀D pre C W',D=w.heap.size->Ix pre C W'->Chg C0 w W'->W'.heap[D]?=some (.deferred (some []))->Code.ret.wpIn (Fw none) n P Q { a with defers:={ target:=.collected D,args := #[] }::a.defers } W') :
  (Code.rangeFunc g ps assign body).wpIn (Fw none) n P Q a w:=by
 refine wpIn_rangeFunc ?_;intro fn hfn;obtain⟨rec,hrec⟩:∃rec:LoopState->Option Code->Loop,rec=fun st pe=>{ state:=st,pending:=pe,fn,tmps:=a.tmps,params:=ps,assign,body,defers:=w.heap.size }:=⟨_,rfl⟩
 obtain⟨W1,hW1⟩:=zX ((w.alloc (.deferred (some []))).alloc (.loop (rec .ready none)));have hL1:W1.heap[w.heap.size+1]?=some (.loop (rec .ready none)):=by
  rw[<-hW1];have:=World.alloc_heap_new (w.alloc (.deferred (some []))) (.loop (rec .ready none));rwa[World.size_alloc]at this
 have hK1:W1.heap[w.heap.size]?=some (.deferred (some [])):=by
  rw[<-hW1];exact(Below.heap_alloc _ _ _ (by simp)).trans (World.alloc_heap_new w _)
 have hb1:Below w.heap.size w W1:=by rw[<-hW1];exact((Below.refl _ w).alloc zl _).alloc (by simp) _
 have hI1:I [] C0 W1:=hI _ _ _ _ h0 (Chg.of_below hb1);have hC0lt:∀b,C0 b->b<w.heap.size:=hIlt _ _ _ h0;refine⟨w.heap.size+1,[{ target:=.collected w.heap.size,args := #[] }],W1,{ target:=.fn (.func gf) lb,args := #[.func (.yield (w.heap.size+1)) #[] #[]] },W1,gf,
  #[.func (.yield (w.heap.size+1)) #[] #[]]++lb,W1,?_,?_,(fun _ _=>trivial),?_,(fun e=>by cases e),?_⟩
 ·rw[<-hW1,hrec];exact run_enterLoop_outer _ _ _ _ _
 ·simp only[resolve,hg];simp[go_sem]
 ·simp[invoke,go_sem,eg]
 ·refine(hseq (w.heap.size+1)
   (fun pre C' W=>∃C,(∀b,C' b↔C b\/b=w.heap.size+1\/b=w.heap.size)/\I pre C W/\¬ C (w.heap.size+1)/\¬ C w.heap.size/\(∀b,C b->b<w.heap.size->C0 b)/\W.heap[w.heap.size+1]?=some (.loop (rec .ready none))/\W.heap[w.heap.size]?=some (.deferred (some [])))
   (fun pre C' W=>∃C,Ix pre C W/\¬ C (w.heap.size+1)/\W.heap[w.heap.size+1]?=some (.loop (rec .done (some .ret)))/\W.heap[w.heap.size]?=some (.deferred (some [])))
   (fun b=>C0 b\/b=w.heap.size+1\/b=w.heap.size) W1 (Array.getElem?_eq_some_iff.1 hL1).1 ?_ (Chg.of_below hb1) ?_ ?_ ?_ ⟨C0,fun _=>Iff.rfl,hI1,(fun h=>by have:=hC0lt _ h;omega),(fun h=>by have:=hC0lt _ h;omega),(fun _ h _=>h),hL1,hK1⟩).mono ?_
  ·intro b hb hr;have:=hRlt b hr;rcases hb with hb|hb|hb
   ·exact hC b hb hr
   ·omega
   ·omega
  ·rintro pre C' W W' ⟨C,hC',hi,h1,h2,h3,hl,hk⟩ hch;refine⟨C,hC',hI _ _ _ _ hi (hch.mono fun b _ hb hc=>hb ((hC' b).2 (.inl hc))),h1,h2,h3,hch.keep hl (fun h=>h ((hC' _).2 (.inr (.inl rfl)))),hch.keep hk (fun h=>h ((hC' _).2 (.inr (.inr rfl))))⟩
  ·rintro pre C' W ⟨C,hC',hi,h1,h2,h3,hl,hk⟩ b hb;rcases(hC' b).1 hb with hb|rfl|rfl
   ·exact hIlt _ _ _ hi b hb
   ·exact(Array.getElem?_eq_some_iff.1 hl).1
   ·exact(Array.getElem?_eq_some_iff.1 hk).1
  ·rintro pre x C' W vs g ⟨C,hC',hi,h1,h2,h3,hl,hk⟩ vz hpre hpv;have zK:=(hps _ _ _ _ _ hpv).2;have hlt:w.heap.size+1<W.heap.size:=(Array.getElem?_eq_some_iff.1 hl).1;have hy:=run_yield (P:=P) (args:=vs) hl (by rw[hrec];exact(hps _ _ _ _ _ hpv).1);rw[hrec]at hy;refine⟨fn,_,assign,body,hy,roundIn_of_wpIn hfn (wpIn_mono (hround (w.heap.size+1) pre x C W vs g hi (fun b hb=>vz b ((hC' b).2 (.inl hb))) h1 (by omega) hlt hpre hpv) ?_)⟩;rintro e a1 Wa uY
   cases e with
   | normal =>
    obtain⟨zZ,hbody⟩:=uY;have hl1:=zZ.keep hl h1;have hk1:=zZ.keep hk h2;have hlt1:w.heap.size+1<Wa.heap.size:=(Array.getElem?_eq_some_iff.1 hl1).1;refine⟨_,run_beginRound hl1 (by rw[hrec]),?_⟩;have hl2:(Wa.putObj (w.heap.size+1) (.loop { rec .ready none with state:=.busy })).heap[w.heap.size+1]?=some (.loop { rec .ready none with state:=.busy }):=World.putObj_heap_same hlt1;have hk2:(Wa.putObj (w.heap.size+1) (.loop { rec .ready none with state:=.busy })).heap[w.heap.size]?=some (.deferred (some [])):=(World.putObj_heap_other (by omega)).trans hk1;have hc2:Chg (fun b=>C b\/b=w.heap.size+1) W (Wa.putObj (w.heap.size+1) (.loop { rec .ready none with state:=.busy })) :=
     (zZ.mono fun _ _ h=>.inl h).trans2 (Chg.putObj Wa (w.heap.size+1) _) (fun b _ h=>.inr h)
    refine wpIn_mono (hbody _ (Chg.putObj _ _ _)) ?_;have fin:∀(jump:Option Code) (W3:World),Chg C (Wa.putObj (w.heap.size+1) (.loop { rec .ready none with state:=.busy })) W3 ->
      (Instr.endRound (w.heap.size+1) jump).run P W3=.ok (.bool jump.isNone) (W3.putObj (w.heap.size+1) (.loop (rec (if jump.isNone then .ready else .done) jump))) /\
      (W3.putObj (w.heap.size+1) (.loop (rec (if jump.isNone then .ready else .done) jump))).heap[w.heap.size+1]?=some (.loop (rec (if jump.isNone then .ready else .done) jump)) /\
      (W3.putObj (w.heap.size+1) (.loop (rec (if jump.isNone then .ready else .done) jump))).heap[w.heap.size]?=some (.deferred (some [])) /\
      Chg C' W (W3.putObj (w.heap.size+1) (.loop (rec (if jump.isNone then .ready else .done) jump))):=fun jump W3 hk3=>by
     have hl3:=hk3.keep hl2 h1;have:=run_endRound (P:=P) jump hl3;rw[hrec]at this ⊢;refine⟨this,World.putObj_heap_same (Array.getElem?_eq_some_iff.1 hl3).1,(World.putObj_heap_other (by omega)).trans (hk3.keep hk2 h2),?_⟩;have hA:Chg (fun b=>C b\/b=w.heap.size+1) W W3:=by
      have:=hc2;rw[hrec]at this hk3;exact this.trans2 hk3 (fun b _ h=>.inl h)
     exact(hA.trans2 (Chg.putObj W3 (w.heap.size+1) _) (fun b _ h=>.inr h)).mono fun b _ hb=>(hC' b).2 (by rcases hb with hb|hb;exact .inl hb;exact .inr (.inl hb))
    rintro e3 a3 W3 hp;have hsz:W.heap.size<=(Wa.putObj (w.heap.size+1) (.loop { rec .ready none with state:=.busy })).heap.size:=hc2.size
    cases e3 with
    | normal =>
     obtain⟨C3,hi3,tX,sW⟩:=hp;have eT:∀b,C3 b->C b\/g<=b:=tX;obtain⟨hr,hl4,hk4,gu⟩:=fin none W3 sW;have dx:¬ C3 (w.heap.size+1):=fun h=>by rcases eT _ h with h|h;exact h1 h;omega
     have qO:¬ C3 w.heap.size:=fun h=>by rcases eT _ h with h|h;exact h2 h;omega
     refine⟨_,_,hr,.inl ⟨rfl,fun b=>C3 b\/b=w.heap.size+1\/b=w.heap.size,⟨C3,fun _=>Iff.rfl,hI _ _ _ _ hi3 ((Chg.putObj _ _ _).mono fun b _ hb hc=>dx (hb▸hc)),dx,qO,?_,hl4,hk4⟩,?_,gu⟩⟩
     ·intro b hb hlt';rcases eT b hb with hb|hb
      ·exact h3 b hb hlt'
      ·omega
     ·intro b hb;rcases hb with hb|hb
      ·rcases eT b hb with hb|hb
       ·exact .inl ((hC' b).2 (.inl hb))
       ·exact .inr (by omega)
      ·exact .inl ((hC' b).2 (.inr hb))
    | ret =>
     obtain⟨C3,hi3,tX,sW⟩:=hp;have eT:∀b,C3 b->C b\/g<=b:=tX;obtain⟨hr,hl4,hk4,gu⟩:=fin (some .ret) W3 sW;have dx:¬ C3 (w.heap.size+1):=fun h=>by rcases eT _ h with h|h;exact h1 h;omega
     exact⟨_,_,hr,.inr ⟨rfl,fun _=>True,⟨C3,hIx _ _ _ _ hi3 ((Chg.putObj _ _ _).mono fun b _ hb hc=>dx (hb▸hc)),dx,hl4,hk4⟩,gu⟩⟩
    | exit id=>exact hp.elim
    | goto t=>exact hp.elim
    | panic ch=>exact hp.elim
    | outgrown=>exact hp.elim
   | exit id=>exact uY.elim
   | goto t=>exact uY.elim
   | ret=>exact uY.elim
   | panic ch=>exact uY.elim
   | outgrown=>exact uY.elim
  ·rintro e W2 ⟨⟨v,rfl⟩,(⟨C',⟨C,hC',hi,h1,h2,h3,hl,hk⟩,hch⟩|⟨pre,C',⟨C,hi,h1,hl,hk⟩,hch⟩)⟩
   all_goals
    have hw2:Chg C0 w W2:=((Chg.of_below hb1).trans2 hch fun b hb hc=>by rcases hc with hc|hc|hc;exact hc;omega;omega)
    have hfin:∀o,Chg C0 w (W2.putObj (w.heap.size+1) o):=fun o=>hw2.trans2 (Chg.putObj W2 (w.heap.size+1) o) fun b hb hc=>by omega
   ·exact⟨none,_,by have:=run_endLoop (P:=P) hl (by rw[hrec];simp);rw[hrec]at this;exact this,hdone _ C _ rfl (hI _ _ _ _ hi ((Chg.putObj W2 (w.heap.size+1) _).mono fun b _ (hb:b=w.heap.size+1) hc=>h1 (hb▸hc))) (hfin _) ((World.putObj_heap_other (by omega)).trans hk)⟩
   ·exact⟨some .ret,_,by have:=run_endLoop (P:=P) hl (by rw[hrec];simp);rw[hrec]at this;exact this,hstop _ pre C _ rfl (hIx _ _ _ _ hi ((Chg.putObj W2 (w.heap.size+1) _).mono fun b _ (hb:b=w.heap.size+1) hc=>h1 (hb▸hc))) (hfin _) ((World.putObj_heap_other (by omega)).trans hk)⟩
structure DK where
 l:Nat
 lb:Nat
 yb:Nat
 bb:Nat
 tb:Nat
 hb:Nat
 nb:Nat
 sb:Nat
 rb:Nat
 tr:Nat
 A:Option Addr
 c:Nat
 tc:Nat
abbrev ptr0(b:Nat):Value:=.pointer (some ⟨b,0,none⟩)
abbrev DK.cap1(Z:DK):Array Value := #[ptr0 Z.lb,ptr0 Z.yb,ptr0 Z.bb,ptr0 Z.tb,ptr0 Z.hb,ptr0 Z.nb]
abbrev DK.cap2(Z:DK):Array Value := #[ptr0 Z.lb,ptr0 Z.sb,ptr0 Z.hb,ptr0 Z.tb,ptr0 Z.nb]
structure DW(Z:DK)(bs:List Bn)(h:Nat)(B:Nat->Prop)(W:World):Prop where
 lists:W.heap[Z.lb]?=some (.cells #[.slice (some ⟨Z.rb,0,none⟩) bs.length bs.length] 29 (0,0))
 yld:W.heap[Z.yb]?=some (.cells #[.func (.yield Z.l) #[] #[]] 35 (0,0))
 ls:W.heap[Z.bb]?=some (.cells #[.slice Z.A bs.length Z.c] 98 (0,0))
 rest:W.heap[Z.tb]?=some (.cells #[.slice (some ⟨Z.tr,0,none⟩) (bs.length+1) Z.tc] 98 (0,0))
 hv:W.heap[Z.hb]?=some (.cells #[.int .i64 (h:Int)] 3 (0,0))
 num:W.heap[Z.nb]?=some (.cells #[.func (.func 130) #[] Z.cap2] 181 (0,0))
 slf:W.heap[Z.sb]?=some (.cells #[.func (.func 129) #[] Z.cap1] 180 (0,0))
 row:RowB W B Z.A bs
 rst:zqS W Z.tr h bs
 kb:B Z.lb/\B Z.yb/\B Z.bb/\B Z.tb/\B Z.hb/\B Z.nb/\B Z.sb/\B Z.tr
 lt:∀b,B b->b<W.heap.size
theorem DW.chg{Z:DK}{bs:List Bn}{h:Nat}{B D:Nat->Prop}{W W':World}(hd:DW Z bs h B W)(hc:Chg D W W')(hD:∀b,B b->¬ D b):DW Z bs h B W':=by
 obtain⟨h1,h2,h3,h4,h5,h6,h7,h8,h9,hk,hl⟩:=hd;obtain⟨k1,k2,k3,k4,k5,k6,k7,k8⟩:=hk;exact⟨hc.keep h1 (hD _ k1),hc.keep h2 (hD _ k2),hc.keep h3 (hD _ k3),hc.keep h4 (hD _ k4),hc.keep h5 (hD _ k5),hc.keep h6 (hD _ k6),hc.keep h7 (hD _ k7),h8.keep (fun _ h _=>h) fun b hb hlt=>hc.block b hlt (hD b hb),h9.keep (hc.block _ (hl _ k8) (hD _ k8)),⟨k1,k2,k3,k4,k5,k6,k7,k8⟩,fun b hb=>Nat.lt_of_lt_of_le (hl b hb) hc.size⟩
structure RowQ(Z:DK)(n:Nat)(W:World)(p:List (List Int))(m f:Nat->Nat):Prop where
 row:∃us:Array Value,W.heap[Z.rb]?=some (.cells us 30 (0,0))/\us.size=n/\∀j,j<p.length->us[j]?=some (.slice (some ⟨f j,0,none⟩) (m j) (m j))
 el:∀j (hj:j<p.length),∃vs:Array Value,W.heap[f j]?=some (.cells vs 3 (0,0))/\vs.size=m j/\p[j].length<=m j/\∀i (hi:i<p[j].length),vs[i]?=some (.int .i64 p[j][i])
 ne:∀j,j<p.length->f j≠Z.rb
 inj:∀i j,i<p.length->j<p.length->f i=f j->i=j
 fits:∀x∈p,∀e∈x,I64 e
theorem RowQ.lt{Z:DK}{n:Nat}{W:World}{p:List (List Int)}{m f:Nat->Nat}(h:RowQ Z n W p m f):Z.rb<W.heap.size/\∀j,j<p.length->f j<W.heap.size:=by
 obtain⟨us,hu,-⟩:=h.row;exact⟨zkp hu,fun j hj=>by obtain⟨vs,hv,-⟩:=h.el j hj;exact zkp hv⟩
theorem RowQ.chg{Z:DK}{n:Nat}{W W':World}{p:List (List Int)}{m f:Nat->Nat}{D:Nat->Prop}(h:RowQ Z n W p m f)(hc:Chg D W W')(h1:¬ D Z.rb)(h2:∀j,j<p.length->¬ D (f j)):RowQ Z n W' p m f:=by
 obtain⟨us,hu,hs,hr⟩:=h.row;refine⟨⟨us,hc.keep hu h1,hs,hr⟩,fun j hj=>?_,h.ne,h.inj,h.fits⟩;obtain⟨vs,hv,h3⟩:=h.el j hj;exact⟨vs,hc.keep hv (h2 j hj),h3⟩
structure SepQ(Z:DK)(B:Nat->Prop)(n:Nat)(f:Nat->Nat)(C:Nat->Prop):Prop where
 b:∀q,B q->¬ C q
 r:¬ C Z.rb
 fc:∀j,j<n->¬ C (f j)
 br:¬ B Z.rb
 bf:∀j,j<n->¬ B (f j)
theorem SepQ.grow{Z:DK}{bs:List Bn}{h:Nat}{B C C':Nat->Prop}{W:World}{p:List (List Int)}{m f:Nat->Nat}(hs:SepQ Z B p.length f C)(hd:DW Z bs h B W)(hq:RowQ Z bs.length W p m f)(hC:∀b,C' b->C b\/W.heap.size<=b):SepQ Z B p.length f C' :=
 ⟨fun q hq' h=>(hC q h).elim (hs.b q hq') fun h=>by have:=hd.lt q hq';omega,fun h=>(hC _ h).elim hs.r fun h=>by have:=hq.lt.1;omega,fun j hj h=>(hC _ h).elim (hs.fc j hj) fun h=>by have:=hq.lt.2 j hj;omega,hs.br,hs.bf⟩
def stOf(x:List (List Int)):SS:=⟨x.dropLast,x.getLastD [],[]⟩
def ztb(J Jx:List SS->(Nat->Prop)->World->Prop)(Z:DK)(n:Nat)(D:Nat->Prop)(pre xs:List SS)(p:List (List Int))(m f:Nat->Nat)(C:Nat->Prop)(W:World)(e:Ending)(W':World):Prop :=
 (e=.returned (.bool true)/\∃C',J (pre++xs) C' W'/\(∀b,C' b->C b\/W.heap.size<=b)/\Chg (fun b=>C b\/D b) W W'/\RowQ Z n W' p m f) \/
 (e=.returned (.bool false)/\∃pre' C',Jx pre' C' W'/\Chg (fun b=>C b\/D b) W W')
def YS(l:Nat)(s:SS)(vs:Array Value)(g:Nat)(W:World):Prop:=∃v,vs = #[v]/\SV W (fun q=>g<=q) s v/\l<g/\g<=W.heap.size
structure DB(bs:List Bn)(h:Nat):Prop where
 n:bs.length<=100
 b:∀b∈bs,b.1<=1000/\b.2<=1000
 hm:h<=10000
 h1:1<=h
 ne:1<=bs.length
theorem znP{p:List (List Int)}{n:Nat}(hn:p.length=n)(h1:1<=n):p.getLastD []=p[n-1]:=by
 have hne:p≠[]:=by rintro rfl;simp at hn;omega
 subst hn;rw[<-List.getLast_eq_getElem hne]
 cases p with
 | nil=>exact(hne rfl).elim
 | cons a p=>rfl
theorem RowQ.sv{Z:DK}{n:Nat}{W:World}{p:List (List Int)}{m f:Nat->Nat}(h:RowQ Z n W p m f)(hn:p.length=n)(h1:1<=n)(hn2:n<=100)(hf:∀j (hj:j<p.length),m j=p[j].length)(hm:∀j,j<p.length->m j<=1000) :
  SV W Any (stOf p) (.agg #[.slice (some ⟨Z.rb,0,none⟩) (n-1) n,.slice (some ⟨f (n-1),0,none⟩) (m (n-1)) (m (n-1)),.slice none 0 0]):=by
 obtain⟨us,hu,dS,hr⟩:=h.row;have hrow:∀j (hj:j<p.length),RowI W Any (some ⟨f j,0,none⟩) p[j]:=fun j hj i hi=>by
  obtain⟨vs,hv,h3,h4,h5⟩:=h.el j hj;refine⟨_,rfl,trivial,?_,h.fits _ (List.getElem_mem hj) _ (List.getElem_mem hi)⟩;rw[Addr.add_lit,Nat.zero_add];exact zc hv (h5 i hi)
 have hcl:(stOf p).cells.length=n-1:=by simp[stOf,hn]
 have htl:(stOf p).tin=p[n-1]:=znP hn h1;have hti:(stOf p).tin.length=m (n-1):=by rw[htl,hf (n-1) (by omega)]
 have hcg:∀i (hi:i<(stOf p).cells.length),(stOf p).cells[i]=p[i]'(by rw[hcl]at hi;omega):=fun i hi=>by simp[stOf]
 refine⟨some ⟨Z.rb,0,none⟩,n,some ⟨f (n-1),0,none⟩,m (n-1),none,0,by rw[hcl,hti];rfl,fun i hi=>?_,?_,fun i hi=>absurd hi (Nat.not_lt_zero i),by rw[hcl];omega,by rw[hti];exact zl,zl,?_⟩
 ·have uX:i<p.length:=by rw[hcl]at hi;omega
  have hl:(stOf p).cells[i].length=m i:=by rw[hcg i hi,hf i uX]
  refine⟨⟨Z.rb,0,none⟩,some ⟨f i,0,none⟩,m i,rfl,trivial,?_,by rw[hl];exact zl,?_⟩
  ·rw[Addr.add_lit,Nat.zero_add,hl];exact zc hu (hr i uX)
  ·rw[hcg i hi];exact hrow i uX
 ·rw[htl];exact hrow (n-1) (by omega)
 ·refine⟨by rw[hcl];unfold LI;omega,fun l hl=>?_,by rw[hti];have:=hm (n-1) (by omega);unfold LI;omega,Nat.zero_le _⟩;obtain⟨i,hi,rfl⟩:=List.mem_iff_getElem.1 hl;have uX:i<p.length:=by rw[hcl]at hi;omega
  rw[hcg i hi,<-hf i uX];have:=hm i uX;unfold LI;omega
def zxn(J Jx:List SS->(Nat->Prop)->World->Prop)(Z:DK)(bs:List Bn)(h:Nat)(B:Nat->Prop)(tot:List SS)(rs:List Bn):Prop :=
 ∀(p:List (List Int)) (m f:Nat->Nat) (pre:List SS) (C:Nat->Prop) (W:World) (left:Int),bs.drop p.length=rs->p.length<=bs.length->J pre C W->DW Z bs h B W->RowQ Z bs.length W p m f->SepQ Z B p.length f C ->
  (∀j (hj:j<p.length),m j=p[j].length)->(∀j,j<p.length->m j<=1000)->(0<=left/\left<=100000000000)->(pre++(zkT h rs left).map fun ls=>stOf (p++ls)) <+: tot ->
  Calls prog 129 (#[.int .i64 (p.length:Int),.int .i64 left]++Z.cap1) W (ztb J Jx Z bs.length (fun b=>b=Z.rb) pre ((zkT h rs left).map fun ls=>stOf (p++ls)) p m f C W)
def hdA(q:List Int):List (List Int)->List (List Int)
 | []=>[]
 | l::ls=>(q++l)::ls
def NumC(J Jx:List SS->(Nat->Prop)->World->Prop)(Z:DK)(bs:List Bn)(h:Nat)(B:Nat->Prop)(tot:List SS)(rs:List Bn)(k:Nat):Prop :=
 ∀(p:List (List Int)) (q:List Int) (m f:Nat->Nat) (pre:List SS) (C:Nat->Prop) (W:World) (left:Int),bs.drop (p.length+1)=rs->p.length+1<=bs.length->J pre C W->DW Z bs h B W->RowQ Z bs.length W (p++[q]) m f->SepQ Z B (p.length+1) f C ->
  (∀j (hj:j<p.length),m j=p[j].length)->(∀j,j<p.length+1->m j<=1000)->m p.length=q.length+k->(0<=left/\left<=100000000000)->(pre++(numE h rs (zkT h rs) k left).map fun z=>stOf (p++hdA q z)) <+: tot ->
  Calls prog 130 (#[.int .i64 (p.length:Int),.int .i64 (q.length:Int),.int .i64 left]++Z.cap2) W (ztb J Jx Z bs.length (fun b=>b=Z.rb\/b=f p.length) pre ((numE h rs (zkT h rs) k left).map fun z=>stOf (p++hdA q z)) (p++[q]) m f C W)
structure JC(J Jx:List SS->(Nat->Prop)->World->Prop)(n l:Nat)(tot:List SS):Prop where
 keep:∀pre C W W',J pre C W->Chg (fun b=>¬ C b) W W'->J pre C W'
 lt:∀pre C W,J pre C W->∀b,C b->b<W.heap.size
 y:∀pre x C W vs g,J pre C W->(∀b,C b->b<g)->(pre++[x]) <+: tot->YS l x vs g W->YieldAt (Fw none) (n-1) prog l vs W fun e W' =>
    (e=.returned (.bool true)/\∃C',J (pre++[x]) C' W'/\(∀b,C' b->C b\/g<=b)/\Chg C W W') \/
    (e=.returned (.bool false)/\∃C',Jx (pre++[x]) C' W'/\Chg C W W')
theorem zs0:IsFn prog 47 f47:=⟨func47,by kernel_rfl,by kernel_rfl⟩
theorem bSt2(A B:Option Addr)(m d n e:Nat)(w:World):(Instr.build 32 #[(0,.slice A m d),(1,.slice B n e)]).run prog w=.ok (.agg #[.slice A m d,.slice B n e,.slice none 0 0]) w:=by kernel_rfl
theorem zwr{J Jx:List SS->(Nat->Prop)->World->Prop}{Z:DK}{bs:List Bn}{h nf:Nat}{B:Nat->Prop}{tot:List SS}(hj:JC J Jx nf Z.l tot)(hb:DB bs h)(hl:∀W,DW Z bs h B W->Z.l<W.heap.size):zxn J Jx Z bs h B tot []:=by
 intro p m f pre C W left hrs hpl hJ hD hQ hS hm hm2 hleft hpre;have hpn:p.length=bs.length:=by have:=congrArg List.length hrs;rw[List.length_drop]at this;simp at this;omega
 have hn1:=hb.ne;have hn2:=hb.n;obtain⟨n,hn⟩:=zX (bs.length);have hx:(zkT h [] left).map (fun ls=>stOf (p++ls))=[stOf p]:=by simp[zkT]
 rw[hx]at hpre ⊢;have hsv:=hQ.sv hpn hn1 hn2 hm hm2;obtain⟨us,hu,dS,hur⟩:=hQ.row;have x0:W.cell? ⟨Z.lb,0,none⟩=some (.slice (some ⟨Z.rb,0,none⟩) bs.length bs.length):=zc hD.lists rfl;have x1:W.cell? ⟨Z.yb,0,none⟩=some (.func (.yield Z.l) #[] #[]):=zc hD.yld rfl;have x2:W.cell? ⟨Z.rb,bs.length-1,none⟩=some (.slice (some ⟨f (bs.length-1),0,none⟩) (m (bs.length-1)) (m (bs.length-1))):=zc hu (hur _ (by omega));rw[hpn];rw[hn]at hpn hn1 hn2 x0 x2 hsv ⊢;have HJ:=zh hj;have rH:=zh hJ;have HD:=zh hD;have HQ:=zh hQ;have HS:=zh hS;have gH:=zh hpre;have kK:=zh hsv;have HN:=zh hn;have nD:=zh (show(stOf p).Lim from by obtain⟨_,_,_,_,_,_,_,_,_,_,_,_,_,h⟩:=hsv;exact h);have bK:=zh (hl W hD);have hwn:IntKind.i64.wrap ((n:Int)-1)=((n-1:Nat):Int):=by rw[show((n-1:Nat):Int)=(n:Int)-1 by omega];exact IntWalk.i64_in _ (by omega)
 clear hj hJ hD hQ hS hpre hsv hu hur hrs hm hm2 hleft hx hb hl hpl;obtain⟨F,hF⟩:=zX (f (n-1));obtain⟨M,hM⟩:=zX (m (n-1));rw[hF,hM]at x2 kK;go_enter func129,ntmps129;go_upto_region 2 with fail;have hp0:(0:Int)<=((n-1:Nat):Int):=by omega
 have hp1:((n-1:Nat):Int)<(n:Int):=by omega
 have hp2:((n-1:Nat):Int)<=(n:Int):=by omega
 go_quiet (fail)
 have hb2:=zkm (zs W) nq;obtain⟨w2,hw2⟩:=zX (W.drewN nq);rw[hw2]at hb2;rw[hw2]
 replace x1:=zb hb2 x1
 have HB2:=zh hb2;clear hw2 hb2 x0 x2 hp0 hp1 hp2;go_upto_region 3 with fail;have hbs:=bSt2;have hSS:(fun w':World=>zv w' Z.yb 0 (.func (.yield Z.l) #[] #[])) w2.drew:=x1;refine wp_region_noPanic ?_;refine(wpIn_wide (n:=nf)).1 ?_;refine zma (ro:=none) (fun w':World=>zv w' Z.yb 0 (.func (.yield Z.l) #[] #[])) (by kernel_rfl) ?_;clear x1;refine zI 0 hSS ?_;refine zI 1 hSS ?_;refine zI 2 hSS ?_;refine zI 3 hSS ?_;have hcl:=zp7 (stOf p) _ w2.drew ((kK.out.later HB2.out).later zr.drew) (by simp only[stOf,List.length_dropLast];omega);have had:Calls prog 47 [.agg #[.slice (some ⟨Z.rb,0,none⟩) (n-1) n,.slice (some ⟨F,0,none⟩) M M,.slice none 0 0]].toArray w2.drew fun e w'=>∃u,e=.returned u/\(SV w' (fun q=>w2.heap.size<=q) (stOf p) u/\Below w2.heap.size w2 w') :=
  hcl.mono fun e w' ⟨v,h1,h2,h3⟩=>⟨v,h1,h2.svR nD.out,zkb (zs w2).drew h3⟩
 refine znt (i:=4) (by kernel_rfl) rfl (by kernel_rfl) (by rfl) (fun K hK=>?_);refine zke (by rfl) (.func 47) [.tmp 32] _ (by rfl) 47 _ zs0 (by rfl) _ (by rfl) _ had ?_;rintro v3 w3 ⟨hs3,hb3⟩;have bO:(fun w':World=>zv w' Z.yb 0 (.func (.yield Z.l) #[] #[])) w3:=zb hb3 hSS;refine hK.out _ _ bO ?_;clear hK K had hcl hSS;(try simp only[zQ]);have Bc:=zkb HB2.out hb3;have xX:=HJ.out.keep _ _ _ _ rH.out (Chg.of_below Bc);obtain⟨yfn,ytmps,yas,ybo,hyr,hyR⟩:=HJ.out.y pre (stOf p) C w3 #[v3] w2.heap.size xX (fun b hb=>Nat.lt_of_lt_of_le (HJ.out.lt _ _ _ rH.out b hb) HB2.out.size) gH.out ⟨v3,rfl,hs3,(by have:=bK.out;have:=HB2.out.size;omega),hb3.size⟩;refine zto (i:=5) (by kernel_rfl) rfl (by kernel_rfl) (by rfl) (l:=Z.l) (f:=yfn) (tmps:=ytmps) (assign:=yas) (body:=ybo) ?_ hyR ?_
 ·(try simp only[zA,zB,zC]);go_simp
 ·clear hyr hyR;have HB3:=zh Bc;have HSZ:=zh (show W.heap.size<=w2.heap.size from HB2.out.size);rintro e W1 hR;have hy1:W1.heap[Z.yb]?=w3.heap[Z.yb]?:=by
   have hlt:=HD.out.lt _ HD.out.kb.2.1;have hnc:=HS.out.b _ HD.out.kb.2.1;rcases hR with⟨_,C1,_,_,hch⟩|⟨_,C1,_,hch⟩<;>exact hch.block _ (Nat.lt_of_lt_of_le hlt HB3.out.size) hnc
  have tO:(fun w':World=>zv w' Z.yb 0 (.func (.yield Z.l) #[] #[])) W1:=zkK bO hy1;have hfin:∃b:Bool,e=.returned (.bool b)/\ztb J Jx Z n (fun b=>b=Z.rb) pre [stOf p] p m f C W (.returned (.bool b)) W1:=by
   have hch':Chg C w3 W1->Chg (fun b=>C b\/b=Z.rb) W W1:=fun h=>(Chg.of_below HB3.out).trans2 h fun b _ h=>.inl h;rcases hR with⟨rfl,C1,hj1,cZ,hch⟩|⟨rfl,C1,hjx1,hch⟩
   ·refine⟨true,rfl,.inl ⟨rfl,C1,hj1,fun b h=>(cZ b h).imp id fun h=>Nat.le_trans HSZ.out h,hch' hch,?_⟩⟩;have h3:=HQ.out.chg (D:=C) ((Chg.of_below HB3.out).trans2 hch fun b _ h=>h) HS.out.r HS.out.fc;have:=HN.out;rwa[this]at h3
   ·exact⟨false,rfl,.inr ⟨rfl,_,C1,hjx1,hch' hch⟩⟩
  obtain⟨b,rfl,hP⟩:=hfin;have HP:=zh hP;refine⟨_,rfl,tO,?_⟩;(try simp only[zQ]);refine zI 6 tO ?_;refine zpt (by kernel_rfl) ?_;refine NoPanic.normal ?_;clear hP hR hy1 tO xX hb3 hs3 Bc bO;go_wp2_with fail;go_ret;exact HP.out
end
end Go.Proofs.YtembgnhbpmfhpaaGreat
