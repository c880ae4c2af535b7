/-
  Texts of the proof, put together without their remarks: Scl, Tri, Apn, Tel, Tdf, Tdn, Ten, Tbk, Tbr, Tlo, Tst, Tlc, Tlx, Tly, Alt, Tca, Tal.
-/
import Derived.Test.YtckhofdinldhpaaGreatE6
set_option linter.unusedSimpArgs false
set_option linter.unusedVariables false
set_option maxHeartbeats 8000000
set_option maxRecDepth 100000
namespace Go.Proofs.YtckhofdinldhpaaGreat
open Go Go.RowKit
theorem k_2 (l5 l9:Bool) (v5 v8 v8' v9 v12:Value) (b3:Nat) (s:SS):updR (zlD false false false l5 l9 v5 v8' v9 v12 b3 s) (some .inp) ⟨v8,3,1,s.tin.length,zkf s.tin⟩=zlD false true false l5 l9 v5 v8 v9 v12 b3 s:=by
 funext i;rcases i with _|i
 ·rfl
 ·cases i<;>rfl
theorem k_5 (l2 l9:Bool) (v5 v8 v9 v12 v12':Value) (b3:Nat) (s:SS):updR (zlD false l2 false false l9 v5 v8 v9 v12' b3 s) (some .out) ⟨v12,3,1,s.tout.length,zkf s.tout⟩=zlD false l2 false true l9 v5 v8 v9 v12 b3 s:=by
 funext i;rcases i with _|i
 ·rfl
 ·cases i<;>rfl
theorem k_7 (l2 l5:Bool) (v5 v8 v9 v12:Value) (b3 b3':Nat) (s:SS):updR (zlD false l2 false l5 false v5 v8 v9 v12 b3' s) none ⟨boxV b3,26,3,1,[.slice none 0 0,.slice none 0 0,.slice none 0 0]⟩=zlD false l2 false l5 true v5 v8 v9 v12 b3 s:=by
 funext i;rcases i with _|i
 ·rfl
 ·cases i<;>rfl
theorem zvr (vi vo v5 v9:Value) (fc:Nat->Value) (b3:Nat) (s:SS):updR (updR (zlD false true false true true v5 vi v9 vo b3 s) none ⟨boxV b3,26,3,1,[.slice none 0 0,vi,vo]⟩) (some .all) ⟨.slice none 0 0,24,1,0,[]⟩=zkM (.slice none 0 0) vi vo fc b3 s 0:=by
 funext i;rcases i with _|i
 ·rfl
 ·cases i<;>rfl
theorem ztJ (vc dF vi vo:Value) (fc:Nat->Value) (b3:Nat) (s:SS) (j:Nat) (l:List Int) (v8:Value) (hl:s.cells.getD j []=l) :
  updR (updR (updR (zkM vc vi vo fc b3 s j) (some (.el j)) ⟨v8,3,1,l.length,zkf l⟩) (some .all) ⟨dF,24,1,j+1,(List.range j).map fc++[v8]⟩) none ⟨boxV b3,26,3,1,[dF,vi,vo]⟩=zkM dF vi vo (fun i=>if i=j then v8 else fc i) b3 s (j+1):=by
 rw[<-znZ vc dF vi vo fc b3 s j l v8 v8 hl];congr 2;funext i;by_cases e:i=some (.el j)
 ·subst e;simp[updR]
 ·simp[updR,e]
theorem znj (s:SS) (v:Value) (w:World) (hv:SV w Any s v) (hcl:s.cells.length<=5864062014800):Calls Tryz.prog 79 #[v] w fun e W'=>∃ v',e=.returned v'/\OwnS W' w.heap.size s v'/\Below w.heap.size w W':=by
 have h1:=bS12;have HV:=zh hv;obtain⟨A,c,B,d,D,e,rfl,hr1,hr2,hr3,hc1,hc2,hc3,hl1,hl2,hl3,hl4⟩:=hv;have hk:=heap_alloc_new w (.cells #[.slice A s.cells.length c,.slice B s.tin.length d,.slice D s.tout.length e] 26);have hbw:Below w.heap.size w ((w.alloc (.cells #[.slice A s.cells.length c,.slice B s.tin.length d,.slice D s.tout.length e] 26)).alloc (.cells #[.slice none 0 0,.slice none 0 0,.slice none 0 0] 26)):=zkd (zkd (Below.refl _ _) _) _;have hk2:=zkr hk (.cells #[.slice none 0 0,.slice none 0 0,.slice none 0 0] 26);have hz1:((w.alloc (.cells #[.slice A s.cells.length c,.slice B s.tin.length d,.slice D s.tout.length e] 26)).alloc (.cells #[.slice none 0 0,.slice none 0 0,.slice none 0 0] 26)).heap.size=w.heap.size+1+1:=by simp
 have hk3:=heap_alloc_new (w.alloc (.cells #[.slice A s.cells.length c,.slice B s.tin.length d,.slice D s.tout.length e] 26)) (.cells #[.slice none 0 0,.slice none 0 0,.slice none 0 0] 26);rw[World.size_alloc] at hk3;have HI:=zh (show s.I from ⟨fun l hl=>by
  obtain⟨i,hi,rfl⟩:=List.mem_iff_getElem.1 hl;obtain⟨_,_,_,_,_,_,_,hr⟩:=hr1 i hi;exact hr.fits,hr2.fits,hr3.fits⟩)
 go_enter Tryz.func79,Tryz.ntmps79;go_upto_region 1 with fail;obtain⟨w1,hw1⟩:∃ x,(w.alloc (.cells #[.slice A s.cells.length c,.slice B s.tin.length d,.slice D s.tout.length e] 26)).alloc (.cells #[.slice none 0 0,.slice none 0 0,.slice none 0 0] 26)=x:=⟨_,rfl⟩
 rw[hw1] at hbw hk2 hk3 hz1 ⊢;have HB1:=zh hbw;have aN:=zh hk2;have jh:=zh hk3;have HR1:=zh (hr1.later hbw);have HR2:=zh (hr2.later hbw);have HR3:=zh (hr3.later hbw);have HL:=zh (show s.Lim from ⟨hl1,hl2,hl3,hl4⟩);clear hk hbw hk2 hk3 hw1 hr1 hr2 hr3 hl1 hl2 hl3 hl4 HV;obtain⟨z0,z1,z2⟩:=zlp aN.out;have hSS:(fun w':World=>w'.cell? ⟨w.heap.size,1,none⟩=some (.slice B s.tin.length d)/\w'.cell? ⟨w.heap.size,2,none⟩=some (.slice D s.tout.length e)) w1.drew/\(fun _:World=>True) w1.drew:=⟨⟨z1,z2⟩,trivial⟩
 refine wp_region_noPanic ?_;refine zke (fun w':World=>w'.cell? ⟨w.heap.size,1,none⟩=some (.slice B s.tin.length d)/\w'.cell? ⟨w.heap.size,2,none⟩=some (.slice D s.tout.length e)) (fun _:World=>True) 8 (by kernel_rfl) ?_;refine zT 0 hSS ?_;(try simp only[zQ]);refine zT 1 hSS ?_;(try simp only[zQ]);refine zT 3 hSS ?_;(try simp only[zQ]);refine zT 4 hSS ?_;(try simp only[zQ]);refine zm7 (fun A f l a wr=>∃ (l2 l5 l6 l7:Bool) (v8 v12 v13 v3:Value) (b3:Nat),f=(!l2).toNat+(!l5).toNat+(!l6).toNat+(!l7).toNat+1/\l = #[true,true,l2,true,true,l5,l6,l7,false] /\
  a=(((A.put (some 8) v8).put (some 11) v12).put (some 12) v13).put (some 3) v3/\Hid (Below w1.heap.size w1 wr)/\Hid (Rws wr w1.heap.size (zlD false l2 false l5 l7 undef v8 undef v12 b3 s))/\Hid ((l5=true->l2=true)/\(l6=true->v13=.agg #[.slice none 0 0,v8,v12]/\l2=true/\l5=true)/\(l7=true->v3=.pointer (some ⟨b3,0,none⟩)))/\Hid (l7=false->v3=undef)) (fun A f l a wr h=>?_) ?_ ⟨false,false,false,false,undef,undef,undef,undef,0,rfl,rfl,(by simp only[Act.put,zD,zE,zF]),zh (Below.refl _ _).drew,zh (zrn _ _ _ _ _ _ _ _),zh ⟨fun h=>(by cases h),fun h=>(by cases h),fun h=>(by cases h)⟩,zh (fun _=>rfl)⟩
 ·obtain⟨_,_,_,_,_,_,_,_,_,_,_,_,hb,_⟩:=h;exact⟨⟨zb hb.out z1,zb hb.out z2⟩,trivial⟩
 rintro A' hA f l a wr ⟨l2,l5,l6,l7,v8,v12,v13,v3,b3,hf,rfl,ha,ae,HRW,HC,HU⟩;by_cases hall:(l2&&l5&&l6&&l7)=true
 ·left
  simp only[Bool.and_eq_true] at hall;obtain⟨⟨⟨rfl,rfl⟩,rfl⟩,rfl⟩:=hall;obtain⟨-,kM,h3⟩:=HC.out;obtain⟨rfl,-,-⟩:=kM rfl;obtain rfl:=h3 rfl;subst hf ha hA;have hrow:=HRW.out.row none;obtain⟨B8,c8,e8,-,-⟩:=zkb (HRW.out.row (some .inp));change v8=.slice B8 s.tin.length c8 at e8;obtain⟨bS,c12,e12,-,-⟩:=zkb (HRW.out.row (some .out));change v12=.slice bS s.tout.length c12 at e12;subst e8 e12;have hbx:=zlB hrow;have c0:wr.cell? ⟨b3,0,none⟩=some (.slice none 0 0):=zc hbx rfl;have c1:wr.cell? ⟨b3,1,none⟩=some (.slice none 0 0):=zc hbx rfl;have c2:wr.cell? ⟨b3,2,none⟩=some (.slice none 0 0):=zc hbx rfl;have cf:∀ j,wr.frozen? ⟨b3,j,none⟩=false:=fun j=>zf hbx;refine zp 8 fun K hK=>?_;(try simp only[zQ]);go_simp;have hb3:w1.heap.size<=b3/\b3<wr.heap.size:=hrow.lt b3 rfl
  have hch:Chg (fun b=>b=b3) wr (((wr.setCell ⟨b3,0,none⟩ (.slice none 0 0)).setCell ⟨b3,1,none⟩ (.slice B8 s.tin.length c8)).setCell ⟨b3,2,none⟩ (.slice bS s.tout.length c12)) :=
   (((Chg.refl (fun b=>b=b3) wr).setCell (p:=⟨b3,0,none⟩) (.inl rfl) _).setCell (p:=⟨b3,1,none⟩) (.inl rfl) _).setCell (p:=⟨b3,2,none⟩) (.inl rfl) _
  have hh:=heap_setCell_same _ b3 2 _ _ (.slice bS s.tout.length c12) (heap_setCell_same _ b3 1 _ _ (.slice B8 s.tin.length c8) (heap_setCell_same wr b3 0 _ _ (.slice none 0 0) hbx));have ax:=zh (ae.out.trans (hch.below ae.out.size fun b e=>by omega));have hrw:=(HRW.out.upd none (r:=⟨boxV b3,26,3,1,[.slice none 0 0,.slice B8 s.tin.length c8,.slice bS s.tout.length c12]⟩) (hch.mono fun b _ e=>by subst e;rfl) (zpl hb3.1 hh) (fun b hb=>.inl hb)).upd (some .all) (r:=⟨.slice none 0 0,24,1,0,[]⟩) (Chg.refl _ _) (zl5 _ _ _) (fun b hb=>by simp[Value.ownBlock] at hb);rw[zvr (fc:=fun _=>.slice none 0 0)] at hrw;have iw:=zh hrw;obtain⟨w2,hw2⟩:∃ x,((wr.setCell ⟨b3,0,none⟩ (.slice none 0 0)).setCell ⟨b3,1,none⟩ (.slice B8 s.tin.length c8)).setCell ⟨b3,2,none⟩ (.slice bS s.tout.length c12)=x:=⟨_,rfl⟩
  rw[hw2] at ax iw ⊢;have aA:(fun w':World=>w'.cell? ⟨w.heap.size,1,none⟩=some (.slice B s.tin.length d)/\w'.cell? ⟨w.heap.size,2,none⟩=some (.slice D s.tout.length e)) w2:=⟨zb ax.out z1,zb ax.out z2⟩
  refine hK.out _ _ aA ?_;clear hK K hSS aA hch hh hrw hw2 hbx c0 c1 c2 cf hrow HRW ae HU HC kM h3 h1;refine zd ?_;refine NoPanic.normal ?_;obtain⟨vi,jo⟩:∃ x,Value.slice B8 s.tin.length c8=x:=⟨_,rfl⟩
  obtain⟨vo,kJ⟩:∃ x,Value.slice bS s.tout.length c12=x:=⟨_,rfl⟩
  rw[jo,kJ] at iw;have rP:=zh jo;have rO:=zh kJ;clear jo kJ;have q0:=zb ax.out z0;go_wp2_with fail;clear q0
  go_loopw [16] (fun i wr=>∃ j:Nat,j<=s.cells.length/\i=.int .i64 j/\Hid (Below w1.heap.size w1 wr)/\∃ vc fc,Hid (Rws wr w1.heap.size (zkM vc vi vo fc b3 s j))) (fun i _=>s.cells.length-(intOf i).toNat)
  case atStart=>exact⟨0,Nat.zero_le _,rfl,ax,_,_,iw⟩
  case round =>
   clear ax iw;obtain⟨j,hj,rfl,ae,vc,fc,HRW⟩:=hrel;have y0:=zb ae.out z0;by_cases hlt:j<s.cells.length
   ·have hj1:(j:Int)<(s.cells.length:Int):=by omega
    have hj0:(0:Int)<=(j:Int):=by omega
    obtain⟨a,l,Al,cl,rfl,Hl,hcl0,hlc,hrl⟩:=(HR1.out.later ae.out).nd hlt;have mK:=zh hrl;have cB:=zh (show l.length<=LI by rw[<-Hl.out];exact HL.out.2.1 _ (List.getElem_mem hlt));have hbx:=zlB (HRW.out.row none);have x0:wr.cell? ⟨b3,0,none⟩=some vc:=zc hbx rfl;have hz0:wr.frozen? ⟨b3,0,none⟩=false:=zf hbx;obtain⟨Av,cv,dO,-⟩:=zkb (HRW.out.row (some .all));change vc=.slice Av j cv at dO;subst dO;have hS0:(fun _:World=>True) wr.drew/\(fun w':World=>w'.cell? ⟨b3,0,none⟩=some (.slice Av j cv)) wr.drew:=⟨trivial,x0⟩
    obtain⟨i0,hi0,hq0,hq1,hq2⟩:=info_parts zpM;have aQ:=zh (zkC l Al cl Any wr.drew (mK.out.later (Below.refl _ _).drew) cB.out);go_upto_region 5 with fail;refine wp_region_noPanic ?_;refine zke (fun _:World=>True) (fun w':World=>w'.cell? ⟨b3,0,none⟩=some (.slice Av j cv)) 7 (by kernel_rfl) ?_;refine zT 0 hS0 ?_;(try simp only[zQ]);refine zkO (i:=1) (v:=?_) rfl (by kernel_rfl) (by kernel_rfl) (by kernel_rfl) (by decide) rfl (by kernel_rfl) (by kernel_rfl) (fun _ _ _ h=>h) (Or.inl ⟨by rfl,?_⟩) hS0 ?_;rotate_left 1
    ·(intro w hSw;(try dsimp only at hSw);(try simp only[zA,zB,zC]);go_simp;(try with_reducible rfl))
    (try simp only[zQ]);refine zT 2 hS0 ?_;(try simp only[zQ]);have hsz:=ae.out.size;have had:Calls Tryz.prog 49 [.slice Al l.length cl].toArray wr.drew fun e w'=>∃ v,e=.returned v/\(w'.ownsRow wr.heap.size 3 1 v l.length (zkf l)/\Below wr.heap.size wr w') :=
     aQ.out.mono fun e w' ⟨v,h1,h2,_,h4⟩=>⟨v,h1,h2,zka (Below.refl wr.heap.size wr).drew h4⟩
    refine zo 3 fun K hK=>?_;refine zkg (by rfl) (.func 49) [.tmp 22] _ (by rfl) 49 _ zml (by rfl) _ (by rfl) _ had ?_;rintro v8 wb ⟨ho,hbb⟩;have hd1:=HRW.out.upd (some (.el j)) (r:=⟨v8,3,1,l.length,zkf l⟩) (Chg.of_below hbb) (zlK ho hsz) (fun b hb=>.inr (ho.lt b hb).1);have HD1:=zh hd1;have fI:=zh hbb;have hS2:(fun _:World=>True) wb/\(fun w':World=>w'.cell? ⟨b3,0,none⟩=some (.slice Av j cv)) wb:=⟨trivial,zb fI.out x0⟩
    obtain⟨A8,dn,rfl,-⟩:=zkb ho;refine hK.out _ _ hS2 ?_;clear hK K hd1 ho hS0 hbb had;(try simp only[zQ]);have h1:=zuB;refine zo 4 fun K hK=>?_;(try simp only[zA,zB,zC]);go_simp;have dV:=zh (show Below wr.heap.size wr (wb.alloc (.cells #[.slice A8 l.length dn] 24)) from zkd fI.out _);have HD2:=zh (HD1.out.later (show Below wb.heap.size wb (wb.alloc (.cells #[.slice A8 l.length dn] 24)) from zkd (Below.refl _ _) _));have aK:=zh (show(wb.alloc (.cells #[.slice A8 l.length dn] 24)).heap[wb.heap.size]?=some (.cells #[.slice A8 l.length dn] 24 (0,0)) from heap_alloc_new wb _);have ow:(fun _:World=>True) (wb.alloc (.cells #[.slice A8 l.length dn] 24))/\(fun w':World=>w'.cell? ⟨b3,0,none⟩=some (.slice Av j cv)) (wb.alloc (.cells #[.slice A8 l.length dn] 24)):=⟨trivial,zb dV.out x0⟩
    obtain⟨wc,hwc⟩:∃ x,(wb.alloc (.cells #[.slice A8 l.length dn] 24))=x:=⟨_,rfl⟩
    rw[hwc] at dV HD2 aK ow ⊢;refine hK.out _ _ ow ?_;clear hK K hwc hS2 HD1;(try simp only[zQ]);have jq:=(zka ae.out dV.out).size;have hrow:=HD2.out.row (some .all);rw[zki (by simp)] at hrow;change wc.ownsRow w1.heap.size 24 1 (.slice Av j cv) j ((List.range j).map fc) at hrow;refine zo 5 fun K hK=>?_;refine zky (by rfl) (.tmp 21) (.tmp 24) 23 (by rfl) w1.heap.size 24 i0 _ 1 24 Tryz.underlying23 hi0 hq0 hq1 hq2 rfl (by decide) (.slice Av j cv) j ((List.range j).map fc) (by rfl) hrow ⟨wb.heap.size,0,none⟩ 1 1 [.slice A8 l.length dn] (by rfl) rfl (fun q u hq=>by
     match q,hq with
     | 0,hq=>injection hq with hq;subst hq;exact zc aK.out rfl) (fun u hu=>by simp at hu;subst hu;rfl) (by unfold maxLen;omega) (by omega) jq (fun vd wd ho hg ak=>?_)
    have hd3:=HD2.out.upd (some .all) (r:=⟨vd,24,1,j+1,(List.range j).map fc++[.slice A8 l.length dn]⟩) ((Chg.row hg).mono fun b _ hb=>hb) ho (fun b hb=>by
     rcases ak with h5|h5
     ·exact .inl (h5▸hb)
     ·exact .inr (by rw[h5] at hb;injection hb with hb;omega))
    have HD3:=zh hd3;have uS:∀ g,(Value.slice Av j cv).ownBlock=some g->(zkM (.slice Av j cv) vi vo fc b3 s j (some .all)).v.ownBlock=some g:=fun g e=>e;have hsep:∀ g,(Value.slice Av j cv).ownBlock=some g->g≠b3:=fun g e h=>HRW.out.sep (some .all) none g (by simp) e (by rw[h];rfl);have hlo:∀ g,(Value.slice Av j cv).ownBlock=some g->w1.heap.size<=g:=fun g e=>(HRW.out.lt (some .all) g e).1;have nU:Chg (fun b=>(Value.slice Av j cv).ownBlock=some b) wc wd:=Chg.row hg;have dU:=zh (show Below w1.heap.size w1 wd from (zka ae.out dV.out).grown hg jq (fun g e=>hlo g e));have fZ:=zlB (HD3.out.row none);have e0:wd.cell? ⟨b3,0,none⟩=some (.slice Av j cv):=zc fZ rfl;have ez:wd.frozen? ⟨b3,0,none⟩=false:=zf fZ;have hab:a.block<w1.heap.size:=by
     obtain⟨a',_,_,e',_,hc',_⟩:=HR1.out j hlt;injection e' with e';subst e';have:=World.block_lt_of_cell? w1 _ hc';rwa[zkn] at this
    have gV:(fun _:World=>True) wd/\(fun w':World=>w'.cell? ⟨b3,0,none⟩=some (.slice Av j cv)) wd:=⟨trivial,e0⟩
    have hd4:=HD3.out.set none (g:=b3) (o:=0) (by rfl) (by show 0<3;decide) vd;have hd5:Rws (wd.setCell ⟨b3,0,none⟩ vd) w1.heap.size (zkM vd vi vo (fun i=>if i=j then .slice A8 l.length dn else fc i) b3 s (j+1)):=by
     rw[<-ztJ (.slice Av j cv) vd vi vo fc b3 s j l (.slice A8 l.length dn) (by rw[List.getD_eq_getElem?_getD,List.getElem?_eq_getElem hlt];exact Hl.out)];exact hd4
    have HD5:=zh hd5;have hb3lt:=(HD3.out.lt none b3 rfl)
    have pY:=zh (show Below w1.heap.size w1 (wd.setCell ⟨b3,0,none⟩ vd) from dU.out.trans ((((Chg.refl (fun b=>b=b3) wd).setCell (p:=⟨b3,0,none⟩) (.inl rfl) vd)).below dU.out.size fun b e=>by omega));obtain⟨Ad,cd',rfl,-⟩:=zkb ho;refine hK.out _ _ gV ?_;clear hK K hd3 hd4 hd5 ho hg ak hrow ow nU uS hsep hlo fZ;(try simp only[zQ]);refine zo 6 fun K hK=>?_;(try simp only[zA,zB,zC]);go_simp;refine hK.out _ _ gV ?_;clear hK K;(try simp only[zQ]);refine zp 7 fun K hK=>?_;(try simp only[zA,zB,zC]);go_simp;refine hK.out _ _ trivial ?_;clear hK K;(try simp only[zQ]);refine zd ?_;refine NoPanic.normal ?_;go_wp2_with fail
    go_roundw
    case rel=>exact⟨j+1,by omega,by go_num,pY,_,_,HD5⟩
    case measure=>simp[intOf];omega
   ·obtain rfl:j=s.cells.length:=by omega
    have hj1:¬ (s.cells.length:Int)<(s.cells.length:Int):=by omega
    have hbx:=zlB (HRW.out.row none);have x0:wr.cell? ⟨b3,0,none⟩=some vc:=zc hbx rfl;have x1:wr.cell? ⟨b3,1,none⟩=some vi:=zc hbx rfl;have x2:wr.cell? ⟨b3,2,none⟩=some vo:=zc hbx rfl;obtain⟨Av,cv,dO,-⟩:=zkb (HRW.out.row (some .all));change vc=.slice Av s.cells.length cv at dO;subst dO;rw[<-rP.out] at x1;rw[<-rO.out] at x2;have hk3:=zkc jh.out ae.out;have q0:wr.cell? ⟨w.heap.size+1,0,none⟩=some (.slice none 0 0):=zc hk3 rfl;have q1:wr.cell? ⟨w.heap.size+1,1,none⟩=some (.slice none 0 0):=zc hk3 rfl;have q2:wr.cell? ⟨w.heap.size+1,2,none⟩=some (.slice none 0 0):=zc hk3 rfl;have cf:∀ j,wr.frozen? ⟨w.heap.size+1,j,none⟩=false:=fun j=>zf hk3;have bO:=zh (znq HRW.out);have pz:=zh hk3;clear hbx hk3 HRW;go_wp2_with fail
    have hch:Chg (fun b=>b=w.heap.size+1) wr (((wr.setCell ⟨w.heap.size+1,0,none⟩ (.slice Av s.cells.length cv)).setCell ⟨w.heap.size+1,1,none⟩ (.slice B8 s.tin.length c8)).setCell ⟨w.heap.size+1,2,none⟩ (.slice bS s.tout.length c12)) :=
     (((Chg.refl (fun b=>b=w.heap.size+1) wr).setCell (p:=⟨w.heap.size+1,0,none⟩) (.inl rfl) _).setCell (p:=⟨w.heap.size+1,1,none⟩) (.inl rfl) _).setCell (p:=⟨w.heap.size+1,2,none⟩) (.inl rfl) _
    have hh:=heap_setCell_same _ (w.heap.size+1) 2 _ _ (.slice bS s.tout.length c12) (heap_setCell_same _ (w.heap.size+1) 1 _ _ (.slice B8 s.tin.length c8) (heap_setCell_same wr (w.heap.size+1) 0 _ _ (.slice Av s.cells.length cv) pz.out));obtain⟨w9,aZ⟩:∃ x,((wr.setCell ⟨w.heap.size+1,0,none⟩ (.slice Av s.cells.length cv)).setCell ⟨w.heap.size+1,1,none⟩ (.slice B8 s.tin.length c8)).setCell ⟨w.heap.size+1,2,none⟩ (.slice bS s.tout.length c12)=x:=⟨_,rfl⟩
    rw[aZ] at hch hh ⊢;have t0:w9.cell? ⟨w.heap.size+1,0,none⟩=some (.slice Av s.cells.length cv):=zc hh (by simp);have t1:w9.cell? ⟨w.heap.size+1,1,none⟩=some (.slice B8 s.tin.length c8):=zc hh (by simp);have t2:w9.cell? ⟨w.heap.size+1,2,none⟩=some (.slice bS s.tout.length c12):=zc hh (by simp);refine bodyPost_ret (v:=.agg #[.slice Av s.cells.length cv,.slice B8 s.tin.length c8,.slice bS s.tout.length c12]) (by simp[results,Tryz.results79,go_sem,t0,t1,t2]) rfl ⟨_,rfl,?_,(zka HB1.out ae.out).trans (hch.below (zka HB1.out ae.out).size fun b e=>by omega)⟩;have hrw:=bO.out.chg hch (fun i b hb e=>by have:=(bO.out.lt i b hb).1;omega);rw[<-rP.out,<-rO.out] at hrw;exact⟨_,_,_,_,rfl,hrw.mono (by omega),HI.out⟩
 ·right
  have au:=HC.out;have hcc:(l5=true->l2=true)/\(l6=true->l2=true/\l5=true):=⟨au.1,fun h=>(au.2.1 h).2⟩
  refine⟨f-1,?_,?_,?_⟩
  ·clear HC au HRW HU ha ae hcc;subst hf;revert hall;revert l2 l5 l6 l7
   decide
  ·clear HC au HRW HU ha ae hf;revert hall hcc;revert l2 l5 l6 l7
   decide +kernel
  intro i hi;have hcase:(i=2/\l2=false)\/(i=5/\l5=false/\l2=true)\/(i=6/\l6=false/\l2=true/\l5=true)\/(i=7/\l7=false):=by
   refine of_decide_eq_true ((List.all_eq_true (p:=fun i=>decide ((i=2/\l2=false)\/(i=5/\l5=false/\l2=true)\/(i=6/\l6=false/\l2=true/\l5=true)\/(i=7/\l7=false)))).1 ?_ i hi);clear HC au HRW HU ha ae hf hi;revert hall hcc;revert l2 l5 l6 l7
   decide +kernel
  clear hi hall;subst ha hA;rcases hcase with⟨rfl,rfl⟩|⟨rfl,rfl,rfl⟩|⟨rfl,rfl,rfl,rfl⟩|⟨rfl,rfl⟩
  ·refine wpOp_step rfl (fun K' aG=>?_);have hK:=zh aG;clear aG;have hsz:=ae.out.size;have had:Calls Tryz.prog 49 [.slice B s.tin.length d].toArray wr fun e w'=>∃ v,e=.returned v/\(w'.ownsRow wr.heap.size 3 1 v s.tin.length (zkf s.tin)/\Below wr.heap.size wr w') :=
    (zkC s.tin B d Any wr (HR2.out.later ae.out) HL.out.2.2.1).mono fun e w' ⟨v,h1,h2,_,h4⟩=>⟨v,h1,h2,h4⟩
   refine zkg (by rfl) (.func 49) [.tmp 7] _ (by rfl) 49 _ zml (by rfl) _ (by rfl) _ had ?_;rintro v' w' ⟨ho,hb⟩;obtain rfl:l6=false:=by
    rcases l6 with _|_
    ·rfl
    ·exact absurd (hcc.2 rfl).1 (by decide)
   obtain rfl:l5=false:=by
    rcases l5 with _|_
    ·rfl
    ·exact absurd (hcc.1 rfl) (by decide)
   have hrw:=HRW.out.upd (some .inp) (r:=⟨v',3,1,s.tin.length,zkf s.tin⟩) (Chg.of_below hb) (zlK ho hsz) (fun b hb=>.inr (ho.lt b hb).1);rw[k_2] at hrw;exact hK.out _ _ ⟨true,false,false,l7,_,v12,v13,v3,b3,(by subst hf;simp<;>omega),rfl,(by simp only[zQ]),zh (zka ae.out hb),zh hrw,zh ⟨fun h=>(by cases h),fun h=>(by cases h),au.2.2⟩,HU⟩
  ·refine wpOp_step rfl (fun K' aG=>?_);have hK:=zh aG;clear aG;have hsz:=ae.out.size;have had:Calls Tryz.prog 49 [.slice D s.tout.length e].toArray wr fun e w'=>∃ v,e=.returned v/\(w'.ownsRow wr.heap.size 3 1 v s.tout.length (zkf s.tout)/\Below wr.heap.size wr w') :=
    (zkC s.tout D e Any wr (HR3.out.later ae.out) HL.out.2.2.2).mono fun e w' ⟨v,h1,h2,_,h4⟩=>⟨v,h1,h2,h4⟩
   refine zkg (by rfl) (.func 49) [.tmp 10] _ (by rfl) 49 _ zml (by rfl) _ (by rfl) _ had ?_;rintro v' w' ⟨ho,hb⟩;obtain rfl:l6=false:=by
    rcases l6 with _|_
    ·rfl
    ·exact absurd (hcc.2 rfl).2 (by decide)
   have hrw:=HRW.out.upd (some .out) (r:=⟨v',3,1,s.tout.length,zkf s.tout⟩) (Chg.of_below hb) (zlK ho hsz) (fun b hb=>.inr (ho.lt b hb).1);rw[k_5] at hrw;exact hK.out _ _ ⟨true,true,false,l7,v8,_,v13,v3,b3,(by subst hf;simp<;>omega),rfl,(by simp only[zQ]),zh (zka ae.out hb),zh hrw,zh ⟨fun _=>rfl,fun h=>(by cases h),au.2.2⟩,HU⟩
  ·refine wpOp_step rfl (fun K' aG=>?_);have hK:=zh aG;clear aG;obtain⟨B8,c8,e8,-,-⟩:=zkb (HRW.out.row (some .inp));change v8=.slice B8 s.tin.length c8 at e8;obtain⟨bS,c12,e12,-,-⟩:=zkb (HRW.out.row (some .out));change v12=.slice bS s.tout.length c12 at e12;subst e8 e12;(try simp only[zQ]);go_simp;exact hK.out _ _ ⟨true,true,true,l7,_,_,_,v3,b3,(by subst hf;simp<;>omega),rfl,(by simp only[Act.put,zD,zE,zF]),ae,HRW,zh ⟨fun _=>rfl,fun _=>⟨rfl,rfl,rfl⟩,au.2.2⟩,HU⟩
  ·refine wpOp_step rfl (fun K' aG=>?_);have hK:=zh aG;clear aG;obtain rfl:=HU.out rfl;(try simp only[zQ]);go_simp;have hsz:=ae.out.size;have hrw:=HRW.out.upd none (r:=⟨boxV wr.heap.size,26,3,1,[.slice none 0 0,.slice none 0 0,.slice none 0 0]⟩) (W':=wr.alloc (.cells #[.slice none 0 0,.slice none 0 0,.slice none 0 0] 26)) (Chg.of_below (zkd (Below.refl _ _) _)) (zpT wr _ hsz _ _ _ _) (fun b hb=>.inr (by simp[Value.ownBlock] at hb;omega));rw[k_7] at hrw;exact hK.out _ _ ⟨l2,l5,l6,true,v8,v12,v13,_,wr.heap.size,(by subst hf;simp<;>omega),rfl,(by simp only[Act.put,zD,zE,zF]),zh (zkd ae.out _),zh hrw,zh ⟨au.1,au.2.1,fun _=>rfl⟩,zh (fun h=>(by cases h))⟩
def CH.nums (c:CH):List Value:=[.int .i64 c.cell,.int .i64 c.at',.int .i64 c.old,.int .i64 c.new]
def zk3 (l:List CH):List Value:=l.flatMap CH.nums
def CH.I (c:CH):Prop:=I64 c.cell/\I64 c.at'/\I64 c.old/\I64 c.new
def RowC (w:World) (S:Nat->Prop) (A:Option Addr) (l:List CH):Prop :=
 ∀ i (hi:i<l.length),∃ a:Addr,A=some a/\S a.block/\zpI w (a.add (i*4)) (.int .i64 l[i].cell) (.int .i64 l[i].at') (.int .i64 l[i].old) (.int .i64 l[i].new)
theorem RowC.keep {w w':World} {S S':Nat->Prop} {A:Option Addr} {l:List CH} (h:RowC w S A l) (hS:∀ b,S b->b<w.heap.size->S' b) (hk:∀ b,S b->b<w.heap.size->w'.heap[b]?=w.heap[b]?):RowC w' S' A l:=fun i hi=>by
 obtain⟨a,hA,eY,h0,h1,h2,h3⟩:=h i hi;have hlt:a.block<w.heap.size:=by have:=World.block_lt_of_cell? w _ h0;rwa[zkn] at this
 have hb:=hk _ eY hlt;refine⟨a,hA,hS _ eY hlt,zkG h0 ?_,zkG h1 ?_,zkG h2 ?_,zkG h3 ?_⟩<;>simp only[zkn]<;>exact hb
theorem RowC.later {w w':World} {S:Nat->Prop} {A:Option Addr} {l:List CH} (h:RowC w S A l) (hb:Below w.heap.size w w'):RowC w' S A l:=h.keep (fun _ hb _=>hb) fun b _ hlt=>hb.block b hlt
def EvR (w:World) (n0:Nat) (O:Nat->Prop) (v:Value) (es:List (List CH)):Prop :=
 ∃ xs,w.ownsRow n0 55 1 v es.length xs/\(∀ b,v.ownBlock=some b->O b)/\∀ i (hi:i<es.length),∃ A c,xs[i]?=some (.slice A es[i].length c)/\es[i].length<=c/\RowC w (fun b=>O b/\v.ownBlock≠some b) A es[i]
structure TC where
 w:World
 n0:Nat
 sb:Nat
 tb:Nat
 p:PG
 A1:Option Addr
 c1:Nat
 A2:Option Addr
 c2:Nat
 A3:Option Addr
 c3:Nat
 s0:SS
 kb:Nat->Prop
structure TC.Ok (C:TC):Prop where
 pg:PgR C.w Any C.p C.A1 C.c1 C.A2 C.c2 C.A3 C.c3
 tb:C.n0<=C.tb/\¬ C.kb C.tb
 ps:∀ q∈C.p.prs,q.ps.length<=1000
def TC.cells (C:TC) (v1 v2 v3 ev:Value):Array Value := #[.slice C.A1 C.p.vs.length C.c1,.slice C.A2 C.p.prs.length C.c2,.int .u8 C.p.m.k,.int .i64 C.p.m.n,.string C.p.m.s,.slice C.A3 C.p.m.ks.length C.c3,.pointer (some ⟨C.sb,0,none⟩),v1,v2,v3,ev]
def TX (C:TC) (W:World) (S:ST) (L:List SS):Prop :=
 ∃ (O:Nat->Prop) (v1 v2 v3 ev:Value),KS C.w C.n0 C.sb (fun b=>C.kb b\/b=C.tb\/O b) W S/\(∀ b,O b->C.n0<=b/\¬ C.kb b/\b≠C.tb)/\W.heap[C.tb]?=some (.cells (C.cells v1 v2 v3 ev) 119 (0,0)) /\
  SV W (fun b=>O b/\ev.ownBlock≠some b) (zk6 C.s0 L) (.agg #[v1,v2,v3])/\EvR W C.n0 O ev (evsE C.s0 L)/\(zk6 C.s0 L).Sm/\L.length<=1000000
structure TI (C:TC) (W:World) (S:ST) (L:List SS):Prop where
 ex:TX C W S L
 fb:FB L.length S
theorem zlo {w w':World} {base:Nat} {E:TypeId} {size:Nat} {v:Value} {n:Nat} {xs:List Value} (h:w.ownsRow base E size v n xs) (hk:∀ b,v.ownBlock=some b->w'.heap[b]?=w.heap[b]?):w'.ownsRow base E size v n xs:=by
 obtain⟨e1,h2⟩:=h;refine⟨e1,?_⟩;rcases h2 with h2|⟨g,cap,cur,rfl,h3,hg,h4⟩
 ·exact .inl h2
 ·exact .inr ⟨g,cap,cur,rfl,h3,(hk g rfl).trans hg,h4⟩
def TrP (C:TC) (W:World) (S:ST) (L:List SS) (W':World):Prop:=Kpt C.n0 C.kb W W'/\Below C.w.heap.size C.w W'/\TI C W' S L
section
variable {C:TC} {W W':World} {S:ST} {L:List SS}
theorem TX.ks (h:TX C W S L):KS C.w C.n0 C.sb (fun b=>C.kb b\/b=C.tb) W S:=by
 obtain⟨O,v1,v2,v3,ev,h1,-⟩:=h;exact h1.less fun b hb=>hb.elim .inl fun h=>.inr (.inl h)
theorem TI.below (h:TI C W S L):Below C.w.heap.size C.w W:=h.ex.ks.bl
theorem EvR.later {n0:Nat} {O:Nat->Prop} {v:Value} {es:List (List CH)} (h:EvR W n0 O v es) (hb:Below W.heap.size W W'):EvR W' n0 O v es:=by
 obtain⟨xs,h1,h2,h3⟩:=h;refine⟨xs,zkt h1 hb,h2,fun i hi=>?_⟩;obtain⟨A,c,e1,e2,e3⟩:=h3 i hi;exact⟨A,c,e1,e2,e3.later hb⟩
theorem TX.later (h:TX C W S L) (hb:Below W.heap.size W W'):TX C W' S L:=by
 obtain⟨O,v1,v2,v3,ev,h1,h2,h3,h4,h5,h6⟩:=h;exact⟨O,v1,v2,v3,ev,h1.later hb,h2,zkc h3 hb,h4.later hb,h5.later hb,h6⟩
theorem TX.cells (h:TX C W S L):W.cell? ⟨C.tb,6,none⟩=some (.pointer (some ⟨C.sb,0,none⟩))/\∀ o,W.frozen? ⟨C.tb,o,none⟩=false:=by
 obtain⟨O,v1,v2,v3,ev,h1,h2,h3,h4,h5,-⟩:=h;exact⟨zc h3 rfl,fun _=>zf h3⟩
theorem TX.kb_lt (h:TX C W S L) {b:Nat} (hb:C.kb b\/b=C.tb):b<W.heap.size:=by
 obtain⟨P,-,-,hk⟩:=h.ks.sr;exact(hk b hb).1
def TC.plus (C:TC) (lo hi:Nat):TC:={ C with kb:=fun b=>C.kb b\/(lo<=b/\b<hi) }
theorem TI.plus (hC:C.Ok) (h:TI C W S L) (hb:Below W.heap.size W W'):(C.plus W.heap.size W'.heap.size).Ok/\TI (C.plus W.heap.size W'.heap.size) W' S L:=by
 have hlt:=h.ex.kb_lt (.inr rfl);obtain⟨O,v1,v2,v3,ev,h1,h2,h3,h4,h5,h6⟩:=h.ex;obtain⟨P,-,-,hk⟩:=h1.sr;refine⟨⟨hC.pg,⟨hC.tb.1,fun hh=>?_⟩,hC.ps⟩,⟨⟨O,v1,v2,v3,ev,h1.also hb fun b hh=>?_,fun b hh=>⟨(h2 b hh).1,fun hk2=>?_,(h2 b hh).2.2⟩,zkc h3 hb,h4.later hb,h5.later hb,h6⟩,h.fb⟩⟩
 ·rcases hh with hh|hh
  ·exact hC.tb.2 hh
  ·have hh:W.heap.size<=C.tb/\C.tb<W'.heap.size:=hh;omega
 ·rcases hh with(hh|hh)|hh
  ·exact .inl (.inl hh)
  ·exact .inr hh
  ·exact .inl (.inr hh)
 ·rcases hk2 with hk2|hk2
  ·exact(h2 b hh).2.1 hk2
  ·have:=(hk b (.inr (.inr hh))).1;have hk2:W.heap.size<=b/\b<W'.heap.size:=hk2;omega
theorem TI.less {lo hi:Nat} (h:TI (C.plus lo hi) W S L):TI C W S L:=by
 obtain⟨O,v1,v2,v3,ev,h1,h2,h3,h4,h5,h6⟩:=h.ex;refine⟨⟨O,v1,v2,v3,ev,h1.less fun b hh=>?_,fun b hh=>⟨(h2 b hh).1,fun hk=>(h2 b hh).2.1 (.inl hk),(h2 b hh).2.2⟩,h3,h4,h5,h6⟩,h.fb⟩;rcases hh with hh|hh
 ·exact .inl (.inl hh)
 ·exact .inr hh
end
theorem zlr {ops:Array Oper} {rest:List Oper} {o:Oper} {a:Act} {W:World} {Q:Exit->Act->World->Prop} (hgd:o.guard=none) (s x:Operand)
  (ho:o.op=.call { callee:=.builtin .append,args := #[s,x],argTypes := #[24,24] }) (base:Nat) (v:Value) (n:Nat) (xs:List Value) (hs:a.eval s=v) (hrow:W.ownsRow base 3 1 v n xs)
  (A:Option Addr) (l:List Int) (c:Nat) (hx:a.eval x=.slice A l.length c) (hr:RowI W Any A l) (hl:n+l.length<=17592186044416) (hb:base<=W.heap.size)
  (h:∀ v' w',w'.ownsRow base 3 1 v' (n+l.length) (xs++zkf l)->W.grownBy w' v.ownBlock->(v'.ownBlock=v.ownBlock\/v'.ownBlock=some W.heap.size)->wpList Tryz.prog ops Q rest (a.put o.dst v') w') :
  wpList Tryz.prog ops Q (o::rest) a W:=by
 obtain⟨i,hi,hz0,hz1,hz2⟩:=info_parts zmX;rcases A with _|ad
 ·have hl0:l=[]:=by
   rcases l with _|⟨y,l⟩
   ·rfl
   ·obtain⟨_,h0,_⟩:=hr 0 (by simp);cases h0
  subst hl0;refine wpList_plain hgd fun K hK=>?_;have hrun:(Builtin.append_ #[24,24] o.type #[v,.slice none 0 c]).run Tryz.prog W=.ok v W:=by
   rcases hrow.2 with⟨rfl,h0⟩|⟨g,cap,cur,rfl,_,_,hnc,_⟩
   ·simp[Builtin.append_,run_underlying Tryz.underlying24,sizeOf,typeInfo,hi,Builtin.lenOf,Builtin.firstCells]
   ·simp[Builtin.append_,run_underlying Tryz.underlying24,sizeOf,typeInfo,hi,Builtin.lenOf,Builtin.firstCells,hnc,storeCells]
  unfold Oper.wp execOp;simp only[ho,resolve,invoke,builtin,Sem.run_bind,Sem.run_pure,Result.andThen_ok,List.map_toArray,List.map_cons,List.map_nil,hs,hx,List.length_nil,hrun];exact hK _ _ (h v W (by simpa[zkf] using hrow) (zmF _ _) (.inl rfl))
 ·refine wpList_append_own_at (P:=Tryz.prog) _ hgd s x 24 ho base 3 i _ 1 8 Tryz.underlying24 hi hz0 hz1 hz2 rfl (by decide) v n xs hs hrow ad l.length c (zkf l) hx (by simp[zkf]) (fun j u hj=>?_) (fun u hu=>?_) (by unfold maxLen;omega) (by omega) hb (fun v' w' h1 h2 _ h4=>h v' w' h1 h2 h4)
  ·have hjl:j<l.length:=by have:=(List.getElem?_eq_some_iff.1 hj).1;simpa[zkf] using this
   obtain⟨a',h0,_,h2,_⟩:=hr j hjl;injection h0 with h0;subst h0;rw[h2];simp[zkf,hjl] at hj ⊢;exact hj
  ·simp only[zkf,List.mem_map] at hu;obtain⟨y,_,rfl⟩:=hu;rfl
def revI (xs:List Int) (i:Nat):List Int:=(List.range xs.length).map fun k=>if k<i\/xs.length-i<=k then xs.getD (xs.length-1-k) 0 else xs.getD k 0
theorem zlI (xs:List Int) (i:Nat):(revI xs i).length=xs.length:=by simp[revI]
theorem zmf (xs:List Int) (i:Nat) {k:Nat} (h:k<xs.length):(revI xs i)[k]'(by rw[zlI];exact h)=if k<i\/xs.length-i<=k then xs.getD (xs.length-1-k) 0 else xs.getD k 0:=by simp[revI]
theorem zre (xs:List Int):revI xs 0=xs:=by
 refine List.ext_getElem (zlI _ _) fun k h1 h2=>?_;rw[zmf xs 0 h2,if_neg (by omega),List.getD_eq_getElem?_getD,List.getElem?_eq_getElem h2];rfl
theorem zrf (xs:List Int) {i:Nat} (h:i<xs.length-1-i):((revI xs i).set i (xs.getD (xs.length-1-i) 0)).set (xs.length-1-i) (xs.getD i 0)=revI xs (i+1):=by
 refine List.ext_getElem (by simp[zlI]) fun k h1 h2=>?_;have hk:k<xs.length:=by rw[zlI] at h2;exact h2
 rw[zmf xs (i+1) hk,List.getElem_set,List.getElem_set];by_cases e1:xs.length-1-i=k
 ·rw[if_pos e1,if_pos (by omega),<-e1];congr 1;omega
 ·rw[if_neg e1];by_cases e2:i=k
  ·rw[if_pos e2,if_pos (by omega),e2]
  ·rw[if_neg e2,zmf xs i hk];by_cases e3:k<i\/xs.length-i<=k
   ·rw[if_pos e3,if_pos (by omega)]
   ·rw[if_neg e3,if_neg (by omega)]
theorem zsH (xs:List Int) {i:Nat} (h:¬ (i:Int)<(xs.length:Int)-1-i) (hi:(i:Int)<=(xs.length:Int)-i):revI xs i=xs.reverse:=by
 refine List.ext_getElem (by simp[zlI]) fun k h1 h2=>?_;have hk:k<xs.length:=by rw[zlI] at h1;exact h1
 have hr:xs.reverse[k]=xs.getD (xs.length-1-k) 0:=by
  rw[List.getElem_reverse,List.getD_eq_getElem?_getD,List.getElem?_eq_getElem (by omega)];rfl
 rw[zmf xs i hk,hr]
 split
 ·rfl
 ·rw[show xs.length-1-k=k by omega]
def oneI (v:Value) (l:List Int):Unit->RowD:=fun _=>⟨v,3,1,l.length,zkf l⟩
theorem zmi {W:World} {n0:Nat} {v:Value} {l:List Int} (h:W.ownsRow n0 3 1 v l.length (zkf l)):Rws W n0 (oneI v l):=⟨fun _=>h,fun i j b hij=>absurd rfl hij⟩
theorem zor {W:World} {n0 g:Nat} {v:Value} {l:List Int} (h:Rws W n0 (oneI v l)) (hg:v.ownBlock=some g) {o:Nat} (ho:o<l.length) (x:Int):Rws (W.setCell ⟨g,o,none⟩ (.int .i64 x)) n0 (oneI v (l.set o x)):=by
 have:=h.set () hg (o:=o) (by simp[oneI,zkf,ho]) (.int .i64 x);refine⟨fun _=>?_,fun i j b hij=>absurd rfl hij⟩;have h2:=this.row ();simp only[zkE] at h2;have e:(oneI v (l.set o x)) ()=⟨v,3,1,l.length,(zkf l).set o (.int .i64 x)⟩:=by simp[oneI,zkf,List.map_set]
 rw[e];exact h2
theorem zlv {W:World} {n0 g:Nat} {v:Value} {l:List Int} (h:Rws W n0 (oneI v l)) (hg:v.ownBlock=some g) {o:Nat} (ho:o<l.length):W.cell? ⟨g,o,none⟩=some (.int .i64 (l.getD o 0))/\W.frozen? ⟨g,o,none⟩=false :=
 ⟨h.cell () hg (by simp[oneI,zkf,ho,List.getD_eq_getElem?_getD]),h.frozen () hg o⟩
theorem znO {n0:Nat} {v:Value} {xs:List Int} (w:World) (h:w.ownsRow n0 3 1 v xs.length (zkf xs)) (hl:xs.length<=LI):Calls Tryz.prog 71 #[v] w fun e w' =>
  (∃ u,e=.returned u)/\w'.ownsRow n0 3 1 v xs.reverse.length (zkf xs.reverse)/\Chg (fun b=>v.ownBlock=some b) w w':=by
 have hl':=zmO hl;obtain⟨A,c,rfl,hlc,-⟩:=zkb h;have HR:=zh (show Rws w n0 (oneI (.slice A xs.length c) (revI xs 0)) by rw[zre];exact zmi h);have HG:=zh (show 0<xs.length->∃ g,A=some ⟨g,0,none⟩ from fun h0=>by
  rcases h.2 with⟨e1,e2⟩|⟨g,cap,cur,e1,-⟩
  ·omega
  ·injection e1 with e1;exact⟨g,e1⟩)
 have hwn:IntKind.i64.wrap ((xs.length:Int)-1)=(xs.length:Int)-1:=IntWalk.i64_in _ (by omega);clear h;go_enter Tryz.func71,Tryz.ntmps71;go_wp2_with fail
 go_loopw [2,3] (fun i j wr=>∃ k:Nat,i=.int .i64 k/\j=.int .i64 ((xs.length:Int)-1-k)/\Hid ((k:Int)<=(xs.length:Int)-k)/\Hid (Rws wr n0 (oneI (.slice A xs.length c) (revI xs k)))/\Hid (Chg (fun b=>(Value.slice A xs.length c).ownBlock=some b) w wr)) (fun i j _=>xs.length-(intOf i).toNat)
 case atStart=>exact⟨0,rfl,by simp,zh (by omega),HR,zh (Chg.refl _ _)⟩
 case round =>
  obtain⟨k,rfl,rfl,HKL,oN,aJ⟩:=hrel;by_cases hlt:(k:Int)<(xs.length:Int)-1-k
  ·have hkl:=HKL.out;obtain⟨g,rfl⟩:=HG.out (by omega);have hj:k<xs.length-1-k:=by omega
   have tJ:((xs.length-1-k:Nat):Int)=(xs.length:Int)-1-k:=by omega
   obtain⟨j,hjj⟩:∃ j:Nat,xs.length-1-k=j:=⟨_,rfl⟩
   rw[hjj] at tJ hj;rw[<-tJ] at hlt ⊢;have hstep:=zrf xs (i:=k) (by omega);rw[hjj] at hstep;have hki:k<(revI xs k).length:=by rw[zlI];omega
   have hji:j<(revI xs k).length:=by rw[zlI];omega
   have hg:(Value.slice (some ⟨g,0,none⟩) xs.length c).ownBlock=some g:=rfl;obtain⟨p0,p1⟩:=zlv oN.out hg hki;obtain⟨q0,q1⟩:=zlv oN.out hg hji;have ek:(revI xs k).getD k 0=xs.getD k 0:=by rw[List.getD_eq_getElem?_getD,List.getElem?_eq_getElem hki,Option.getD_some,zmf xs k (by omega),if_neg (by omega)]
   have ej:(revI xs k).getD j 0=xs.getD j 0:=by rw[List.getD_eq_getElem?_getD,List.getElem?_eq_getElem hji,Option.getD_some,zmf xs k (by omega),if_neg (by omega)]
   rw[ek] at p0;rw[ej] at q0;obtain⟨x,hx⟩:∃ x,xs.getD k 0=x:=⟨_,rfl⟩
   obtain⟨y,hy⟩:∃ y,xs.getD j 0=y:=⟨_,rfl⟩
   rw[hx] at p0 hstep;rw[hy] at q0 hstep;have hk1:(k:Int)<(xs.length:Int):=by omega
   have hj1:(j:Int)<(xs.length:Int):=by omega
   have hk0:(0:Int)<=(k:Int):=by omega
   have hj0:(0:Int)<=(j:Int):=by omega
   have s1:=zor oN.out hg hki y;have s2:=zor s1 hg (o:=j) (by rw[List.length_set];exact hji) x;rw[hstep] at s2;have hne:k≠j:=by omega
   obtain⟨r0,r1⟩:=zlv s1 hg (o:=j) (by rw[List.length_set];exact hji);have HS2:=zh s2;have hc2:=(aJ.out.setCell (p:=⟨g,k,none⟩) (.inl rfl) (.int .i64 y)).setCell (p:=⟨g,j,none⟩) (.inl rfl) (.int .i64 x);have fH:=zh hc2;have HEJ:=zh tJ;have HJJ:=zh hjj;clear s1 s2 hstep oN hki hji ek ej hc2 tJ hjj;go_upto_region 3 with fail;have hSS:(fun _:World=>True) wr.drew/\(fun w':World=>w'.cell? ⟨g,k,none⟩=some (.int .i64 x)/\w'.cell? ⟨g,j,none⟩=some (.int .i64 y)) wr.drew:=⟨trivial,p0,q0⟩
   refine wp_region_noPanic ?_;refine zke (fun _:World=>True) (fun w':World=>w'.cell? ⟨g,k,none⟩=some (.int .i64 x)/\w'.cell? ⟨g,j,none⟩=some (.int .i64 y)) 13 (by kernel_rfl) ?_;refine zT 0 hSS ?_;(try simp only[zQ]);refine zT 1 hSS ?_;(try simp only[zQ]);refine zT 2 hSS ?_;(try simp only[zQ]);refine zT 3 hSS ?_;(try simp only[zQ]);refine zT 4 hSS ?_;(try simp only[zQ]);refine zT 5 hSS ?_;(try simp only[zQ]);refine zT 6 hSS ?_;(try simp only[zQ]);refine zkO (i:=7) (v:=?_) rfl (by kernel_rfl) (by kernel_rfl) (by kernel_rfl) (by decide) rfl (by kernel_rfl) (by kernel_rfl) (fun _ _ _ h=>h) (Or.inl ⟨by rfl,?_⟩) hSS ?_;rotate_left 1
   ·(intro w hSw;(try dsimp only at hSw);(try simp only[zA,zB,zC]);go_simp;(try with_reducible rfl))
   (try simp only[zQ]);refine zT 8 hSS ?_;(try simp only[zQ]);refine zT 9 hSS ?_;(try simp only[zQ]);refine zT 10 hSS ?_;(try simp only[zQ]);refine zkO (i:=11) (v:=?_) rfl (by kernel_rfl) (by kernel_rfl) (by kernel_rfl) (by decide) rfl (by kernel_rfl) (by kernel_rfl) (fun _ _ _ h=>h) (Or.inl ⟨by rfl,?_⟩) hSS ?_;rotate_left 1
   ·(intro w hSw;(try dsimp only at hSw);(try simp only[zA,zB,zC]);go_simp;(try with_reducible rfl))
   (try simp only[zQ]);have qQ:wr.drew.frozen? ⟨g,k,none⟩=false:=p1;have qR:wr.drew.cell? ⟨g,k,none⟩=some (.int .i64 x):=p0;refine zo 12 fun K hK=>?_;(try simp only[zA,zB,zC]);go_simp;refine hK.out _ _ hSS ?_;clear hK K;(try simp only[zQ]);refine zp 13 fun K hK=>?_;(try simp only[zA,zB,zC]);go_simp;refine hK.out _ _ trivial ?_;clear hK K hSS;(try simp only[zQ]);have r0':(wr.drew.setCell ⟨g,k,none⟩ (.int .i64 y)).cell? ⟨g,j,none⟩=some (.int .i64 (((revI xs k).set k y).getD j 0)):=r0;have r1':(wr.drew.setCell ⟨g,k,none⟩ (.int .i64 y)).frozen? ⟨g,j,none⟩=false:=r1;refine zp 14 fun K hK=>?_;(try simp only[zA,zB,zC]);go_simp;refine hK.out _ _ trivial ?_;clear hK K;(try simp only[zQ]);refine zp 15 fun K hK=>?_;(try simp only[zA,zB,zC]);go_simp;refine hK.out _ _ trivial ?_;clear hK K;(try simp only[zQ]);refine zd ?_;refine NoPanic.normal ?_;clear p0 p1 q0 q1 r0 r1 qR qQ r0' r1'
   go_wp2_with fail
   go_roundw
   case rel=>exact⟨k+1,by go_num,by have:=HEJ.out;have:=HJJ.out;simp;omega,zh (by have:=HEJ.out;omega),zh (HS2.out.later (Below.refl _ _).drew),zh ⟨fH.out.os,fH.out.tape,fH.out.output,fH.out.size,fH.out.block⟩⟩
   case measure=>simp[intOf];omega
  ·have hrev:=zsH xs hlt HKL.out;have bO:=zh (oN.out.row ());go_wp2_with fail;go_end0;refine⟨⟨_,rfl⟩,?_,aJ.out⟩;have:=bO.out;rw[hrev] at this;simpa[oneI] using this
theorem zoE (x:Int) (w:World):(Instr.buildSlice 24 1 #[(0,.int .i64 x)]).run Tryz.prog w=.ok (.slice (some ⟨w.heap.size,0,none⟩) 1 1) (w.alloc (.cells #[.int .i64 x] 3)):=by kernel_rfl
theorem zlL (n:Nat) (hn:n<=5864062014800) (w:World):Calls Tryz.prog 68 #[.int .i64 (n:Int)] w fun e w' =>
  ∃ v,e=.returned v/\w'.ownsRow w.heap.size 3 1 v (zkl n).length (zkf (zkl n))/\Below w.heap.size w w':=by
 have h1:=zoE;have h2:=bI2;go_enter Tryz.func68,Tryz.ntmps68;go_wp2_with fail
 go_loopw [3,6] (fun v i wr=>∃ j:Nat,j<=n/\i=.int .i64 j/\(∃ A c,v=.slice A j c)/\Hid (wr.ownsRow w.heap.size 3 1 v j (zkf ((List.range j).map Int.ofNat)))/\Hid (Below w.heap.size w wr)) (fun _ i _=>n-(intOf i).toNat)
 case atStart=>exact⟨0,Nat.zero_le _,rfl,⟨none,0,rfl⟩,zh (World.ownsRow_nil w _ _ _),zh (Below.refl _ _)⟩
 case round =>
  obtain⟨j,hj,rfl,⟨A,c,rfl⟩,HO,HB⟩:=hrel;by_cases hlt:j<n
  ·have hj1:(j:Int)<(n:Int):=by omega
   have hbz:=zkd (Below.refl wr.heap.size wr) (.cells #[.int .i64 (j:Int)] 3);have hrow:=zkt HO.out hbz;have aL:RowI (wr.alloc (.cells #[.int .i64 (j:Int)] 3)) Any (some ⟨wr.heap.size,0,none⟩) [(j:Int)]:=zm9 (xs:=[(j:Int)]) (heap_alloc_new wr _) (by intro x hx;simp at hx;subst hx;exact⟨by omega,by omega⟩);have hln:j+1<=5864062014801:=by omega
   have hsz:w.heap.size<=(wr.alloc (.cells #[.int .i64 (j:Int)] 3)).heap.size:=Nat.le_trans HB.out.size hbz.size;have HX:=zh (show ∀ v' w',w'.ownsRow w.heap.size 3 1 v' (j+[(j:Int)].length) (zkf ((List.range j).map Int.ofNat)++zkf [(j:Int)])->(wr.alloc (.cells #[.int .i64 (j:Int)] 3)).grownBy w' (Value.slice A j c).ownBlock->(∃ A c,v'=.slice A (j+1) c)/\w'.ownsRow w.heap.size 3 1 v' (j+1) (zkf ((List.range (j+1)).map Int.ofNat))/\Below w.heap.size w w' from fun v' w' ho hg=>by
    have hx:=(Chg.row hg).below (B:=w.heap.size) hsz (fun b e=>(HO.out.lt b e).1);have e:zkf ((List.range j).map Int.ofNat)++zkf [(j:Int)]=zkf ((List.range (j+1)).map Int.ofNat):=by rw[<-zlx,List.range_succ,List.map_append];rfl
    rw[e] at ho;obtain⟨A',c',e',-⟩:=zkb ho;exact⟨⟨A',c',e'⟩,ho,(zka HB.out hbz).trans hx⟩)
   go_wp2_with (at_builtin;refine zlr rfl (.tmp 9) (.tmp 11) rfl w.heap.size (.slice A j c) j (zkf ((List.range j).map Int.ofNat)) rfl hrow (some ⟨wr.heap.size,0,none⟩) [(j:Int)] 1 rfl aL (by simp;omega) hsz ?_;intro v' w' ho hg ak;obtain⟨⟨A',c',rfl⟩,ho2,hb2⟩:=HX.out _ _ ho hg;clear ho hg ak)
   exact⟨⟨j+1,by omega,by go_num,⟨A',c',rfl⟩,zh ho2,zh hb2⟩,by simp[intOf];omega⟩
  ·obtain rfl:j=n:=by omega
   have hj1:¬ (j:Int)<(j:Int):=by omega
   have hbz:=zkd (Below.refl wr.heap.size wr) (.cells #[.int .i64 (-1),.int .i64 (-2)] 3);have hrow:=zkt HO.out hbz;have aL:RowI (wr.alloc (.cells #[.int .i64 (-1),.int .i64 (-2)] 3)) Any (some ⟨wr.heap.size,0,none⟩) [-1,-2]:=zm9 (xs:=[-1,-2]) (heap_alloc_new wr _) (by intro x hx;simp at hx;rcases hx with rfl|rfl<;>exact⟨by decide,by decide⟩);have hln:j+2<=5864062014802:=by omega
   have hsz:w.heap.size<=(wr.alloc (.cells #[.int .i64 (-1),.int .i64 (-2)] 3)).heap.size:=Nat.le_trans HB.out.size hbz.size;have HX:=zh (show ∀ v' w',w'.ownsRow w.heap.size 3 1 v' (j+[(-1:Int),-2].length) (zkf ((List.range j).map Int.ofNat)++zkf [-1,-2])->(wr.alloc (.cells #[.int .i64 (-1),.int .i64 (-2)] 3)).grownBy w' (Value.slice A j c).ownBlock->w'.ownsRow w.heap.size 3 1 v' (zkl j).length (zkf (zkl j))/\Below w.heap.size w w' from fun v' w' ho hg=>by
    have hx:=(Chg.row hg).below (B:=w.heap.size) hsz (fun b e=>(HO.out.lt b e).1);rw[<-zlx] at ho;have el:(zkl j).length=j+[(-1:Int),-2].length:=by simp[zkl]
    rw[el];exact⟨ho,(zka HB.out hbz).trans hx⟩)
   go_wp2_with (at_builtin;refine zlr rfl (.tmp 14) (.tmp 15) rfl w.heap.size (.slice A j c) j (zkf ((List.range j).map Int.ofNat)) rfl hrow (some ⟨wr.heap.size,0,none⟩) [-1,-2] 2 rfl aL (by simp;omega) hsz ?_;intro v' w' ho hg ak;obtain⟨ho2,hb2⟩:=HX.out _ _ ho hg;clear ho hg ak)
   go_ret;exact⟨_,rfl,ho2,hb2⟩
theorem zlz (l:List Int) (A:Option Addr) (c:Nat) (i:Nat) (w:World) (hr:RowI w Any A l) (hl:l.length<=LI):Calls Tryz.prog 120 #[.slice A l.length c,.int .i64 (i:Int)] w fun e w'=>e=.returned (.int .i64 (l.getD i 0))/\w'=w:=by
 have hl':=zmO hl;by_cases h:i<l.length
 ·obtain⟨a,rfl,h0⟩:=hr.nd h;have hi:(i:Int)<(l.length:Int):=by omega
  have hi0:(0:Int)<=(i:Int):=by omega
  obtain⟨x,hx⟩:∃ x,l.getD i 0=x:=⟨_,rfl⟩
  rw[hx] at h0 ⊢;clear hr;go_enter Tryz.func120,Tryz.ntmps120;go_wp2_with fail;go_ret;exact⟨rfl,rfl⟩
 ·have hi:¬ (i:Int)<(l.length:Int):=by omega
  have e:l.getD i 0=0:=by rw[List.getD_eq_getElem?_getD,List.getElem?_eq_none (by omega)];rfl
  rw[e];clear hr;go_enter Tryz.func120,Tryz.ntmps120;go_wp2_with fail;go_ret;exact⟨rfl,rfl⟩
theorem zma (A B D:Option Addr) (l c m d n e:Nat) (w:World):Calls Tryz.prog 67 #[.agg #[.slice A l c,.slice B m d,.slice D n e]] w fun e' w' =>
  e'=.returned (.func (.func 119) #[] #[.pointer (some ⟨w.heap.size,0,none⟩)])/\w'=w.alloc (.cells #[.slice A l c,.slice B m d,.slice D n e] 26):=by
 have uL:∀ (fn:Fn) (first cap:Array Value) (w:World),(Instr.makeFunc fn first cap).run Tryz.prog w=.ok (.func fn first cap) w:=fun _ _ _ _=>rfl;go_enter Tryz.func67,Tryz.ntmps67;go_wp2_with fail;go_ret;exact⟨rfl,rfl⟩
def zr1 (s:SS) (cc:Int) (w:World) (e:Ending) (w':World):Prop:=∃ v,e=.returned v/\w'.ownsRow w.heap.size 3 1 v (part s cc).length (zkf (part s cc))/\Below w.heap.size w w'
theorem zlU (s:SS) (A B D:Option Addr) (c d e b:Nat) (cc:Int) (w:World) (hb:w.heap[b]?=some (.cells #[.slice A s.cells.length c,.slice B s.tin.length d,.slice D s.tout.length e] 26 (0,0))) (hs:SV w Any s (.agg #[.slice A s.cells.length c,.slice B s.tin.length d,.slice D s.tout.length e])) (hc:cc∈zkl s.cells.length) :
  Calls Tryz.prog 119 #[.int .i64 cc,.pointer (some ⟨b,0,none⟩)] w (zr1 s cc w):=by
 obtain⟨A2,c2,B2,d2,D2,e2,he,r1,r2,r3,l1,l2,l3,m1,m2,m3,m4⟩:=hs;injection he with he;simp only[Array.mk.injEq,List.cons.injEq,Value.slice.injEq,and_true,true_and] at he;obtain⟨⟨rfl,rfl⟩,⟨rfl,rfl⟩,⟨rfl,rfl⟩⟩:=he;obtain⟨x0,x1,x2⟩:=zlp hb;by_cases h1:cc = -1
 ·subst h1;have aQ:=zh (zkC s.tin B d Any w r2 m3);have hp:part s (-1)=s.tin.reverse:=by unfold part;rw[if_pos rfl]
  unfold zr1;rw[hp];clear hb r1 r2 r3 hp;go_enter Tryz.func119,Tryz.ntmps119;go_wp2_with fail;refine aQ.out.mono ?_;rintro e1 w1 ⟨v1,rfl,ho1,hf1,hb1⟩;have tQ:=zh (znO (n0:=w.heap.size) (v:=v1) (xs:=s.tin) w1 (by simpa[zkf] using ho1) m3);have mW:=zh ho1;have HB1:=zh hb1;obtain⟨A1,k1,rfl,-⟩:=zkb ho1;clear ho1 hb1 hf1 x0 x1 x2 aQ;go_wp2_with fail;refine tQ.out.mono ?_;rintro e2' w2 ⟨⟨u,rfl⟩,ho2,hc2⟩;have rV:=zh ho2;have HB2:=zh (HB1.out.trans (hc2.below HB1.out.size fun b e=>(mW.out.lt b e).1));clear ho2 hc2;go_wp2_with fail;go_ret;exact⟨_,rfl,rV.out,HB2.out⟩
 ·by_cases h2:cc = -2
  ·subst h2;have aQ:=zh (zkC s.tout D e Any w r3 m4);have hp:part s (-2)=s.tout:=by unfold part;rw[if_neg (by omega),if_pos rfl]
   unfold zr1;rw[hp];clear hb r1 r2 r3 hp;go_enter Tryz.func119,Tryz.ntmps119;go_wp2_with fail;refine aQ.out.mono ?_;rintro e1 w1 ⟨v1,rfl,ho1,hf1,hb1⟩;have mW:=zh ho1;have HB1:=zh hb1;clear ho1 hb1 hf1 x0 x1 x2 aQ;go_wp2_with fail;go_ret;exact⟨_,rfl,by simpa[zkf] using mW.out,HB1.out⟩
  ·obtain⟨i,hi,rfl⟩:∃ i:Nat,i<s.cells.length/\cc=(i:Int):=by
    unfold zkl at hc;rcases List.mem_append.1 hc with h|h
    ·obtain⟨i,hi,rfl⟩:=List.mem_map.1 h;exact⟨i,List.mem_range.1 hi,rfl⟩
    ·simp at h;omega
   obtain⟨a,A',c',rfl,-,h0,hcl,hr⟩:=r1 i hi;have aQ:=zh (zkC s.cells[i] A' c' Any w hr (m2 _ (List.getElem_mem hi)));have hp:part s (i:Int)=s.cells[i]:=by unfold part;rw[if_neg (by omega),if_neg (by omega),Int.toNat_natCast,List.getD_eq_getElem?_getD,List.getElem?_eq_getElem hi];rfl
   have e1:((i:Int) == -1)=false:=by simp
   have e2:((i:Int) == -2)=false:=by simp
   have hi1:(i:Int)<(s.cells.length:Int):=by omega
   have hi0:(0:Int)<=(i:Int):=by omega
   unfold zr1;rw[hp];obtain⟨l,hle⟩:∃ l,s.cells[i]=l:=⟨_,rfl⟩
   rw[hle] at h0 aQ ⊢;have hl':=zmO m1;clear hb r2 r3 hp hr r1 hle;go_enter Tryz.func119,Tryz.ntmps119;go_wp2_with fail;refine aQ.out.mono ?_;rintro e1 w1 ⟨v1,rfl,ho1,hf1,hb1⟩;have mW:=zh ho1;have HB1:=zh hb1;clear ho1 hb1 hf1 x0 x1 x2 aQ;go_wp2_with fail;go_ret;exact⟨_,rfl,by simpa[zkf] using mW.out,HB1.out⟩
theorem zo6:(Tryz.prog.info? 64).map (fun i=>(i.zero,i.size,i.bytes))=some (some (.agg #[.int .i64 0,.int .i64 0,.int .i64 0,.int .i64 0]),4,32):=by kernel_rfl
theorem bCh (x y z u:Int) (w:World):(Instr.build 64 #[(0,.int .i64 x),(1,.int .i64 y),(2,.int .i64 z),(3,.int .i64 u)]).run Tryz.prog w=.ok (.agg #[.int .i64 x,.int .i64 y,.int .i64 z,.int .i64 u]) w:=by kernel_rfl
theorem bChs (x y z u:Int) (w:World):(Instr.buildSlice 54 1 #[(0,.agg #[.int .i64 x,.int .i64 y,.int .i64 z,.int .i64 u])]).run Tryz.prog w=.ok (.slice (some ⟨w.heap.size,0,none⟩) 1 1) (w.alloc (.cells #[.int .i64 x,.int .i64 y,.int .i64 z,.int .i64 u] 64)):=by kernel_rfl
theorem zpA (c:CH):∀ u∈CH.nums c,u.oneCell'=true:=by
 intro u hu;simp only[CH.nums,List.mem_cons,List.not_mem_nil,or_false] at hu;rcases hu with rfl|rfl|rfl|rfl<;>rfl
theorem znD (l:List CH):(zk3 l).length=l.length*4:=by
 induction l with
 | nil=>rfl
 | cons c l ih=>simp only[zk3,List.flatMap_cons,List.length_append,List.length_cons] at ih ⊢;rw[ih];simp[CH.nums];omega
theorem zqD (l:List CH) (c:CH):zk3 (l++[c])=zk3 l++CH.nums c:=by simp[zk3]
def DiR (n0:Nat) (w:World) (v:Value) (l:List CH):Prop:=w.ownsRow n0 64 4 v l.length (zk3 l)/\∀ c∈l,c.I
theorem DiR.nil (n0:Nat) (w:World):DiR n0 w (.slice none 0 0) []:=⟨World.ownsRow_nil w _ _ _,by simp⟩
theorem zlO {W:World} {n0 n1:Nat} {E:TypeId} {sz n:Nat} {v:Value} {xs:List Value} (h:W.ownsRow n1 E sz v n xs) (hn:n0<=n1):W.ownsRow n0 E sz v n xs:=by
 obtain⟨e1,h2⟩:=h;refine⟨e1,?_⟩;rcases h2 with h2|⟨g,cap,cur,e2,h3,h4⟩
 ·exact .inl h2
 ·exact .inr ⟨g,cap,cur,e2,Nat.le_trans hn h3,h4⟩
theorem DiR.later {n0:Nat} {w w':World} {v:Value} {l:List CH} (h:DiR n0 w v l) (hb:Below w.heap.size w w'):DiR n0 w' v l:=⟨zkt h.1 hb,h.2⟩
theorem DiR.push {n0:Nat} {w:World} {v:Value} {l:List CH} {c:CH} (h:DiR n0 w v l) (hc:c.I) (hl:l.length+1<=4398046511103) (hn:n0<=w.heap.size) :
  (w.alloc (.cells (CH.nums c).toArray 64)).ownsRow n0 64 4 v l.length (zk3 l)/\(l.length+1<=maxLen/\(l.length+1)*32<=140737488355328)/\n0<=(w.alloc (.cells (CH.nums c).toArray 64)).heap.size /\
  (∀ j u,(CH.nums c)[j]?=some u->(w.alloc (.cells (CH.nums c).toArray 64)).cell? ((⟨w.heap.size,0,none⟩:Addr).add j)=some u) /\
  ∀ v' w',w'.ownsRow n0 64 4 v' (l.length+1) (zk3 l++CH.nums c)->(w.alloc (.cells (CH.nums c).toArray 64)).grownBy w' v.ownBlock->(v'.ownBlock=v.ownBlock\/v'.ownBlock=some (w.alloc (.cells (CH.nums c).toArray 64)).heap.size)->DiR n0 w' v' (l++[c])/\Chg (fun b=>v.ownBlock=some b) w w'/\(v'.ownBlock=v.ownBlock\/∃ b,v'.ownBlock=some b/\w.heap.size<=b):=by
 have hb:=zkd (Below.refl w.heap.size w) (.cells (CH.nums c).toArray 64);have hs:n0<=(w.alloc (.cells (CH.nums c).toArray 64)).heap.size:=Nat.le_trans hn hb.size;refine⟨zkt h.1 hb,⟨by unfold maxLen;omega,by omega⟩,hs,fun j u hj=>?_,fun v' w' ho hg ak=>⟨⟨?_,?_⟩,?_,?_⟩⟩
 ·have hk:=heap_alloc_new w (.cells (CH.nums c).toArray 64);rw[Addr.add_lit,Nat.zero_add];exact zc hk (by simpa using hj)
 ·rw[zqD,List.length_append];exact ho
 ·intro d hd;rcases List.mem_append.1 hd with h1|h1
  ·exact h.2 d h1
  ·simp at h1;subst h1;exact hc
 ·have h1:=Chg.row hg;exact⟨h1.os.trans hb.os,h1.tape.trans hb.tape,h1.output.trans hb.output,Nat.le_trans hb.size h1.size,fun b hlt hne=>(h1.block b (Nat.lt_of_lt_of_le hlt hb.size) hne).trans (hb.block b hlt)⟩
 ·rcases ak with e|e
  ·exact .inl e
  ·exact .inr ⟨_,e,hb.size⟩
def DF (lo mid:Nat) (W7:World) (v:Value) (wi:World):Prop:=Chg (fun b=>lo<=b/\b<mid) W7 wi/\∀ b,v.ownBlock=some b->b<mid\/W7.heap.size<=b
theorem DF.push {lo mid:Nat} {W7 wi w':World} {v v':Value} {l:List CH} (h:DF lo mid W7 v wi) (hd:DiR lo wi v l) (hc:Chg (fun b=>v.ownBlock=some b) wi w') (ak:v'.ownBlock=v.ownBlock\/∃ b,v'.ownBlock=some b/\wi.heap.size<=b):DF lo mid W7 v' w':=by
 refine⟨⟨hc.os.trans h.1.os,hc.tape.trans h.1.tape,hc.output.trans h.1.output,Nat.le_trans h.1.size hc.size,fun b hlt hne=>?_⟩,fun b hb=>?_⟩
 ·have h2:=h.1.size;refine(hc.block b (by omega) fun hv=>hne ?_).trans (h.1.block b hlt hne);have:=(hd.1.lt b hv).1;rcases h.2 b hv with h3|h3
  ·exact⟨this,h3⟩
  ·omega
 ·rcases ak with e|⟨b',e,hb'⟩
  ·exact h.2 b (e▸hb)
  ·rw[e] at hb;injection hb with hb;have:=h.1.size;exact .inr (by omega)
def difs (a b:SS) (n j:Nat):List CH:=((zkl n).take j).flatMap fun c=>dif1 c (part a c) (part b c)
theorem znG (a b:SS) {n j:Nat} (h:j<(zkl n).length):difs a b n (j+1)=difs a b n j++dif1 (zkl n)[j] (part a (zkl n)[j]) (part b (zkl n)[j]):=by
 unfold difs;rw[List.take_succ_eq_append_getElem h,List.flatMap_append];simp
theorem zus (c:Int) (x y:List Int) (i:Nat):(chg1 c x y i).length<=1:=by unfold chg1;split<;>simp
theorem zne (c:Int) (x y:List Int):∀ q,((List.range q).flatMap (chg1 c x y)).length<=q
 | 0=>by simp
 | q+1=>by
  rw[List.range_succ,List.flatMap_append,List.length_append];have:=zne c x y q;have:=zus c x y q;simp only[List.flatMap_cons,List.flatMap_nil,List.append_nil];omega
theorem zur (c:Int) (x y:List Int):(chgL c x y).length<=1:=by unfold chgL;split<;>simp
theorem znt {s:SS} (h:s.Sm) (c:Int):(part s c).length<=1000000:=by
 unfold part
 split
 ·rw[List.length_reverse];exact h.2.2.1
 ·split
  ·exact h.2.2.2
  ·rw[List.getD_eq_getElem?_getD];rcases hk:s.cells[c.toNat]? with _|l
   ·simp
   ·exact h.2.1 l (List.mem_of_getElem? hk)
theorem zoC {a b:SS} (ha:a.Sm) (hb:b.Sm) (n:Nat):∀ j,(difs a b n j).length<=j*1000001
 | 0=>by simp[difs]
 | j+1=>by
  by_cases h:j<(zkl n).length
  ·rw[znG a b h,List.length_append];have h1:=zoC ha hb n j;have h2:=znt ha (zkl n)[j];have h3:=znt hb (zkl n)[j];have h4:=zur (zkl n)[j] (part a (zkl n)[j]) (part b (zkl n)[j]);have h5:=zne (zkl n)[j] (part a (zkl n)[j]) (part b (zkl n)[j]) (max (part a (zkl n)[j]).length (part b (zkl n)[j]).length);unfold dif1;rw[List.length_append];omega
  ·have e:difs a b n (j+1)=difs a b n j:=by
    unfold difs;rw[List.take_of_length_le (by omega),List.take_of_length_le (by omega)]
   rw[e];have h1:=zoC ha hb n j;exact Nat.le_trans h1 (Nat.mul_le_mul_right _ (Nat.le_succ j))
theorem zqa {c:Int} {x y:List Int} {q:Nat} (h:x.getD q 0=y.getD q 0) {l:List CH}:l++(List.range (q+1)).flatMap (chg1 c x y)=l++(List.range q).flatMap (chg1 c x y):=by
 rw[List.range_succ,List.flatMap_append];simp only[List.flatMap_cons,List.flatMap_nil,List.append_nil];rw[show chg1 c x y q=[] by unfold chg1;rw[if_neg (fun hh=>hh h)],List.append_nil]
theorem zp9 {c:Int} {x y:List Int} {q:Nat} {u v:Int} (hu:x.getD q 0=u) (hv:y.getD q 0=v) (h:¬ u=v) {l:List CH}:l++(List.range (q+1)).flatMap (chg1 c x y)=l++(List.range q).flatMap (chg1 c x y)++[⟨c,q,u,v⟩]:=by
 rw[List.range_succ,List.flatMap_append,List.append_assoc];simp only[List.flatMap_cons,List.flatMap_nil,List.append_nil];rw[show chg1 c x y q=[⟨c,q,u,v⟩] by unfold chg1;rw[hu,hv,if_pos h]]
theorem zom {s:SS} {w:World} {S:Nat->Prop} {v:Value} (h:SV w S s v):s.I:=by
 obtain⟨A,c,B,d,D,e,-,hr,hi,ho,-⟩:=h;refine⟨fun l hl=>?_,hi.fits,ho.fits⟩;obtain⟨i,hi,rfl⟩:=List.getElem_of_mem hl;obtain⟨_,_,_,_,_,_,_,h⟩:=hr i hi;exact h.fits
theorem zpy {n:Nat} (hn:n<=1000000) {c:Int} (h:c∈zkl n):I64 c:=by
 unfold zkl at h;rcases List.mem_append.1 h with h|h
 ·obtain⟨i,hi,rfl⟩:=List.mem_map.1 h;have:=List.mem_range.1 hi;exact⟨by show -9223372036854775808<=(i:Int);omega,by show(i:Int)<=9223372036854775807;omega⟩
 ·have:c = -1\/c = -2:=by simpa using h
  exact⟨by omega,by omega⟩
theorem zn1 {s:SS} (h:s.I) (c:Int):∀ x∈part s c,I64 x:=by
 unfold part
 split
 ·exact fun x hx=>h.2.1 x (List.mem_reverse.1 hx)
 ·split
  ·exact h.2.2
  ·rw[List.getD_eq_getElem?_getD];rcases hk:s.cells[c.toNat]? with _|l
   ·exact fun x hx=>by simp at hx
   ·exact h.1 l (List.mem_of_getElem? hk)
theorem ztM {l:List Int} (h:∀ x∈l,I64 x) (q:Nat):I64 (l.getD q 0):=by
 rw[List.getD_eq_getElem?_getD];rcases hk:l[q]? with _|x
 ·exact zero_I64
 ·exact h x (List.mem_of_getElem? hk)
theorem ztb {a b:SS} (h:a.cells.length=b.cells.length):difs a b a.cells.length (a.cells.length+2)=znH a b:=by
 unfold difs znH;rw[if_neg (fun hh=>hh h),List.take_of_length_le (by simp[zkl])]
def zvd (a b:SS) (w:World) (e:Ending) (w':World):Prop:=∃ v,e=.returned v/\DiR w.heap.size w' v (znH a b)/\Below w.heap.size w w'
theorem zrF:IsFn Tryz.prog 67 Tryz.f67:=⟨Tryz.func67,by kernel_rfl,by kernel_rfl⟩
theorem ztz (a b:SS) (va vb:Value) (w:World) (ha:SV w Any a va) (hb:SV w Any b vb) (sa:a.Sm) (sb:b.Sm):Calls Tryz.prog 189 #[va,vb] w (zvd a b w):=by
 have HA:=zh ha;have HB:=zh hb;have h1:=bCh;have h2:=bChs;obtain⟨A,c,B,d,D,e,rfl,-⟩:=ha;obtain⟨A2,c2,B2,d2,D2,e2,rfl,-⟩:=hb;have k0:=zkr (heap_alloc_new w (.cells #[.slice A a.cells.length c,.slice B a.tin.length d,.slice D a.tout.length e] 26)) (.cells #[.slice A2 b.cells.length c2,.slice B2 b.tin.length d2,.slice D2 b.tout.length e2] 26);have k1:=heap_alloc_new (w.alloc (.cells #[.slice A a.cells.length c,.slice B a.tin.length d,.slice D a.tout.length e] 26)) (.cells #[.slice A2 b.cells.length c2,.slice B2 b.tin.length d2,.slice D2 b.tout.length e2] 26);rw[World.size_alloc] at k1;have hb0:=zkd (zkd (Below.refl w.heap.size w) (.cells #[.slice A a.cells.length c,.slice B a.tin.length d,.slice D a.tout.length e] 26)) (.cells #[.slice A2 b.cells.length c2,.slice B2 b.tin.length d2,.slice D2 b.tout.length e2] 26)
 obtain⟨w0,hw0⟩:∃ x,(w.alloc (.cells #[.slice A a.cells.length c,.slice B a.tin.length d,.slice D a.tout.length e] 26)).alloc (.cells #[.slice A2 b.cells.length c2,.slice B2 b.tin.length d2,.slice D2 b.tout.length e2] 26)=x:=⟨_,rfl⟩
 rw[hw0] at k0 k1 hb0;have bP:=zh k0;have aN:=zh k1;have HB0:=zh hb0;have lS:=zh sa;have iK:=zh sb;obtain⟨x0,x1,x2⟩:=zlp k0;obtain⟨y0,y1,y2⟩:=zlp k1;clear k0 k1 hb0 sa sb;by_cases hne:a.cells.length=b.cells.length
 ·have hn1:((a.cells.length:Int) != (b.cells.length:Int))=false:=by simp[hne]
  have rW:=zh hne;clear hne;go_enter Tryz.func189,Tryz.ntmps189;go_upto_region 4 with fail;have aB:=zh (show ∀ w',Below w0.heap.size w0 w'->(fun w':World=>w'.cell? ⟨w.heap.size,0,none⟩=some (.slice A a.cells.length c)/\w'.cell? ⟨w.heap.size,1,none⟩=some (.slice B a.tin.length d)/\w'.cell? ⟨w.heap.size,2,none⟩=some (.slice D a.tout.length e)/\w'.cell? ⟨w.heap.size+1,0,none⟩=some (.slice A2 b.cells.length c2)/\w'.cell? ⟨w.heap.size+1,1,none⟩=some (.slice B2 b.tin.length d2)/\w'.cell? ⟨w.heap.size+1,2,none⟩=some (.slice D2 b.tout.length e2)) w' from fun w' hb=>⟨zb hb (zc bP.out rfl),zb hb (zc bP.out rfl),zb hb (zc bP.out rfl),zb hb (zc aN.out rfl),zb hb (zc aN.out rfl),zb hb (zc aN.out rfl)⟩)
  have hSS:(fun w':World=>w'.cell? ⟨w.heap.size,0,none⟩=some (.slice A a.cells.length c)/\w'.cell? ⟨w.heap.size,1,none⟩=some (.slice B a.tin.length d)/\w'.cell? ⟨w.heap.size,2,none⟩=some (.slice D a.tout.length e)/\w'.cell? ⟨w.heap.size+1,0,none⟩=some (.slice A2 b.cells.length c2)/\w'.cell? ⟨w.heap.size+1,1,none⟩=some (.slice B2 b.tin.length d2)/\w'.cell? ⟨w.heap.size+1,2,none⟩=some (.slice D2 b.tout.length e2)) w0.drew/\(fun _:World=>True) w0.drew:=⟨aB.out _ (Below.refl _ _).drew,trivial⟩
  clear x0 x1 x2 y0 y1 y2 hn1;refine wp_region_noPanic ?_;refine zke (fun w':World=>w'.cell? ⟨w.heap.size,0,none⟩=some (.slice A a.cells.length c)/\w'.cell? ⟨w.heap.size,1,none⟩=some (.slice B a.tin.length d)/\w'.cell? ⟨w.heap.size,2,none⟩=some (.slice D a.tout.length e)/\w'.cell? ⟨w.heap.size+1,0,none⟩=some (.slice A2 b.cells.length c2)/\w'.cell? ⟨w.heap.size+1,1,none⟩=some (.slice B2 b.tin.length d2)/\w'.cell? ⟨w.heap.size+1,2,none⟩=some (.slice D2 b.tout.length e2)) (fun _:World=>True) 3 (by kernel_rfl) ?_;refine zT 0 hSS ?_;(try simp only[zQ]);refine zT 2 hSS ?_;(try simp only[zQ])
  have had:Calls Tryz.prog 67 [.agg #[.slice A a.cells.length c,.slice B a.tin.length d,.slice D a.tout.length e]].toArray w0.drew fun e1 W'=>∃ u,e1=.returned u/\(u=.func (.func 119) #[] #[.pointer (some ⟨w0.heap.size,0,none⟩)]/\W'=w0.drew.alloc (.cells #[.slice A a.cells.length c,.slice B a.tin.length d,.slice D a.tout.length e] 26)) :=
   (zma A B D a.cells.length c a.tin.length d a.tout.length e w0.drew).mono fun e1 W' ⟨h1,h2⟩=>⟨_,h1,rfl,h2⟩
  refine zo 1 fun K hK=>?_;refine zkg (by rfl) (.func 67) [.tmp 22] _ (by rfl) 67 _ zrF (by rfl) _ (by rfl) _ had ?_;rintro v3 w3 ⟨rfl,rfl⟩;have qU:=heap_alloc_new w0.drew (.cells #[.slice A a.cells.length c,.slice B a.tin.length d,.slice D a.tout.length e] 26);have jJ:=zkd (Below.refl w0.heap.size w0).drew (.cells #[.slice A a.cells.length c,.slice B a.tin.length d,.slice D a.tout.length e] 26);obtain⟨w3,hw3⟩:∃ x,w0.drew.alloc (.cells #[.slice A a.cells.length c,.slice B a.tin.length d,.slice D a.tout.length e] 26)=x:=⟨_,rfl⟩
  rw[hw3] at qU jJ;rw[hw3];have qU:w3.heap[w0.heap.size]?=_:=qU;obtain⟨ba,eF⟩:∃ x,w0.heap.size=x:=⟨_,rfl⟩
  refine hK.out _ _ ⟨aB.out _ jJ,trivial⟩ ?_;clear hK K had hSS;(try simp only[zQ]);have had:Calls Tryz.prog 67 [.agg #[.slice A2 b.cells.length c2,.slice B2 b.tin.length d2,.slice D2 b.tout.length e2]].toArray w3 fun e1 W'=>∃ u,e1=.returned u/\(u=.func (.func 119) #[] #[.pointer (some ⟨w3.heap.size,0,none⟩)]/\W'=w3.alloc (.cells #[.slice A2 b.cells.length c2,.slice B2 b.tin.length d2,.slice D2 b.tout.length e2] 26)) :=
   (zma A2 B2 D2 b.cells.length c2 b.tin.length d2 b.tout.length e2 w3).mono fun e1 W' ⟨h1,h2⟩=>⟨_,h1,rfl,h2⟩
  refine zp 3 fun K hK=>?_;refine zkg (by rfl) (.func 67) [.tmp 24] _ (by rfl) 67 _ zrF (by rfl) _ (by rfl) _ had ?_;rintro v4 w4 ⟨rfl,rfl⟩;have uE:=heap_alloc_new w3 (.cells #[.slice A2 b.cells.length c2,.slice B2 b.tin.length d2,.slice D2 b.tout.length e2] 26);have dH:=zkd (Below.refl w3.heap.size w3) (.cells #[.slice A2 b.cells.length c2,.slice B2 b.tin.length d2,.slice D2 b.tout.length e2] 26);obtain⟨w4,hw4⟩:∃ x,w3.alloc (.cells #[.slice A2 b.cells.length c2,.slice B2 b.tin.length d2,.slice D2 b.tout.length e2] 26)=x:=⟨_,rfl⟩
  rw[hw4] at uE dH;rw[hw4];obtain⟨bb,hbb⟩:∃ x,w3.heap.size=x:=⟨_,rfl⟩
  have oo:=jJ.trans (dH.mono jJ.size);have gV:=aB.out _ oo;refine hK.out _ _ gV ?_;clear hK K had;(try simp only[zQ]);refine zp 4 fun K hK=>?_;(try simp only[zA,zB,zC]);go_simp;refine hK.out _ _ gV ?_;clear hK K;(try simp only[zQ]);refine zp 5 fun K hK=>?_;(try simp only[zA,zB,zC]);go_simp;refine hK.out _ _ gV ?_;clear hK K;(try simp only[zQ]);refine zd ?_;refine NoPanic.normal ?_;have gD:=zh (show a.cells.length<=1000000 from lS.out.1);have jk:=zh (zlL a.cells.length (by have:=gD.out;omega) w4);have qL:=zh (zkc qU dH);have iA:=zh uE;have az:=zh (HB0.out.trans (oo.mono HB0.out.size));have uz:=zh (zom HA.out);have HBI0:=zh (zom HB.out);obtain⟨y0,y1,y2,-,-,-⟩:=gV;clear qU uE jJ dH oo hw3 hw4 aB bP aN y1 y2;rw[eF] at qL;rw[hbb] at iA;(try rw[eF]);(try rw[hbb]);clear eF hbb;obtain⟨n,hn⟩:∃ n,a.cells.length=n:=⟨_,rfl⟩
  have aX:=zh hn;rw[hn] at jk;go_wp2_with fail;refine jk.out.mono ?_;rintro e5 w5 ⟨v5,rfl,bY,hb5⟩;clear y0 jk;obtain⟨Ac,c5,rfl,-⟩:=zkb bY;have hcl:(zkl n).length=n+2:=by simp[zkl]
  have aQ:=zh hcl;obtain⟨g,rfl⟩:∃ g,Ac=some ⟨g,0,none⟩:=by
   rcases bY.2 with⟨e1,e2⟩|⟨g,cap,cur,e1,-⟩
   ·omega
   ·injection e1 with e1;exact⟨g,e1⟩
  have fq:=zh (zmi bY);have HKA5:=zh (zkc qL.out hb5);have HKB5:=zh (zkc iA.out hb5);have aW:=zh (zka az.out hb5);rw[hcl];clear bY hb5 hcl qL iA hn;go_wp2_with fail
  go_loopw [5,31] (fun v i wo=>∃ j:Nat,j<=n+2/\i=.int .i64 j/\Hid (DiR w5.heap.size wo v (difs a b n j))/\Hid (Below w5.heap.size w5 wo)) (fun _ i _=>n+2-(intOf i).toNat)
  case atStart=>exact⟨0,Nat.zero_le _,rfl,zh (by simpa[difs] using DiR.nil w5.heap.size w5),zh (Below.refl _ _)⟩
  case round =>
   obtain⟨wo,rfl⟩:∃ x,x=wr:=⟨_,rfl⟩
   obtain⟨j,hj,rfl,qO,dC⟩:=hrel;by_cases hlt2:j<n+2
   ·have hlt:j<(zkl n).length:=by rw[aQ.out];exact hlt2
    have hj1:(j:Int)<((n:Nat):Int)+2:=by omega
    have hj2:(j:Int)<((n+2:Nat):Int):=by omega
    have hj0:(0:Int)<=(j:Int):=by omega
    obtain⟨z0,-⟩:=zlv (fq.out.later dC.out) rfl hlt;obtain⟨cc,hcc⟩:∃ cc,(zkl n)[j]=cc:=⟨_,rfl⟩
    have hgd:(zkl n).getD j 0=cc:=by rw[List.getD_eq_getElem?_getD,List.getElem?_eq_getElem hlt,Option.getD_some,hcc]
    rw[hgd] at z0;have hmem:cc∈zkl n:=by rw[<-hcc];exact List.getElem_mem hlt
    have dR:=zh (show I64 cc from zpy (by have:=gD.out;have:=aX.out;omega) hmem);have bD:=zh hcc;have oU:=zh (fun w' (hb:Below wo.heap.size wo w')=>zlU a A B D c d e ba cc w' (zkc HKA5.out (zka dC.out hb)) (HA.out.later (zka (zka aW.out dC.out) hb)) (by rw[aX.out];exact hmem));have mR:=zh (fun w' (hb:Below wo.heap.size wo w')=>zlU b A2 B2 D2 c2 d2 e2 bb cc w' (zkc HKB5.out (zka dC.out hb)) (HB.out.later (zka (zka aW.out dC.out) hb)) (by rw[<-rW.out,aX.out];exact hmem));obtain⟨Aj,cj,hvj,-⟩:=zkb qO.out.1;subst hvj;have HOL:=zh (fun b h=>(qO.out.1.lt b h).2);have qM:=zh hlt2;clear hgd hmem hcc;go_wp2_with fail;refine(oU.out wo (Below.refl _ _)).mono ?_;rintro e6 w6 ⟨vx,rfl,hox,hbx⟩;clear z0 hj1 hj2;go_wp2_with fail;refine(mR.out w6 hbx).mono ?_;rintro e7 w7 ⟨vy,rfl,hoy,hby⟩
    have hnx:∀ q,I64 ((part a cc).getD q 0)/\True:=fun q=>⟨ztM (zn1 uz.out cc) q,trivial⟩
    have hny:∀ q,I64 ((part b cc).getD q 0)/\True:=fun q=>⟨ztM (zn1 HBI0.out cc) q,trivial⟩
    obtain⟨Ax,cx,rfl,-,hrx⟩:=zn0 hox (zn1 uz.out cc);obtain⟨Ay,cy,rfl,-,hry⟩:=zn0 hoy (zn1 HBI0.out cc);have HRX0:=zh (hrx.later hby);have HRY0:=zh (hry.mono (S':=fun b=>wo.heap.size<=b) fun b hb=>Nat.le_trans hbx.size hb);have qN:=zh hlt;have tY:=zh hnx;have HNY:=zh hny;have hpa:=znt lS.out cc;have hpb:=znt iK.out cc;have HLX:=zh (show(part a cc).length<=LI by unfold LI;omega);have HLY:=zh (show(part b cc).length<=LI by unfold LI;omega);have eB:=zh (zka hbx hby);have HD7:=zh (qO.out.later eB.out);have hdl:=zoC lS.out iK.out n j;have hjb:j*1000001<=1000001*1000001:=Nat.mul_le_mul_right _ (by have:=gD.out;have:=aX.out;omega);have uw:=zh (show(difs a b n j).length+1000002<=4398046511103 by omega);have iN:=zh (show(part a cc).length<=1000000/\(part b cc).length<=1000000 from ⟨hpa,hpb⟩)
    clear hox hoy hbx hby hnx hny hrx hry oU mR qO hdl hjb hpa hpb;have hi63:((part a cc).length:Int)<=9223372036854775807/\((part b cc).length:Int)<=9223372036854775807:=by have:=iN.out;omega
    by_cases hll:(part a cc).length=(part b cc).length
    ·have hl1:(((part a cc).length:Int) != ((part b cc).length:Int))=false:=by simp[hll]
     obtain⟨LQ,jP⟩:∃ l,difs a b n j=l:=⟨_,rfl⟩
     have fG:=zh (show LQ=difs a b n j++chgL cc (part a cc) (part b cc) by unfold chgL;rw[if_neg (fun h=>h hll),List.append_nil,jP]);have uu:=HD7;have o7:=zh (show LQ.length+1000001<=4398046511103 by have:=uw.out;rw[jP] at this;omega);rw[jP] at uu;have vH:=zh (show w5.heap.size<=w7.heap.size from (zka dC.out eB.out).size);have wu:=zh (show DF w5.heap.size wo.heap.size w7 (.slice Aj LQ.length cj) w7 from ⟨Chg.refl _ _,fun b hb=>.inl (HOL.out b (by rw[jP];exact hb))⟩);rw[jP];clear jP HD7 hll uw;obtain⟨mx,hmx⟩:∃ m:Nat,max (part a cc).length (part b cc).length=m:=⟨_,rfl⟩
     have hmxI:max ((part a cc).length:Int) ((part b cc).length:Int)=(mx:Int):=by omega
     have vN:=zh hmx;have dM:=zh (show mx<=1000000 by have:=iN.out;omega);go_wp2_with fail
     go_loopw [5,60] (fun v i wi=>∃ q:Nat,q<=mx/\i=.int .i64 q/\Hid (DiR w5.heap.size wi v (LQ++(List.range q).flatMap (chg1 cc (part a cc) (part b cc))))/\Hid (DF w5.heap.size wo.heap.size w7 v wi)) (fun _ i _=>mx-(intOf i).toNat)
     case atStart=>exact⟨0,Nat.zero_le _,rfl,by simpa using uu,wu⟩
     case round =>
      obtain⟨wi,rfl⟩:∃ x,x=wr:=⟨_,rfl⟩
      obtain⟨q,hq,rfl,iT,bW⟩:=hrel;by_cases hq2:q<mx
      ·have hq1:(q:Int)<(mx:Int):=by omega
       obtain⟨LL,dA⟩:∃ l,LQ++(List.range q).flatMap (chg1 cc (part a cc) (part b cc))=l:=⟨_,rfl⟩
       have cB:=zh dA;have vS:=zh (show LL.length+1<=4398046511103 by have:=o7.out;have:=dM.out;have:=(zne cc (part a cc) (part b cc) q);rw[<-dA,List.length_append];omega);rw[dA] at iT;obtain⟨xv,hxv⟩:∃ x,(part a cc).getD q 0=x:=⟨_,rfl⟩
       obtain⟨yv,hyv⟩:∃ x,(part b cc).getD q 0=x:=⟨_,rfl⟩
       have eZ:=zh hxv;have oD:=zh hyv;have dB:=zh (zlz (part a cc) Ax cx q wi (HRX0.out.keep (fun _ _ _=>trivial) (fun b hb hlt=>bW.out.1.block b hlt (by omega))) HLX.out);have HE2:=zh (zlz (part b cc) Ay cy q wi (HRY0.out.keep (fun _ _ _=>trivial) (fun b hb hlt=>bW.out.1.block b hlt (by omega))) HLY.out);rw[hxv] at dB;rw[hyv] at HE2;clear hxv hyv dA;obtain⟨Aq,cq,rfl,-⟩:=zkb iT.out.1;go_wp2_with fail;refine dB.out.mono ?_;rintro e8 w8 ⟨rfl,h8⟩;rw[h8];clear h8;go_wp2_with fail;refine HE2.out.mono ?_;rintro e9 w9 ⟨rfl,h9⟩;rw[h9];clear h9;clear dB HE2;by_cases hxy:xv=yv
       ·subst hxy;have pQ:=zh (show DiR w5.heap.size wi (.slice Aq LL.length cq) (LQ++(List.range (q+1)).flatMap (chg1 cc (part a cc) (part b cc))) from by
         rw[zqa (by rw[eZ.out,oD.out]),cB.out];exact iT.out)
        go_wp2_with fail;exact⟨⟨q+1,by omega,by go_num,pQ,bW⟩,by simp[intOf];omega⟩
       ·have hxy1:(xv != yv)=true:=by simp[hxy]
        have hI:=(tY.out q).1;have hI2:=(HNY.out q).1;rw[eZ.out] at hI;rw[oD.out] at hI2;have hpush:=iT.out.push (c:=⟨cc,q,xv,yv⟩) ⟨dR.out,⟨(by omega : -9223372036854775808<=(q:Int)),(by have:=dM.out;omega:(q:Int)<=9223372036854775807)⟩,hI,hI2⟩ vS.out (Nat.le_trans vH.out bW.out.1.size);obtain⟨hrow,hln,hsz,hnw,mQ⟩:=hpush;have jV:=zh (show ∀ v' w',w'.ownsRow w5.heap.size 64 4 v' (LL.length+1) (zk3 LL++CH.nums ⟨cc,q,xv,yv⟩)->(wi.alloc (.cells (CH.nums ⟨cc,q,xv,yv⟩).toArray 64)).grownBy w' (Value.slice Aq LL.length cq).ownBlock->(v'.ownBlock=(Value.slice Aq LL.length cq).ownBlock\/v'.ownBlock=some (wi.alloc (.cells (CH.nums ⟨cc,q,xv,yv⟩).toArray 64)).heap.size)->DiR w5.heap.size w' v' (LQ++(List.range (q+1)).flatMap (chg1 cc (part a cc) (part b cc)))/\DF w5.heap.size wo.heap.size w7 v' w' from fun v' w' ho hg ak=>by
         obtain⟨h1,h2,h3⟩:=mQ v' w' ho hg ak;rw[zp9 eZ.out oD.out hxy,cB.out];exact⟨h1,bW.out.push iT.out h2 h3⟩)
        clear mQ hI hI2;obtain⟨ix,hix,hz0,hz1,hz2⟩:=info_parts zo6;go_wp2_with (at_builtin;refine wpList_append_own_at (P:=Tryz.prog) _ rfl (.tmp 72) (.tmp 78) 54 rfl w5.heap.size 64 ix _ 4 32 Tryz.underlying54 hix hz0 hz1 hz2 rfl (by decide) (.slice Aq LL.length cq) LL.length (zk3 LL) rfl hrow ⟨wi.heap.size,0,none⟩ 1 1 (CH.nums ⟨cc,q,xv,yv⟩) rfl rfl hnw (zpA _) hln.1 hln.2 hsz ?_;intro v' w' ho hg hh ak;obtain⟨ho2,hb2⟩:=jV.out _ _ ho hg ak;obtain⟨A',c',rfl,-⟩:=zkb ho;clear ho hg hh ak)
        exact⟨⟨q+1,by omega,by go_num,zh ho2,zh hb2⟩,by simp[intOf];omega⟩
      ·obtain rfl:q=mx:=by omega
       have hq1:¬ (q:Int)<(q:Int):=by omega
       have wC:=zh (show DiR w5.heap.size wi _ (difs a b n (j+1)) from by
        rw[znG a b qN.out,bD.out,dif1,vN.out,<-List.append_assoc,<-fG.out];exact iT.out)
       have dS:=zh (show Below w5.heap.size w5 wi from (zka dC.out eB.out).trans (bW.out.1.below (zka dC.out eB.out).size fun b h=>h.1));have hjb2:(j:Int)+1<=9223372036854775807:=by have:=qM.out;have:=gD.out;have:=aX.out;omega
       go_wp2_with fail;exact⟨⟨j+1,qM.out,by go_num,wC,dS⟩,by have:=qM.out;simp[intOf];omega⟩
    ·have hl1:(((part a cc).length:Int) != ((part b cc).length:Int))=true:=bne_iff_ne.2 (by omega);have hcl0:chgL cc (part a cc) (part b cc)=[⟨cc,-1,(part a cc).length,(part b cc).length⟩]:=by unfold chgL;rw[if_pos hll]
     obtain⟨L0,hL0⟩:∃ l,difs a b n j=l:=⟨_,rfl⟩
     have pU:=zh (show L0.length+1000002<=4398046511103 by rw[<-hL0];exact uw.out);rw[hL0] at HD7;rw[hL0];have hpush:=HD7.out.push (c:=⟨cc,-1,(part a cc).length,(part b cc).length⟩) ⟨dR.out,⟨(by decide : -9223372036854775808<=(-1:Int)),(by decide:(-1:Int)<=9223372036854775807)⟩,⟨(by omega : -9223372036854775808<=((part a cc).length:Int)),hi63.1⟩,⟨(by omega : -9223372036854775808<=((part b cc).length:Int)),hi63.2⟩⟩ (by have:=pU.out;omega) ((zka dC.out eB.out).size);obtain⟨hrow,hln,hsz,hnw,mQ⟩:=hpush;have jV:=zh mQ;have HD70:=HD7;obtain⟨lx,hlx⟩:∃ x,(part a cc).length=x:=⟨_,rfl⟩
     obtain⟨ly,qp⟩:∃ x,(part b cc).length=x:=⟨_,rfl⟩
     rw[hlx,qp] at hrow hsz hnw jV;obtain⟨ix,hix,hz0,hz1,hz2⟩:=info_parts zo6;rw[hlx] at hl1;rw[qp] at hl1;rw[hlx,qp];clear mQ HD7;go_upto_region 11 with(at_builtin;refine wpList_append_own_at (P:=Tryz.prog) _ rfl (.tmp 46) (.tmp 53) 54 rfl w5.heap.size 64 ix _ 4 32 Tryz.underlying54 hix hz0 hz1 hz2 rfl (by decide) (.slice Aj L0.length cj) L0.length (zk3 L0) rfl hrow ⟨w7.heap.size,0,none⟩ 1 1 (CH.nums ⟨cc,-1,lx,ly⟩) rfl rfl hnw (zpA _) hln.1 hln.2 hsz ?_;intro v8 w8 ho hg hh ak;obtain⟨ho2,hb2,hob2⟩:=jV.out _ _ ho hg ak;obtain⟨A8,c8,rfl,-⟩:=zkb ho;clear ho hg hh ak)
     subst hlx qp;obtain⟨LQ,jP⟩:∃ l,L0++[(⟨cc,-1,(part a cc).length,(part b cc).length⟩:CH)]=l:=⟨_,rfl⟩
     have fG:=zh (show LQ=difs a b n j++chgL cc (part a cc) (part b cc) by rw[hcl0,hL0,jP]);have o7:=zh (show LQ.length+1000001<=4398046511103 by have:=pU.out;rw[<-jP,List.length_append];simp only[List.length_cons,List.length_nil];omega);rw[jP] at ho2;have uu:=zh ho2;have vH:=zh (show w5.heap.size<=w7.heap.size from (zka dC.out eB.out).size);have wu:=zh (show DF w5.heap.size wo.heap.size w7 (.slice A8 (L0.length+1) c8) w8 from DF.push (v:=.slice Aj L0.length cj) (l:=L0) ⟨Chg.refl _ _,fun b hb=>.inl (HOL.out b (by rw[hL0];exact hb))⟩ HD70.out hb2 hob2);clear jP hL0 hll uw pU hcl0 ho2 hb2 hob2 hrow hln hsz hnw hix hz0 hz1 hz2 jV;obtain⟨mx,hmx⟩:∃ m:Nat,max (part a cc).length (part b cc).length=m:=⟨_,rfl⟩
     have hmxI:max ((part a cc).length:Int) ((part b cc).length:Int)=(mx:Int):=by omega
     have vN:=zh hmx;have dM:=zh (show mx<=1000000 by have:=iN.out;omega);go_wp2_with fail
     go_loopw [5,60] (fun v i wi=>∃ q:Nat,q<=mx/\i=.int .i64 q/\Hid (DiR w5.heap.size wi v (LQ++(List.range q).flatMap (chg1 cc (part a cc) (part b cc))))/\Hid (DF w5.heap.size wo.heap.size w7 v wi)) (fun _ i _=>mx-(intOf i).toNat)
     case atStart=>exact⟨0,Nat.zero_le _,rfl,by simpa using uu,wu⟩
     case round =>
      obtain⟨wi,rfl⟩:∃ x,x=wr:=⟨_,rfl⟩
      obtain⟨q,hq,rfl,iT,bW⟩:=hrel;by_cases hq2:q<mx
      ·have hq1:(q:Int)<(mx:Int):=by omega
       obtain⟨LL,dA⟩:∃ l,LQ++(List.range q).flatMap (chg1 cc (part a cc) (part b cc))=l:=⟨_,rfl⟩
       have cB:=zh dA;have vS:=zh (show LL.length+1<=4398046511103 by have:=o7.out;have:=dM.out;have:=(zne cc (part a cc) (part b cc) q);rw[<-dA,List.length_append];omega);rw[dA] at iT;obtain⟨xv,hxv⟩:∃ x,(part a cc).getD q 0=x:=⟨_,rfl⟩
       obtain⟨yv,hyv⟩:∃ x,(part b cc).getD q 0=x:=⟨_,rfl⟩
       have eZ:=zh hxv;have oD:=zh hyv;have dB:=zh (zlz (part a cc) Ax cx q wi (HRX0.out.keep (fun _ _ _=>trivial) (fun b hb hlt=>bW.out.1.block b hlt (by omega))) HLX.out);have HE2:=zh (zlz (part b cc) Ay cy q wi (HRY0.out.keep (fun _ _ _=>trivial) (fun b hb hlt=>bW.out.1.block b hlt (by omega))) HLY.out);rw[hxv] at dB;rw[hyv] at HE2;clear hxv hyv dA;obtain⟨Aq,cq,rfl,-⟩:=zkb iT.out.1;go_wp2_with fail;refine dB.out.mono ?_;rintro e8 w8 ⟨rfl,h8⟩;rw[h8];clear h8;go_wp2_with fail;refine HE2.out.mono ?_;rintro e9 w9 ⟨rfl,h9⟩;rw[h9];clear h9;clear dB HE2;by_cases hxy:xv=yv
       ·subst hxy;have pQ:=zh (show DiR w5.heap.size wi (.slice Aq LL.length cq) (LQ++(List.range (q+1)).flatMap (chg1 cc (part a cc) (part b cc))) from by
         rw[zqa (by rw[eZ.out,oD.out]),cB.out];exact iT.out)
        go_wp2_with fail;exact⟨⟨q+1,by omega,by go_num,pQ,bW⟩,by simp[intOf];omega⟩
       ·have hxy1:(xv != yv)=true:=by simp[hxy]
        have hI:=(tY.out q).1;have hI2:=(HNY.out q).1;rw[eZ.out] at hI;rw[oD.out] at hI2;have hpush:=iT.out.push (c:=⟨cc,q,xv,yv⟩) ⟨dR.out,⟨(by omega : -9223372036854775808<=(q:Int)),(by have:=dM.out;omega:(q:Int)<=9223372036854775807)⟩,hI,hI2⟩ vS.out (Nat.le_trans vH.out bW.out.1.size);obtain⟨hrow,hln,hsz,hnw,mQ⟩:=hpush;have jV:=zh (show ∀ v' w',w'.ownsRow w5.heap.size 64 4 v' (LL.length+1) (zk3 LL++CH.nums ⟨cc,q,xv,yv⟩)->(wi.alloc (.cells (CH.nums ⟨cc,q,xv,yv⟩).toArray 64)).grownBy w' (Value.slice Aq LL.length cq).ownBlock->(v'.ownBlock=(Value.slice Aq LL.length cq).ownBlock\/v'.ownBlock=some (wi.alloc (.cells (CH.nums ⟨cc,q,xv,yv⟩).toArray 64)).heap.size)->DiR w5.heap.size w' v' (LQ++(List.range (q+1)).flatMap (chg1 cc (part a cc) (part b cc)))/\DF w5.heap.size wo.heap.size w7 v' w' from fun v' w' ho hg ak=>by
         obtain⟨h1,h2,h3⟩:=mQ v' w' ho hg ak;rw[zp9 eZ.out oD.out hxy,cB.out];exact⟨h1,bW.out.push iT.out h2 h3⟩)
        clear mQ hI hI2;obtain⟨ix,hix,hz0,hz1,hz2⟩:=info_parts zo6;go_wp2_with (at_builtin;refine wpList_append_own_at (P:=Tryz.prog) _ rfl (.tmp 72) (.tmp 78) 54 rfl w5.heap.size 64 ix _ 4 32 Tryz.underlying54 hix hz0 hz1 hz2 rfl (by decide) (.slice Aq LL.length cq) LL.length (zk3 LL) rfl hrow ⟨wi.heap.size,0,none⟩ 1 1 (CH.nums ⟨cc,q,xv,yv⟩) rfl rfl hnw (zpA _) hln.1 hln.2 hsz ?_;intro v' w' ho hg hh ak;obtain⟨ho2,hb2⟩:=jV.out _ _ ho hg ak;obtain⟨A',c',rfl,-⟩:=zkb ho;clear ho hg hh ak)
        exact⟨⟨q+1,by omega,by go_num,zh ho2,zh hb2⟩,by simp[intOf];omega⟩
      ·obtain rfl:q=mx:=by omega
       have hq1:¬ (q:Int)<(q:Int):=by omega
       have wC:=zh (show DiR w5.heap.size wi _ (difs a b n (j+1)) from by
        rw[znG a b qN.out,bD.out,dif1,vN.out,<-List.append_assoc,<-fG.out];exact iT.out)
       have dS:=zh (show Below w5.heap.size w5 wi from (zka dC.out eB.out).trans (bW.out.1.below (zka dC.out eB.out).size fun b h=>h.1));have hjb2:(j:Int)+1<=9223372036854775807:=by have:=qM.out;have:=gD.out;have:=aX.out;omega
       go_wp2_with fail;exact⟨⟨j+1,qM.out,by go_num,wC,dS⟩,by have:=qM.out;simp[intOf];omega⟩
   ·obtain rfl:j=n+2:=by omega
    have hj1:¬ ((n:Int)+2<(n:Int)+2):=by omega
    have hj2:¬ (((n+2:Nat):Int)<((n+2:Nat):Int)):=by omega
    have sD:=zh (show difs a b n (n+2)=znH a b from aX.out▸ztb rW.out);go_wp2_with fail;go_ret;refine⟨_,rfl,?_,zka aW.out dC.out⟩;rw[<-sD.out];exact⟨zlO qO.out.1 aW.out.size,qO.out.2⟩
 ·have hn1:((a.cells.length:Int) != (b.cells.length:Int))=true:=bne_iff_ne.2 (by omega);have hd:znH a b=[]:=by unfold znH;rw[if_pos hne]
  unfold zvd;rw[hd];go_enter Tryz.func189,Tryz.ntmps189;go_wp2_with fail;go_ret;exact⟨_,rfl,DiR.nil _ _,HB0.out⟩
theorem zrO:(Tryz.prog.info? 55).map (fun i=>(i.zero,i.size,i.bytes))=some (some (.slice none 0 0),1,24):=by kernel_rfl
theorem bEv (A:Option Addr) (l c:Nat) (w:World):(Instr.buildSlice 45 1 #[(0,.slice A l c)]).run Tryz.prog w=.ok (.slice (some ⟨w.heap.size,0,none⟩) 1 1) (w.alloc (.cells #[.slice A l c] 55)):=by kernel_rfl
theorem zuX:IsFn Tryz.prog 189 Tryz.f189:=⟨Tryz.func189,by kernel_rfl,by kernel_rfl⟩
theorem zmK:∀ (l:List CH) (i o:Nat) (hi:i<l.length),o<4->(zk3 l)[i*4+o]?=(CH.nums l[i])[o]?
 | c::l,0,o,_,ho=>by
  rw[show zk3 (c::l)=CH.nums c++zk3 l from rfl,List.getElem?_append_left (by simp[CH.nums];omega)];simp
 | c::l,i+1,o,hi,ho=>by
  rw[show zk3 (c::l)=CH.nums c++zk3 l from rfl,List.getElem?_append_right (by simp[CH.nums];omega)];have:(i+1)*4+o-(CH.nums c).length=i*4+o:=by simp[CH.nums];omega
  rw[this,zmK l i o (by simpa using hi) ho];simp
theorem DiR.rowC {n0:Nat} {w:World} {v:Value} {l:List CH} (h:DiR n0 w v l):∃ A c,v=.slice A l.length c/\l.length<=c/\RowC w (fun b=>n0<=b/\b<w.heap.size) A l:=by
 obtain⟨A,c,rfl,hc,-⟩:=zkb h.1;refine⟨A,c,rfl,hc,fun i hi=>?_⟩;rcases h.1.2 with⟨e1,e2⟩|⟨g,cap,cur,e1,h3,hg,-⟩
 ·omega
 ·injection e1 with e1;subst e1;have hx:∀ o u,o<4->(CH.nums l[i])[o]?=some u->w.cell? ⟨g,i*4+o,none⟩=some u:=fun o u h4 hu=>by
   rw[h.1.cellAt (i*4+o) (by omega),zmK l i o hi h4];exact hu
  refine⟨⟨g,0,none⟩,rfl,⟨h3,(Array.getElem?_eq_some_iff.1 hg).1⟩,?_⟩;rw[Addr.add_lit,Nat.zero_add];exact⟨hx 0 _ (by omega) rfl,hx 1 _ (by omega) rfl,hx 2 _ (by omega) rfl,hx 3 _ (by omega) rfl⟩
theorem zsC {W:World} {b:Nat} {u0 u1 u2 u3 u4 u5 u6 u7 u8 u9 u10 x:Value} {E:TypeId} (h:W.heap[b]?=some (.cells #[u0,u1,u2,u3,u4,u5,u6,u7,u8,u9,u10] E (0,0))):(W.setCell ⟨b,10,none⟩ x).heap[b]?=some (.cells #[u0,u1,u2,u3,u4,u5,u6,u7,u8,u9,x] E (0,0)):=by
 rw[heap_setCell_same W b 10 _ _ x h];simp
theorem zq8 {W:World} {b:Nat} {u0 u1 u2 u3 u4 u5 u6 u7 u8 u9 u10 x y z:Value} {E:TypeId} (h:W.heap[b]?=some (.cells #[u0,u1,u2,u3,u4,u5,u6,u7,u8,u9,u10] E (0,0))):(((W.setCell ⟨b,7,none⟩ x).setCell ⟨b,8,none⟩ y).setCell ⟨b,9,none⟩ z).heap[b]?=some (.cells #[u0,u1,u2,u3,u4,u5,u6,x,y,z,u10] E (0,0)):=by
 rw[heap_setCell_same _ b 9 _ _ z (heap_setCell_same _ b 8 _ _ y (heap_setCell_same W b 7 _ _ x h))];simp
theorem KS.chg2 {w W W':World} {n0 sb:Nat} {kb C:Nat->Prop} {S:ST} (h:KS w n0 sb kb W S) (hc:Chg C W W') (hC:∀ b,b<W.heap.size->C b->w.heap.size<=b/\(b<n0\/kb b)):KS w n0 sb (fun b=>kb b\/(W.heap.size<=b/\b<W'.heap.size)) W' S:=by
 obtain⟨P,hs,e,hk⟩:=h.sr;have h0:=h.chg hc hC;have hno:∀ b,OwnB (rows P S) b->¬ C b:=fun b ho hcb=>by
  obtain⟨-,h2⟩:=hC b (hs.own_lt ho).2 hcb;rcases h2 with h2|h2
  ·have:=(hs.own_lt ho).1;omega
  ·exact(hk b h2).2 ho
 refine⟨h0.bl,h0.hn,P,⟨hs.rws.chg hc fun i b hb=>hno b ⟨i,hb⟩,hs.wf⟩,e,fun b hb=>?_⟩;rcases hb with hb|hb
 ·exact⟨Nat.lt_of_lt_of_le (hk b hb).1 hc.size,(hk b hb).2⟩
 ·exact⟨hb.2,fun ho=>by have:=(hs.own_lt ho).2;omega⟩
theorem TX.step {C:TC} {W W1 W4 W5 W7:World} {S:ST} {L:List SS} {O:Nat->Prop} {v1 v2 v3 ev x1 x2 x3 ev' dv:Value} {xs:List Value} (hC:C.Ok)
  (h1:KS C.w C.n0 C.sb (fun b=>C.kb b\/b=C.tb\/O b) W S) (h2:∀ b,O b->C.n0<=b/\¬ C.kb b/\b≠C.tb) (h3:W.heap[C.tb]?=some (.cells (C.cells v1 v2 v3 ev) 119 (0,0)))
  (g1:W.ownsRow C.n0 55 1 ev (evsE C.s0 L).length xs) (g2:∀ b,ev.ownBlock=some b->O b) (g3:∀ i (hi:i<(evsE C.s0 L).length),∃ A c,xs[i]?=some (.slice A (evsE C.s0 L)[i].length c)/\(evsE C.s0 L)[i].length<=c/\RowC W (fun b=>O b/\ev.ownBlock≠some b) A (evsE C.s0 L)[i])
  (hl:L.length+1<=1000000) (hsm:S.state.Sm) (hb1:Below W.heap.size W W1) (hb4:Below W1.heap.size W1 W4) (hx:OwnS W1 W.heap.size S.state (.agg #[x1,x2,x3])) {n2:Nat} (hn2:W.heap.size<=n2) (hd:DiR n2 W4 dv (znH (zk6 C.s0 L) S.state))
  (ho:W5.ownsRow C.n0 55 1 ev' ((evsE C.s0 L).length+1) (xs++[dv])) (hg:W4.grownBy W5 ev.ownBlock) (ak:ev'.ownBlock=ev.ownBlock\/ev'.ownBlock=some W4.heap.size)
  (iH:Chg (fun b=>b=C.tb) W5 W7) (gQ:W7.heap[C.tb]?=some (.cells (C.cells x1 x2 x3 ev') 119 (0,0))) :
  TX C W7 S (L++[S.state])/\Kpt C.n0 C.kb W W7/\Below C.w.heap.size C.w W7:=by
 obtain⟨P,-,-,hkb⟩:=h1.sr;have jO:∀ b,O b->b<W.heap.size:=fun b hb=>(hkb b (.inr (.inr hb))).1;have htlt:C.tb<W.heap.size:=(hkb _ (.inr (.inl rfl))).1;have dI:=zka hb1 hb4;have hs1:=hb1.size;have hs4:=hb4.size;have hs5:=hg.size;have hs7:=iH.size;have hn0:=h1.hn
 -- the blocks between W and W7
 have hkeep:∀ b,b<W4.heap.size->ev.ownBlock≠some b->b≠C.tb->W7.heap[b]?=W4.heap[b]?:=fun b hb h1 h2=>(iH.block b (Nat.lt_of_lt_of_le hb hs5) h2).trans (hg.block b hb (fun e=>h1 e.symm));have hkeepW:∀ b,b<W.heap.size->ev.ownBlock≠some b->b≠C.tb->W7.heap[b]?=W.heap[b]?:=fun b hb h1 h2=>(hkeep b (Nat.lt_of_lt_of_le hb dI.size) h1 h2).trans (dI.block b hb);have hch:Chg (fun b=>ev.ownBlock=some b\/b=C.tb) W4 W7:=⟨iH.os.trans hg.os,iH.tape.trans hg.tape,iH.output.trans hg.output,Nat.le_trans hs5 hs7,fun b hb hn=>hkeep b hb (fun e=>hn (.inl e)) (fun e=>hn (.inr e))⟩
 have hks4:=h1.also dI (kb':=fun b=>(C.kb b\/b=C.tb\/O b)\/(W.heap.size<=b/\b<W4.heap.size)) fun b hb=>hb;have hks7:=hks4.chg2 hch fun b _ hb=>by
  rcases hb with hb|hb
  ·have:=(h2 b (g2 b hb)).1;exact⟨by omega,.inr (.inl (.inr (.inr (g2 b hb))))⟩
  ·have:=hC.tb.1;exact⟨by omega,.inr (.inl (.inr (.inl hb)))⟩
 have iF:∀ b,ev'.ownBlock=some b->O b\/W4.heap.size<=b:=fun b hb=>by
  rcases ak with e|e
  ·exact .inl (g2 b (e▸hb))
  ·rw[e] at hb;injection hb with hb;exact .inr (by omega)
 have hevlt:∀ b,ev'.ownBlock=some b->b<W7.heap.size:=fun b hb=>Nat.lt_of_lt_of_le (ho.lt b hb).2 hs7;have hn0W:=h1.n0le;have hevO:∀ b,ev.ownBlock=some b->b<W.heap.size:=fun b hb=>jO b (g2 b hb);have hnew:∀ b,W.heap.size<=b->b<W4.heap.size->(O b\/(W.heap.size<=b/\b<W7.heap.size))/\ev'.ownBlock≠some b:=fun b h4 h5=>⟨.inr ⟨h4,by omega⟩,fun e=>by
  rcases iF b e with h6|h6
  ·have:=jO b h6;omega
  ·omega⟩
 have hkp4:∀ b,W.heap.size<=b->b<W4.heap.size->W7.heap[b]?=W4.heap[b]?:=fun b h4 h5=>hkeep b h5 (fun e=>by have:=hevO b e;omega) (fun e=>by omega);refine⟨⟨fun b=>O b\/(W.heap.size<=b/\b<W7.heap.size),x1,x2,x3,ev',hks7.less fun b hb=>?_,fun b hb=>?_,gQ,?_,?_,by rw[zmU];exact hsm,by simpa using hl⟩,⟨by omega,fun b hb hh=>?_⟩,hks7.bl⟩
 ·rcases hb with hb|hb|hb|hb
  ·exact .inl (.inl (.inl hb))
  ·exact .inl (.inl (.inr (.inl hb)))
  ·exact .inl (.inl (.inr (.inr hb)))
  ·rcases Nat.lt_or_ge b W4.heap.size with h4|h4
   ·exact .inl (.inr ⟨hb.1,h4⟩)
   ·exact .inr ⟨h4,hb.2⟩
 ·rcases hb with hb|hb
  ·exact h2 b hb
  ·exact⟨by omega,fun hk=>by have:=(hkb b (.inl hk)).1;omega,by omega⟩
 ·rw[zmU];exact(hx.svR hsm.lim).keep (fun b hb hlt=>hnew b hb (Nat.lt_of_lt_of_le hlt hs4)) fun b hb hlt=>(hkp4 b hb (Nat.lt_of_lt_of_le hlt hs4)).trans (hb4.block b hlt)
 ·rw[zo0];refine⟨xs++[dv],?_,fun b hb=>?_,fun i hi=>?_⟩
  ·rw[List.length_append];refine zlo ho fun b hb=>iH.block b (ho.lt b hb).2 fun e=>?_;have e:b=C.tb:=e;rcases iF b hb with h6|h6
   ·exact(h2 b h6).2.2 e
   ·omega
  ·rcases iF b hb with h6|h6
   ·exact .inl h6
   ·exact .inr ⟨by omega,hevlt b hb⟩
  ·rw[List.length_append] at hi;by_cases hi2:i<(evsE C.s0 L).length
   ·obtain⟨A,c,f1,f2,f3⟩:=g3 i hi2;rw[List.getElem_append_left hi2];refine⟨A,c,?_,f2,f3.keep (fun b hb hlt=>⟨.inl hb.1,fun e=>?_⟩) fun b hb hlt=>hkeepW b hlt hb.2 (h2 b hb.1).2.2⟩
    ·rw[List.getElem?_append_left (by have:=(List.getElem?_eq_some_iff.1 f1).1;exact this)];exact f1
    ·rcases ak with e1|e1
     ·exact hb.2 (e1▸e)
     ·rw[e1] at e;injection e with e;omega
   ·obtain rfl:i=(evsE C.s0 L).length:=by simp at hi;omega
    obtain⟨A,c,rfl,f2,f3⟩:=hd.rowC;have hxl:xs.length=(evsE C.s0 L).length:=by have:=g1.1;simpa using this
    rw[List.getElem_append_right (Nat.le_refl _)];simp only[Nat.sub_self,List.getElem_cons_zero];refine⟨A,c,by rw[List.getElem?_append_right (by omega),hxl,Nat.sub_self];rfl,f2,f3.keep (fun b hb hlt=>hnew b (Nat.le_trans hn2 hb.1) hb.2) fun b hb hlt=>hkp4 b (Nat.le_trans hn2 hb.1) hb.2⟩
 ·refine hkeepW b hb (fun e=>?_) (fun e=>?_)
  ·have:=h2 b (g2 b e);rcases hh with hh|hh
   ·omega
   ·exact this.2.1 hh
  ·rcases hh with hh|hh
   ·have:=hC.tb.1;omega
   ·exact hC.tb.2 (e▸hh)
theorem zp8 {C:TC} (hC:C.Ok) {W:World} {S:ST} {L:List SS} (h:TX C W S L) (hsm:S.state.Sm) (hl:L.length+1<=1000000) :
  Calls Tryz.prog 153 #[.pointer (some ⟨C.tb,0,none⟩),.int .i64 0] W fun e W'=>e=.returned (.int .i64 0)/\Kpt C.n0 C.kb W W'/\Below C.w.heap.size C.w W'/\TX C W' S (L++[S.state]):=by
 obtain⟨O,v1,v2,v3,ev,h1,h2,h3,h4,⟨xs,g1,g2,g3⟩,h6,h7⟩:=h;obtain⟨A,c,B,d,D,e,hv,-⟩:=id h4;injection hv with hv;simp only[Array.mk.injEq,List.cons.injEq,and_true] at hv;obtain⟨rfl,rfl,rfl⟩:=hv;obtain⟨Ae,ce,rfl,-⟩:=zkb g1;have HST:=zh h1.state;have jO:∀ b,O b->b<W.heap.size:=fun b hb=>by
  obtain⟨P,-,-,hkb⟩:=h1.sr;exact(hkb b (.inr (.inr hb))).1
 have HO:=zh jO;have H1:=zh h1;have H2:=zh h2;have H3:=zh h3;have H4:=zh h4.any;have G1:=zh g1;have G2:=zh g2;have G3:=zh g3;have H6:=zh h6;have jf:=zh hsm;have HE:=zh (zp5 C.s0 L);have t6:W.cell? ⟨C.tb,6,none⟩=some (.pointer (some ⟨C.sb,0,none⟩)):=zc h3 rfl;clear h1 h2 h3 h4 g1 g2 g3 h6 hsm jO;go_enter Tryz.func153,Tryz.ntmps153;go_wp2_with fail;refine HST.out.mono ?_;rintro e1 w1 ⟨vx,rfl,hox,hb1⟩;obtain⟨AX,cX,BX,dX,DX,eX,rfl,-⟩:=hox.svR jf.out.lim;have tV:=zh hox;have HB1:=zh hb1;clear t6 hox hb1 HST;go_upto_region 3 with fail;have kn:=heap_alloc_new w1 (.cells #[.slice AX S.state.cells.length cX,.slice BX S.state.tin.length dX,.slice DX S.state.tout.length eX] 26);have hbn:=zkd (Below.refl w1.heap.size w1) (.cells #[.slice AX S.state.cells.length cX,.slice BX S.state.tin.length dX,.slice DX S.state.tout.length eX] 26)
 obtain⟨w2,hw2⟩:∃ x,w1.alloc (.cells #[.slice AX S.state.cells.length cX,.slice BX S.state.tin.length dX,.slice DX S.state.tout.length eX] 26)=x:=⟨_,rfl⟩
 obtain⟨nb,hnb⟩:∃ x,w1.heap.size=x:=⟨_,rfl⟩
 rw[hw2] at kn hbn ⊢;rw[hnb] at kn ⊢;have o6:=zh hnb;have ug:=zh kn;have qP:=zh hbn;have HT2:=zh (zkc H3.out (zka HB1.out hbn));clear kn hbn hw2 hnb;obtain⟨le,hle⟩:∃ x,(evsE C.s0 L).length=x:=⟨_,rfl⟩
 have fG:=zh hle;have hbe:=bEv;rw[hle] at HT2;have aB:=zh (show ∀ w',Below w2.heap.size w2 w'->(fun w':World=>w'.cell? ⟨C.tb,7,none⟩=some (.slice A (zk6 C.s0 L).cells.length c)/\w'.cell? ⟨C.tb,8,none⟩=some (.slice B (zk6 C.s0 L).tin.length d)/\w'.cell? ⟨C.tb,9,none⟩=some (.slice D (zk6 C.s0 L).tout.length e)/\w'.cell? ⟨nb,0,none⟩=some (.slice AX S.state.cells.length cX)/\w'.cell? ⟨nb,1,none⟩=some (.slice BX S.state.tin.length dX)/\w'.cell? ⟨nb,2,none⟩=some (.slice DX S.state.tout.length eX)) w'/\(fun w':World=>w'.cell? ⟨C.tb,10,none⟩=some (.slice Ae le ce)) w' from fun w' hb=>⟨⟨zb hb (zc HT2.out rfl),zb hb (zc HT2.out rfl),zb hb (zc HT2.out rfl),zb hb (zc ug.out rfl),zb hb (zc ug.out rfl),zb hb (zc ug.out rfl)⟩,zb hb (zc HT2.out rfl)⟩)
 have hSS:(fun w':World=>w'.cell? ⟨C.tb,7,none⟩=some (.slice A (zk6 C.s0 L).cells.length c)/\w'.cell? ⟨C.tb,8,none⟩=some (.slice B (zk6 C.s0 L).tin.length d)/\w'.cell? ⟨C.tb,9,none⟩=some (.slice D (zk6 C.s0 L).tout.length e)/\w'.cell? ⟨nb,0,none⟩=some (.slice AX S.state.cells.length cX)/\w'.cell? ⟨nb,1,none⟩=some (.slice BX S.state.tin.length dX)/\w'.cell? ⟨nb,2,none⟩=some (.slice DX S.state.tout.length eX)) w2.drew/\(fun w':World=>w'.cell? ⟨C.tb,10,none⟩=some (.slice Ae le ce)) w2.drew:=aB.out _ (Below.refl _ _).drew;refine wp_region_noPanic ?_
 refine zke (fun w':World=>w'.cell? ⟨C.tb,7,none⟩=some (.slice A (zk6 C.s0 L).cells.length c)/\w'.cell? ⟨C.tb,8,none⟩=some (.slice B (zk6 C.s0 L).tin.length d)/\w'.cell? ⟨C.tb,9,none⟩=some (.slice D (zk6 C.s0 L).tout.length e)/\w'.cell? ⟨nb,0,none⟩=some (.slice AX S.state.cells.length cX)/\w'.cell? ⟨nb,1,none⟩=some (.slice BX S.state.tin.length dX)/\w'.cell? ⟨nb,2,none⟩=some (.slice DX S.state.tout.length eX)) (fun w':World=>w'.cell? ⟨C.tb,10,none⟩=some (.slice Ae le ce)) 15 (by kernel_rfl) ?_;refine zT 0 hSS ?_;(try simp only[zQ]);refine zT 1 hSS ?_;(try simp only[zQ]);refine zT 2 hSS ?_;(try simp only[zQ]);refine zT 3 hSS ?_;(try simp only[zQ]);refine zkO (i:=4) (v:=?_) rfl (by kernel_rfl) (by kernel_rfl) (by kernel_rfl) (by decide) rfl (by kernel_rfl) (by kernel_rfl) (fun _ _ _ h=>h) (Or.inl ⟨by rfl,?_⟩) hSS ?_;rotate_left 1
 ·(intro w hSw;(try dsimp only at hSw);(try simp only[zA,zB,zC]);go_simp;(try with_reducible rfl))
 (try simp only[zQ]);refine zT 5 hSS ?_;(try simp only[zQ]);refine zT 6 hSS ?_;(try simp only[zQ]);refine zT 7 hSS ?_;(try simp only[zQ]);refine zT 8 hSS ?_;(try simp only[zQ]);refine zT 9 hSS ?_;(try simp only[zQ]);have oJ:=zh (zka HB1.out qP.out);have hdw:Below w2.heap.size w2 w2.drew:=(Below.refl _ _).drew;have had:Calls Tryz.prog 189 [.agg #[.slice A (zk6 C.s0 L).cells.length c,.slice B (zk6 C.s0 L).tin.length d,.slice D (zk6 C.s0 L).tout.length e],.agg #[.slice AX S.state.cells.length cX,.slice BX S.state.tin.length dX,.slice DX S.state.tout.length eX]].toArray w2.drew fun e1 W'=>∃ u,e1=.returned u/\DiR w2.heap.size W' u (znH (zk6 C.s0 L) S.state)/\Below w2.heap.size w2 W' :=
  (ztz (zk6 C.s0 L) S.state _ _ w2.drew (H4.out.later (zka oJ.out hdw)) ((tV.out.sv jf.out.lim).later (zka qP.out hdw)) H6.out jf.out).mono fun e1 W' ⟨v,q1,q2,q3⟩=>⟨v,q1,q2,hdw.trans q3⟩
 refine zo 10 fun K hK=>?_;refine zkg (by rfl) (.func 189) [.tmp 21,.tmp 22] _ (by rfl) 189 _ zuX (by rfl) _ (by rfl) _ had ?_;rintro dv w3 ⟨hd3,hb3⟩;obtain⟨Ad,cd,rfl,-⟩:=zkb hd3.1;have HD3:=zh hd3;have HB3:=zh hb3;refine hK.out _ _ (aB.out _ hb3) ?_;clear hK K had hd3 hb3 hSS hdw;(try simp only[zQ]);obtain⟨ln,hln⟩:∃ x,(znH (zk6 C.s0 L) S.state).length=x:=⟨_,rfl⟩
 have iO:=zh hln;rw[hln];clear hln;refine zo 11 fun K hK=>?_;(try simp only[zA,zB,zC]);go_simp;have k4:=heap_alloc_new w3 (.cells #[.slice Ad ln cd] 55);have dH:=zkd (Below.refl w3.heap.size w3) (.cells #[.slice Ad ln cd] 55);obtain⟨w4,hw4⟩:∃ x,w3.alloc (.cells #[.slice Ad ln cd] 55)=x:=⟨_,rfl⟩
 obtain⟨b4,hb4⟩:∃ x,w3.heap.size=x:=⟨_,rfl⟩
 have kF:=zh dH;simp only[hw4,hb4] at k4 kF ⊢;have fw:=zh (show Below w3.heap.size w3 w4 by rw[hb4];exact kF.out);have aM:=zh (zka HB3.out fw.out);refine hK.out _ _ (aB.out _ aM.out) ?_;clear hK K hw4 dH hb4;(try simp only[zQ]);have hrow:=zkt G1.out (zka oJ.out aM.out);rw[hle] at hrow;obtain⟨ix,hix,hz0,hz1,hz2⟩:=info_parts zrO;refine zo 12 fun K hK=>?_;have hlen6:le+1<=1000001:=by rw[<-hle,HE.out];omega
 have hns:C.n0<=w4.heap.size:=Nat.le_trans H1.out.n0le (zka oJ.out aM.out).size;refine zky (by rfl) (.tmp 17) (.tmp 24) 45 (by rfl) C.n0 55 ix _ 1 24 Tryz.underlying45 hix hz0 hz1 hz2 rfl (by decide) (.slice Ae le ce) le xs (by rfl) hrow ⟨b4,0,none⟩ 1 1 [.slice Ad ln cd] (by rfl) rfl (fun j u hj=>by
  rw[Addr.add_lit,Nat.zero_add];exact zc k4 (by simpa using hj)) (by intro u hu;simp at hu;subst hu;rfl) (by unfold maxLen;omega) (by omega) hns ?_
 intro v5 w5 bY hg5 jy;obtain⟨A5,c5,rfl,-⟩:=zkb bY;have hO2:∀ b,(Value.slice Ae le ce).ownBlock=some b->O b:=fun b hb=>G2.out b (by rw[hle];exact hb);have fO:w5.heap[C.tb]?=_:=(Chg.row hg5).keep (zkc HT2.out aM.out) (fun e=>(H2.out _ (hO2 _ e)).2.2 rfl);have q9:w5.heap[nb]?=_:=(Chg.row hg5).keep (zkc ug.out aM.out) (fun e=>by have:=HO.out _ (hO2 _ e);have:=HB1.out.size;have:=o6.out;omega)
 have hS5:(fun w':World=>w'.cell? ⟨C.tb,7,none⟩=some (.slice A (zk6 C.s0 L).cells.length c)/\w'.cell? ⟨C.tb,8,none⟩=some (.slice B (zk6 C.s0 L).tin.length d)/\w'.cell? ⟨C.tb,9,none⟩=some (.slice D (zk6 C.s0 L).tout.length e)/\w'.cell? ⟨nb,0,none⟩=some (.slice AX S.state.cells.length cX)/\w'.cell? ⟨nb,1,none⟩=some (.slice BX S.state.tin.length dX)/\w'.cell? ⟨nb,2,none⟩=some (.slice DX S.state.tout.length eX)) w5/\(fun w':World=>w'.cell? ⟨C.tb,10,none⟩=some (.slice Ae le ce)) w5:=⟨⟨zc fO rfl,zc fO rfl,zc fO rfl,zc q9 rfl,zc q9 rfl,zc q9 rfl⟩,zc fO rfl⟩
 refine hK.out _ _ hS5 ?_;have fq:=zh bY;have uh:=zh hg5;have oV:=zh jy;have vE:=zh fO;have qK:=zh q9;have hSS:=hS5;have xf:∀ o,w5.frozen? ⟨C.tb,o,none⟩=false:=fun _=>zf fO;have x10:w5.cell? ⟨C.tb,10,none⟩=some (.slice Ae le ce):=zc fO rfl;clear hK K bY hg5 jy fO q9 hrow hix hz0 hz1 hz2 k4 hS5 hns;(try simp only[zQ]);refine zT 13 hSS ?_;(try simp only[zQ]);refine zT 14 hSS ?_;(try simp only[zQ]);refine zp 15 fun K hK=>?_;(try simp only[zA,zB,zC]);go_simp;have bz:=zsC (x:=.slice A5 (le+1) c5) vE.out;have hc6:=(Chg.refl (fun b=>b=C.tb) w5).setCell (p:=⟨C.tb,10,none⟩) (.inl rfl) (.slice A5 (le+1) c5);obtain⟨w6,eP⟩:∃ x,w5.setCell ⟨C.tb,10,none⟩ (.slice A5 (le+1) c5)=x:=⟨_,rfl⟩
 rw[eP] at bz hc6 ⊢;refine hK.out _ _ ⟨zc bz rfl,zc bz rfl,zc bz rfl,zc (hc6.keep qK.out (by show ¬ (nb=C.tb);have:=(H1.out.bl).size;have:=o6.out;have:=zko H3.out;have:=HB1.out.size;omega)) rfl,zc (hc6.keep qK.out (by show ¬ (nb=C.tb);have:=o6.out;have:=zko H3.out;have:=HB1.out.size;omega)) rfl,zc (hc6.keep qK.out (by show ¬ (nb=C.tb);have:=o6.out;have:=zko H3.out;have:=HB1.out.size;omega)) rfl⟩ ?_;have qo:=hc6.keep qK.out (by show ¬ (nb=C.tb);have:=o6.out;have:=zko H3.out;have:=HB1.out.size;omega);have sJ:=zh hc6;have lY:=zh bz;clear hK K eP xf x10 hc6 hSS;(try simp only[zQ]);refine zd ?_;refine NoPanic.normal ?_;have xf:∀ o,w6.frozen? ⟨C.tb,o,none⟩=false:=fun _=>zf bz;have x7:w6.cell? ⟨C.tb,7,none⟩=some (.slice A (zk6 C.s0 L).cells.length c):=zc bz rfl;have x8:w6.cell? ⟨C.tb,8,none⟩=some (.slice B (zk6 C.s0 L).tin.length d):=zc bz rfl
 have x9:w6.cell? ⟨C.tb,9,none⟩=some (.slice D (zk6 C.s0 L).tout.length e):=zc bz rfl;have y0:w6.cell? ⟨nb,0,none⟩=some (.slice AX S.state.cells.length cX):=zc qo rfl;have y1:w6.cell? ⟨nb,1,none⟩=some (.slice BX S.state.tin.length dX):=zc qo rfl;have y2:w6.cell? ⟨nb,2,none⟩=some (.slice DX S.state.tout.length eX):=zc qo rfl;have gQ:=zq8 (x:=.slice AX S.state.cells.length cX) (y:=.slice BX S.state.tin.length dX) (z:=.slice DX S.state.tout.length eX) bz;have iH:=((sJ.out.setCell (p:=⟨C.tb,7,none⟩) (.inl rfl) (.slice AX S.state.cells.length cX)).setCell (p:=⟨C.tb,8,none⟩) (.inl rfl) (.slice BX S.state.tin.length dX)).setCell (p:=⟨C.tb,9,none⟩) (.inl rfl) (.slice DX S.state.tout.length eX)
 have aV:=zh (TX.step (O:=O) (xs:=xs) hC H1.out H2.out H3.out G1.out G2.out G3.out hl jf.out HB1.out (zka qP.out aM.out) tV.out (zka HB1.out qP.out).size (HD3.out.later fw.out) (by rw[hle,iO.out];exact fq.out) (by rw[hle];exact uh.out) (by rw[hle];exact oV.out) iH gQ);clear bz qo gQ iH;go_wp2_with fail;go_ret;obtain⟨q1,q2,q3⟩:=aV.out;exact⟨rfl,q2,q3,q1⟩
def StmC (G:List PR->T->Prop) (back:Bool) (t:T) (S:ST) (L:List SS) (S':ST):Prop :=
 ∀ C:TC,C.Ok->G C.p.prs t->∀ (W:World) (L0:List SS),TI C W S L0->L0.length+L.length<=900000->∀ v,NV C.w Any t v ->
  Calls Tryz.prog 115 #[.pointer (some ⟨C.tb,0,none⟩),v,.bool back] W fun e W'=>e=.returned (.int .i64 0)/\TrP C W S' (L0++L) W'
def BlkC (G:List PR->T->Prop) (back:Bool):List T->ST->List SS->ST->Prop
 | [],S,L,S'=>L=[]/\S'=S
 | t::ts,S,L,S'=>∃ S1 L1 L2,L=L1++L2/\StmC G back t S L1 S1/\BlkC G back ts S1 L2 S'
theorem zqi {G:List PR->T->Prop} {C:TC} (hC:C.Ok) {W:World} {S S':ST} {L0 L:List SS} (h:TI C W S L0) (t:T) (v:Value) (back:Bool) (hB:BlkC G back (blkL back t) S L S') (hln:L0.length+L.length<=900000) (hv:NV C.w Any t v) (hG:∀ u∈t.ks,G C.p.prs u) :
  Calls Tryz.prog 65 #[.pointer (some ⟨C.tb,0,none⟩),v,.bool back] W fun e W'=>e=.returned (.int .i64 0)/\TrP C W S' (L0++L) W':=by
 obtain⟨A,c,rfl,-,hlk,hlc,hrow⟩:=hv.open_;have ag:=zh hrow;have HG:=zh hG;have hb0:=zkd (Below.refl W.heap.size W) (.cells #[.int .u8 t.k,.int .i64 t.n,.string t.s,.slice A t.ks.length c] 29);obtain⟨dm,h1⟩:=h.plus hC hb0;have hz1:(W.alloc (.cells #[.int .u8 t.k,.int .i64 t.n,.string t.s,.slice A t.ks.length c] 29)).heap.size=W.heap.size+1:=by simp
 have hbx:=box4 (heap_alloc_new W (.cells #[.int .u8 t.k,.int .i64 t.n,.string t.s,.slice A t.ks.length c] 29));have bP:=zh (Kpt.of_below (n0:=C.n0) (kb:=C.kb) hb0);obtain⟨W1,hW1⟩:∃ x,W.alloc (.cells #[.int .u8 t.k,.int .i64 t.n,.string t.s,.slice A t.ks.length c] 29)=x:=⟨_,rfl⟩
 rw[hW1] at dm h1 hz1 hbx bP;obtain⟨hi,hhi⟩:∃ x,W1.heap.size=x:=⟨_,rfl⟩
 rw[hhi] at dm h1 hz1;have iU:=zh dm;have H1:=zh h1;have ax:=zh hbx;have hz2:W.heap.size<hi:=by omega
 have hwn:IntKind.i64.wrap ((t.ks.length:Int)-1)=(t.ks.length:Int)-1:=IntWalk.i64_in _ (by unfold LK at hlk;omega);have hwq:∀ j:Nat,j<t.ks.length->IntKind.i64.wrap ((t.ks.length:Int)-1-(j:Int))=((t.ks.length-1-j:Nat):Int):=fun j hj=>by rw[IntWalk.i64_in _ (by unfold LK at hlk;omega)];omega
 have iO:=zh hln;have fI:=zh (show BlkC G back ((blkL back t).drop 0) S L S' by rw[List.drop_zero];exact hB);have dA:(blkL back t).length=t.ks.length:=by unfold blkL;split<;>simp
 have cB:=zh dA;have hlk2:t.ks.length<=17592186044416:=by unfold LK at hlk;omega
 clear dA hlk hB hln;clear hv dm h1 hbx hb0 h hz1 hG hrow;obtain⟨x0,x1,x2,x3⟩:=ax.out;go_enter Tryz.func65,Tryz.ntmps65;go_wp2_with fail;clear x0 x1 x2 x3 hW1
 go_loopw [17] (fun i wr=>∃ (j:Nat) (S1:ST) (L1 L2:List SS),j<=t.ks.length/\i=.int .i64 j/\Hid (TI (C.plus W.heap.size hi) wr S1 (L0++L1))/\Hid (Kpt C.n0 (C.plus W.heap.size hi).kb W1 wr)/\Hid (BlkC G back ((blkL back t).drop j) S1 L2 S')/\Hid (L=L1++L2)) (fun i _=>t.ks.length-(intOf i).toNat)
 case atStart=>exact⟨0,S,[],L,Nat.zero_le _,rfl,by simpa using H1,zh (Kpt.refl _ _ _),fI,zh rfl⟩
 case round =>
  obtain⟨j,S1,L1,L2,hj,rfl,HR,HK,dV,fG⟩:=hrel;by_cases hlt:j<t.ks.length
  ·cases back
   ·skip
    have hj1:(j:Int)<(t.ks.length:Int):=by omega
    have hj0:(0:Int)<=(j:Int):=by omega
    have fQ:j<t.ks.length:=by omega
    have nK:(j:Int)<(t.ks.length:Int):=by omega
    have nL:(0:Int)<=(j:Int):=by omega
    have aO:=HR.out.below;obtain⟨a,u,A1,c1,rfl,-,hu,⟨p0,p1,p2,p3⟩,hnu⟩:=ag.out.nd fQ;have hgu:=HG.out u (by rw[<-hu.out];exact List.getElem_mem _);have hdr:(blkL false t).drop j=u::(blkL false t).drop (j+1):=by
     rw[List.drop_eq_getElem_cons (by rw[cB.out];exact hlt),<-hu.out];congr 1;all_goals simp[blkL,hlt]
    have hblk:=dV.out;rw[hdr] at hblk;obtain⟨S2,La,Lb,hlb,jr,hblk2⟩:=hblk;have jU:=zh (jr (C.plus W.heap.size hi) iU.out hgu wr (L0++L1) HR.out (by have:=iO.out;have h5:=fG.out;rw[hlb] at h5;rw[h5] at this;simp only[List.length_append] at this ⊢;omega) _ hnu);have pX:=zh hblk2;have o8:=zh (show L=(L1++La)++Lb by rw[fG.out,hlb,List.append_assoc]);have q0:=zb aO p0;have q1:=zb aO p1;have q2:=zb aO p2;have q3:=zb aO p3;have x3:wr.cell? ⟨W.heap.size,3,none⟩=some (.slice (some a) t.ks.length c):=HK.out.cell (.inr (.inr ⟨Nat.le_refl _,hz2⟩)) ax.out.2.2.2;clear aO hnu hgu p0 p1 p2 p3 hu hdr hblk2 jr hlb;go_wp2_with fail;refine jU.out.mono ?_;rintro e w2 ⟨rfl,hk2,hb2,hr2⟩;have bG:=zh (HK.out.trans hk2);have HR2:=zh (show TI (C.plus W.heap.size hi) w2 S2 (L0++(L1++La)) by rw[<-List.append_assoc];exact hr2);clear hk2 hb2 hr2 jU q0 q1 q2 q3 x3;go_wp2_with fail
    go_roundw
    case rel=>exact⟨j+1,S2,L1++La,Lb,by omega,by go_num,HR2,bG,pX,o8⟩
    case measure=>simp[intOf];omega
   ·skip
    have nA:=hwq j hlt;obtain⟨q,hq⟩:∃ q,t.ks.length-1-j=q:=⟨_,rfl⟩
    rw[hq] at nA;have hj1:(j:Int)<(t.ks.length:Int):=by omega
    have hj0:(0:Int)<=(j:Int):=by omega
    have fQ:q<t.ks.length:=by omega
    have nK:(q:Int)<(t.ks.length:Int):=by omega
    have nL:(0:Int)<=(q:Int):=by omega
    have aO:=HR.out.below;obtain⟨a,u,A1,c1,rfl,-,hu,⟨p0,p1,p2,p3⟩,hnu⟩:=ag.out.nd fQ;have hgu:=HG.out u (by rw[<-hu.out];exact List.getElem_mem _);have hdr:(blkL true t).drop j=u::(blkL true t).drop (j+1):=by
     rw[List.drop_eq_getElem_cons (by rw[cB.out];exact hlt),<-hu.out];congr 1;all_goals simp[blkL,hq]
    have hblk:=dV.out;rw[hdr] at hblk;obtain⟨S2,La,Lb,hlb,jr,hblk2⟩:=hblk;have jU:=zh (jr (C.plus W.heap.size hi) iU.out hgu wr (L0++L1) HR.out (by have:=iO.out;have h5:=fG.out;rw[hlb] at h5;rw[h5] at this;simp only[List.length_append] at this ⊢;omega) _ hnu);have pX:=zh hblk2;have o8:=zh (show L=(L1++La)++Lb by rw[fG.out,hlb,List.append_assoc]);have q0:=zb aO p0;have q1:=zb aO p1;have q2:=zb aO p2;have q3:=zb aO p3;have x3:wr.cell? ⟨W.heap.size,3,none⟩=some (.slice (some a) t.ks.length c):=HK.out.cell (.inr (.inr ⟨Nat.le_refl _,hz2⟩)) ax.out.2.2.2;clear aO hnu hgu p0 p1 p2 p3 hu hdr hblk2 jr hlb;go_wp2_with fail;refine jU.out.mono ?_;rintro e w2 ⟨rfl,hk2,hb2,hr2⟩;have bG:=zh (HK.out.trans hk2);have HR2:=zh (show TI (C.plus W.heap.size hi) w2 S2 (L0++(L1++La)) by rw[<-List.append_assoc];exact hr2);clear hk2 hb2 hr2 jU q0 q1 q2 q3 x3;go_wp2_with fail
    go_roundw
    case rel=>exact⟨j+1,S2,L1++La,Lb,by omega,by go_num,HR2,bG,pX,o8⟩
    case measure=>simp[intOf];omega
  ·obtain rfl:j=t.ks.length:=by omega
   have hj1:¬ (t.ks.length:Int)<(t.ks.length:Int):=by omega
   have hbc:=dV.out;rw[List.drop_of_length_le (by rw[cB.out];exact Nat.le_refl _)] at hbc;obtain⟨rfl,rfl⟩:=hbc;have hll:L=L1:=by rw[fG.out,List.append_nil]
   subst hll;have mK:=zh HR.out.less;have HKF:=zh (show Kpt C.n0 C.kb W wr from bP.out.trans ⟨HK.out.size,fun b hb hk=>HK.out.kept b hb (hk.elim .inl fun h=>.inr (.inl h))⟩);go_wp2_with fail;go_ret;exact⟨rfl,HKF.out,mK.out.below,mK.out⟩
theorem ztO:IsFn Tryz.prog 153 Tryz.f153:=⟨Tryz.func153,by kernel_rfl,by kernel_rfl⟩
theorem zvw:IsFn Tryz.prog 20 Tryz.f20:=⟨Tryz.func20,by kernel_rfl,by kernel_rfl⟩
theorem zud:IsFn Tryz.prog 19 Tryz.f19:=⟨Tryz.func19,by kernel_rfl,by kernel_rfl⟩
theorem zt2 {S:ST} {j:Nat} (hw:S.WF) (hf:FB j S) (hj:j<=900000):S.state.Sm:=by
 obtain⟨kd,h1,_,_⟩:=hw.ex;obtain⟨_,_,h2⟩:=zpg hw;have:=hw.tin.1;have:=hw.tout.1;have:=hf.1;have:=h1.len;refine⟨?_,fun l hl=>by have:=h2 l hl;omega,by show S.tin.length<=_;omega,by show S.tout.length<=_;omega⟩;simp only[ST.state,List.length_map,List.length_take];omega
theorem TX.call {C:TC} {W:World} {S:ST} {L:List SS} {R:Int×ST} {f:FuncId} {args:Array Value} (h:TX C W S L) (hc:∀ kb,KS C.w C.n0 C.sb kb W S->Calls Tryz.prog f args W (KP C.w C.n0 C.sb kb W R)) :
  Calls Tryz.prog f args W fun e W'=>e=.returned (.int .i64 R.1)/\TX C W' R.2 L/\Kpt C.n0 C.kb W W':=by
 obtain⟨O,v1,v2,v3,ev,h1,h2,h3,h4,h5,h6⟩:=h;refine(hc _ h1).mono ?_;rintro e W' ⟨e1,e2,e3⟩;have hkp:∀ b,O b->b<W.heap.size->W'.heap[b]?=W.heap[b]?:=fun b hb hlt=>e3.kept b hlt (.inr (.inr (.inr hb)));refine⟨e1,⟨O,v1,v2,v3,ev,e2,h2,e3.blk (.inr (.inr (.inl rfl))) h3,h4.keep (fun b hb _=>hb) (fun b hb hlt=>hkp b hb.1 hlt),?_,h6⟩,⟨e3.size,fun b hb hh=>e3.kept b hb (hh.elim .inl fun h=>.inr (.inl h))⟩⟩;obtain⟨xs,g1,g2,g3⟩:=h5;refine⟨xs,zlo g1 fun b hb=>hkp b (g2 b hb) (g1.lt b hb).2,g2,fun i hi=>?_⟩;obtain⟨A,c,f1,f2,f3⟩:=g3 i hi;exact⟨A,c,f1,f2,f3.keep (fun b hb _=>hb) fun b hb hlt=>hkp b hb.1 hlt⟩
theorem zsu {C:TC} (hC:C.Ok) {W:World} {S:ST} {L0:List SS} (h:TI C W S L0) (t:T) (v:Value) (back:Bool) (hv:NV C.w Any t v) (hk:t.k≠52/\t.k≠53/\t.k≠54/\t.k≠55/\t.k≠50/\t.k≠51)
  (h0:(if back=true then zls S t else doE S t).1=0) (hln:L0.length+1<=900000) :
  Calls Tryz.prog 115 #[.pointer (some ⟨C.tb,0,none⟩),v,.bool back] W fun e W'=>e=.returned (.int .i64 0)/\TrP C W (if back=true then zls S t else doE S t).2 (L0++[(if back=true then zls S t else doE S t).2.state]) W':=by
 have HV:=zh hv;have iO:=zh hln;obtain⟨A,c,rfl,-,hlk,hlc,-⟩:=hv.open_;have e0:(t.k==52)=false:=by simpa using hk.1
 have e1:(t.k==53)=false:=by simpa using hk.2.1
 have e2:(t.k==54)=false:=by simpa using hk.2.2.1
 have e3:(t.k==55)=false:=by simpa using hk.2.2.2.1
 have e4:(t.k==50)=false:=by simpa using hk.2.2.2.2.1
 have e5:(t.k==51)=false:=by simpa using hk.2.2.2.2.2
 have hb0:=zkd (Below.refl W.heap.size W) (.cells #[.int .u8 t.k,.int .i64 t.n,.string t.s,.slice A t.ks.length c] 29);obtain⟨dm,h1⟩:=h.plus hC hb0;have k0:=heap_alloc_new W (.cells #[.int .u8 t.k,.int .i64 t.n,.string t.s,.slice A t.ks.length c] 29);obtain⟨x0,x1,x2,x3⟩:=box4 k0;have qJ:=zh (Kpt.of_below (n0:=C.n0) (kb:=C.kb) hb0);have HB1:=zh (zka h.below hb0);obtain⟨w3,hw3⟩:∃ x,W.alloc (.cells #[.int .u8 t.k,.int .i64 t.n,.string t.s,.slice A t.ks.length c] 29)=x:=⟨_,rfl⟩
 rw[hw3] at dm h1 k0 x0 x1 x2 x3 qJ HB1;have l0:=zko k0;have K0:=zh k0;obtain⟨hi,hhi⟩:∃ x,w3.heap.size=x:=⟨_,rfl⟩
 rw[hhi] at dm h1 l0;have iU:=zh dm;have H1:=zh h1;clear hv hb0 dm h1 k0 h hk hC;go_enter Tryz.func115,Tryz.ntmps115
 cases back
 ·have h0:(doE S t).1=0:=h0;go_upto_region 14 with fail;have hSS:(fun w':World=>w'.cell? ⟨C.tb,6,none⟩=some (.pointer (some ⟨C.sb,0,none⟩))/\w'.cell? ⟨W.heap.size,0,none⟩=some (.int .u8 t.k)/\w'.cell? ⟨W.heap.size,1,none⟩=some (.int .i64 t.n)/\w'.cell? ⟨W.heap.size,2,none⟩=some (.string t.s)/\w'.cell? ⟨W.heap.size,3,none⟩=some (.slice A t.ks.length c)) w3.drew/\(fun _:World=>True) w3.drew:=⟨⟨(H1.out.ex.later (Below.refl _ _).drew).cells.1,zc (zkc K0.out (Below.refl _ _).drew) rfl,zc (zkc K0.out (Below.refl _ _).drew) rfl,zc (zkc K0.out (Below.refl _ _).drew) rfl,zc (zkc K0.out (Below.refl _ _).drew) rfl⟩,trivial⟩
  refine wp_region_noPanic ?_;refine zke (fun w':World=>w'.cell? ⟨C.tb,6,none⟩=some (.pointer (some ⟨C.sb,0,none⟩))/\w'.cell? ⟨W.heap.size,0,none⟩=some (.int .u8 t.k)/\w'.cell? ⟨W.heap.size,1,none⟩=some (.int .i64 t.n)/\w'.cell? ⟨W.heap.size,2,none⟩=some (.string t.s)/\w'.cell? ⟨W.heap.size,3,none⟩=some (.slice A t.ks.length c)) (fun _:World=>True) 7 (by kernel_rfl) ?_;refine zT 0 hSS ?_;(try simp only[zQ]);refine zT 1 hSS ?_;(try simp only[zQ]);refine zT 2 hSS ?_;(try simp only[zQ]);refine zT 3 hSS ?_;(try simp only[zQ]);refine zT 4 hSS ?_;(try simp only[zQ]);refine zT 5 hSS ?_;(try simp only[zQ]);have hbd:Below w3.heap.size w3 w3.drew:=(Below.refl _ _).drew
  have had:Calls Tryz.prog 20 [.pointer (some ⟨C.sb,0,none⟩),.agg #[.int .u8 t.k,.int .i64 t.n,.string t.s,.slice A t.ks.length c]].toArray w3.drew fun e w'=>∃ v,e=.returned v/\(v=.int .i64 0/\TX (C.plus W.heap.size hi) w' (doE S t).2 L0/\Kpt C.n0 (C.plus W.heap.size hi).kb w3 w') :=
   (TX.call (R:=(doE S t)) (H1.out.ex.later hbd) fun kb hkb=>hkb.do_ t _ (HV.out.later (zka HB1.out (Below.refl _ _).drew))).mono fun e w' ⟨g1,g2,g3⟩=>⟨_,g1,by rw[h0],g2,(Kpt.of_below hbd).trans g3⟩
  refine zo 6 fun K hK=>?_;refine zkQ (by rfl) (.func 20) [.tmp 52,.tmp 53] _ (by rfl) 20 _ zvw (by rfl) _ (by rfl) _ had ?_;rintro v6x nu ⟨rfl,hx6,bz⟩;have bL:=bz.blk (.inr (.inr ⟨Nat.le_refl _,l0⟩)) K0.out;have mD:(fun w':World=>w'.cell? ⟨C.tb,6,none⟩=some (.pointer (some ⟨C.sb,0,none⟩))/\w'.cell? ⟨W.heap.size,0,none⟩=some (.int .u8 t.k)/\w'.cell? ⟨W.heap.size,1,none⟩=some (.int .i64 t.n)/\w'.cell? ⟨W.heap.size,2,none⟩=some (.string t.s)/\w'.cell? ⟨W.heap.size,3,none⟩=some (.slice A t.ks.length c)) nu:=⟨hx6.cells.1,zc bL rfl,zc bL rfl,zc bL rfl,zc bL rfl⟩
  refine hK.out _ _ ⟨mD,trivial⟩ ?_;have lK:=zh hx6;have jZ:=zh bz;have j3:=zh bL;clear hK K had hSS hx6 bz mD hbd bL;(try simp only[zQ]);have had:Calls Tryz.prog 153 [.pointer (some ⟨C.tb,0,none⟩),.int .i64 0].toArray nu fun e w'=>∃ v,e=.returned v/\(v=.int .i64 0/\Kpt C.n0 (C.plus W.heap.size hi).kb nu w'/\Below C.w.heap.size C.w w'/\TX (C.plus W.heap.size hi) w' (doE S t).2 (L0++[(doE S t).2.state])) :=
   (zp8 iU.out lK.out (zt2 lK.out.ks.wf (by have:=H1.out.fb.do_ t;simpa using this) (by have:=iO.out;(try simp only[List.length_append,List.length_cons,List.length_nil] at this ⊢);omega)) (by have:=iO.out;(try simp only[List.length_append,List.length_cons,List.length_nil] at this ⊢);omega)).mono fun e w' ⟨g1,g2,g3,g4⟩=>⟨_,g1,rfl,g2,g3,g4⟩
  refine zp 7 fun K hK=>?_;refine zkQ (by rfl) (.func 153) [.tmp 48,.tmp 54] _ (by rfl) 153 _ ztO (by rfl) _ (by rfl) _ had ?_;rintro v7x uA ⟨rfl,gQ,bH,hx7⟩;have bL:=gQ.blk (.inr (.inr ⟨Nat.le_refl _,l0⟩)) j3.out;have ou:(fun w':World=>w'.cell? ⟨C.tb,6,none⟩=some (.pointer (some ⟨C.sb,0,none⟩))/\w'.cell? ⟨W.heap.size,0,none⟩=some (.int .u8 t.k)/\w'.cell? ⟨W.heap.size,1,none⟩=some (.int .i64 t.n)/\w'.cell? ⟨W.heap.size,2,none⟩=some (.string t.s)/\w'.cell? ⟨W.heap.size,3,none⟩=some (.slice A t.ks.length c)) uA:=⟨hx7.cells.1,zc bL rfl,zc bL rfl,zc bL rfl,zc bL rfl⟩
  refine hK.out _ _ ou ?_;clear hK K had;(try simp only[zQ]);refine zp 8 fun K hK=>?_;(try simp only[zA,zB,zC]);go_simp;refine hK.out _ _ ou ?_;clear hK K;(try simp only[zQ]);refine zd ?_;refine NoPanic.normal ?_;have j5:=zh (jZ.out.trans gQ);have oG:=zh hx7;have qa:=zh bH;have HQ0x:=zh bL;clear gQ hx7 bH ou jZ lK bL j3;go_wp2_with fail;go_ret;have HF:=zh (TI.less (lo:=W.heap.size) (hi:=hi) (C:=C) ⟨oG.out,by have:=H1.out.fb.do_ t;simpa using this⟩);exact⟨rfl,qJ.out.trans ⟨j5.out.size,fun b hb hk=>j5.out.kept b hb (hk.elim .inl fun h=>.inr (.inl h))⟩,qa.out,HF.out⟩
 ·have h0:(zls S t).1=0:=h0;go_upto_region 13 with fail;have hSS:(fun w':World=>w'.cell? ⟨C.tb,6,none⟩=some (.pointer (some ⟨C.sb,0,none⟩))/\w'.cell? ⟨W.heap.size,0,none⟩=some (.int .u8 t.k)/\w'.cell? ⟨W.heap.size,1,none⟩=some (.int .i64 t.n)/\w'.cell? ⟨W.heap.size,2,none⟩=some (.string t.s)/\w'.cell? ⟨W.heap.size,3,none⟩=some (.slice A t.ks.length c)) w3.drew/\(fun _:World=>True) w3.drew:=⟨⟨(H1.out.ex.later (Below.refl _ _).drew).cells.1,zc (zkc K0.out (Below.refl _ _).drew) rfl,zc (zkc K0.out (Below.refl _ _).drew) rfl,zc (zkc K0.out (Below.refl _ _).drew) rfl,zc (zkc K0.out (Below.refl _ _).drew) rfl⟩,trivial⟩
  refine wp_region_noPanic ?_;refine zke (fun w':World=>w'.cell? ⟨C.tb,6,none⟩=some (.pointer (some ⟨C.sb,0,none⟩))/\w'.cell? ⟨W.heap.size,0,none⟩=some (.int .u8 t.k)/\w'.cell? ⟨W.heap.size,1,none⟩=some (.int .i64 t.n)/\w'.cell? ⟨W.heap.size,2,none⟩=some (.string t.s)/\w'.cell? ⟨W.heap.size,3,none⟩=some (.slice A t.ks.length c)) (fun _:World=>True) 7 (by kernel_rfl) ?_;refine zT 0 hSS ?_;(try simp only[zQ]);refine zT 1 hSS ?_;(try simp only[zQ]);refine zT 2 hSS ?_;(try simp only[zQ]);refine zT 3 hSS ?_;(try simp only[zQ]);refine zT 4 hSS ?_;(try simp only[zQ]);refine zT 5 hSS ?_;(try simp only[zQ]);have hbd:Below w3.heap.size w3 w3.drew:=(Below.refl _ _).drew
  have had:Calls Tryz.prog 19 [.pointer (some ⟨C.sb,0,none⟩),.agg #[.int .u8 t.k,.int .i64 t.n,.string t.s,.slice A t.ks.length c]].toArray w3.drew fun e w'=>∃ v,e=.returned v/\(v=.int .i64 0/\TX (C.plus W.heap.size hi) w' (zls S t).2 L0/\Kpt C.n0 (C.plus W.heap.size hi).kb w3 w') :=
   (TX.call (R:=(zls S t)) (H1.out.ex.later hbd) fun kb hkb=>hkb.undo t _ (HV.out.later (zka HB1.out (Below.refl _ _).drew))).mono fun e w' ⟨g1,g2,g3⟩=>⟨_,g1,by rw[h0],g2,(Kpt.of_below hbd).trans g3⟩
  refine zo 6 fun K hK=>?_;refine zkQ (by rfl) (.func 19) [.tmp 44,.tmp 45] _ (by rfl) 19 _ zud (by rfl) _ (by rfl) _ had ?_;rintro v6x nu ⟨rfl,hx6,bz⟩;have bL:=bz.blk (.inr (.inr ⟨Nat.le_refl _,l0⟩)) K0.out;have mD:(fun w':World=>w'.cell? ⟨C.tb,6,none⟩=some (.pointer (some ⟨C.sb,0,none⟩))/\w'.cell? ⟨W.heap.size,0,none⟩=some (.int .u8 t.k)/\w'.cell? ⟨W.heap.size,1,none⟩=some (.int .i64 t.n)/\w'.cell? ⟨W.heap.size,2,none⟩=some (.string t.s)/\w'.cell? ⟨W.heap.size,3,none⟩=some (.slice A t.ks.length c)) nu:=⟨hx6.cells.1,zc bL rfl,zc bL rfl,zc bL rfl,zc bL rfl⟩
  refine hK.out _ _ ⟨mD,trivial⟩ ?_;have lK:=zh hx6;have jZ:=zh bz;have j3:=zh bL;clear hK K had hSS hx6 bz mD hbd bL;(try simp only[zQ]);have had:Calls Tryz.prog 153 [.pointer (some ⟨C.tb,0,none⟩),.int .i64 0].toArray nu fun e w'=>∃ v,e=.returned v/\(v=.int .i64 0/\Kpt C.n0 (C.plus W.heap.size hi).kb nu w'/\Below C.w.heap.size C.w w'/\TX (C.plus W.heap.size hi) w' (zls S t).2 (L0++[(zls S t).2.state])) :=
   (zp8 iU.out lK.out (zt2 lK.out.ks.wf (by have:=H1.out.fb.undo t;simpa using this) (by have:=iO.out;(try simp only[List.length_append,List.length_cons,List.length_nil] at this ⊢);omega)) (by have:=iO.out;(try simp only[List.length_append,List.length_cons,List.length_nil] at this ⊢);omega)).mono fun e w' ⟨g1,g2,g3,g4⟩=>⟨_,g1,rfl,g2,g3,g4⟩
  refine zp 7 fun K hK=>?_;refine zkQ (by rfl) (.func 153) [.tmp 40,.tmp 46] _ (by rfl) 153 _ ztO (by rfl) _ (by rfl) _ had ?_;rintro v7x uA ⟨rfl,gQ,bH,hx7⟩;have bL:=gQ.blk (.inr (.inr ⟨Nat.le_refl _,l0⟩)) j3.out;have ou:(fun w':World=>w'.cell? ⟨C.tb,6,none⟩=some (.pointer (some ⟨C.sb,0,none⟩))/\w'.cell? ⟨W.heap.size,0,none⟩=some (.int .u8 t.k)/\w'.cell? ⟨W.heap.size,1,none⟩=some (.int .i64 t.n)/\w'.cell? ⟨W.heap.size,2,none⟩=some (.string t.s)/\w'.cell? ⟨W.heap.size,3,none⟩=some (.slice A t.ks.length c)) uA:=⟨hx7.cells.1,zc bL rfl,zc bL rfl,zc bL rfl,zc bL rfl⟩
  refine hK.out _ _ ou ?_;clear hK K had;(try simp only[zQ]);refine zp 8 fun K hK=>?_;(try simp only[zA,zB,zC]);go_simp;refine hK.out _ _ ou ?_;clear hK K;(try simp only[zQ]);refine zd ?_;refine NoPanic.normal ?_;have j5:=zh (jZ.out.trans gQ);have oG:=zh hx7;have qa:=zh bH;have HQ0x:=zh bL;clear gQ hx7 bH ou jZ lK bL j3;go_wp2_with fail;go_ret;have HF:=zh (TI.less (lo:=W.heap.size) (hi:=hi) (C:=C) ⟨oG.out,by have:=H1.out.fb.undo t;simpa using this⟩);exact⟨rfl,qJ.out.trans ⟨j5.out.size,fun b hb hk=>j5.out.kept b hb (hk.elim .inl fun h=>.inr (.inl h))⟩,qa.out,HF.out⟩
section
variable {P:Program} {md:Region.Mode} {ops:Array Oper} {Q:Exit->Act->World->Prop} {S1 S2:World->Prop} {k:Nat}
end
end Go.Proofs.YtckhofdinldhpaaGreat
