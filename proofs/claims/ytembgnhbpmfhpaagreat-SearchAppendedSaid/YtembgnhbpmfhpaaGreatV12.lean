/-
  Texts of the proof, put together without their remarks: Rpj, Srn, Srp, Ser, Sfo, Sex, Sak, Sar, Pfi, Ipt, Sap, Sal.
-/
import Derived.Test.YtembgnhbpmfhpaaGreatV11
import Derived.Maps.OwnSet
import Derived.Maps.OwnIn
set_option linter.unusedSimpArgs false
set_option linter.unusedVariables false
set_option maxHeartbeats 8000000
set_option maxRecDepth 100000
namespace Go.Proofs.YtembgnhbpmfhpaaGreat
open Tryz
section
open Go Go.RowKit
attribute [local go_sem] Oper.semAt_some
theorem zK3:IsFn prog 44 Tryz.f44:=⟨func44,by kernel_rfl,by kernel_rfl⟩
theorem bStZ(w:World):(Instr.build 32 #[]).run prog w=.ok (.agg #[.slice none 0 0,.slice none 0 0,.slice none 0 0]) w:=by kernel_rfl
theorem bSt1(A:Option Addr)(l c:Nat)(w:World):(Instr.build 32 #[(0,.slice A l c)]).run prog w=.ok (.agg #[.slice A l c,.slice none 0 0,.slice none 0 0]) w:=by kernel_rfl
theorem SV.nilR(w:World)(S:Nat->Prop):SV w S nilS (.agg #[.slice none 0 0,.slice none 0 0,.slice none 0 0]) :=
 ⟨none,0,none,0,none,0,rfl,fun i hi=>by simp[nilS]at hi,fun i hi=>by simp[nilS]at hi,fun i hi=>by simp[nilS]at hi,by simp[nilS],by simp[nilS],by simp[nilS],by simp[nilS,LI],by intro l hl;simp[nilS]at hl,by simp[nilS,LI],by simp[nilS,LI]⟩
theorem zxw(vs:List VD)(b:BX)(A:Option Addr)(c:Nat)(w:World)(hr:RowV w Any A vs)(hok:(b.ok&&svB vs)=true)(hc60:cntF vs b<=60) :
  Calls prog 11 #[.slice A vs.length c,.int .i64 b.v,.int .i64 b.l,.int .i64 b.i] w fun e w'=>∃v,e=.returned v/\(∃A' c',v=.slice A' (allR vs b).length c'/\(allR vs b).length<=c'/\zlj w' A' (allR vs b))/\Below w.heap.size w w':=by
 have hok2:=hok;simp only[Bool.and_eq_true]at hok2;have hb:=zlE hok2.1;obtain⟨hn,hvd⟩:=zsI hok2.2;have dz:=zh (zt0 hok2.1 hc60);have HV:=zh hvd;have HR:=zh hr;have wy:=zh (fun j (hj:j<=vs.length+1)=>zxO hok2.1 hok2.2 hj);have zi:=zh (fun j l (h:l∈lsJ vs b j)=>zxT hok2.1 hok2.2 h);have qY:=zh (fun j=>zyt dz.out j);have bH:=zh (fun j=>zyN dz.out j);have xL:=zh (fun j (h:j<=vs.length)=>zrT (vs:=vs) (b:=b) h);have jP:=zh (show stJ vs b (vs.length+1)=allU vs b from zwa vs b);have uq:=zh (show stJ vs b 0=[nilS] by simp[stJ,stgF]);obtain⟨V,hV⟩:=zX (b.v);obtain⟨nl,hnl⟩:∃nl:Nat,b.l=(nl:Int):=⟨b.l.toNat,by omega⟩
 obtain⟨ni,hni⟩:∃ni:Nat,b.i=(ni:Int):=⟨b.i.toNat,by omega⟩
 have ru:=zh (fun j (h:j<vs.length)=>show lsJ vs b j=if vs[j].k=1 then betE V 1 1 else if vs[j].k=2 then betE V vs[j].n.toNat vs[j].n.toNat else betE V 0 nl by unfold lsJ;rw[dif_pos h];unfold lstE;rw[hV,hnl];rfl);have bA:=zh (show lsJ vs b vs.length=betE V 0 ni by unfold lsJ;rw[dif_neg (by omega),hV,hni];rfl);have hv3:0<=V/\V<=1000:=by omega
 have sI:nl<=1000:=by omega
 have sJ:ni<=1000:=by omega
 have yn:=zh (fun a m w' (h1:a<=m) (h2:m<=1000) (h3:(betE V a m).length<=1000)=>zrt V a m w' hv3 (by omega) h2 h1 h3);rw[hV,hnl,hni];have dx:=zh (show allR vs b=zlt (allU vs b)from rfl);obtain⟨R9,xh⟩:=zX (allR vs b);rw[xh]at dx ⊢;obtain⟨U9,hU9⟩:=zX (allU vs b);rw[hU9]at jP dx;obtain⟨ST,hST⟩:∃ST:Nat->List SS,∀j,stJ vs b j=ST j:=⟨fun j=>stJ vs b j,fun _=>rfl⟩
 obtain⟨LJ,jB⟩:∃LJ:Nat->List (List Int),∀j,lsJ vs b j=LJ j:=⟨fun j=>lsJ vs b j,fun _=>rfl⟩
 simp only[hST]at wy qY xL jP uq;simp only[jB]at zi bH xL ru bA;clear hr hok hok2 hc60 hb hvd hV hnl hni xh hU9 hST jB dz;obtain⟨n,hn'⟩:=zX (vs.length);have HN:=zh hn';rw[hn']at hn xL jP wy bA ⊢;clear hn';have hI0:=bStZ;have hI1:=bSt1;have hI2:=bSts;go_enter func11,ntmps11;go_upto_region 2 with fail;have hb1:=zkb (zs w) (.cells #[.slice none 0 0,.slice none 0 0,.slice none 0 0] 32);have hk1:=heap_alloc_new w (.cells #[.slice none 0 0,.slice none 0 0,.slice none 0 0] 32);have HB1:=zh hb1;have gY:=zh (show zlj (w.alloc (.cells #[.slice none 0 0,.slice none 0 0,.slice none 0 0] 32)) (some ⟨w.heap.size,0,none⟩) (ST 0) by
  rw[uq.out];intro k hk;obtain rfl:k=0:=by simpa using hk
  exact⟨w.heap.size,0,_,_,_,rfl,zc hk1 rfl,zc hk1 rfl,zc hk1 rfl,SV.nilR _ _⟩)
 have iP:=zh (show(ST 0).length=1 by rw[uq.out];rfl);clear hb1 hk1;go_wp2_with fail
 go_loopw [10,9,11,12,13,14,15] (fun iv sv _ _ _ _ _ wr=>∃(j:Nat) (A:Option Addr) (m c:Nat),j<=n+1/\iv=.int .i64 j/\sv=.slice A m c/\m<=c/\m<=60/\Hid ((ST j).length=m)/\Hid (Below w.heap.size w wr)/\Hid (zlj wr A (ST j))) (fun iv _ _ _ _ _ _ _=>n+1-(intOf iv).toNat)
 case atStart=>exact⟨0,_,1,1,by omega,rfl,rfl,by omega,by omega,iP,HB1,gY⟩
 case round =>
  clear gY iP HB1;obtain⟨j,As,m,cs,hj,rfl,rfl,hmc,hm60,eU,HB,iL⟩:=hrel;by_cases hlt:j<=n
  ·have hj1:(j:Int)<=(n:Int):=by omega
   have hj0:(0:Int)<=(j:Int):=by omega
   have lI:=bH.out j;obtain⟨ll,hll⟩:=zX ((LJ j).length);have fQ:=zh hll;rw[hll]at lI;clear hll
   go_upto_if 27 with(fail)
   go_cut [11]from 24 to 59 (fun lv wx=>∃(Al:Option Addr) (cl:Nat),lv=.slice Al ll cl/\ll<=cl/\Hid (Below wr.heap.size wr wx)/\Hid (zlw wx (fun q=>q<wx.heap.size) Al (LJ j)))
   case first =>
    have bz:=zh (show ∀(a m:Nat) u (wx:World),LJ j=betE V a m->Below wr.heap.size wr wx->zkq wx wr.heap.size (fun q=>wr.heap.size<=q) u (betE V a m)->(∃(Al:Option Addr) (cl:Nat),u=.slice Al ll cl/\ll<=cl/\Hid (Below wr.heap.size wr wx)/\Hid (zlw wx (fun q=>q<wx.heap.size) Al (LJ j)))from fun a m u wx h1 h2 h3=>by
     rw[<-h1]at h3;obtain⟨Al,cl,e1,e2,e3⟩:=h3.ii fun q h _=>h;rw[fQ.out]at e1 e2;exact⟨Al,cl,e1,e2,zh h2,zh (e3.keep (fun q _ h=>h) fun _ _ _=>rfl)⟩)
    by_cases hjn:j=n
    ·subst hjn;have HL2:=zh bA.out;have uQ:=zh (yn.out 0 ni wr (by omega) sJ (by rw[<-bA.out];rw[fQ.out];omega));go_wp2_with fail;refine(uQ.out).mono ?_;rintro e wx ⟨hb2,u,rfl,hr2⟩;have HX:=zh (bz.out 0 ni u wx HL2.out hb2 hr2);clear hb2 hr2;go_wp2_with fail
     go_meet
     exact HX.out
    ·have dw:j<vs.length:=by rw[HN.out];omega
     have hjb:¬ (j:Int)=(n:Int):=by omega
     obtain⟨ab,v,rfl,-,hv,⟨x0,x1,x2⟩,-⟩:=(HR.out.later HB.out).nd dw;have hvb:=ztA (HV.out _ (List.getElem_mem dw));have jB:=ru.out j dw;have hjn2:(j:Int)<(n:Int):=by omega
     rw[hv.out]at hvb jB;clear hv dw;obtain⟨v0,v1,v2⟩:=v;simp only at x0 x1 x2 hvb jB;have hjnb:((j:Int)==(n:Int))=false:=by simp;omega
     rcases hvb with⟨rfl,rfl⟩|⟨rfl,hn1,hn2⟩|⟨rfl,rfl⟩
     ·rw[if_pos rfl]at jB;have HL2:=zh jB;have uQ:=zh (fun w' (hb:Below wr.heap.size wr w')=>yn.out 1 1 w' (by omega) (by omega) (by rw[<-HL2.out];rw[fQ.out];omega));clear jB;go_wp2_with fail;refine(uQ.out _ zr).mono ?_;rintro e wx ⟨hb2,u,rfl,hr2⟩;have HX:=zh (bz.out 1 1 u wx HL2.out hb2 hr2);clear hb2 hr2;go_wp2_with fail
      go_meet
      exact HX.out
     ·rw[if_neg (by decide),if_pos rfl]at jB;obtain⟨nv,rfl⟩:∃nv:Nat,v2=(nv:Int):=⟨v2.toNat,by omega⟩
      rw[Int.toNat_natCast]at jB;have HL2:=zh jB;have uQ:=zh (fun w' (hb:Below wr.heap.size wr w')=>yn.out nv nv w' (by omega) (by omega) (by rw[<-HL2.out];rw[fQ.out];omega));clear jB;have bC:=zh (show ∀w',Below wr.heap.size wr w'->w'.cell? ⟨(ab.add (j*3)).block,(ab.add (j*3)).off+2,none⟩=some (.int .i64 (nv:Int))from fun w' h=>by have h9:=zb h x2;exact h9);have hd:=(zs wr).drew;go_upto_region 11 with fail;have hSS:zW (fun w':World=>zv w' ((ab.add (j*3)).block) ((ab.add (j*3)).off+2) (.int .i64 (nv:Int))) zU wr.drew:=⟨bC.out _ hd,trivial⟩
      have had:Calls prog 44 [.int .i64 V,.int .i64 (nv:Int),.int .i64 (nv:Int)].toArray wr.drew fun e w'=>∃v,e=.returned v/\(zkq w' wr.drew.heap.size (fun q=>wr.drew.heap.size<=q) v (betE V nv nv)/\Below wr.drew.heap.size wr.drew w'):=(uQ.out _ hd).mono fun e w' ⟨h1,u,h2,h3⟩=>⟨u,h2,h3,h1⟩
      refine wp_region_noPanic ?_;refine zG hSS 12 ?_;refine zT 0 hSS ?_;refine zT 1 hSS ?_;refine zT 2 hSS ?_;refine zT 3 hSS ?_;refine zT 4 hSS ?_;refine zT 5 hSS ?_;refine zT 6 hSS ?_;refine zT 7 hSS ?_;refine zT 8 hSS ?_;refine zT 9 hSS ?_;refine zT 10 hSS ?_;refine zo 11 fun K hK=>?_;refine zkf (by rfl) (.func 44) [.tmp 45,.tmp 50,.tmp 55] _ (by rfl) 44 _ zK3 (by rfl) _ (by rfl) _ had ?_;rintro v5 w5 ⟨hr2,hb5⟩;have hb6:=hd.trans (hb5.mono hd.size);refine hK.out _ _ ⟨bC.out _ hb6,trivial⟩ ?_;clear hK K had hSS;(try simp only[zQ]);refine zp 12 fun K hK=>?_;(try simp only[zA,zB,zC]);go_simp;refine hK.out _ _ (bC.out _ hb6) ?_;clear hK K;(try simp only[zQ]);refine zd ?_;refine NoPanic.normal ?_;have HX:=zh (bz.out nv nv v5 w5 HL2.out hb6 hr2);clear hb5 hb6 hd;go_wp2_with fail
      go_meet
      exact HX.out
     ·rw[if_neg (by decide),if_neg (by decide)]at jB;have HL2:=zh jB;have uQ:=zh (fun w' (hb:Below wr.heap.size wr w')=>yn.out 0 nl w' (by omega) (by omega) (by rw[<-HL2.out];rw[fQ.out];omega));clear jB;go_wp2_with fail;refine(uQ.out _ zr).mono ?_;rintro e wx ⟨hb2,u,rfl,hr2⟩;have HX:=zh (bz.out 0 nl u wx HL2.out hb2 hr2);clear hb2 hr2;go_wp2_with fail
      go_meet
      exact HX.out
   case rest =>
    obtain⟨Al,cl,rfl,hlc,aX,Cf⟩:=hcut;have nu:=zh (xL.out j hlt);have HGS2:=zh (wy.out j (by omega));have HGL2:=zh (zi.out j);have uu:=zh (qY.out (j+1));have HGN:=zh (wy.out (j+1) (by omega));have HRS2:=zh (iL.out.later aX.out);have HB2:=zh (zka HB.out aX.out);obtain⟨st,hst⟩:=zX (ST j);obtain⟨lj,hlj⟩:=zX (LJ j);obtain⟨s2,hs2⟩:=zX (ST (j+1));have HS2:=zh hs2;rw[hst]at nu HGS2 HRS2 eU;rw[hlj]at nu HGL2 fQ Cf;rw[hs2]at nu uu HGN;clear hst hlj hs2 aX iL HB ru bA zi yn xL wy;have BC:=zh (show Below wc.heap.size wc wc from zr);obtain⟨B2,hB2⟩:=zX (wc.heap.size);rw[hB2]at BC Cf;go_wp2_with fail
    go_loopw [13,12,14,15] (fun pv nv _ _ wr=>∃(p:Nat) (An:Option Addr) (e cn:Nat) (acc:List SS),p<=m/\pv=.int .i64 p/\nv=.slice An e cn/\Hid (acc.length=e/\acc=(st.take p).flatMap fun s=>lj.map (nwS n j s))/\Hid (Below B2 wc wr)/\Hid (zli wr B2 Any (.slice An e cn) acc)) (fun pv _ _ _ _=>m-(intOf pv).toNat)
    case atStart=>exact⟨0,none,0,0,[],by omega,rfl,rfl,zh ⟨rfl,by simp⟩,BC,zh (zli.nil _ _ _)⟩
    case round =>
     clear BC;obtain⟨p,An,e,cn,acc,hp,rfl,rfl,wL,jZ,uA⟩:=hrel;obtain⟨W8,rfl⟩:∃x,x=wr:=⟨_,rfl⟩
     by_cases hpm:p<m
     ·have hp1:(p:Int)<(m:Int):=by omega
      have hp0:(0:Int)<=(p:Int):=by omega
      have hps:p<st.length:=by rw[eU.out];exact hpm
      obtain⟨s,hs⟩:=zX (st[p]);obtain⟨b1,o1,u1,v1,x1,rfl,h10,h11,h12,hs1⟩:=HRS2.out p hps;have HTP:=zh (show(st.take (p+1)).flatMap (fun s=>lj.map (nwS n j s))=(st.take p).flatMap (fun s=>lj.map (nwS n j s))++lj.map (nwS n j s) by
       rw[List.take_succ_eq_append_getElem hps,List.flatMap_append,hs];simp)
      have wz:=zh (HGS2.out st[p] (List.getElem_mem hps));have HPF:=zh (show ∀k,((st.take p).flatMap (fun s=>lj.map (nwS n j s))++(lj.take k).map (nwS n j s)).length<=60 from fun k=>by
       have h1:=uu.out;have h2:(st.take (p+1)).flatMap (fun s=>lj.map (nwS n j s))++(st.drop (p+1)).flatMap (fun s=>lj.map (nwS n j s))=s2:=by rw[<-List.flatMap_append,List.take_append_drop];exact nu.out.symm
       rw[<-h2,HTP.out]at h1;simp only[List.length_append,List.length_map,List.length_take]at h1 ⊢;omega)
      have HGM:=zh (show ∀x∈lj,GdS (j+1) (nwS n j s x)from fun x hx=>zxP (hs▸wz.out) (HGL2.out x hx));rw[hs]at hs1 wz;obtain⟨A5,c5,l5,e5,r5,bQ⟩:∃A5 c5 l5,u1=.slice A5 l5 c5/\zlw wc (fun q=>q<B2) A5 s.cells/\s.cells.length=l5:=by
       obtain⟨A5,c5,B5,d5,D5,e5,e1,r1,-⟩:=hs1;injection e1 with e1;simp only[Array.mk.injEq,List.cons.injEq,and_true]at e1;exact⟨A5,c5,_,e1.1,hB2▸r1,rfl⟩
      subst e5;have HX:=zh (show ∀w',Below B2 wc w'->w'.cell? ⟨b1,o1+p*3,none⟩=some (.slice A5 l5 c5)from fun w' h=>zb (hB2▸h) h10);have kQ:=zh r5;have kX:=zh bQ;have hl5:l5<=32:=by have:=wz.out.1;omega
      clear hs hps h10 h11 h12 hs1 r5 bQ;go_wp2_with fail
      go_loopw [14,12,15] (fun kv nv _ wr=>∃(k:Nat) (An:Option Addr) (e cn:Nat) (jC:List SS),k<=ll/\kv=.int .i64 k/\nv=.slice An e cn/\Hid (jC.length=e/\jC=acc++(lj.take k).map (nwS n j s))/\Hid (Below B2 wc wr)/\Hid (zli wr B2 Any (.slice An e cn) jC)) (fun kv _ _ _=>ll-(intOf kv).toNat)
      case atStart=>exact⟨0,An,e,cn,acc,by omega,rfl,rfl,zh ⟨wL.out.1,by simp⟩,jZ,uA⟩
      case round =>
       clear jZ uA;obtain⟨k,CL,e2,Bv,jC,hk,rfl,rfl,dV,jZ,uA⟩:=hrel;by_cases hkl:k<ll
       ·have hk1:(k:Int)<(ll:Int):=by omega
        have hk0:(0:Int)<=(k:Int):=by omega
        have hkx:k<lj.length:=by rw[fQ.out];exact hkl
        obtain⟨x,hx⟩:=zX (lj[k]);obtain⟨ax,Ax,cx,rfl,-,hcx,hlx,hrx⟩:=Cf.out k hkx;have qX:=zh (show(lj.take (k+1)).map (nwS n j s)=(lj.take k).map (nwS n j s)++[nwS n j s x] by rw[List.take_succ_eq_append_getElem hkx,List.map_append,hx];rfl);have xZ:=zh (HGM.out _ (List.getElem_mem hkx));rw[hx]at hcx hlx hrx xZ;obtain⟨lx,sK⟩:=zX (x.length);have eX:=zh sK;rw[sK]at hcx hlx;have qE:=zh (show ∀w',Below B2 wc w'->w'.cell? (ax.add k)=some (.slice Ax lx cx)from fun w' h=>zb (hB2▸h) hcx);have kP:=zh hrx;have hsz:B2<=wr.heap.size:=by have:=jZ.out.size;omega
        obtain⟨us,lu,hnn,hcl,h1c,hes⟩:=(kQ.out.later (hB2▸jZ.out)).vals;have qG:=zh (zkq.copy2 (wr:=wr) (B2:=B2) lu kX.out hsz hes);have hul1:us.length=l5*1:=by rw[lu,kX.out];omega
        have hnn1:A5=none->l5=0:=fun h=>by rw[<-kX.out];exact hnn h
        have aY:=zkb (zs wr) (.cells #[] 30);have hcl1:∀ad,A5=some ad->∀j u,us[j]?=some u->(wr.alloc (.cells #[] 30)).cell? (ad.add j)=some u:=fun ad h j u hj=>zb aY (hcl ad h j u hj);have hx7:=HX.out _ (jZ.out.trans (aY.mono hsz));have hsz1:wr.heap.size<=(wr.alloc (.cells #[] 30)).heap.size:=aY.size;have hown1:=zo4 wr 30 1 wr.heap.size zl;have hI3:=bL0R;clear hkx hx sK hcx hrx lu hnn hcl hes aY;go_upto_region 21 with(at_builtin;refine zki rfl (.tmp 72) (.tmp 77) rfl underlying29 znb rfl (by decide) (by decide) wr.heap.size (.slice (some ⟨wr.heap.size,0,none⟩) 0 0) 0 [] rfl hown1 A5 l5 c5 us rfl hul1 hnn1 hcl1 h1c (by omega) hsz1 ?_;intro v9 w9 ho hg ak;obtain⟨A9,c9,rfl,aH,bJ⟩:=qG.out _ _ ho hg ak;clear ho hg ak)
        have HK:=zh (heap_alloc_new w9 (.cells #[.slice A9 l5 c9,.slice none 0 0,.slice none 0 0] 32));have aY:=zkb (zs w9) (.cells #[.slice A9 l5 c9,.slice none 0 0,.slice none 0 0] 32);have hsa:w9.heap.size<(w9.alloc (.cells #[.slice A9 l5 c9,.slice none 0 0,.slice none 0 0] 32)).heap.size:=by simp
        obtain⟨aT,bY⟩:=zX (w9.alloc (.cells #[.slice A9 l5 c9,.slice none 0 0,.slice none 0 0] 32));have hon:∀q,(Value.slice A9 l5 c9).ownBlock=some q->q<w9.heap.size:=fun q h=>by
         obtain⟨_,h1,-⟩:=bJ.out;exact(h1.lt q h).2
        obtain⟨Nb,hNb⟩:=zX (w9.heap.size);rw[bY]at HK aY hsa ⊢;rw[hNb]at HK hsa hon ⊢;have hne0:(Value.slice A9 l5 c9).ownBlock≠some Nb:=fun e=>by have:=hon _ e;omega
        have dI:=zh (aH.out.trans (aY.mono aH.out.size));have qg:=zh (bJ.out.keep (W':=aT) (S':=fun q=>q<B2) (fun _ h _=>h) fun q _ h=>aY.block q h);have vX:=zh hne0;have hNw:wr.heap.size<=Nb:=by rw[<-hNb];exact aH.out.size
        have jK:=zh (show ∀w',Below wr.heap.size wr w'->Below B2 wc w' from fun w' h=>jZ.out.trans (h.mono hsz));clear aY bY hNb hon hne0 hown1 hcl1 hx7 hsz1 hul1 hnn1 h1c;by_cases hjn:j=n
        ·have hjb:((j:Int)==(n:Int))=true:=by simp[hjn]
         have wh:=zh hjn;clear hjn;have hx8:=qE.out _ (jK.out _ dI.out);have jU:=zky HK.out;have dF:=zh (heap_setCell_same aT Nb 1 _ _ (.slice Ax lx cx) HK.out);have jN:=zh ((Chg.refl (fun q=>q=Nb) aT).setCell (p:=⟨Nb,1,none⟩) (.inl rfl) (.slice Ax lx cx));have cf:∀o,aT.frozen? ⟨Nb,o,none⟩=false:=fun o=>zf HK.out;have bN:=zh (dI.out.trans (jN.out.below (B:=wr.heap.size) dI.out.size fun q e=>by rw[e];exact hNw));have iJ:=zh (zz0 (w':=aT.setCell ⟨Nb,1,none⟩ (.slice Ax lx cx)) wh.out (qg.out.keep (S':=fun q=>q<B2) (fun _ h _=>h) fun q h hq=>jN.out.block q hq fun e=>by
          rcases h with h|h
          ·omega
          ·exact vX.out (e▸h)) kX.out (kP.out.keep (S':=fun q=>q<B2) (fun q h _=>h) fun q h hq=>(jK.out _ bN.out).block q h) eX.out hlx (xZ.out.lim (by omega)))
         go_upto_region 24 with fail;obtain⟨mP,mF⟩:=zX (aT.setCell ⟨Nb,1,none⟩ (.slice Ax lx cx));rw[mF]at dF jN bN iJ ⊢;clear mF hx8 jU cf;have HL11:=xZ.out.lim (by omega);have mf:e2+1<=1000000:=by
          have h:=HPF.out k;rw[<-wL.out.2,<-dV.out.2,dV.out.1]at h;omega
         obtain⟨xs,hown,eZ,hpush⟩:=uA.out.manyA (W0:=wc) (we:=mP.alloc (.cells #[(.slice A9 l5 c9),(.slice Ax lx cx),.slice none 0 0] 32)) (ys:=[nwS n j s x]) (us:=[((.slice A9 l5 c9),(.slice Ax lx cx),.slice none 0 0)]) dV.out.1 jZ.out (by omega) rfl (bN.out.trans ((zkb (zs mP) _).mono bN.out.size)) (fun k hk hv=>by
          obtain rfl:k=0:=by simpa using hk
          exact(iJ.out).keep (fun q h _=>h) fun q _ h=>(zkb (zs mP) _).block q h) (m:=1) rfl
         obtain⟨k0,k1,k2⟩:=zky dF.out;have ja:=zh hpush;clear hpush;go_wp2_with (at_builtin;refine zki rfl (.tmp 98) (.tmp 100) rfl underlying27 zmv rfl (by decide) (by decide) B2 (.slice CL e2 Bv) e2 xs rfl hown (some ⟨mP.heap.size,0,none⟩) 1 1 [.slice A9 l5 c9,.slice Ax lx cx,.slice none 0 0] rfl rfl (fun e=>by cases e) (zmG mP _ _ _ _) (one3 ⟨rfl,rfl,rfl⟩) mf eZ ?_;intro v8 w8 ho hg ak;obtain⟨A8,c8,rfl,hc8,eY,ig⟩:=ja.out _ _ ho hg ak;clear ho hg ak)
         go_roundw
         case rel=>exact⟨k+1,A8,e2+1,c8,jC++[nwS n j s x],by omega,by go_num,rfl,zh ⟨by rw[List.length_append,dV.out.1];rfl,by rw[qX.out,dV.out.2,List.append_assoc]⟩,eY,ig⟩
         case measure=>simp[intOf];omega
        ·have hjb:((j:Int)==(n:Int))=false:=by simp;omega
         have wh:=zh hjn;clear hjn;go_upto_region 23 with fail;have hd:=(zs aT).drew;obtain⟨W0,hW0⟩:=zX (aT.drew);rw[hW0]at hd;have hSS:(fun w':World=>w'.cell? (ax.add k)=some (.slice Ax lx cx)) W0/\(fun w':World=>zv w' Nb 0 (.slice A9 l5 c9)) W0:=⟨qE.out _ (jK.out _ (dI.out.trans (hd.mono dI.out.size))),zb hd (zky HK.out).1⟩
         have hd2:=zka hd (zkb (zs W0) (.cells #[.slice Ax lx cx] 30));have tT:=zko HK.out;have hBW:=dI.out.trans (hd2.mono dI.out.size);obtain⟨vs9,eu,hpu9⟩:=(qg.out.keep (W':=W0.alloc (.cells #[.slice Ax lx cx] 30)) (S':=fun q=>q<B2) (fun _ h _=>h) fun q _ h=>hd2.block q h).more kX.out hsz (kP.out.keep (S':=fun q=>q<B2) (fun q h _=>h) fun q h hq=>(jK.out _ hBW).block q h) eX.out hlx (Nb:=Nb) (Nat.lt_of_lt_of_le tT hd2.size) vX.out hBW.size;have kS:=zh hpu9;have hkb:=(hd2.block Nb tT).trans HK.out;have hszW:=hBW.size;have vJ:=bL1R;refine wp_region_noPanic ?_;refine zkl (fun w':World=>w'.cell? (ax.add k)=some (.slice Ax lx cx)) (fun w':World=>zv w' Nb 0 (.slice A9 l5 c9)) 9 (by kernel_rfl) ?_;rw[hW0];clear hW0 hpu9;refine zT 0 hSS ?_;refine zJ 1 hSS ?_;refine zT 2 hSS ?_;refine zT 3 hSS ?_;refine zT 4 hSS ?_;refine zT 5 hSS ?_;refine zo 6 fun K hK=>?_
         go_simp;refine hK.out _ _ ⟨qE.out _ (jK.out _ hBW),zb hd2 (zky HK.out).1⟩ ?_;clear hK K hSS;(try simp only[zQ]);have hnw:=zl4 W0 (.slice Ax lx cx) 30;have sF:=hnw ⟨W0.heap.size,0,none⟩ rfl;obtain⟨W1,hW1⟩:=zX (W0.alloc (.cells #[.slice Ax lx cx] 30));rw[hW1]at eu kS hkb hszW hBW sF ⊢;clear hnw hW1 hd2 hd tT;refine zo 7 fun K hK=>?_;refine zm7 (by rfl) (.tmp 90) (.tmp 95) (by rfl) underlying29 znb (by rfl) (by decide) (by decide) wr.heap.size (.slice A9 l5 c9) l5 vs9 (by rfl) eu ⟨W0.heap.size,0,none⟩ 1 1 [.slice Ax lx cx] (by rfl) (by rfl) sF (zpE _ _ _) (by omega) hszW ?_;intro v13 lh ho hg ak;obtain⟨uV,c13,rfl,HB13,uB,HN13,HNE13⟩:=kS.out _ _ ho hg ak;clear ho hg ak;have nK:=zh (HN13.out.trans hkb);have fZ:=zh (hBW.trans HB13.out);have hc1:=qE.out _ (jK.out _ fZ.out);refine hK.out _ _ ⟨hc1,(zky nK.out).1⟩ ?_
         clear hK K eu sF hkb hBW;(try simp only[zQ]);refine zo 8 fun K hK=>?_;go_simp;refine hK.out _ _ ⟨hc1,(zky nK.out).1⟩ ?_;clear hK K;(try simp only[zQ]);have cf:∀o,lh.frozen? ⟨Nb,o,none⟩=false:=fun o=>zf nK.out;have hk13:=zky nK.out;have dF:=zh (heap_setCell_same lh Nb 0 _ _ (.slice uV (l5+1) c13) nK.out);have jN:=zh ((Chg.refl (fun q=>q=Nb) lh).setCell (p:=⟨Nb,0,none⟩) (.inl rfl) (.slice uV (l5+1) c13));have bN:=zh (fZ.out.trans (jN.out.below (B:=wr.heap.size) fZ.out.size fun q e=>by rw[e];exact hNw));have iJ:=zh (zzZ (w':=lh.setCell ⟨Nb,0,none⟩ (.slice uV (l5+1) c13)) wh.out (uB.out.keep (S':=fun q=>q<B2) (fun _ h _=>h) fun q h hq=>jN.out.block q hq fun e=>by
          rcases h with h|h
          ·omega
          ·exact HNE13.out (e▸h)) kX.out (xZ.out.lim (by omega)))
         refine zp 9 fun K hK=>?_;(try simp only[zA,zB,zC]);go_simp;obtain⟨mP,mF⟩:=zX (lh.setCell ⟨Nb,0,none⟩ (.slice uV (l5+1) c13));rw[mF]at dF jN bN iJ ⊢;clear mF hk13 cf hc1;refine hK.out _ _ (qE.out _ (jK.out _ bN.out)) ?_;clear hK K;(try simp only[zQ]);refine zd ?_;refine NoPanic.normal ?_;have HL11:=xZ.out.lim (by omega);have mf:e2+1<=1000000:=by
          have h:=HPF.out k;rw[<-wL.out.2,<-dV.out.2,dV.out.1]at h;omega
         obtain⟨xs,hown,eZ,hpush⟩:=uA.out.manyA (W0:=wc) (we:=mP.alloc (.cells #[(.slice uV (l5+1) c13),(.slice none 0 0),.slice none 0 0] 32)) (ys:=[nwS n j s x]) (us:=[((.slice uV (l5+1) c13),(.slice none 0 0),.slice none 0 0)]) dV.out.1 jZ.out (by omega) rfl (bN.out.trans ((zkb (zs mP) _).mono bN.out.size)) (fun k hk hv=>by
          obtain rfl:k=0:=by simpa using hk
          exact(iJ.out).keep (fun q h _=>h) fun q _ h=>(zkb (zs mP) _).block q h) (m:=1) rfl
         obtain⟨k0,k1,k2⟩:=zky dF.out;have ja:=zh hpush;clear hpush;go_wp2_with (at_builtin;refine zki rfl (.tmp 98) (.tmp 100) rfl underlying27 zmv rfl (by decide) (by decide) B2 (.slice CL e2 Bv) e2 xs rfl hown (some ⟨mP.heap.size,0,none⟩) 1 1 [.slice uV (l5+1) c13,.slice none 0 0,.slice none 0 0] rfl rfl (fun e=>by cases e) (zmG mP _ _ _ _) (one3 ⟨rfl,rfl,rfl⟩) mf eZ ?_;intro v8 w8 ho hg ak;obtain⟨A8,c8,rfl,hc8,eY,ig⟩:=ja.out _ _ ho hg ak;clear ho hg ak)
         go_roundw
         case rel=>exact⟨k+1,A8,e2+1,c8,jC++[nwS n j s x],by omega,by go_num,rfl,zh ⟨by rw[List.length_append,dV.out.1];rfl,by rw[qX.out,dV.out.2,List.append_assoc]⟩,eY,ig⟩
         case measure=>simp[intOf];omega
       ·obtain rfl:k=ll:=by omega
        have hk1:¬ (k:Int)<(k:Int):=by omega
        go_wp2_with fail
        go_roundw
        case rel=>exact⟨p+1,CL,e2,Bv,jC,by omega,by go_num,rfl,zh ⟨dV.out.1,by rw[HTP.out,dV.out.2,wL.out.2,<-fQ.out,List.take_length]⟩,jZ,uA⟩
        case measure=>simp[intOf];omega
     ·obtain rfl:p=m:=by omega
      have hp1:¬ (p:Int)<(p:Int):=by omega
      have bz:=zh (show ∀w',Below B2 wc w'->Below w.heap.size w w' from fun w' h=>zka HB2.out (hB2▸h));have hac:acc=s2:=by rw[wL.out.2,<-eU.out,List.take_length];exact nu.out.symm
      have hae:=wL.out.1;obtain⟨A9,c9,e9,bF,lC⟩:=uA.out.sa;injection e9 with e91 e92 e93;rw[hac]at lC hae bF;subst e91 e93;have hs60:=uu.out;have bJ:=zh lC;have HE9:=zh hae;rw[hae]at hs60 bF;clear lC hae hac e92;go_wp2_with fail
      go_roundw
      case rel=>exact⟨j+1,An,e,cn,by omega,by go_num,rfl,bF,hs60,by rw[HS2.out];exact HE9,zh (bz.out _ jZ.out),by rw[HS2.out];exact bJ⟩
      case measure=>simp[intOf];omega
  ·obtain rfl:j=n+1:=by omega
   have hj1:¬ ((n:Int)+1)<=(n:Int):=by omega
   have hjj:=jP.out;rw[hjj]at eU iL;have hR9l:R9.length=m:=by rw[dx.out];exact zoi m U9 eU.out
   have hgd:=wy.out (n+1) (by omega);rw[hjj]at hgd;have HC:=zh (zsM m U9 As cs wr eU.out hmc (by omega) iL.out fun s h=>(hgd s h).sm (by omega));have gZ:=zh hR9l;clear hjj hgd hR9l;go_wp2_with fail;refine HC.out.mono ?_;rintro e w9 ⟨v,rfl,⟨A9,c9,rfl,bF,lC⟩,aZ⟩;have bJ:=zh lC;have aH:=zh (zka HB.out aZ);clear lC aZ;go_wp2_with fail;go_ret;exact⟨_,rfl,⟨A9,c9,by rw[gZ.out];rfl,by rw[gZ.out];exact bF,by rw[dx.out];exact bJ.out⟩,aH.out⟩
end
section
open Go Go.RowKit
attribute [local go_sem] Oper.semAt_some
mutual
/-- How many nodes are left of a budget. -/
def szR:T->Int->Int
 | .nd _ _ _ ks,l=>szRs ks (l-1)
def szRs:List T->Int->Int
 | [],l=>l
 | t::ts,l=>if l<0 then l else szRs ts (szR t l)
end
theorem zrP:∀(m:Nat) (t:T) (l:Int),size t<=m->0<=l -> -1<=szR t l/\szR t l<=l
 | 0,.nd k n s ks,l,h,_=>by rw[size]at h;omega
 | m+1,.nd k n s ks,l,h,h0=>by
  rw[szR];rw[size]at h;have key:∀(us:List T) (l:Int),zkR us<=m -> -1<=l -> -1<=szRs us l/\szRs us l<=l:=by
   intro us
   induction us with
   | nil=>intro l _ h1;rw[szRs];exact⟨h1,Int.le_refl _⟩
   | cons u us ih =>
    intro l hs h1;rw[zkR]at hs;rw[szRs]
    split
    ·exact⟨h1,Int.le_refl _⟩
    ·have h2:=zrP m u l (by omega) (by omega);have h3:=ih (szR u l) (by omega) h2.1;exact⟨h3.1,by omega⟩
  have:=key ks (l-1) (by omega) (by omega);exact⟨this.1,by omega⟩
theorem zrO:∀(ts:List T) (l:Int),-1<=l->0<=szRs ts l->(ts.length:Int)<=l
 | [],l,_,h=>by rw[szRs]at h;simpa using h
 | t::ts,l,h0,h=>by
  rw[szRs]at h
  split at h
  ·omega
  ·rename_i hl;obtain⟨k,n,s,ks⟩:=t;have h1 : -1<=szR (.nd k n s ks) l/\szR (.nd k n s ks) l<=l-1:=by
    rw[szR];have h2:=zrP _ (.nd k n s ks) l zl (by omega);rw[szR]at h2;refine⟨h2.1,?_⟩;rcases Int.lt_or_le (l-1) 0 with h3|h3
    ·cases ks with
     | nil=>rw[szRs];exact Int.le_refl _
     | cons u us=>rw[szRs,if_pos h3];exact Int.le_refl _
    ·have key:∀(us:List T) (l:Int),-1<=l -> -1<=szRs us l/\szRs us l<=l:=by
      intro us
      induction us with
      | nil=>intro l h1;rw[szRs];exact⟨h1,Int.le_refl _⟩
      | cons u us ih =>
       intro l h1;rw[szRs]
       split
       ·exact⟨h1,Int.le_refl _⟩
       ·have h2:=zrP _ u l zl (by omega);have h3:=ih (szR u l) h2.1;exact⟨h3.1,by omega⟩
     exact(key ks (l-1) (by omega)).2
   have:=zrO ts _ h1.1 h;simp only[List.length_cons];omega
theorem zyn{t:T}(h:0<=szR t 100):t.ks.length<=100:=by
 obtain⟨k,n,s,ks⟩:=t;rw[szR]at h;have:=zrO ks 99 (by decide) h
 show ks.length<=100
 omega
theorem zo2:∀(t:T) (v:Value) (l:Int) (w:World),NV w Any t v->0<=l->l<=1000->Calls prog 96 #[v,.int .i64 l] w fun e w'=>e=.returned (.int .i64 (szR t l))/\Below w.heap.size w w':=by
 intro t
 induction t using T.ind with
 | _ k n s ks ih =>
  intro v l w hv h0 h1;obtain⟨A,c,rfl,hf,hlk,hlc,hrow⟩:=hv.open_;have IH:=zh ih;have af:=zh hrow;have hw1:IntKind.i64.wrap (l-1)=l-1:=IntWalk.i64_in _ (by omega);have hb1:=zkb (zs w) (.cells #[.int .u8 k,.int .i64 n,.string s,.slice A ks.length c] 41);have k1:=heap_alloc_new w (.cells #[.int .u8 k,.int .i64 n,.string s,.slice A ks.length c] 41);obtain⟨w1,hw⟩:=zX (w.alloc (.cells #[.int .u8 k,.int .i64 n,.string s,.slice A ks.length c] 41));obtain⟨r,hr⟩:=zX (szR (.nd k n s ks) l);have HR:=zh (show szRs (ks.drop 0) (l-1)=r by rw[<-hr,szR,List.drop_zero]);rw[hr];rw[hw]at hb1 k1;have HB1:=zh hb1;have aA:=zh k1;simp only[T.k_nd,T.n_nd,T.s_nd,T.ks_nd]at hlk hlc ⊢;have hlk2:ks.length<=17592186044416:=by unfold LK at hlk;omega
  clear hv hf hlk hrow ih hr hb1 k1;go_enter func96,ntmps96;go_wp2_with fail;clear hw
  go_loopw [5,1] (fun i q wr=>∃(j:Nat) (x:Int),j<=ks.length/\i=.int .i64 j/\q=.int .i64 x /\ -1<=x/\x<=1000/\Hid (Below w1.heap.size w1 wr)/\Hid (szRs (ks.drop j) x=r)) (fun i _ _=>ks.length-(intOf i).toNat)
  case atStart=>exact⟨0,l-1,Nat.zero_le _,rfl,rfl,by omega,by omega,zh zr,HR⟩
  case round =>
   obtain⟨j,x,hj,rfl,rfl,hx1,hx2,ag,HJ⟩:=hrel;have hk:=zkc aA.out ag.out;have z3:wr.cell? ⟨w.heap.size,3,none⟩=some (.slice A ks.length c):=zc hk rfl;by_cases hlt:j<ks.length
   ·have hj1:(j:Int)<(ks.length:Int):=by omega
    have hj0:(0:Int)<=(j:Int):=by omega
    by_cases hx:0<=x
    ·have hbb:=zka HB1.out ag.out;obtain⟨a,u,Au,cu,rfl,-,Hu,⟨p0,p1,p2,p3⟩,hn⟩:=af.out.nd hlt;have q0:=zb hbb p0;have q1:=zb hbb p1;have q2:=zb hbb p2;have q3:=zb hbb p3;have HS:=zh (IH.out u (by rw[<-Hu.out];exact List.getElem_mem hlt) _ x wr (hn.later hbb) hx hx2);have HJ2:=zh (show szRs (ks.drop (j+1)) (szR u x)=r by
      have h5:=HJ.out;rw[List.drop_eq_getElem_cons hlt]at h5;rw[szRs,if_neg (by omega)]at h5;rw[<-h5];have:=Hu.out;simp only[T.ks_nd]at this;rw[this])
     have HL:=zh (zrP _ u x zl hx);clear p0 p1 p2 p3 hn hbb HJ hk;go_wp2_with fail;refine HS.out.mono ?_;rintro e w2 ⟨rfl,hb2⟩;have HB2:=zh (zka ag.out hb2);obtain⟨y,hy⟩:=zX (szR u x);rw[hy]at HJ2 HL ⊢;clear hb2 HS q0 q1 q2 q3 z3 hy;go_wp2_with fail
     go_roundw
     case rel=>exact⟨j+1,y,by omega,by go_num,rfl,HL.out.1,by have:=HL.out.2;omega,HB2,HJ2⟩
     case measure=>simp[intOf];omega
    ·have hx':¬ (0:Int)<=x:=hx;have HJ2:=zh (show x=r by
      have h5:=HJ.out;rw[List.drop_eq_getElem_cons hlt,szRs,if_pos (by omega)]at h5;exact h5)
     clear HJ hk;go_wp2_with fail;go_ret;exact⟨by rw[HJ2.out];rfl,zka HB1.out ag.out⟩
   ·have hj1:¬ (j:Int)<(ks.length:Int):=by omega
    have HJ2:=zh (show x=r by
     have h5:=HJ.out;rw[List.drop_eq_nil_of_le (by omega),szRs]at h5;exact h5)
    clear HJ hk;go_wp2_with fail;go_ret;exact⟨by rw[HJ2.out];rfl,zka HB1.out ag.out⟩
def SmlP(p:PG)(W:World)(e:Ending)(w':World):Prop:=∃b:Bool,e=.returned (.bool b)/\(b=true->p.m.ks.length<=100)/\Below W.heap.size W w'
theorem zq8(p:PG)(v:Value)(W:World)(hp:PV W Any p v):Calls prog 49 #[v] W (SmlP p W):=by
 obtain⟨A1,c1,A2,c2,A3,c3,rfl,dJ⟩:=hp;have qh:=zh dJ;have hb2:=zkb (zs W) (.cells #[.slice A1 p.vs.length c1,.slice A2 p.prs.length c2,.int .u8 p.m.k,.int .i64 p.m.n,.string p.m.s,.slice A3 p.m.ks.length c3] 43);have k0:=heap_alloc_new W (.cells #[.slice A1 p.vs.length c1,.slice A2 p.prs.length c2,.int .u8 p.m.k,.int .i64 p.m.n,.string p.m.s,.slice A3 p.m.ks.length c3] 43);obtain⟨w2,hw2⟩:=zX (W.alloc (.cells #[.slice A1 p.vs.length c1,.slice A2 p.prs.length c2,.int .u8 p.m.k,.int .i64 p.m.n,.string p.m.s,.slice A3 p.m.ks.length c3] 43));rw[hw2]at hb2 k0;have HB2:=zh hb2;have aD:=zh k0;obtain⟨p0,p1,p2,p3,p4,p5⟩:=box6 k0;have hlp:=zlk dJ.lp;have p8:=zh (zo2 p.m _ 100 w2 (dJ.main.later hb2) (by omega) (by omega));obtain⟨x,hx⟩:=zX (szR p.m 100);rw[hx]at p8;have HX:=zh (show 0<=x->p.m.ks.length<=100 from fun h=>zyn (hx▸h));clear dJ hb2 k0 hx
 go_enter func49,ntmps49;by_cases h1:(4:Int)<(p.prs.length:Int)
 ·go_wp2_with fail;go_ret;exact⟨_,rfl,nofun,HB2.out⟩
 go_wp2_with fail;refine p8.out.mono ?_;rintro e3 w3 ⟨rfl,hb3⟩;have HB3:=zh (zka HB2.out hb3);have kp:=zkc aD.out hb3;obtain⟨-,q1,-⟩:=box6 kp;clear hb3 p8 kp p0 p1 p2 p3 p4 p5 hw2;by_cases h3:x<0
 ·go_wp2_with fail;go_ret;exact⟨_,rfl,nofun,HB3.out⟩
 go_wp2_with fail
 go_loopw [18,4] (fun i _ wr=>∃j:Nat,j<=p.prs.length/\i=.int .i64 j/\Hid (Below w3.heap.size w3 wr)) (fun i _ _=>p.prs.length-(intOf i).toNat)
 case atStart=>exact⟨0,Nat.zero_le _,rfl,zh zr⟩
 case round =>
  obtain⟨j,hj,rfl,ag⟩:=hrel;by_cases hlt:j<p.prs.length
  ·have hj1:(j:Int)<(p.prs.length:Int):=by omega
   have hj0:(0:Int)<=(j:Int):=by omega
   have hbb:=zka HB3.out ag.out;obtain⟨pa,q,B1,d1,B2,d2,rfl,-,Hq,⟨y0,y1,y2,y3,y4,y5⟩,hpr⟩:=(qh.out.procs.later hbb).nd hlt;have hbz:=zkb ag.out (.cells #[.string q.s,.slice B1 q.ps.length d1,.int .u8 q.b.k,.int .i64 q.b.n,.string q.b.s,.slice B2 q.b.ks.length d2] 75);have hbw:=zkb (zs wr) (.cells #[.string q.s,.slice B1 q.ps.length d1,.int .u8 q.b.k,.int .i64 q.b.n,.string q.b.s,.slice B2 q.b.ks.length d2] 75);have p8:=zh (zo2 q.b _ 100 _ (hpr.body.later hbw) (by omega) (by omega));obtain⟨z,hz⟩:=zX (szR q.b 100);rw[hz]at p8;have zt:=zh hbz;clear hbb hpr hbz hbw hz;go_wp2_with fail;refine p8.out.mono ?_;rintro e4 w4 ⟨rfl,hb4⟩;have aF:=zh (zka zt.out hb4);clear hb4 p8 y0 y1 y2 y3 y4 y5;by_cases hz:z<0
   ·go_wp2_with fail;go_ret;exact⟨_,rfl,nofun,zka HB3.out aF.out⟩
   ·go_wp2_with fail
    go_roundw
    case rel=>exact⟨j+1,by omega,by go_num,aF⟩
    case measure=>simp[intOf];omega
  ·have hj1:¬ (j:Int)<(p.prs.length:Int):=by omega
   go_wp2_with fail;go_ret;exact⟨_,rfl,fun _=>HX.out (by omega),zka HB3.out ag.out⟩
def boxL(vs:List VD)(b:BX):Bool:=decide (vs.length<=6)&&(b.ok&&svB vs)&&decide (cntF vs b<=60)
theorem zve(vs:List VD)(b:BX)(A:Option Addr)(c:Nat)(w:World)(hr:RowV w Any A vs)(hl:vs.length<=LV) :
  Calls prog 10 #[.slice A vs.length c,.agg #[.int .i64 b.v,.int .i64 b.l,.int .i64 b.i]] w fun e w'=>e=.returned (.bool (boxL vs b))/\Below w.heap.size w w':=by
 have fM:=zh (fun w' (h:Below w.heap.size w w')=>zth vs b A c w' (hr.later h) hl);have HCN:=zh (fun w' (h:Below w.heap.size w w') (hok:(b.ok&&svB vs)=true)=>zti vs b A c w' (hr.later h) hok);have hl1:=zlk hl;have hb1:=zkb (zs w) (.cells #[.int .i64 b.v,.int .i64 b.l,.int .i64 b.i] 24);have hk1:=heap_alloc_new w (.cells #[.int .i64 b.v,.int .i64 b.l,.int .i64 b.i] 24);have HX:=zh (show boxL vs b=(decide (vs.length<=6)&&(b.ok&&svB vs)&&decide (cntF vs b<=60))from rfl);obtain⟨ok,hok⟩:=zX ((b.ok&&svB vs));obtain⟨X,hX⟩:=zX (boxL vs b);obtain⟨C,hC⟩:=zX (cntF vs b);rw[hok]at HX fM;simp only[hok,hC]at HCN;rw[hX,hC]at HX;rw[hX];clear hok hX hr hl hC;go_enter func10,ntmps10;go_upto_region 1 with fail;obtain⟨w1,hw1⟩:=zX (w.alloc (.cells #[.int .i64 b.v,.int .i64 b.l,.int .i64 b.i] 24));rw[hw1]at hb1 hk1 ⊢;obtain⟨x0,x1,x2⟩:=zky hk1;have HB1:=zh hb1;have aA:=zh hk1
 clear hw1 hb1 hk1;by_cases h6:vs.length<=6
 ·have h6i:(vs.length:Int)<=6:=by omega
  go_wp2_with fail;refine(fM.out _ HB1.out).mono ?_;rintro e w2 ⟨rfl,hb2⟩;have HB2:=zh (zka HB1.out hb2);obtain⟨y0,y1,y2⟩:=zky (zkc aA.out hb2);clear hb2 x0 x1 x2
  cases ok
  ·have HF:=zh (show X=false by rw[HX.out];simp);go_wp2_with fail;go_ret;exact⟨by rw[HF.out];rfl,HB2.out⟩
  ·have HF:=zh (show X=decide (C<=60) by rw[HX.out];simp[h6]);go_wp2_with fail;refine(HCN.out _ HB2.out trivial).mono ?_;rintro e w3 ⟨rfl,rfl⟩;go_wp2_with fail;go_ret;exact⟨by rw[HF.out];rfl,HB2.out⟩
 ·have h6i:¬ (vs.length:Int)<=6:=by omega
  have HF:=zh (show X=false by rw[HX.out];simp[h6]);go_wp2_with fail;go_ret;exact⟨by rw[HF.out];rfl,HB1.out⟩
def zzH(W:World)(p:PG)(b:BX)(F:Int)(e:Ending)(w':World):Prop:=Below W.heap.size W w'/\∃A n c ok,e=.returned (.tuple #[.slice A n c,.bool ok]) /\
 (ok=true->F<=300/\p.vs.length<=6/\(b.ok&&svB p.vs)=true/\cntF p.vs b<=60/\zkL p=true/\chkN p=0/\n=(allR p.vs b).length/\n<=c/\zlj w' A (allR p.vs b)/\p.m.ks.length<=100)
theorem zwe(p:PG)(b:BX)(F:Int)(v:Value)(W:World)(hp:PV W Any p v)(hF:I64 F) :
  Calls prog 15 #[v,.agg #[.int .i64 b.v,.int .i64 b.l,.int .i64 b.i],.int .i64 F] W (zzH W p b F):=by
 have gM:=zh (fun w' (h:Below W.heap.size W w')=>hp.later h);obtain⟨A1,c1,A2,c2,A3,c3,rfl,dJ⟩:=hp;have eU:=zh (fun w' (h:Below W.heap.size W w')=>zq8 p _ w' (gM.out w' h));have aX:=zh (fun w' (h:Below W.heap.size W w')=>zve p.vs b A1 c1 w' (dJ.vars.later h) dJ.lv);have fM:=zh (fun w' (h:Below W.heap.size W w')=>znr p Any _ w' (gM.out w' h));have iK:=zh (fun w' (h:Below W.heap.size W w')=>znN p Any _ w' (gM.out w' h));have jP:=zh (fun w' (h:Below W.heap.size W w') h1 h2=>zxw p.vs b A1 c1 w' (dJ.vars.later h) h1 h2);obtain⟨X,hX⟩:=zX (boxL p.vs b);have aP:=zh hX;obtain⟨VB,vB⟩:=zX (zkL p);have eG:=zh vB;obtain⟨N,hN⟩:=zX (chkN p);have ny:=zh hN;simp only[hX]at aX;simp only[vB]at fM iK;simp only[hN]at iK;clear hX vB hN dJ;go_enter func15,ntmps15;go_upto_region 1 with fail
 have hb2:=zkb (zkb (zs W) (.cells #[.slice A1 p.vs.length c1,.slice A2 p.prs.length c2,.int .u8 p.m.k,.int .i64 p.m.n,.string p.m.s,.slice A3 p.m.ks.length c3] 43)) (.cells #[.int .i64 b.v,.int .i64 b.l,.int .i64 b.i] 24);have k0:=zke (heap_alloc_new W (.cells #[.slice A1 p.vs.length c1,.slice A2 p.prs.length c2,.int .u8 p.m.k,.int .i64 p.m.n,.string p.m.s,.slice A3 p.m.ks.length c3] 43)) (.cells #[.int .i64 b.v,.int .i64 b.l,.int .i64 b.i] 24);have k1:=heap_alloc_new (W.alloc (.cells #[.slice A1 p.vs.length c1,.slice A2 p.prs.length c2,.int .u8 p.m.k,.int .i64 p.m.n,.string p.m.s,.slice A3 p.m.ks.length c3] 43)) (.cells #[.int .i64 b.v,.int .i64 b.l,.int .i64 b.i] 24);rw[World.size_alloc]at k1
 obtain⟨w2,hw2⟩:=zX ((W.alloc (.cells #[.slice A1 p.vs.length c1,.slice A2 p.prs.length c2,.int .u8 p.m.k,.int .i64 p.m.n,.string p.m.s,.slice A3 p.m.ks.length c3] 43)).alloc (.cells #[.int .i64 b.v,.int .i64 b.l,.int .i64 b.i] 24));rw[hw2]at hb2 k0 k1 ⊢;have HB2:=zh hb2;obtain⟨N1,hN1⟩:=zX (W.heap.size);rw[hN1]at k0 k1 ⊢;have aD:=zh (fun w' (h:Below w2.heap.size w2 w')=>zkc k0 h);have aA:=zh (fun w' (h:Below w2.heap.size w2 w')=>zkc k1 h);have dH:=zh (zs w2);clear hw2 hb2 k0 k1 hN1;have bL:=zh (show ∀w',Below w2.heap.size w2 w'->zzH W p b F (.returned (.tuple #[.slice none 0 0,.bool false])) w' from fun w' h=>⟨zka HB2.out h,none,0,0,false,rfl,fun h=>by cases h⟩);obtain⟨p0,p1,p2,p3,p4,p5⟩:=box6 (aD.out _ dH.out);obtain⟨x0,x1,x2⟩:=zky (aA.out _ dH.out);go_wp2_with fail;refine(eU.out _ HB2.out).mono ?_;rintro e w3 ⟨sb,rfl,hsb,hb3⟩;have fO:=zh hsb;clear hsb
 have HB3:=zh (zka HB2.out hb3);have iw:=zh (zka dH.out hb3);clear p0 p1 p2 p3 p4 p5 x0 x1 x2 hb3;obtain⟨p0,p1,p2,p3,p4,p5⟩:=box6 (aD.out _ iw.out);obtain⟨x0,x1,x2⟩:=zky (aA.out _ iw.out)
 cases sb
 ·go_wp2_with fail;refine bodyPost_ret (v:=.tuple #[.slice none 0 0,.bool false]) (by simp[results,results15,go_sem]) rfl ?_;exact bL.out _ iw.out
 have nH:=zh (fO.out rfl);clear fO;by_cases h300:F<=300;rotate_left 1
 ·have hgt:(300:Int)<F:=by omega
  go_wp2_with fail;refine bodyPost_ret (v:=.tuple #[.slice none 0 0,.bool false]) (by simp[results,results15,go_sem]) rfl ?_;exact bL.out _ iw.out
 have hgt:¬ (300:Int)<F:=by omega
 go_wp2_with fail;refine(aX.out _ HB3.out).mono ?_;rintro e w4 ⟨rfl,hb4⟩;have aF:=zh (zka HB3.out hb4);have rG:=zh (zka iw.out hb4);clear p0 p1 p2 p3 p4 p5 x0 x1 x2 hb4;obtain⟨p0,p1,p2,p3,p4,p5⟩:=box6 (aD.out _ rG.out);obtain⟨x0,x1,x2⟩:=zky (aA.out _ rG.out)
 cases X
 ·go_wp2_with fail;refine bodyPost_ret (v:=.tuple #[.slice none 0 0,.bool false]) (by simp[results,results15,go_sem]) rfl ?_;exact bL.out _ rG.out
 go_wp2_with fail;refine(fM.out _ aF.out).mono ?_;rintro e w5 ⟨rfl,hb5⟩;have aO:=zh (zka aF.out hb5);have dB:=zh (zka rG.out hb5);clear p0 p1 p2 p3 p4 p5 x0 x1 x2 hb5;obtain⟨p0,p1,p2,p3,p4,p5⟩:=box6 (aD.out _ dB.out);obtain⟨x0,x1,x2⟩:=zky (aA.out _ dB.out)
 cases VB
 ·go_wp2_with fail;refine bodyPost_ret (v:=.tuple #[.slice none 0 0,.bool false]) (by simp[results,results15,go_sem]) rfl ?_;exact bL.out _ dB.out
 go_wp2_with fail;refine(iK.out _ aO.out).mono ?_;rintro e w6 ⟨A6,c6,rfl,hb6⟩;have aU:=zh (zka aO.out hb6);have nP:=zh (zka dB.out hb6);clear p0 p1 p2 p3 p4 p5 x0 x1 x2 hb6;simp only[if_true];obtain⟨p0,p1,p2,p3,p4,p5⟩:=box6 (aD.out _ nP.out);obtain⟨x0,x1,x2⟩:=zky (aA.out _ nP.out);by_cases hN0:N=0;rotate_left 1
 ·have hgn:(0:Int)<(N:Int):=by omega
  go_wp2_with fail;refine bodyPost_ret (v:=.tuple #[.slice none 0 0,.bool false]) (by simp[results,results15,go_sem]) rfl ?_;exact bL.out _ nP.out
 have hgn:¬ (0:Int)<(N:Int):=by omega
 have iO:=zh hN0;clear hN0;have hbx:=aP.out;simp only[boxL,Bool.and_eq_true,decide_eq_true_eq]at hbx;have iG:(b.ok&&svB p.vs)=true:=by simp[hbx.1.2]
 have dC:=zh (And.intro hbx.1.1 (And.intro iG hbx.2));have bH:=zh (jP.out _ aU.out iG hbx.2);clear hbx iG;go_wp2_with fail;refine bH.out.mono ?_;rintro e w7 ⟨v,rfl,⟨A7,c7,rfl,og,nW⟩,dR⟩;have oC:=zh (show zzH W p b F (.returned (.tuple #[.slice A7 (allR p.vs b).length c7,.bool true])) w7 from⟨zka aU.out dR,A7,_,c7,true,rfl,fun _=>⟨h300,dC.out.1,dC.out.2.1,dC.out.2.2,eG.out,by rw[ny.out,iO.out],rfl,og,nW,nH.out⟩⟩);clear nW dR p0 p1 p2 p3 p4 p5 x0 x1 x2 og;go_wp2_with fail;refine bodyPost_ret (v:=.tuple #[.slice A7 (allR p.vs b).length c7,.bool true]) (by simp[results,results15,go_sem]) rfl ?_;exact oC.out
end
section
open Go Go.RowKit
theorem zpW{v:Int}(hv:0<=v)(a m:Nat):(betE v a m).length=nLst (2*v+1).toNat (a,m):=by
 have h1:=zn8 hv a m;have h2:∀l:List Nat,(((l.map fun i=>(2*v+1).toNat ^ (a+i)).sum:Nat):Int)=(l.map fun i=>(2*v+1) ^ (a+i)).sum:=by
  intro l
  induction l with
  | nil=>rfl
  | cons i l ih =>
   rw[List.map_cons,List.sum_cons,List.map_cons,List.sum_cons,<-ih]
   push_cast
   rw[Int.toNat_of_nonneg (by omega)]
 unfold nLst;have h3:=h2 (List.range (m+1-a));simp only;omega
theorem zyL{b:BX}{v:VD}(hb:b.ok=true)(hv:vdB v=true):(lstE b v).length=nLst (2*b.v+1).toNat (len1 b v):=by
 have hk:=zlE hb;unfold lstE len1;rcases ztA hv with⟨h1,h2⟩|⟨h1,h2,h3⟩|⟨h1,h2⟩
 ·rw[if_pos h1,if_neg (by omega),zpW hk.1.1];unfold fixE;rw[if_pos h1];rfl
 ·rw[if_neg (by omega),if_pos h1,if_neg (by omega),zpW hk.1.1];unfold fixE;rw[if_neg (by omega)]
 ·rw[if_neg (by omega),if_neg (by omega),if_pos h1,zpW hk.1.1]
theorem zrS{b:BX}(hb:b.ok=true):∀(vs:List VD) (st:List SS),(∀v∈vs,vdB v=true)->(vs.foldl (fun st v=>stg st (lstE b v)) st).length=st.length*nAll (2*b.v+1).toNat (vs.map (len1 b))
 | [],st,_=>by simp[nAll]
 | v::vs,st,h=>by
  rw[List.foldl_cons,zrS hb vs _ fun u hu=>h u (by simp[hu]),ztN,zyL hb (h v (by simp)),List.map_cons,nAll,Nat.mul_assoc]
theorem zsd(h:Nat):∀(a b:List Bn),nAll h (a++b)=nAll h a*nAll h b
 | [],b=>by simp[nAll]
 | x::a,b=>by rw[List.cons_append,nAll,nAll,zsd h a b,Nat.mul_assoc]
theorem zs7{α β:Type}(l:List α)(f:α->List β)(n:Nat)(h:∀x,(f x).length=n):(l.flatMap f).length=l.length*n:=by
 induction l with
 | nil=>simp
 | cons x l ih=>rw[List.flatMap_cons,List.length_append,ih,h,List.length_cons,Nat.add_mul];omega
theorem zya{vs:List VD}{b:BX}(hok:(b.ok&&svB vs)=true)(h60:cntF vs b<=60):(allS b (lenE vs b)).length<=60:=by
 have h:=hok;simp only[Bool.and_eq_true]at h;have hk:=zlE h.1;have hr:=(zt0 h.1 h60).all.2;have h1:(allU vs b).length=nAll (2*b.v+1).toNat (lenE vs b):=by
  unfold allU stgF lenE;rw[zs7 _ _ (betE b.v 0 b.i.toNat).length fun s=>by simp,zrS h.1 vs _ fun v hv=>(zsI h.2).2 v hv,zsd,zpW hk.1.1];simp[nAll]
 have h2:=zzw (h:=(2*b.v+1).toNat) (by omega) (bs:=lenE vs b) fun q hq=>((zmk hok).2.2.1 q hq).1;rw[Int.toNat_of_nonneg (by omega)]at h2;unfold allS;rw[List.length_map];omega
def E23(e:Int):Prop:=0<=e/\e<=23
theorem zyj{look:ByteArray->Option (List Int)}{k:Int}{s:ByteArray}{i:Int×Int}(h:E23 i.2):E23 (varE look k s i).2:=by
 unfold varE
 split
 ·exact⟨by simp,by simp⟩
 ·(repeat' split)<;>first|exact h|(unfold E23;simp only;omega)
theorem zzf(k x y:Int):E23 (divE k x y).2:=by
 unfold divE
 split
 ·unfold E23;simp only;omega
 ·split<;>(unfold E23;simp only;omega)
theorem zr_rg(x:Int):E23 (x,(0:Int)).2:=⟨Int.le_refl _,by simp⟩
theorem zz5(c:Prop)[Decidable c](a b:Int×Int)(ha:E23 a.2)(hb:E23 b.2):E23 (if c then a else b).2:=by
 split<;>assumption
theorem zKt(k x y:Int):E23 (apE k x y).2:=by
 unfold apE
 repeat' first|exact zzf _ _ _|exact zr_rg _|refine zz5 _ _ _ ?_ ?_
theorem zx2(look:ByteArray->Option (List Int))(t:T):E23 (evE look t).2:=by
 induction t using T.ind with
 | _ k n s ks ih =>
  rw[evE,znl];have hg:∀i,E23 ((ks.map (evE look)).getD i (0,0)).2:=fun i=>by
   rw[List.getD_eq_getElem?_getD];rcases h:(ks.map (evE look))[i]? with _|q
   ·exact⟨by simp,by simp⟩
   ·obtain⟨h1,h2⟩:=List.getElem?_eq_some_iff.1 h;rw[List.getElem_map]at h2;rw[Option.getD_some,<-h2];exact ih _ (List.getElem_mem _)
  unfold evK
  split
  ·unfold E23;simp only;omega
  ·split
   ·exact zyj (hg 0)
   ·split
    ·exact hg 0
    ·split
     ·unfold unE;split<;>(unfold E23;simp only;omega)
     ·split
      ·exact hg 1
      ·exact zKt _ _ _
theorem zsr(look:ByteArray->Option (List Int))(t:T):E23 (zk9 look t).2:=by
 unfold zk9
 split
 ·exact zx2 look t
 ·unfold E23;simp only;omega
theorem zuy(look:ByteArray->Option (List Int))(t:T):E23 (indE look t).2:=by
 unfold indE
 split
 ·split
  ·unfold E23;simp only;omega
  ·exact zx2 look _
 ·unfold E23;simp only;omega
theorem zyD(vs:List VD)(k:Int)(s:ByteArray):E23 (ownE vs k s):=by
 unfold ownE
 (repeat' split)<;>(unfold E23;omega)
theorem zy8(vs:List VD)(t:T):E23 (fltE vs t):=by
 induction t using T.ind with
 | _ k n s ks ih =>
  rw[fltE]
  split
  ·exact zyD vs k s
  ·have:∀l:List T,(∀u∈l,E23 (fltE vs u))->E23 (zly vs l):=by
    intro l
    induction l with
    | nil=>intro _;rw[zly];unfold E23;omega
    | cons u l ih2 =>
     intro hl;rw[zly]
     split
     ·exact hl u (List.mem_cons_self ..)
     ·exact ih2 fun x hx=>hl x (List.mem_cons_of_mem _ hx)
   exact this ks ih
theorem zw3(S:ST)(k:Int)(s qs:ByteArray)(r2:Int)(id i:Nat):E23 (zms S k s qs r2 id i).1:=by
 unfold zms zmr zk6
 (repeat' split)<;>(unfold E23;simp only;omega)
theorem zx4(S:ST)(t:T):E23 (doE S t).1:=by
 unfold doE
 split
 ·unfold E23;simp only;omega
 ·split
  ·unfold E23;simp only;omega
  ·split
   ·unfold E23;simp only;omega
   ·split
    ·exact zy8 _ t
    ·obtain⟨k,n,s,ks⟩:=t;simp only[zoO,zlg]
     split
     ·exact zuy _ _
     ·unfold zm3
      split
      ·unfold zlM
       split
       ·exact zuy _ _
       ·split
        ·exact zsr _ _
        ·unfold E23;simp only;omega
      ·split
       ·unfold E23;simp only;omega
       ·split
        ·exact zw3 _ _ _ _ _ _ _
        ·unfold E23;simp only;omega
theorem zv2(S:ST)(t:T):E23 (zmf S t).1:=by
 obtain⟨k,n,s,ks⟩:=t;exact zx4 S _
theorem zr5(S:ST)(v:VD)(x:Int):E23 (zk4 S v x).1:=by
 unfold zk4
 (repeat' split)<;>(unfold E23;simp only;omega)
theorem zqK(S:ST)(s:ByteArray)(x:Int):E23 (zkG S s x).1:=by
 unfold zkG
 (repeat' split)<;>(unfold E23;simp only;omega)
theorem zup(S:ST):E23 (zk2 S).1:=by
 unfold zk2
 (repeat' split)<;>(unfold E23;simp only;omega)
theorem zuW{f:FR}:∀(l:List (VD×ByteArray)) (acc:FR) (e:Int),entL f acc l=.error e->E23 e
 | [],acc,e,h=>by rw[entL]at h;cases h
 | (v,a)::r,acc,e,h=>by
  rw[entL]at h
  split at h
  ·injection h with h;subst h;unfold E23;omega
  ·split at h
   ·exact zuW r _ e h
   ·injection h with h;subst h;unfold E23;omega
theorem zuT(S:ST)(ps:List VD)(ss:List ByteArray):E23 (zk1 S ps ss).1:=by
 unfold zk1
 split
 ·unfold E23;simp only;omega
 ·cases h:entL S.cur ⟨[],[],0⟩ (ps.zip ss)with
  | error e=>exact zuW _ _ _ h
  | ok f=>unfold entR;simp only;split<;>(unfold E23;simp only;omega)
def Rg(o:Out):Prop:=∀e,o=.err e->E23 e
theorem Rg.bind{o:Out}{f:RS->Out}(h:Rg o)(hf:∀r,Rg (f r)):Rg (o.bind f):=by
 cases o with
 | gas=>exact fun e he=>by cases he
 | err x=>exact fun e he=>h e he
 | ok r=>exact hf r
theorem Rg.ok(r:RS):Rg (.ok r):=fun e he=>by cases he
theorem Rg.gas:Rg .gas:=fun e he=>by cases he
theorem Rg.err{x:Int}(h:E23 x):Rg (.err x):=fun e he=>by injection he with he;subst he;exact h
theorem Rg.step(F:Int)(r:RS):Rg (zkB F r):=by
 unfold zkB
 split
 ·exact Rg.err (by unfold E23;omega)
 ·exact Rg.ok _
theorem Rg.store(r:RS){R:Int×ST}(h:E23 R.1):Rg (zkj r R):=by
 unfold zkj
 split
 ·exact Rg.err h
 ·exact Rg.ok _
theorem Rg.val{t:T}{r:RS}{f:Int->RS->Out}(hf:∀x,Rg (f x r)):Rg (valO t r f):=by
 unfold valO
 split
 ·exact Rg.err (zsr _ _)
 ·exact hf _
theorem Rg.holds{F:Int}{t:T}{r:RS}{f:Bool->RS->Out}(hf:∀b r,Rg (f b r)):Rg (zk0 F t r f):=(Rg.step F r).bind fun r=>Rg.val fun x=>hf _ _
theorem Rg.assert(F:Int)(t:T)(b:Bool)(r:RS):Rg (zks F t b r):=Rg.holds fun b' r=>by
 split
 ·exact Rg.ok _
 ·exact Rg.err (by unfold E23;omega)
theorem Rg.body{f:T->RS->Out}(h:∀t r,Rg (f t r)):∀(l:List T) (r:RS),Rg (zkK f l r)
 | [],r=>Rg.ok r
 | t::ts,r=>(h t r).bind fun r=>Rg.body h ts r
theorem Rg.loop{F:Int}{f:T->RS->Out}{entry test:T}{l1 l2:List T}(h:∀t r,Rg (f t r)):∀(m:Nat) (r:RS),Rg (zlJ F f entry test l1 l2 m r)
 | 0,_=>Rg.gas
 | m+1,r=>by
  rw[zlJ];refine(Rg.body h l1 r).bind fun r=>Rg.holds fun b r=>?_
  split
  ·exact Rg.ok _
  ·exact(Rg.body h l2 r).bind fun r=>(Rg.assert F entry false r).bind fun r=>Rg.loop h m r
theorem zpS{prs:List PR}{F:Int}:∀(g:Nat) (back:Bool) (t:T) (r:RS),Rg (zkt prs F g back t r)
 | 0,_,_,_=>Rg.gas
 | g+1,back,t,r=>by
  have hb:∀back l r,Rg (zkK (zkt prs F g back) l r):=fun back l r=>Rg.body (fun u r=>zpS g back u r) l r;rw[zkt]
  split
  ·exact Rg.holds fun yes r=>(hb _ _ _).bind fun r=>Rg.assert _ _ _ _
  ·split
   ·exact(Rg.assert _ _ _ _).bind fun r=>Rg.loop (fun u r=>zpS g back u r) g r
   ·split
    ·exact(Rg.step _ _).bind fun r=>Rg.val fun x=>(Rg.store _ (zr5 _ _ _)).bind fun r=>(hb _ _ _).bind fun r=>(Rg.step _ _).bind fun r=>Rg.val fun x=>Rg.store _ (zqK _ _ _)
    ·split
     ·exact(Rg.step _ _).bind fun r=>(Rg.store _ (zr5 _ _ _)).bind fun r=>(hb _ _ _).bind fun r=>(Rg.step _ _).bind fun r=>Rg.store _ (zqK _ _ _)
     ·split
      ·split
       ·exact Rg.err (by unfold E23;omega)
       ·exact(Rg.step _ _).bind fun r=>(Rg.store _ (zuT _ _ _)).bind fun r=>(hb _ _ _).bind fun r=>(Rg.step _ _).bind fun r=>Rg.store _ (zup _)
      ·refine(Rg.step _ _).bind fun r=>Rg.store _ ?_
       split
       ·exact zv2 _ _
       ·exact zx4 _ _
theorem zyy(p:PG)(s:SS)(F:Int)(g:Nat)(back:Bool):E23 (resO p s F g back).2.2.1:=by
 unfold resO
 split
 ·unfold E23;simp only;omega
 ·split
  ·unfold E23;simp only;omega
  ·have h:Rg (runO p.prs F g back p.m ⟨newS p.vs s,0,List.replicate p.prs.length 0⟩):=Rg.body (fun u r=>zpS g back u r) _ _
   cases ho:runO p.prs F g back p.m ⟨newS p.vs s,0,List.replicate p.prs.length 0⟩with
   | gas=>simp only[outR];unfold E23;omega
   | err e=>simp only[outR];exact h e ho
   | ok r=>simp only[outR];unfold E23;omega
attribute [local go_sem] Oper.semAt_some
def znV(l:List Int):List Int:=l.foldl (fun acc x=>if acc.contains x then acc else acc++[x]) []
theorem zpb(l:List Int)(x:Int):znV (l++[x])=if (znV l).contains x then znV l else znV l++[x]:=by simp[znV]
def kO(c:Int):Lit:=.int .i64 c
theorem zz4{c d:Int}(h:c≠d):kO c≠kO d:=fun e=>h (by unfold kO at e;injection e)
theorem zxX(c:Int):WideAt.IsKeyLit (kO c):=trivial
theorem zzO{c:Int}(hc:I64 c):(Lit.int .i64 c).wf=true:=by
 obtain⟨h1,h2⟩:=hc;simp[Lit.wf,IntKind.min,IntKind.max,IntKind.signed,IntKind.bits];omega
theorem keyO{c:Int}(hc:I64 c):keyOf prog 48 (.int .i64 c)=some (kO c):=Maps.keyOf_int_mk underlying48 (zzO hc)
theorem zInt(w:World):(zeroValue 3).run prog w=.ok (.int .i64 0) w:=by kernel_rfl
def OM(W:World)(mb:Nat)(e:SS->Int)(pre:List SS):Prop :=
 ∃D:DataW Unit,W.ownsMap prog 48 (plainElem (H:=Unit) prog 3) mb pre.length D/\(∀k,I64 k->D.atKey (kO k) (.lit (.int .i64 0))=.lit (.int .i64 (cntS e pre k:Int)))/\(∀k,I64 k->Maps.has D (kO k)=(znV (pre.map e)).contains k)/\Maps.size D=(znV (pre.map e)).length
theorem OM.keep{W W':World}{mb:Nat}{e:SS->Int}{pre:List SS}(h:OM W mb e pre)(hk:W'.heap[mb]?=W.heap[mb]?):OM W' mb e pre:=by
 obtain⟨D,⟨es,clock,hb,r⟩,h2⟩:=h;exact⟨D,⟨es,clock,hk.trans hb,r⟩,h2⟩
theorem OM.lt{W:World}{mb:Nat}{e:SS->Int}{pre:List SS}(h:OM W mb e pre):mb<W.heap.size:=h.choose_spec.1.lt
theorem OM.ne{W:World}{mb b:Nat}{e:SS->Int}{pre:List SS}{a:Array Value}{t:TypeId}{z:Nat×Nat}(h:OM W mb e pre)(hb:W.heap[b]?=some (.cells a t z)):¬ b=mb:=fun e=>by
 obtain⟨D,⟨es,clock,hm,-⟩,-⟩:=h;subst e;rw[hb]at hm;injection hm with hm
 cases hm
theorem OM.made(W:World)(e:SS->Int):OM (W.alloc (.map #[] 0)) W.heap.size e []:=⟨.map [],World.ownsMap_made W _ _ _,fun _ _=>rfl,fun _ _=>rfl,rfl⟩
theorem zu2(e:SS->Int)(l:List SS)(s:SS)(k:Int):cntS e (l++[s]) k=cntS e l k+if e s=k then 1 else 0:=by
 unfold cntS;rw[List.filter_append,List.length_append];congr 1;by_cases h:e s=k
 ·simp[h]
 ·simp[h]
theorem zu3(e:SS->Int)(l:List SS)(k:Int):cntS e l k<=l.length:=List.length_filter_le _ _
theorem OM.look{W:World}{mb:Nat}{e:SS->Int}{pre:List SS}(h:OM W mb e pre){k:Int}(hk:I64 k):(Instr.lookup 46 (.map (some mb)) (.int .i64 k) false).run prog W=.ok (.int .i64 (cntS e pre k:Int)) W:=by
 obtain⟨D,h1,h2,-⟩:=h;obtain⟨c,hr,hc,-⟩:=h1.lookup_int (Maps.int_keyed underlying48) underlying46 underlying3 (zInt W) (keyO hk);rw[h2 k hk]at hc;injection hc with hc;injection hc with _ hc;rw[hr,hc]
theorem OM.len{W:World}{mb:Nat}{e:SS->Int}{pre:List SS}(h:OM W mb e pre)(ty:TypeId):(Builtin.len_ #[46] ty #[.map (some mb)]).run prog W=.ok (.int .i64 ((znV (pre.map e)).length:Int)) W:=by
 obtain⟨D,h1,-,-,h4⟩:=h;rw[h1.len underlying46 ty,h4]
theorem OM.put{W:World}{mb:Nat}{e:SS->Int}{pre:List SS}(h:OM W mb e pre)(s:SS)(he:I64 (e s))(hn:pre.length<1000000) :
  ∃W',(Instr.mapUpdate 46 (.map (some mb)) (.int .i64 (e s)) (.int .i64 ((cntS e pre (e s):Int)+1))).run prog W=.ok () W'/\OM W' mb e (pre++[s])/\Chg (fun b=>b=mb) W W':=by
 obtain⟨D,h1,h2,h3,h4⟩:=h;have hle:=zu3 e pre (e s);have K:=Maps.int_keyed (P:=prog) underlying48;have ht:=h1.tidy K;have hm:=h1.isMap;obtain⟨W',r1,r2,r3⟩:=h1.store K underlying46 (by unfold maxLen;omega) (keyO he) (val:=.int .i64 ((cntS e pre (e s):Int)+1)) (plainElem_int underlying3 (zzO ⟨by omega,by omega⟩));refine⟨W',r1,⟨_,by simpa using r2,fun k hk=>?_,fun k hk=>?_,?_⟩,(Chg.row r3.grown).mono fun b _ e=>by injection e with e;exact e.symm⟩
 ·rw[zu2];by_cases hkk:e s=k
  ·subst hkk;rw[Maps.atKey_put_same hm (zxX _),if_pos rfl];simp
  ·rw[Maps.atKey_put_other (zz4 fun h=>hkk h.symm),h2 k hk,if_neg hkk];rfl
 ·rw[List.map_append,List.map_cons,List.map_nil,zpb];by_cases hkk:e s=k
  ·subst hkk;rw[Maps.has_put_same hm (zxX _)];by_cases hc:(znV (pre.map e)).contains (e s)=true
   ·rw[if_pos hc];exact hc.symm
   ·rw[if_neg hc];simp
  ·rw[Maps.has_put_other (zz4 fun h=>hkk h.symm),h3 k hk];by_cases hc:(znV (pre.map e)).contains (e s)=true
   ·rw[if_pos hc]
   ·rw[if_neg hc];simp only[List.contains_eq_mem,List.mem_append,List.mem_singleton];have:¬ k=e s:=fun h=>hkk h.symm;simp[this]
 ·rw[List.map_append,List.map_cons,List.map_nil,zpb,Maps.size_put ht,h3 _ he];by_cases hc:(znV (pre.map e)).contains (e s)=true
  ·rw[if_pos hc,if_pos hc];exact h4
  ·rw[if_neg hc,if_neg hc];simp;omega
theorem zKe:IsFn prog 50 Tryz.f50:=⟨func50,by kernel_rfl,by kernel_rfl⟩
theorem zwr{W:World}{p:PG}{s:SS}{pre:List SS}{F:Int}{bp bf bc mb c1 c2 c3:Nat}{A1 A2 A3:Option Addr}{sv:Value}(hk:W.heap[bp]?=some (.cells (pgA p A1 c1 A2 c2 A3 c3) 43 (0,0)))(hp:PV W Any p (pv A1 p.vs.length c1 A2 p.prs.length c2 p.m.k p.m.n p.m.s A3 p.m.ks.length c3))(hf:W.heap[bf]?=some (.cells #[.int .i64 F] 3 (0,0)))
  (hc:W.heap[bc]?=some (.cells #[.map (some mb)] 46 (0,0)))(hm:OM W mb (errE p F) pre)(hn:pre.length<1000000)(he:I64 (errE p F s))(hs:SV W Any s sv)(hcl:s.cells.length<=100)(hF:I64 F)(eF:F<=1000000) :
  Calls prog 50 #[sv,.pointer (some ⟨bc,0,none⟩),.pointer (some ⟨bp,0,none⟩),.pointer (some ⟨bf,0,none⟩)] W fun e' W'=>e'=.returned (.bool false)/\OM W' mb (errE p F) (pre++[s])/\Chg (fun b=>b=mb) W W':=by
 obtain⟨A,c,B,d,D,k,rfl⟩:∃A c B d D k,sv=.agg #[.slice A s.cells.length c,.slice B s.tin.length d,.slice D s.tout.length k]:=by
  obtain⟨A,c,B,d,D,k,rfl,-⟩:=hs;exact⟨_,_,_,_,_,_,rfl⟩
 have hkb:=heap_alloc_new W (.cells #[.slice A s.cells.length c,.slice B s.tin.length d,.slice D s.tout.length k] 32);have hb:=zkb (zs W) (.cells #[.slice A s.cells.length c,.slice B s.tin.length d,.slice D s.tout.length k] 32);obtain⟨w1,hw1⟩:=zX (W.alloc (.cells #[.slice A s.cells.length c,.slice B s.tin.length d,.slice D s.tout.length k] 32));obtain⟨N,hN⟩:=zX (W.heap.size);rw[hw1]at hkb hb;rw[hN]at hkb;have HB:=zh hb;have uG:=zh (zkc hk hb);have jG:=zh (zkc hf hb);have Ck:=zh (zkc hc hb);have nG:=zh hkb;have qi:=zh (hm.keep (hb.block mb hm.lt));have yZ:=zh (And.intro hn he);have iV:=zh (fun w (h:Below w1.heap.size w1 w)=>zlY p s F (F.toNat*2000+2000) _ _ w ((hp.later hb).later h) ((hs.later hb).later h) (by omega) hF eF zl);have rF:=zh (show errE p F s=(resO p s F (F.toNat*2000+2000) false).2.2.1 from rfl)
 generalize resO p s F (F.toNat*2000+2000) false=R at iV rF;clear hk hp hf hc hm hn he hs hcl hF eF hb hkb;go_enter func50,ntmps50;go_upto_region 1 with fail
 try rw[hw1]
 try rw[hN]
 clear hw1 hN;have az:=zh (show ∀w',Below w1.heap.size w1 w'->(fun w':World=>pgS w' bp p A1 c1 A2 c2 A3 c3/\stC w' N A s.cells.length c B s.tin.length d D s.tout.length k/\zv w' bf 0 (.int .i64 F)/\zv w' bc 0 (.map (some mb))) w' from fun w' hb=>⟨box6 (zkc uG.out hb),zky (zkc nG.out hb),zc (zkc jG.out hb) rfl,zc (zkc Ck.out hb) rfl⟩);have hSS:zW (fun w':World=>pgS w' bp p A1 c1 A2 c2 A3 c3/\stC w' N A s.cells.length c B s.tin.length d D s.tout.length k/\zv w' bf 0 (.int .i64 F)/\zv w' bc 0 (.map (some mb))) zU w1.drew:=⟨az.out _ zr.drew,trivial⟩
 refine wp_region_noPanic ?_;refine zG hSS 8 ?_;refine zT 0 hSS ?_;refine zT 1 hSS ?_;refine zT 2 hSS ?_;refine zT 3 hSS ?_;refine zo 4 fun K hK=>?_;have had:Calls prog 21 [pv A1 p.vs.length c1 A2 p.prs.length c2 p.m.k p.m.n p.m.s A3 p.m.ks.length c3,.agg #[.slice A s.cells.length c,.slice B s.tin.length d,.slice D s.tout.length k],.int .i64 F].toArray w1.drew fun e' W'=>∃z,e'=.returned z/\(∃v1 v2 v3,z=.agg #[v1,v2,v3,.int .i64 (R.2.1:Int),.int .i64 R.2.2.1])/\Below w1.heap.size w1 W' :=
  (iV.out w1.drew zr.drew).mono fun e' W' ⟨v1,v2,v3,h1,h2,h3,h4⟩=>⟨_,h1,⟨v1,v2,v3,rfl⟩,zka (zs w1).drew h3⟩
 refine zkf (by rfl) (.func 21) [.tmp 7,.tmp 8,.tmp 9] _ (by rfl) 21 _ zsm (by rfl) [pv A1 p.vs.length c1 A2 p.prs.length c2 p.m.k p.m.n p.m.s A3 p.m.ks.length c3,.agg #[.slice A s.cells.length c,.slice B s.tin.length d,.slice D s.tout.length k],.int .i64 F] (by rfl) _ had ?_;rintro z w2 ⟨⟨v1,v2,v3,rfl⟩,hb2⟩;refine hK.out _ _ ⟨az.out _ hb2,trivial⟩ ?_;clear hK K had hSS;(try simp only[zQ]);have hfl:∀w,(Instr.field 59 (.agg #[v1,v2,v3,.int .i64 (R.2.1:Int),.int .i64 R.2.2.1]) 2).run prog w=.ok (.int .i64 R.2.2.1) w:=fun w=>by kernel_rfl
 have hSS:zW (fun w':World=>pgS w' bp p A1 c1 A2 c2 A3 c3/\stC w' N A s.cells.length c B s.tin.length d D s.tout.length k/\zv w' bf 0 (.int .i64 F)/\zv w' bc 0 (.map (some mb))) zU w2:=⟨az.out _ hb2,trivial⟩
 refine zT 5 hSS ?_;have ky:OM w2 mb (errE p F) pre:=qi.out.keep (hb2.block mb qi.out.lt);have hrr:=rF.out;obtain⟨ev,hev⟩:=zX (R.2.2.1);rw[hev]at hrr ⊢;have hlk:=ky.look (k:=ev) (by rw[<-hrr];exact yZ.out.2);obtain⟨w3,hput,hom3,hc3⟩:=ky.put s yZ.out.2 yZ.out.1;rw[hrr]at hput;have hle:=zu3 (errE p F) pre ev;have hn9:=yZ.out.1;obtain⟨cn,hcn⟩:=zX (cntS (errE p F) pre ev);rw[hcn]at hlk hput hle;have hwr:IntKind.i64.wrap ((cn:Int)+1)=(cn:Int)+1:=IntWalk.i64_in _ (by omega);refine zo 6 fun K hK=>?_;(try simp only[zA,zB,zC]);go_simp;refine hK.out _ _ hSS ?_;clear hK K;(try simp only[zQ]);refine zT 7 hSS ?_;refine zp 8 fun K hK=>?_;(try simp only[zA,zB,zC]);go_simp;have hch:Chg (fun b=>b=mb) w1 w3:=(Chg.of_below (C:=fun b=>b=mb) hb2).trans2 hc3 fun q _ e=>e;have hne:∀ {b:Nat} {a:Array Value} {t:TypeId} {z:Nat×Nat},w1.heap[b]?=some (.cells a t z)->¬ b=mb:=fun h=>qi.out.ne h
 refine hK.out _ _ ⟨box6 (hch.keep uG.out (hne uG.out)),zky (hch.keep nG.out (hne nG.out)),zc (hch.keep jG.out (hne jG.out)) rfl,zc (hch.keep Ck.out (hne Ck.out)) rfl⟩ ?_;clear hK K;(try simp only[zQ]);refine zd ?_;refine NoPanic.normal ?_;have dG:=zh ((Chg.of_below (C:=fun b=>b=mb) HB.out).trans2 hch fun q _ e=>e);have BS:=zh hom3;clear hch hne hom3 hc3 hput hlk hSS hb2 ky;go_wp2_with fail;go_ret;exact⟨by trivial,BS.out,dG.out⟩
structure FrM(B mb:Nat)(w1:World)(e:SS->Int)(xs:List SS)(n:Nat)(w:World):Prop where
 size:B<=w.heap.size
 same:∀b,b<B->b≠mb->w.heap[b]?=w1.heap[b]?
 om:OM w mb e (xs.take n)
theorem zLa(w:World):(Instr.makeMap 46 none).run prog w=.ok (.map (some w.heap.size)) (w.alloc (.map #[] 0)):=by kernel_rfl
def OutP(e:SS->Int)(xs:List SS)(W:World)(en:Ending)(W':World):Prop:=Below W.heap.size W W'/\∃mb,en=.returned (.map (some mb))/\W.heap.size<=mb/\OM W' mb e xs
theorem zqV{W:World}{p:PG}{b:BX}{F:Int}{v:Value}(hp:PV W Any p v)(hok:(b.ok&&svB p.vs)=true)(hm:(allS b (lenE p.vs b)).length<=1000000)(hF:I64 F)(eF:F<=1000000) :
  Calls prog 16 #[v,.agg #[.int .i64 b.v,.int .i64 b.l,.int .i64 b.i],.int .i64 F] W (OutP (errE p F) (allS b (lenE p.vs b)) W):=by
 obtain⟨A1,c1,A2,c2,A3,c3,rfl,-⟩:=id hp;obtain⟨bv,bl,bi⟩:=b;obtain⟨N,hN⟩:=zX (W.heap.size);have HN:=zh hN;obtain⟨hb1,hz1,k0,k1,k2,k3,k4⟩:=al5F W (.cells (pgA p A1 c1 A2 c2 A3 c3) 43) (.cells #[.int .i64 bv,.int .i64 bl,.int .i64 bi] 24) (.cells #[.int .i64 F] 3) (.map #[] 0) (.cells #[.map none] 46);have jR:=(OM.made (((W.alloc (.cells (pgA p A1 c1 A2 c2 A3 c3) 43)).alloc (.cells #[.int .i64 bv,.int .i64 bl,.int .i64 bi] 24)).alloc (.cells #[.int .i64 F] 3)) (errE p F)).keep (W':=((((W.alloc (.cells (pgA p A1 c1 A2 c2 A3 c3) 43)).alloc (.cells #[.int .i64 bv,.int .i64 bl,.int .i64 bi] 24)).alloc (.cells #[.int .i64 F] 3)).alloc (.map #[] 0)).alloc (.cells #[.map none] 46)) (Below.heap_alloc _ _ _ (by simp));have hzz:(((W.alloc (.cells (pgA p A1 c1 A2 c2 A3 c3) 43)).alloc (.cells #[.int .i64 bv,.int .i64 bl,.int .i64 bi] 24)).alloc (.cells #[.int .i64 F] 3)).heap.size=N+3:=by simp[hN]
 rw[hzz]at jR;obtain⟨w1,hw1⟩:=zX (((((W.alloc (.cells (pgA p A1 c1 A2 c2 A3 c3) 43)).alloc (.cells #[.int .i64 bv,.int .i64 bl,.int .i64 bi] 24)).alloc (.cells #[.int .i64 F] 3)).alloc (.map #[] 0)).alloc (.cells #[.map none] 46));rw[hw1]at hb1 hz1 k0 k1 k2 k3 k4 jR;rw[hN]at hz1 k0 k1 k2 k3 k4;have gM:=zh hp;have fG:=zh (And.intro hok (And.intro hm (And.intro hF eF)));have HB1:=zh hb1;have HZ1:=zh hz1;have aD:=zh k0;have aA:=zh k1;have aR:=zh k2;have dM:=zh k4;have qi:=zh jR;have q4:w1.cell? ⟨N+4,0,none⟩=some (.map none):=zc k4 rfl;have cf:∀o,w1.frozen? ⟨N+4,o,none⟩=false:=fun o=>zf k4;obtain⟨w2,hw2,hc2,pF⟩:=setU (o:=0) (.map (some (N+3))) k4;have dH:=zh hc2;have HH2:=zh pF;clear hp hok hm hF eF hb1 hz1 k0 k1 k2 k3 k4 jR hzz hc2 pF
 have nZ:∀(fn:Fn) (first cap:Array Value) (w:World),(Instr.makeFunc fn first cap).run prog w=.ok (.func fn first cap) w:=fun _ _ _ _=>rfl
 show Calls prog 16 #[pv A1 p.vs.length c1 A2 p.prs.length c2 p.m.k p.m.n p.m.s A3 p.m.ks.length c3,.agg #[.int .i64 bv,.int .i64 bl,.int .i64 bi],.int .i64 F] W _
 go_enter func16,ntmps16;have hmm:=zLa;go_upto_region 2 with fail;simp only[Nat.add_assoc,Nat.reduceAdd];clear hw1 q4 cf hw2;have hZ2:N+5<=w2.heap.size:=by have:=dH.out.size;have:=HZ1.out;omega
 have HZ2:=zh hZ2;have HB2:=zh (HB1.out.trans (dH.out.below HB1.out.size fun q e=>by have e:q=N+4:=e;have:=HN.out;omega));have hk0:=dH.out.keep aD.out (fun e:N=N+4=>by omega);have hk1:=dH.out.keep aA.out (fun e:N+1=N+4=>by omega);have hk2:=dH.out.keep aR.out (fun e:N+2=N+4=>by omega);have hk4:w2.heap[N+4]?=some (.cells #[.map (some (N+3))] 46 (0,0)):=by have:=HH2.out;simpa using this
 have ky:=qi.out.keep (W':=w2) (dH.out.block (N+3) (by have:=HZ1.out;omega) (fun e:N+3=N+4=>by omega));have mZ:=zh (((gM.out.keep (S':=fun q=>q<N) (fun q _ h=>by have:=HN.out;omega) fun _ _ _=>rfl).keep (w':=w2) (S':=fun q=>q<N) (fun _ h _=>h) fun q h hlt=>HB2.out.block q hlt));have dJ:=gM.out.pg;have HT:=zh (show zry 50 #[.pointer (some ⟨N+4,0,none⟩),.pointer (some ⟨N,0,none⟩),.pointer (some ⟨N+2,0,none⟩)] (fun _ _=>false) (allS ⟨bv,bl,bi⟩ (lenE p.vs ⟨bv,bl,bi⟩)) w2.heap.size (fun n=>FrM w2.heap.size (N+3) w2 (errE p F) (allS ⟨bv,bl,bi⟩ (lenE p.vs ⟨bv,bl,bi⟩)) n)from by
  refine⟨fun n W W' h h1 h2=>⟨Nat.le_trans h.size h1,fun b hb hm=>(h2 b hb).trans (h.same b hb hm),h.om.keep (h2 _ (by omega))⟩,fun n W h=>h.size,fun n s v W g hI hg hgs ho hx=>?_⟩;have hx2:=znq fG.out.1 s (List.mem_of_getElem? hx);have hnl:=(List.getElem?_eq_some_iff.1 hx).1;have hlt:∀q,q<N+5->q≠N+3->W.heap[q]?=w2.heap[q]?:=fun q hq=>hI.same q (by omega);have hrg:=zyy p s F (F.toNat*2000+2000) false;refine(zwr (F:=F) (p:=p) (s:=s) ((hlt N (by omega) (by omega)).trans hk0) (mZ.out.keep (fun _ _ _=>trivial) fun q h _=>hlt q (by omega) (by omega)) ((hlt (N+2) (by omega) (by omega)).trans hk2) ((hlt (N+4) (by omega) (by omega)).trans hk4) hI.om (by rw[List.length_take];have:=fG.out.2.1;omega) ⟨by unfold E23 at hrg;unfold errE;omega,by unfold E23 at hrg;unfold errE;omega⟩ (ho.sv hx2.1) hx2.2 fG.out.2.2.1 fG.out.2.2.2).mono ?_;rintro e' W' ⟨rfl,jR,hb⟩
  refine⟨rfl,⟨Nat.le_trans hI.size hb.size,fun q hq hm=>(hb.block q (Nat.lt_of_lt_of_le hq hI.size) hm).trans (hI.same q hq hm),?_⟩,hb.mono fun q _ e=>.inl (by have e:q=N+3:=e;omega)⟩;rw[List.take_add_one,hx];exact jR)
 have bz:=zh (znw (W:=w2) (A1:=A1) (c1:=c1) (vs:=p.vs) (b:=⟨bv,bl,bi⟩) (mZ.out.keep (S':=Any) (fun _ _ _=>trivial) fun _ _ _=>rfl).pg.vars dJ.lv fG.out.1 fG.out.2.1 zKe HT.out ⟨zl,fun _ _ _=>rfl,ky⟩);rw[zqG (f:=fun _ _=>false) fun _ _=>rfl]at bz;clear dJ ky HT;obtain⟨p0,p1,p2,p3,p4,p5⟩:=box6 hk0;obtain⟨y0,y1,y2⟩:=zky hk1;go_wp2_with fail;refine bz.out.mono ?_;rintro e' w3 ⟨v2,rfl,hs2,hi2,hc3⟩;have x4:w3.cell? ⟨N+4,0,none⟩=some (.map (some (N+3))):=zc ((hi2.same (N+4) (by omega) (by omega)).trans hk4) rfl;have HB3:=zh (show Below W.heap.size W w3 from HB2.out.trans ⟨hc3.os,hc3.tape,hc3.output,hc3.size,fun q hq=>hi2.same q (by have:=HB2.out.size;omega) (by have:=HN.out;omega)⟩);have BS:=zh (show OM w3 (N+3) (errE p F) (allS ⟨bv,bl,bi⟩ (lenE p.vs ⟨bv,bl,bi⟩)) by have:=hi2.om;rwa[List.take_length]at this)
 clear hs2 hi2 hc3 hk0 hk1 hk2 hk4 p0 p1 p2 p3 p4 p5 y0 y1 y2;go_wp2_with fail;go_ret;exact⟨HB3.out,N+3,rfl,by have:=HN.out;omega,BS.out⟩
end
section
open Go Go.RowKit
def exX:ByteArray:=⟨#[120]⟩
def exV:T:=.nd 2 0 exX []
def exN(n:Int):T:=.nd 1 n ⟨#[]⟩ []
def exE(n:Int):T:=.nd 16 0 ⟨#[]⟩ [exV,exN n]
def exP:PG:=⟨[⟨exX,1,0⟩],[],.nd 57 0 ⟨#[]⟩ [.nd 52 0 ⟨#[]⟩ [exE 1,.nd 57 0 ⟨#[]⟩ [.nd 40 0 ⟨#[]⟩ [exV,exN 1]],.nd 57 0 ⟨#[]⟩ [],exE 2]]⟩
def exB:BX:=⟨2,0,0⟩
theorem zpn:allS exB (lenE exP.vs exB)=[⟨[[0]],[],[]⟩,⟨[[1]],[],[]⟩,⟨[[-1]],[],[]⟩,⟨[[2]],[],[]⟩,⟨[[-2]],[],[]⟩]:=by kernel_rfl
attribute [local go_sem] Oper.semAt_some
theorem zmp(w:World)(S:Nat->Prop){k n:Int}{s:ByteArray}(hf:Fld k n s):NV w S (.nd k n s []) (nv k n s none 0 0):=NV.shut (ks:=[]) hf (by simp[LK]) (by simp) fun i hi=>by simp at hi
theorem zKB{w:World}{S:Nat->Prop}{b:Nat}{E:TypeId}{t1:T}{k n k1 n1:Int}{s s1:ByteArray}{A1:Option Addr}{l1 c1:Nat}(hf:Fld k n s)(hS:S b)(hk:w.heap[b]?=some (.cells #[.int .u8 k1,.int .i64 n1,.string s1,.slice A1 l1 c1] E (0,0)))(h1:NV w S t1 (nv k1 n1 s1 A1 l1 c1)) :
  NV w S (.nd k n s [t1]) (nv k n s (some ⟨b,0,none⟩) 1 1):=by
 refine NV.shut (ks:=[t1]) hf (by simp[LK]) (by simp) fun i hi=>?_
 match i,hi with
 | 0,_=>exact⟨⟨b,0,none⟩,_,_,_,_,rfl,hS,⟨zc hk rfl,zc hk rfl,zc hk rfl,zc hk rfl⟩,h1⟩
theorem zzJ{w:World}{S:Nat->Prop}{b:Nat}{E:TypeId}{t1 t2:T}{k n k1 n1 k2 n2:Int}{s s1 s2:ByteArray}{A1 A2:Option Addr}{l1 c1 l2 c2:Nat}(hf:Fld k n s)(hS:S b)(hk:w.heap[b]?=some (.cells #[.int .u8 k1,.int .i64 n1,.string s1,.slice A1 l1 c1,.int .u8 k2,.int .i64 n2,.string s2,.slice A2 l2 c2] E (0,0)))(h1:NV w S t1 (nv k1 n1 s1 A1 l1 c1))(h2:NV w S t2 (nv k2 n2 s2 A2 l2 c2)) :
  NV w S (.nd k n s [t1,t2]) (nv k n s (some ⟨b,0,none⟩) 2 2):=by
 refine NV.shut (ks:=[t1,t2]) hf (by simp[LK]) (by simp) fun i hi=>?_
 match i,hi with
 | 0,_=>exact⟨⟨b,0,none⟩,_,_,_,_,rfl,hS,⟨zc hk rfl,zc hk rfl,zc hk rfl,zc hk rfl⟩,h1⟩
 | 1,_=>exact⟨⟨b,0,none⟩,_,_,_,_,rfl,hS,⟨zc hk rfl,zc hk rfl,zc hk rfl,zc hk rfl⟩,h2⟩
theorem zLg{w:World}{S:Nat->Prop}{b:Nat}{E:TypeId}{t1 t2 t3 t4:T}{k n k1 n1 k2 n2 k3 n3 k4 n4:Int}{s s1 s2 s3 s4:ByteArray}{A1 A2 A3 A4:Option Addr}{l1 c1 l2 c2 l3 c3 l4 c4:Nat}(hf:Fld k n s)(hS:S b)
  (hk:w.heap[b]?=some (.cells #[.int .u8 k1,.int .i64 n1,.string s1,.slice A1 l1 c1,.int .u8 k2,.int .i64 n2,.string s2,.slice A2 l2 c2,.int .u8 k3,.int .i64 n3,.string s3,.slice A3 l3 c3,.int .u8 k4,.int .i64 n4,.string s4,.slice A4 l4 c4] E (0,0)))
  (h1:NV w S t1 (nv k1 n1 s1 A1 l1 c1))(h2:NV w S t2 (nv k2 n2 s2 A2 l2 c2))(h3:NV w S t3 (nv k3 n3 s3 A3 l3 c3))(h4:NV w S t4 (nv k4 n4 s4 A4 l4 c4)):NV w S (.nd k n s [t1,t2,t3,t4]) (nv k n s (some ⟨b,0,none⟩) 4 4):=by
 refine NV.shut (ks:=[t1,t2,t3,t4]) hf (by simp[LK]) (by simp) fun i hi=>?_
 match i,hi with
 | 0,_=>exact⟨⟨b,0,none⟩,_,_,_,_,rfl,hS,⟨zc hk rfl,zc hk rfl,zc hk rfl,zc hk rfl⟩,h1⟩
 | 1,_=>exact⟨⟨b,0,none⟩,_,_,_,_,rfl,hS,⟨zc hk rfl,zc hk rfl,zc hk rfl,zc hk rfl⟩,h2⟩
 | 2,_=>exact⟨⟨b,0,none⟩,_,_,_,_,rfl,hS,⟨zc hk rfl,zc hk rfl,zc hk rfl,zc hk rfl⟩,h3⟩
 | 3,_=>exact⟨⟨b,0,none⟩,_,_,_,_,rfl,hS,⟨zc hk rfl,zc hk rfl,zc hk rfl,zc hk rfl⟩,h4⟩
theorem fldG(k n:Int)(hk:0<=k/\k<256)(hn:I64 n):Fld k n ⟨#[]⟩:=⟨hk,hn,by decide⟩
theorem fldX:Fld 2 0 exX:=⟨by decide,by decide,by decide⟩
theorem zKq(a0 a1 a2 a3:Value)(w:World):(Instr.buildSlice 39 1 #[(0,.agg #[a0,a1,a2,a3])]).run prog w=.ok (.slice (some ⟨w.heap.size,0,none⟩) 1 1) (w.alloc (.cells #[a0,a1,a2,a3] 41)):=by kernel_rfl
theorem zzt(a0 a1 a2 a3 b0 b1 b2 b3:Value)(w:World):(Instr.buildSlice 39 2 #[(0,.agg #[a0,a1,a2,a3]),(1,.agg #[b0,b1,b2,b3])]).run prog w=.ok (.slice (some ⟨w.heap.size,0,none⟩) 2 2) (w.alloc (.cells #[a0,a1,a2,a3,b0,b1,b2,b3] 41)):=by kernel_rfl
theorem zK5(a0 a1 a2 a3 b0 b1 b2 b3 c0 c1 c2 c3 d0 d1 d2 d3:Value)(w:World):(Instr.buildSlice 39 4 #[(0,.agg #[a0,a1,a2,a3]),(1,.agg #[b0,b1,b2,b3]),(2,.agg #[c0,c1,c2,c3]),(3,.agg #[d0,d1,d2,d3])]).run prog w=.ok (.slice (some ⟨w.heap.size,0,none⟩) 4 4) (w.alloc (.cells #[a0,a1,a2,a3,b0,b1,b2,b3,c0,c1,c2,c3,d0,d1,d2,d3] 41)):=by kernel_rfl
theorem bNkG(k:Int)(A:Option Addr)(l c:Nat)(w:World):(Instr.build 41 #[(0,.int .u8 k),(3,.slice A l c)]).run prog w=.ok (nv k 0 ⟨#[]⟩ A l c) w:=by kernel_rfl
theorem bNnG(k n:Int)(w:World):(Instr.build 41 #[(0,.int .u8 k),(1,.int .i64 n)]).run prog w=.ok (nv k n ⟨#[]⟩ none 0 0) w:=by kernel_rfl
theorem bNxG(k:Int)(s:ByteArray)(w:World):(Instr.build 41 #[(0,.int .u8 k),(2,.string s)]).run prog w=.ok (nv k 0 s none 0 0) w:=by kernel_rfl
theorem ztS(n:Int)(hn:I64 n)(xb:Nat)(w:World)(hx:w.heap[xb]?=some (.cells #[.int .u8 2,.int .i64 0,.string exX,.slice none 0 0] 41 (0,0))) :
  Calls prog 40 #[.int .i64 n,.pointer (some ⟨xb,0,none⟩)] w fun e w'=>∃b,e=.returned (nv 16 0 ⟨#[]⟩ (some ⟨b,0,none⟩) 2 2)/\NV w' Any (exE n) (nv 16 0 ⟨#[]⟩ (some ⟨b,0,none⟩) 2 2)/\Below w.heap.size w w':=by
 have h2:=zzt;have h3:=bNkG;have h4:=bNnG;obtain⟨N,hN⟩:=zX (w.heap.size);have HN:=zh hN;have hb1:=zkb (zs w) (.cells #[.int .u8 0,.int .i64 0,.string ⟨#[]⟩,.slice none 0 0] 41);have k1:=heap_alloc_new w (.cells #[.int .u8 0,.int .i64 0,.string ⟨#[]⟩,.slice none 0 0] 41);have kx:=zkc hx hb1;have hz1:(w.alloc (.cells #[.int .u8 0,.int .i64 0,.string ⟨#[]⟩,.slice none 0 0] 41)).heap.size=N+1:=by simp[hN]
 obtain⟨w1,hw1⟩:=zX (w.alloc (.cells #[.int .u8 0,.int .i64 0,.string ⟨#[]⟩,.slice none 0 0] 41));rw[hw1]at hb1 k1 kx hz1;rw[hN]at k1;have kr:=heap_alloc_new w1 (.cells #[.int .u8 2,.int .i64 0,.string exX,.slice none 0 0,.int .u8 1,.int .i64 n,.string ⟨#[]⟩,.slice none 0 0] 41);have k1':=zke k1 (.cells #[.int .u8 2,.int .i64 0,.string exX,.slice none 0 0,.int .u8 1,.int .i64 n,.string ⟨#[]⟩,.slice none 0 0] 41);have hb2:=zkb hb1 (.cells #[.int .u8 2,.int .i64 0,.string exX,.slice none 0 0,.int .u8 1,.int .i64 n,.string ⟨#[]⟩,.slice none 0 0] 41);rw[hz1]at kr;obtain⟨w2,hw2⟩:=zX (w1.alloc (.cells #[.int .u8 2,.int .i64 0,.string exX,.slice none 0 0,.int .u8 1,.int .i64 n,.string ⟨#[]⟩,.slice none 0 0] 41));rw[hw2]at kr k1' hb2;have q0:w2.cell? ⟨N,0,none⟩=some (.int .u8 0):=zc k1' rfl;have q1:w2.cell? ⟨N,1,none⟩=some (.int .i64 0):=zc k1' rfl
 have q2:w2.cell? ⟨N,2,none⟩=some (.string ⟨#[]⟩):=zc k1' rfl;have q3:w2.cell? ⟨N,3,none⟩=some (.slice none 0 0):=zc k1' rfl;have cf:∀o,w2.frozen? ⟨N,o,none⟩=false:=fun o=>zf k1';obtain⟨x0,x1,x2,x3⟩:=box4 kx;obtain⟨hh,hch⟩:=set4 (u0:=.int .u8 16) (u1:=.int .i64 0) (u2:=.string ⟨#[]⟩) (u3:=.slice (some ⟨N+1,0,none⟩) 2 2) k1';obtain⟨w3,hw3⟩:=zX ((((w2.setCell ⟨N,0,none⟩ (.int .u8 16)).setCell ⟨N,1,none⟩ (.int .i64 0)).setCell ⟨N,2,none⟩ (.string ⟨#[]⟩)).setCell ⟨N,3,none⟩ (.slice (some ⟨N+1,0,none⟩) 2 2));rw[hw3]at hh hch;have HH:=zh hh;have lQ:=zh (zzJ (w:=w3) (S:=Any) (t1:=exV) (t2:=exN n) (k:=16) (n:=0) (s:=⟨#[]⟩) (fldG 16 0 (by decide) ⟨by decide,by decide⟩) trivial (hch.keep kr (fun e:N+1=N=>by omega)) (zmp w3 Any fldX) (zmp w3 Any (fldG 1 n (by decide) hn)));have HB:=zh (hb2.trans (hch.below hb2.size fun q e=>by have e:q=N:=e;omega));clear hb1 k1 kx hx kr k1' hb2 hh hch
 go_enter func40,ntmps40;go_wp2_with fail;obtain⟨t0,t1,t2,t3⟩:=box4 HH.out;exact bodyPost_ret (v:=nv 16 0 ⟨#[]⟩ (some ⟨N+1,0,none⟩) 2 2) (by simp[results,results40,go_sem,t0,t1,t2,t3]) rfl ⟨N+1,rfl,lQ.out,HB.out⟩
theorem zpA(A:Option Addr)(l c:Nat)(w:World):Calls prog 41 #[.slice A l c] w fun e w'=>e=.returned (nv 57 0 ⟨#[]⟩ A l c)/\Below w.heap.size w w':=by
 have hb:∀w,(Instr.build 41 #[(0,.int .u8 57),(3,.slice A l c)]).run prog w=.ok (nv 57 0 ⟨#[]⟩ A l c) w:=fun w=>by kernel_rfl
 go_enter func41,ntmps41;go_wp2_with fail;exact bodyPost_ret (v:=nv 57 0 ⟨#[]⟩ A l c) (by simp[results,results41,go_sem]) rfl ⟨rfl,zkb zr _⟩
end
section
open Go Go.RowKit
attribute [local go_sem] Oper.semAt_some
abbrev xS:ByteArray:=⟨#[]⟩
abbrev ak8:T:=.nd 57 0 xS [.nd 40 0 xS [exV,exN 1]]
abbrev ak13:T:=.nd 52 0 xS [exE 1,ak8,.nd 57 0 xS [],exE 2]
abbrev ak16:T:=.nd 57 0 xS [ak13]
def akZ(W:World)(b:Nat):Prop:=W.heap[b]?=some (.cells #[.slice none 0 0,.slice none 0 0,.int .u8 0,.int .i64 0,.string xS,.slice none 0 0] 43 (0,0))
def akV(W:World)(b:Nat):Prop:=W.heap[b]?=some (.cells #[.string exX,.int .u8 1,.int .i64 0] 57 (0,0))
def akF(B:Nat):Nat->Value->List Value->World->Prop
 | 1,v,_,w=>∃b,v=.slice (some ⟨b,0,none⟩) 1 1/\akV w b
 | 4,v,_,w=>∃b,v=nv 16 0 xS (some ⟨b,0,none⟩) 2 2/\NV w Any (exE 1) (nv 16 0 xS (some ⟨b,0,none⟩) 2 2)
 | 7,v,_,w=>∃b,v=.slice (some ⟨b,0,none⟩) 1 1/\NV w Any ak8 (nv 57 0 xS (some ⟨b,0,none⟩) 1 1)
 | 8,v,_,w=>∃b,v=nv 57 0 xS (some ⟨b,0,none⟩) 1 1/\NV w Any ak8 (nv 57 0 xS (some ⟨b,0,none⟩) 1 1)
 | 10,v,_,_=>v=nv 57 0 xS none 0 0
 | 12,v,_,w=>∃b,v=nv 16 0 xS (some ⟨b,0,none⟩) 2 2/\NV w Any (exE 2) (nv 16 0 xS (some ⟨b,0,none⟩) 2 2)
 | 13,v,_,w=>∃b,v=.slice (some ⟨b,0,none⟩) 4 4/\NV w Any ak13 (nv 52 0 xS (some ⟨b,0,none⟩) 4 4)
 | 14,v,_,w=>∃b,v=nv 52 0 xS (some ⟨b,0,none⟩) 4 4/\NV w Any ak13 (nv 52 0 xS (some ⟨b,0,none⟩) 4 4)
 | 15,v,_,w=>∃b,v=.slice (some ⟨b,0,none⟩) 1 1/\NV w Any ak16 (nv 57 0 xS (some ⟨b,0,none⟩) 1 1)
 | 16,v,_,w=>∃b,v=nv 57 0 xS (some ⟨b,0,none⟩) 1 1/\NV w Any ak16 (nv 57 0 xS (some ⟨b,0,none⟩) 1 1)
 | 17,v,_,w=>∃b c,v=pv (some ⟨b,0,none⟩) 1 1 none 0 0 57 0 xS (some ⟨c,0,none⟩) 1 1/\akV w b/\NV w Any ak16 (nv 57 0 xS (some ⟨c,0,none⟩) 1 1)
 | 18,v,_,w=>∃b,v=.pointer (some ⟨b,0,none⟩)/\B<=b/\akZ w b
 | _,_,_,_=>True
def akD:Nat->List Nat
 | 8=>[7]
 | 13=>[4,8,10,12]
 | 14=>[13]
 | 15=>[14]
 | 16=>[15]
 | 17=>[1,16]
 | _=>[]
theorem zvm{B:Nat}{v:Value}{ds:List Value}{w w':World}(i:Nat)(h:akF B i v ds w)(hb:Below w.heap.size w w'):akF B i v ds w':=by
 unfold akF at h ⊢
 split at h<;>try exact h
 all_goals first
  | (obtain⟨b,e,h⟩:=h;exact⟨b,e,zkc h hb⟩)
  | (obtain⟨b,e,h⟩:=h;exact⟨b,e,h.later hb⟩)
  | (obtain⟨b,c,e,h1,h2⟩:=h;exact⟨b,c,e,zkc h1 hb,h2.later hb⟩)
  | (obtain⟨b,e,h1,h2⟩:=h;exact⟨b,e,h1,zkc h2 hb⟩)
theorem zKI{W:World}{b:Nat}{x0 x1 x2 x3 x4 x5 u0 u1 u2 u3 u4 u5:Value}{E:TypeId}(h:W.heap[b]?=some (.cells #[x0,x1,x2,x3,x4,x5] E (0,0))) :
  ((((((W.setCell ⟨b,0,none⟩ u0).setCell ⟨b,1,none⟩ u1).setCell ⟨b,2,none⟩ u2).setCell ⟨b,3,none⟩ u3).setCell ⟨b,4,none⟩ u4).setCell ⟨b,5,none⟩ u5).heap[b]?=some (.cells #[u0,u1,u2,u3,u4,u5] E (0,0)) /\
   Chg (fun q=>q=b) W ((((((W.setCell ⟨b,0,none⟩ u0).setCell ⟨b,1,none⟩ u1).setCell ⟨b,2,none⟩ u2).setCell ⟨b,3,none⟩ u3).setCell ⟨b,4,none⟩ u4).setCell ⟨b,5,none⟩ u5):=by
 refine⟨?_,((((((Chg.refl (fun q=>q=b) W).setCell (p:=⟨b,0,none⟩) (.inl rfl) _).setCell (p:=⟨b,1,none⟩) (.inl rfl) _).setCell (p:=⟨b,2,none⟩) (.inl rfl) _).setCell (p:=⟨b,3,none⟩) (.inl rfl) _).setCell (p:=⟨b,4,none⟩) (.inl rfl) _).setCell (p:=⟨b,5,none⟩) (.inl rfl) _⟩;rw[heap_setCell_same _ b 5 _ _ u5 (heap_setCell_same _ b 4 _ _ u4 (heap_setCell_same _ b 3 _ _ u3 (heap_setCell_same _ b 2 _ _ u2 (heap_setCell_same _ b 1 _ _ u1 (heap_setCell_same W b 0 _ _ u0 h)))))];simp
theorem zwG{w:World}{p:Addr}{bb:Nat}{E:TypeId}{xs:Array Value}{k:Int}(hz:w.heap[bb]?=some (.cells xs E (0,0)))(hx:∀(i:Nat) (k:Int),xs[i]?=some (Value.int .u8 k)->k=0)(hp:p.block=bb)(h:w.cell? p=some (.int .u8 k)):k=0:=by
 subst hp;obtain⟨b,o,m⟩:=p;simp only[World.cell?]at h hz
 cases m with
 | none =>
  simp only[hz]at h;exact hx o k h
 | some x=>simp[hz]at h
theorem zLd(i:Nat)(k:Int)(h:(#[Value.slice none 0 0,.slice none 0 0,.int .u8 0,.int .i64 0,.string xS,.slice none 0 0]:Array Value)[i]?=some (Value.int .u8 k)):k=0:=by
 match i,h with
 | 0,h=>simp at h
 | 1,h=>simp at h
 | 2,h=>simp at h;exact h.symm
 | 3,h=>simp at h
 | 4,h=>simp at h
 | 5,h=>simp at h
 | n+6,h=>simp at h
theorem NV.nz6{w:World}{bb:Nat}{E:TypeId}{xs:Array Value}(hz:w.heap[bb]?=some (.cells xs E (0,0)))(hx:∀(i:Nat) (k:Int),xs[i]?=some (Value.int .u8 k)->k=0):∀(t:T) (v:Value),NV w Any t v->(∀u∈po t,u.k≠0)->NV w (fun b=>b≠bb) t v:=by
 intro t
 induction t using T.ind with
 | _ k n s ks ih =>
  intro v hv hk;obtain⟨A,c,rfl,hf,hlk,hlc,hrow⟩:=hv.open_;refine NV.shut hf hlk hlc fun i hi=>?_;obtain⟨a,u0,u1,u2,u3,hA,-,hc,hn⟩:=hrow i hi;have hm:(T.nd k n s ks).ks[i]∈ks:=List.getElem_mem hi;have hsub:∀u∈po (T.nd k n s ks).ks[i],u.k≠0:=fun u hu=>hk u (by simp only[po,List.mem_cons];exact .inr (zmj.2 ⟨_,hm,hu⟩));refine⟨a,u0,u1,u2,u3,hA,fun e=>?_,hc,ih _ hm _ hn hsub⟩;obtain⟨A',c',e',-⟩:=hn.open_;injection e' with e';simp only[Array.mk.injEq,List.cons.injEq,and_true]at e';have h0:=hc.c0;rw[e'.1]at h0;have hself:(T.nd k n s ks).ks[i]∈po (T.nd k n s ks).ks[i]:=by
   rcases hq:(T.nd k n s ks).ks[i]with⟨k',n',s',ks'⟩;simp[po]
  exact hsub _ hself (zwG hz hx (by rw[zkz];exact e) h0)
theorem zLb(n:Int)(w:World):(Instr.build 24 #[(0,.int .i64 n)]).run prog w=.ok (.agg #[.int .i64 n,.int .i64 0,.int .i64 0]) w:=by kernel_rfl
theorem zzx:(exB.ok&&svB exP.vs)=true:=by kernel_rfl
theorem zvl:(allS exB (lenE exP.vs exB)).length<=1000000:=by rw[zpn];decide
theorem zzz:fndE (fun s=>decide (errE exP 9 s=15)) (allS exB (lenE exP.vs exB))=(⟨[[2]],[],[]⟩,4,true):=by rw[zpn];kernel_rfl
theorem zKu:dffE exP exP exB 9=(nilS,5,false):=by
 unfold dffE;rw[if_pos (zmQ.2 rfl),zpn]
 kernel_rfl
theorem zzy:(znV ((allS exB (lenE exP.vs exB)).map (errE exP 9))).length=2:=by rw[zpn];kernel_rfl
theorem zLc:cntS (errE exP 9) (allS exB (lenE exP.vs exB)) 0=4:=by rw[zpn];kernel_rfl
theorem zKv:cntS (errE exP 9) (allS exB (lenE exP.vs exB)) 15=1:=by rw[zpn];kernel_rfl
theorem zqf{w:World}{S:Nat->Prop}{x:Int}{v:Value}(h:SV w S ⟨[[x]],[],[]⟩ v):∃(a:Addr) (c:Nat) (D D2:Option Addr) (d1 d2:Nat) (a':Addr) (c':Nat),v=.agg #[.slice (some a) 1 c,.slice D 0 d1,.slice D2 0 d2]/\w.cell? (a.add 0)=some (.slice (some a') 1 c')/\w.cell? (a'.add 0)=some (.int .i64 x):=by
 obtain⟨A,c,D,d1,D2,d2,rfl,h1,-⟩:=h;obtain⟨a,A',c',rfl,-,h2,-,h3⟩:=h1 0 (by simp);obtain⟨a',rfl,-,h4,-⟩:=h3 0 (by simp);exact⟨a,c,D,D2,d1,d2,a',c',rfl,h2,h4⟩
theorem zKa:IsFn prog 40 f40:=⟨func40,by kernel_rfl,by kernel_rfl⟩
theorem zyY:IsFn prog 41 f41:=⟨func41,by kernel_rfl,by kernel_rfl⟩
theorem bSVG(a0 a1 a2:Value)(w:World):(Instr.buildSlice 22 1 #[(0,.agg #[a0,a1,a2])]).run prog w=.ok (.slice (some ⟨w.heap.size,0,none⟩) 1 1) (w.alloc (.cells #[a0,a1,a2] 57)):=by kernel_rfl
theorem bVdG(s:ByteArray)(k:Int)(w:World):(Instr.build 57 #[(0,.string s),(1,.int .u8 k)]).run prog w=.ok (.agg #[.string s,.int .u8 k,.int .i64 0]) w:=by kernel_rfl
theorem bPgG(A B:Option Addr)(l c m d:Nat)(k n:Int)(s:ByteArray)(w:World):(Instr.build 43 #[(0,.slice A l c),(2,nv k n s B m d)]).run prog w=.ok (pv A l c none 0 0 k n s B m d) w:=by kernel_rfl
theorem zsP(w:World):Calls prog 9 #[] w fun e w'=>e=.returned (.bool true)/\Below w.heap.size w w':=by
 have nZ:∀(fn:Fn) (first cap:Array Value) (w:World),(Instr.makeFunc fn first cap).run prog w=.ok (.func fn first cap) w:=fun _ _ _ _=>rfl;have h1:=zKq;have h2:=zzt;have h3:=bNkG;have h4:=bNnG;have h5:=bNxG;obtain⟨N,hN⟩:=zX (w.heap.size);have HN:=zh hN;have al:=(fun(o0 o1 o2:Obj)=>(⟨zkb (zkb (zkb zr _) _) _,by simp,zke (zke (zl8 _ rfl _) _) _,zke (zl8 _ (by simp) _) _,zl8 _ (by simp) _⟩:Below w.heap.size w (((w.alloc o0).alloc o1).alloc o2)/\(((w.alloc o0).alloc o1).alloc o2).heap.size=w.heap.size+3/\(((w.alloc o0).alloc o1).alloc o2).heap[w.heap.size]?=some o0/\(((w.alloc o0).alloc o1).alloc o2).heap[w.heap.size+1]?=some o1/\(((w.alloc o0).alloc o1).alloc o2).heap[w.heap.size+2]?=some o2))
 obtain⟨hb1,hz1,k0,k1,k2⟩:=al (.cells #[.int .u8 2,.int .i64 0,.string ⟨#[120]⟩,.slice none 0 0] 41) (.cells #[.int .u8 2,.int .i64 0,.string ⟨#[120]⟩,.slice none 0 0,.int .u8 1,.int .i64 1,.string ⟨#[]⟩,.slice none 0 0] 41) (.cells #[.int .u8 40,.int .i64 0,.string ⟨#[]⟩,.slice (some ⟨N+1,0,none⟩) 2 2] 41);obtain⟨w1,hw1⟩:=zX (((w.alloc (.cells #[.int .u8 2,.int .i64 0,.string ⟨#[120]⟩,.slice none 0 0] 41)).alloc (.cells #[.int .u8 2,.int .i64 0,.string ⟨#[120]⟩,.slice none 0 0,.int .u8 1,.int .i64 1,.string ⟨#[]⟩,.slice none 0 0] 41)).alloc (.cells #[.int .u8 40,.int .i64 0,.string ⟨#[]⟩,.slice (some ⟨N+1,0,none⟩) 2 2] 41));rw[hw1]at hb1 hz1 k0 k1 k2;rw[hN]at hz1 k0 k1 k2;have HB1:=zh hb1;have HZ1:=zh hz1;have aD:=zh k0;have aA:=zh k1;have aR:=zh k2;clear hb1 hz1 k0 k1 k2 al;go_enter func9,ntmps9;go_upto_region 5 with fail
 try rw[hw1]
 simp only[Nat.add_assoc,Nat.reduceAdd];clear hw1;have az:=zh (show ∀w',Below w1.heap.size w1 w'->(fun w':World=>zN4 w' (N+2) (.int .u8 40) (.int .i64 0) (.string xS) (.slice (some ⟨N+1,0,none⟩) 2 2)) w' from fun w' hb=>box4 (zkc aR.out hb));have hSS:zW (fun w':World=>zN4 w' (N+2) (.int .u8 40) (.int .i64 0) (.string xS) (.slice (some ⟨N+1,0,none⟩) 2 2)) zU w1.drew:=⟨az.out _ zr.drew,trivial⟩
 have h6:=bSVG;have h7:=bVdG;have h8:=bPgG;refine wp_region_noPanic ?_;refine zG hSS 19 ?_;refine zT 0 hSS ?_;refine zT 2 hSS ?_;refine zT 3 hSS ?_;refine zT 5 hSS ?_;refine zT 6 hSS ?_;refine zT 9 hSS ?_;refine zT 11 hSS ?_;have hI:(fun w=>Below w1.heap.size w1 w) w1.drew:=zr.drew;clear hSS;refine zoV (T:=[(1,18),(4,21),(7,24),(8,25),(10,27),(12,29),(13,30),(14,31),(15,32),(16,33),(17,34),(18,5)]) (z:=19) (n:=20) akD 1 (fun w=>Below w1.heap.size w1 w) (akF w1.heap.size) (by kernel_rfl) (by kernel_rfl) (by simp only[putP,Act.put,zD,zE,zF]) (by decide) (by kernel_rfl) (by kernel_rfl) (fun w h=>⟨az.out _ h,trivial⟩) (fun w w' h hb=>zka h hb) (fun i v ds w w' h hb=>zvm i h hb) (fun q hq=>?_) (fun vs w2 hb2 hF=>?_) w1.drew hI
 ·simp only[List.mem_cons,List.not_mem_nil,or_false]at hq;rcases hq with rfl|rfl|rfl|rfl|rfl|rfl|rfl|rfl|rfl|rfl|rfl|rfl
  ·intro oi hoi vs K w2 hb2 hd aa;obtain rfl:=Option.some.inj hoi;simp only[putP,Act.put,zA,zB,zC,zD,zE,zF]at aa ⊢;have hK:=zh aa;clear aa hoi;go_simp;exact hK.out _ _ (zkb zr _) ⟨w2.heap.size,rfl,heap_alloc_new w2 _⟩
  ·intro oi hoi vs K w2 hb2 hd aa;generalize bu:putP vs [(1,18),(4,21),(7,24),(8,25),(10,27),(12,29),(13,30),(14,31),(15,32),(16,33),(17,34),(18,5)] _=AC at aa ⊢;have hK:=zh aa;clear aa;have had:Calls prog 40 ([.int .i64 1].toArray ++ #[.pointer (some ⟨N,0,none⟩)]) w2 fun e w'=>∃v,e=.returned v/\((∃b,v=nv 16 0 xS (some ⟨b,0,none⟩) 2 2/\NV w' Any (exE 1) (nv 16 0 xS (some ⟨b,0,none⟩) 2 2))/\Below w2.heap.size w2 w') :=
    (ztS 1 ⟨by decide,by decide⟩ N w2 (zkc aD.out hb2)).mono fun e w' ⟨b,h1,h2,h3⟩=>⟨_,h1,⟨b,rfl,h2⟩,h3⟩
   refine zle hoi (.tmp 20) [.const (.int .i64 1)] #[3] (by kernel_rfl) (by kernel_rfl) 40 _ zKa #[.pointer (some ⟨N,0,none⟩)] (by rw[<-bu];kernel_rfl) _ (by rw[<-bu];kernel_rfl) _ had ?_;rintro v w3 ⟨hv,hb3⟩;exact hK.out _ _ hb3 hv
  ·intro oi hoi vs K w2 hb2 hd aa;obtain rfl:=Option.some.inj hoi;simp only[putP,Act.put,zA,zB,zC,zD,zE,zF]at aa ⊢;have hK:=zh aa;clear aa hoi;go_simp;have aY:=zkb (zs w2) (.cells #[.int .u8 40,.int .i64 0,.string xS,.slice (some ⟨N+1,0,none⟩) 2 2] 41);exact hK.out _ _ aY ⟨w2.heap.size,rfl,zKB (fldG 57 0 (by decide) ⟨by decide,by decide⟩) trivial (heap_alloc_new w2 _) (zzJ (fldG 40 0 (by decide) ⟨by decide,by decide⟩) trivial (zkc (zkc aA.out hb2) aY) (zmp _ Any fldX) (zmp _ Any (fldG 1 1 (by decide) ⟨by decide,by decide⟩)))⟩
  ·intro oi hoi vs K w2 hb2 hd aa;generalize bu:putP vs [(1,18),(4,21),(7,24),(8,25),(10,27),(12,29),(13,30),(14,31),(15,32),(16,33),(17,34),(18,5)] _=AC at aa ⊢;have hK:=zh aa;clear aa;obtain⟨b,hv7,nY⟩:=hd 7 (by decide);have had:Calls prog 41 ([vs 7].toArray ++ #[]) w2 fun e w'=>∃v,e=.returned v/\((∃b,v=nv 57 0 xS (some ⟨b,0,none⟩) 1 1/\NV w' Any ak8 (nv 57 0 xS (some ⟨b,0,none⟩) 1 1))/\Below w2.heap.size w2 w'):=by
    rw[hv7];exact(zpA _ _ _ w2).mono fun e w' ⟨h1,h3⟩=>⟨_,h1,⟨b,rfl,nY.later h3⟩,h3⟩
   refine zle hoi (.tmp 22) [.tmp 24] #[39] (by kernel_rfl) (by kernel_rfl) 41 _ zyY #[] (by rw[<-bu];kernel_rfl) _ (by rw[<-bu];kernel_rfl) _ had ?_;rintro v w3 ⟨hv,hb3⟩;exact hK.out _ _ hb3 hv
  ·intro oi hoi vs K w2 hb2 hd aa;generalize bu:putP vs [(1,18),(4,21),(7,24),(8,25),(10,27),(12,29),(13,30),(14,31),(15,32),(16,33),(17,34),(18,5)] _=AC at aa ⊢;have hK:=zh aa;clear aa;have had:Calls prog 41 ([.slice none 0 0].toArray ++ #[]) w2 fun e w'=>∃v,e=.returned v/\(v=nv 57 0 xS none 0 0/\Below w2.heap.size w2 w') :=
    (zpA _ _ _ w2).mono fun e w' ⟨h1,h3⟩=>⟨_,h1,rfl,h3⟩
   refine zle hoi (.tmp 26) [.const (.slice none 0 0)] #[39] (by kernel_rfl) (by kernel_rfl) 41 _ zyY #[] (by rw[<-bu];kernel_rfl) _ (by rw[<-bu];kernel_rfl) _ had ?_;rintro v w3 ⟨hv,hb3⟩;exact hK.out _ _ hb3 hv
  ·intro oi hoi vs K w2 hb2 hd aa;generalize bu:putP vs [(1,18),(4,21),(7,24),(8,25),(10,27),(12,29),(13,30),(14,31),(15,32),(16,33),(17,34),(18,5)] _=AC at aa ⊢;have hK:=zh aa;clear aa;have had:Calls prog 40 ([.int .i64 2].toArray ++ #[.pointer (some ⟨N,0,none⟩)]) w2 fun e w'=>∃v,e=.returned v/\((∃b,v=nv 16 0 xS (some ⟨b,0,none⟩) 2 2/\NV w' Any (exE 2) (nv 16 0 xS (some ⟨b,0,none⟩) 2 2))/\Below w2.heap.size w2 w') :=
    (ztS 2 ⟨by decide,by decide⟩ N w2 (zkc aD.out hb2)).mono fun e w' ⟨b,h1,h2,h3⟩=>⟨_,h1,⟨b,rfl,h2⟩,h3⟩
   refine zle hoi (.tmp 28) [.const (.int .i64 2)] #[3] (by kernel_rfl) (by kernel_rfl) 40 _ zKa #[.pointer (some ⟨N,0,none⟩)] (by rw[<-bu];kernel_rfl) _ (by rw[<-bu];kernel_rfl) _ had ?_;rintro v w3 ⟨hv,hb3⟩;exact hK.out _ _ hb3 hv
  ·intro oi hoi vs K w2 hb2 hd aa;obtain rfl:=Option.some.inj hoi;simp only[putP,Act.put,zA,zB,zC,zD,zE,zF]at aa ⊢;have hK:=zh aa;clear aa hoi;obtain⟨b4,hv4,qM⟩:=hd 4 (by decide);obtain⟨b8,hv8,hn8⟩:=hd 8 (by decide);have hv10:vs 10=nv 57 0 xS none 0 0:=hd 10 (by decide);obtain⟨b12,lW,hn12⟩:=hd 12 (by decide);rw[hv4,hv8,hv10,lW]at hK ⊢;have hq:=zK5;go_simp;have aY:=fun o=>zkb (zs w2) o;exact hK.out _ _ (aY _) ⟨w2.heap.size,rfl,zLg (fldG 52 0 (by decide) ⟨by decide,by decide⟩) trivial (heap_alloc_new w2 _) (qM.later (aY _)) (hn8.later (aY _)) (zmp _ Any (fldG 57 0 (by decide) ⟨by decide,by decide⟩)) (hn12.later (aY _))⟩
  ·intro oi hoi vs K w2 hb2 hd aa;obtain rfl:=Option.some.inj hoi;simp only[putP,Act.put,zA,zB,zC,zD,zE,zF]at aa ⊢;have hK:=zh aa;clear aa hoi;obtain⟨b13,hv13,hn13⟩:=hd 13 (by decide);rw[hv13]at hK ⊢;go_simp;exact hK.out _ _ zr ⟨b13,rfl,hn13⟩
  ·intro oi hoi vs K w2 hb2 hd aa;obtain rfl:=Option.some.inj hoi;simp only[putP,Act.put,zA,zB,zC,zD,zE,zF]at aa ⊢;have hK:=zh aa;clear aa hoi;obtain⟨b14,hv14,hn14⟩:=hd 14 (by decide);rw[hv14]at hK ⊢;go_simp;have aY:=fun o=>zkb (zs w2) o;exact hK.out _ _ (aY _) ⟨w2.heap.size,rfl,zKB (fldG 57 0 (by decide) ⟨by decide,by decide⟩) trivial (heap_alloc_new w2 _) (hn14.later (aY _))⟩
  ·intro oi hoi vs K w2 hb2 hd aa;generalize bu:putP vs [(1,18),(4,21),(7,24),(8,25),(10,27),(12,29),(13,30),(14,31),(15,32),(16,33),(17,34),(18,5)] _=AC at aa ⊢;have hK:=zh aa;clear aa;obtain⟨b,hv7,nY⟩:=hd 15 (by decide);have had:Calls prog 41 ([vs 15].toArray ++ #[]) w2 fun e w'=>∃v,e=.returned v/\((∃b,v=nv 57 0 xS (some ⟨b,0,none⟩) 1 1/\NV w' Any ak16 (nv 57 0 xS (some ⟨b,0,none⟩) 1 1))/\Below w2.heap.size w2 w'):=by
    rw[hv7];exact(zpA _ _ _ w2).mono fun e w' ⟨h1,h3⟩=>⟨_,h1,⟨b,rfl,nY.later h3⟩,h3⟩
   refine zle hoi (.tmp 19) [.tmp 32] #[39] (by kernel_rfl) (by kernel_rfl) 41 _ zyY #[] (by rw[<-bu];kernel_rfl) _ (by rw[<-bu];kernel_rfl) _ had ?_;rintro v w3 ⟨hv,hb3⟩;exact hK.out _ _ hb3 hv
  ·intro oi hoi vs K w2 hb2 hd aa;obtain rfl:=Option.some.inj hoi;simp only[putP,Act.put,zA,zB,zC,zD,zE,zF]at aa ⊢;have hK:=zh aa;clear aa hoi;obtain⟨b1,hv1,hn1⟩:=hd 1 (by decide);obtain⟨b16,hv16,hn16⟩:=hd 16 (by decide);rw[hv1,hv16]at hK ⊢;go_simp;exact hK.out _ _ zr ⟨b1,b16,rfl,hn1,hn16⟩
  ·intro oi hoi vs K w2 hb2 hd aa;obtain rfl:=Option.some.inj hoi;simp only[putP,Act.put,zA,zB,zC,zD,zE,zF]at aa ⊢;have hK:=zh aa;clear aa hoi;go_simp;exact hK.out _ _ (zkb zr _) ⟨w2.heap.size,rfl,hb2.size,heap_alloc_new w2 _⟩
 ·obtain⟨vb,nb,sj,pz,hnm⟩:=hF (17,34) (by decide);obtain⟨pb,rZ,hpb,hkz⟩:=hF (18,5) (by decide);clear hF;simp only[putP,Act.put,zD,zE,zF];simp only at sj rZ;rw[sj,rZ];generalize vs 1=v1;generalize vs 4=v4;generalize vs 7=v7;generalize vs 8=v8;generalize vs 10=v10;generalize vs 12=v12;generalize vs 13=v13;generalize vs 14=v14;generalize vs 15=v15;generalize vs 16=v16;clear sj rZ;obtain⟨q0,q1,q2,q3,q4,q5⟩:=box6 hkz;have cf:∀o,w2.frozen? ⟨pb,o,none⟩=false:=fun o=>zf hkz;obtain⟨hh,hch⟩:=zKI (u0:=.slice (some ⟨vb,0,none⟩) 1 1) (u1:=.slice none 0 0) (u2:=.int .u8 57) (u3:=.int .i64 0) (u4:=.string xS) (u5:=.slice (some ⟨nb,0,none⟩) 1 1) hkz
  obtain⟨w3,hw3⟩:=zX ((((((w2.setCell ⟨pb,0,none⟩ (.slice (some ⟨vb,0,none⟩) 1 1)).setCell ⟨pb,1,none⟩ (.slice none 0 0)).setCell ⟨pb,2,none⟩ (.int .u8 57)).setCell ⟨pb,3,none⟩ (.int .i64 0)).setCell ⟨pb,4,none⟩ (.string xS)).setCell ⟨pb,5,none⟩ (.slice (some ⟨nb,0,none⟩) 1 1));rw[hw3]at hh hch;have sH:=(NV.nz6 hkz zLd _ _ hnm (by decide)).keep (w':=w3) (S':=Any) (fun _ _ _=>trivial) fun q h hlt=>hch.block q hlt h;have hkv3:akV w3 vb:=hch.keep pz fun e=>by
   have e:vb=pb:=e;subst e;have:=pz.symm.trans hkz;injection this with this;injection this with this;simp at this
  have hb3:=hb2.trans (hch.below hb2.size fun q e=>by have e:q=pb:=e;omega);have mY:=zh hh;have HNM:=zh sH;have za:=zh hkv3;have HB3:=zh hb3;clear pz hkz hnm hh hch sH hkv3 hpb;refine zp 19 fun K hK=>?_;(try simp only[zA,zB,zC]);go_simp;refine hK.out _ _ (az.out _ HB3.out) ?_;clear hK K q0 q1 q2 q3 q4 q5 cf hb3 hb2 hw3;(try simp only[zQ]);refine zd ?_;refine NoPanic.normal ?_;have gM:=zh (show PV w3 Any exP (pv (some ⟨vb,0,none⟩) 1 1 none 0 0 57 0 xS (some ⟨nb,0,none⟩) 1 1)from⟨some ⟨vb,0,none⟩,1,none,0,some ⟨nb,0,none⟩,1,rfl,⟨fun i hi=>by
   obtain rfl:i=0:=by simp[exP]at hi;omega
   exact⟨⟨vb,0,none⟩,rfl,trivial,⟨zc za.out rfl,zc za.out rfl,zc za.out rfl⟩,show FldV ⟨exX,1,0⟩from⟨by decide,by decide,by decide⟩⟩,by decide,by decide,fun i hi=>by simp[exP]at hi,by decide,by decide,HNM.out⟩⟩)
  obtain⟨p0,p1,p2,p3,p4,p5⟩:=box6 mY.out;have Cu:=zh (zrD (b:=exB) (e:=15) (F:=9) gM.out zzx zvl ⟨by decide,by decide⟩ (by decide));rw[zzz]at Cu;have hbx:=zLb;clear az h1 h2 h3 h4 h5 h6 h7 h8 nZ za HNM aD aA aR;go_wp2_with fail;refine Cu.out.mono ?_;rintro e' w4 ⟨hb4,v4',rfl,hs4⟩;obtain⟨ca,cc,D,D2,d1,d2,ia,ic,rfl,hc0,hc1⟩:=zqf hs4;have hb5:=zkb hb4 (.cells #[.slice (some ca) 1 cc,.slice D 0 d1,.slice D2 0 d2] 32);have k6:=heap_alloc_new w4 (.cells #[.slice (some ca) 1 cc,.slice D 0 d1,.slice D2 0 d2] 32);have aY:=zkb (zs w4) (.cells #[.slice (some ca) 1 cc,.slice D 0 d1,.slice D2 0 d2] 32);obtain⟨w5,iA⟩:=zX (w4.alloc (.cells #[.slice (some ca) 1 cc,.slice D 0 d1,.slice D2 0 d2] 32));obtain⟨sb,hsb⟩:=zX (w4.heap.size);rw[iA]at hb5 k6 aY;rw[hsb]at k6;have aO:=zh (HB3.out.trans (hb5.mono HB3.out.size));have uC:=zh (zkc mY.out hb5)
  have dS:=zh k6;have bB:=zh (And.intro (zb aY hc0) (zb aY hc1));have uE:=zh (gM.out.later hb5);clear p0 p1 p2 p3 p4 p5 hb4 hs4 hc0 hc1 hb5 k6 aY Cu mY gM;obtain⟨p0,p1,p2,p3,p4,p5⟩:=box6 uC.out;have HOU:=zh (zqV (b:=exB) (F:=9) uE.out zzx zvl ⟨by decide,by decide⟩ (by decide));go_wp2_with fail
  try simp only[iA,hsb]
  clear iA;refine HOU.out.mono ?_;rintro e' w6 ⟨hb6,mb,rfl,hmb,jR⟩;have aU:=zh (zka aO.out hb6);have HPX6:=zh (zkc uC.out hb6);have HK66:=zh (zkc dS.out hb6);have nP:=zh (And.intro (zb hb6 bB.out.1) (zb hb6 bB.out.2));have uD:=zh (uE.out.later hb6);have qi:=zh jR;clear p0 p1 p2 p3 p4 p5 hb6 hmb jR HOU uC uE dS bB;obtain⟨p0,p1,p2,p3,p4,p5⟩:=box6 HPX6.out;have wI:=zh (zpu (b:=exB) (F:=9) uD.out uD.out zzx zvl ⟨by decide,by decide⟩ (by decide));rw[zKu]at wI;go_wp2_with fail;refine wI.out.mono ?_;rintro e' w7 ⟨dR,v7',rfl,hs7⟩;obtain⟨B1,f1,B2,f2,B3,f3,rfl,-⟩:=hs7;have dh:=zkb dR (.cells #[.slice B1 nilS.cells.length f1,.slice B2 nilS.tin.length f2,.slice B3 nilS.tout.length f3] 32);have eY:=zh (aU.out.trans (dh.mono aU.out.size));have bS:=zkc HK66.out dh;obtain⟨x0,x1,x2⟩:=zky bS;have hc0:=zb dh nP.out.1
  have hc1:=zb dh nP.out.2;have hd0:(w7.alloc (.cells #[.slice B1 nilS.cells.length f1,.slice B2 nilS.tin.length f2,.slice B3 nilS.tout.length f3] 32)).cell? ca=some (.slice (some ia) 1 ic):=by rw[<-Addr.add_zero' ca];exact hc0
  have hd1:(w7.alloc (.cells #[.slice B1 nilS.cells.length f1,.slice B2 nilS.tin.length f2,.slice B3 nilS.tout.length f3] 32)).cell? ia=some (.int .i64 2):=by rw[<-Addr.add_zero' ia];exact hc1
  have oW:=qi.out.keep (dh.block mb qi.out.lt);have hl0:=oW.look (k:=0) ⟨by decide,by decide⟩;have hl15:=oW.look (k:=15) ⟨by decide,by decide⟩;have hlen:=fun ty=>oW.len ty;rw[zLc]at hl0;rw[zKv]at hl15;rw[zzy]at hlen;clear p0 p1 p2 p3 p4 p5 bS oW wI qi HPX6 uD;clear dR dh;go_wp2_with fail;go_ret;exact⟨by trivial,zka HB1.out eY.out⟩
end
section
open Go Go.RowKit
theorem zpQ:∀(vs:List VD) (ls:List (List Int)),(∀i (h:i<vs.length) (h':i<ls.length),fit1 vs[i] ls[i]=true)->zl7 vs ls=true
 | [],_,_=>by simp[zl7]
 | _::_,[],_=>by simp[zl7]
 | v::vs,l::ls,h=>by
  rw[zl7,Bool.and_eq_true];exact⟨h 0 (by simp) (by simp),zpQ vs ls fun i hi hi'=>h (i+1) (by simpa using hi) (by simpa using hi')⟩
section
variable {vs:List VD} {s:SS} {r':RS} {e:List Nat}
theorem zqH(hk:Keep ⟨newS vs s,0,e⟩ r'):r'.S.state.cells=(List.range vs.length).map r'.S.cell:=by
 unfold ST.state;rw[hk.base];simp[newS]
theorem zze(hk:Keep ⟨newS vs s,0,e⟩ r'):Eqv r'.S (newS vs r'.S.state):=by
 have hn:=hk.nc;have hs:=zqH hk;refine⟨fun a b=>a=b/\a<vs.length,⟨by rintro a b b' ⟨rfl,_⟩ ⟨rfl,_⟩;rfl,by rintro a a' b ⟨rfl,_⟩ ⟨rfl,_⟩;rfl,?_,?_,?_,?_,?_,rfl,rfl⟩⟩
 ·rintro a b ⟨rfl,h⟩;exact⟨Nat.lt_of_lt_of_le h hn,h⟩
 ·rintro a b ⟨rfl,h⟩
  show(r'.S.state.cells).getD a []=_
  rw[hs,List.getD_eq_getElem?_getD,List.getElem?_map,List.getElem?_range h];rfl
 ·rw[hk.base];refine⟨rfl,rfl,rfl,⟨by simp[newS],by simp[newS]⟩,fun i a b ha hb=>?_⟩;have ha':(List.range vs.length)[i]?=some a:=ha;have hb':(List.range vs.length)[i]?=some b:=hb;rw[ha']at hb';injection hb' with hb';exact⟨hb',List.mem_range.1 (List.mem_of_getElem? ha')⟩
 ·rw[hk.calls];rfl
 ·intro i f g hf;rw[hk.calls]at hf;simp[newS]at hf
theorem zzd(h0:fitB vs s=true)(hw:r'.S.WF)(hk:Keep ⟨newS vs s,0,e⟩ r'):fitB vs r'.S.state=true:=by
 have hs:=zqH hk;obtain⟨kd,hb,-,hc⟩:=hw.ex;have hsv:svB vs=true:=by
  unfold fitB at h0;simp only[Bool.and_eq_true]at h0;exact h0.1.1.1.1
 unfold fitB;simp only[Bool.and_eq_true,decide_eq_true_eq];refine⟨⟨⟨⟨hsv,by rw[hs];simp⟩,hw.tin.1⟩,hw.tout.1⟩,zpQ _ _ fun i hi hi'=>?_⟩;have hbase:r'.S.base=⟨vs,List.range vs.length,0⟩:=hk.base;rw[hbase]at hb;have hki:=hb.kind i hi (by simpa using hi);simp only[List.getElem_range]at hki;have hii:=hb.num i (List.mem_range.2 hi);have hci:=hc i hii;have sM:=(hw.cells i hii).1;have e1:r'.S.state.cells[i]=r'.S.cell i:=by
  have:r'.S.state.cells[i]?=some (r'.S.cell i):=by rw[hs,List.getElem?_map,List.getElem?_range hi];rfl
  exact(List.getElem?_eq_some_iff.1 this).2
 rw[e1];rw[hki]at hci;simp only at hci;unfold fit1 fixE;by_cases h3:vs[i].k=3
 ·rw[if_pos h3];simpa using sM
 ·rw[if_neg h3];by_cases h1:vs[i].k=1
  ·rw[if_pos h1];have:=hci.1 h1;simp[this]
  ·rw[if_neg h1];have h2:vs[i].k=2:=by omega
   have:=hci.2.1 h2;simpa using this
end
def PG.part(p:PG)(l:List T):PG:={ p with m:=.nd p.m.k p.m.n p.m.s l }
section
variable {p:PG} {a b:List T}
theorem zsv:∀a b:List T,deps (a++b)=max (deps a) (deps b)
 | [],b=>by simp[deps]
 | t::ts,b=>by simp only[List.cons_append,deps,zsv ts b];omega
theorem zqj:∀a b:List T,zkR (a++b)=zkR a+zkR b
 | [],b=>by simp[zkR]
 | t::ts,b=>by simp only[List.cons_append,zkR,zqj ts b];omega
theorem zsV{l:List T}(h:zkL p=true)(hl:∀t∈l,t∈p.m.ks)(hd:deps l<=deps p.m.ks)(hs:zkR l<=zkR p.m.ks):zkL (p.part l)=true:=by
 obtain⟨vs,prs,⟨k,n,s,ks⟩⟩:=p;change zkL ⟨vs,prs,.nd k n s l⟩=true;change ∀t∈l,t∈ks at hl;change deps l<=deps ks at hd;change zkR l<=zkR ks at hs;unfold zkL at h ⊢;rw[Bool.and_eq_true]at h ⊢;refine⟨h.1,?_⟩;have h2:zln (.nd k n s ks)=true:=h.2;have h3:=zny h2;change zln (.nd k n s l)=true;unfold zln at h2 ⊢;rw[Bool.and_eq_true]at h2 ⊢;rw[zxU];have e1:dep (.nd k n s ks)=1+deps ks:=rfl;have e2:size (.nd k n s ks)=1+zkR ks:=rfl;have e3:dep (.nd k n s l)=1+deps l:=rfl;have e4:size (.nd k n s l)=1+zkR l:=rfl;rw[if_pos ⟨by omega,by omega⟩];have hb:=(zrm _ _ _ _).1 h2.2;exact⟨rfl,(zrm _ _ _ _).2 ⟨hb.1,hb.2.1,fun t ht=>hb.2.2 t (hl t ht)⟩⟩
theorem zu5{prs:List PR}{s:ByteArray}{vs:List VD}:∀ {ks:List T} (i j:Nat),cntK prs 57 s i ks vs=cntK prs 57 s j ks vs
 | [],i,j=>rfl
 | t::ts,i,j=>by
  simp only[cntK];rw[zu5 (ks:=ts) (i+1) (j+1)];have:∀i,zma 57 s i vs=vs:=fun i=>by unfold zma;rw[if_neg (by omega),if_neg (by omega)]
  rw[this i,this j]
theorem zuM(prs:List PR)(s:ByteArray)(l:Nat)(vs:List VD):zlr prs 57 s l vs=0:=by
 unfold zlr
 repeat' rw[if_neg (by omega)]
theorem zwm(h0:p.m.k=57)(hab:p.m.ks=a++b)(h:chkN p=0):chkN (p.part a)=0/\chkN (p.part b)=0:=by
 obtain⟨vs,prs,⟨k,n,s,ks⟩⟩:=p;change k=57 at h0;change ks=a++b at hab;subst h0 hab;have e:∀l,chkN ⟨vs,prs,.nd 57 n s l⟩=frsN vs vs.length+prcN prs prs.length+cntK prs 57 s 0 l vs:=fun l=>by
  have:cntV prs (.nd 57 n s l) vs=cntK prs 57 s 0 l vs:=by
   rw[cntV,if_neg (by omega),zuM];simp[one1]
  show frsN vs vs.length+prcN prs prs.length+cntV prs (.nd 57 n s l) vs=_
  rw[this]
 change chkN ⟨vs,prs,.nd 57 n s a⟩=0/\chkN ⟨vs,prs,.nd 57 n s b⟩=0;rw[e,zm4]at h;rw[e,e];have:=zu5 (prs:=prs) (s:=s) (vs:=vs) (ks:=b) (0+a.length) 0;omega
theorem znS{f:T->RS->Out}:∀(a b:List T) (r:RS),zkK f (a++b) r=(zkK f a r).bind (zkK f b)
 | [],b,r=>rfl
 | t::ts,b,r=>by
  rw[List.cons_append,zkK,zkK]
  cases f t r with
  | ok r1=>exact znS ts b r1
  | err e=>rfl
  | gas=>rfl
theorem zo1{vs:List VD}{s:SS}{e:List Nat}(hv:vs.length<=1000)(h0:fitB vs s=true)(hf:∀v∈vs,FldV v)(hI:s.I):RInv ⟨newS vs s,0,e⟩:=by
 have hw:=zrh h0 hf hI.1 hI.2.1 hI.2.2 vs.length zl;rw[List.take_of_length_le zl]at hw;exact⟨hw,⟨by show vs.length<=1000+0;omega,fun f hf=>by cases hf⟩,Nat.zero_le _⟩
theorem zqn{p:PG}{s:SS}{F:Int}{g:Nat}{back:Bool}(h1:zkL p=true)(h2:chkN p=0)(h3:fitB p.vs s=true) :
  resO p s F g back=outR s (runO p.prs F g back p.m ⟨newS p.vs s,0,List.replicate p.prs.length 0⟩):=by
 unfold resO;rw[if_neg (by rw[h1,h2];simp),if_neg (by rw[h3];simp)]
end
theorem zyC{vs:List VD}{s:SS}{n:Int}{nm:ByteArray}{p q:T}(hw:(newS vs s).WF)(hp:isP p=true)(h:(doE (newS vs s) (.nd 40 n nm [p,q])).1=0) :
  ∃i a,i<vs.length/\a<(s.cells.getD i []).length/\(doE (newS vs s) (.nd 40 n nm [p,q])).2=(newS vs s).put i a (updE 40 ((s.cells.getD i []).getD a 0) (zk9 (newS vs s).look q).1):=by
 unfold doE at h ⊢
 split at h
 ·cases h
 rename_i h1
 split at h
 ·cases h
 rename_i h2
 split at h
 ·cases h
 rename_i h3
 split at h
 ·rename_i h4;exact absurd h h4
 rename_i h4;rw[if_neg h1,if_neg h2,if_neg h3,if_neg h4];have hfl:=zpP (Classical.not_not.1 h4);have hfp:=zmM hfl.2 p (by simp);obtain⟨id,kk,hid,-,-⟩:=zol hw hp hfp;simp only[zoO,List.getD_cons_zero,List.getD_cons_succ]at h ⊢;have e1:zlM (newS vs s) 40 q=zk9 (newS vs s).look q:=by simp[zlM]
 rw[e1]at h ⊢;unfold zlg zm3 at h ⊢
 split at h
 ·rename_i h5;exact absurd h h5
 rename_i h5;rw[if_neg h5]
 split at h
 ·rename_i h6;exact absurd h h6
 rename_i h6;rw[if_neg h6];rw[hid]at h ⊢;simp only at h ⊢
 split at h
 ·rename_i h7;rw[if_pos h7];obtain⟨hl,hlt⟩:=zwy hid;refine⟨id,(indE (newS vs s).look p).1.toNat,hlt,?_,?_⟩
  ·have h8:(newS vs s).cell id=s.cells.getD id []:=rfl;rw[h8]at h7;omega
  ·unfold zms;rw[if_pos (.inl rfl)];rfl
 ·cases h
theorem zyG{S:ST}{p q:T}{n:Int}{nm:ByteArray}(h:(doE S (.nd 40 n nm [p,q])).1=0):isP p=true:=by
 have hs:isS (.nd 40 n nm [p,q])=true:=by
  cases hb:isS (.nd 40 n nm [p,q])with
  | true=>rfl
  | false=>unfold doE at h;rw[if_pos hb]at h;cases h
 rw[isS,if_pos (by decide),Bool.and_eq_true]at hs;obtain⟨p',q',e,a,b⟩:=zuu hs.2;injection e with e1 e2;rw[e1];exact a
theorem zyA{s:SS}{i a:Nat}{x:Int}(hi:i<s.cells.length)(ha:a<(s.cells.getD i []).length)(hx:x≠(s.cells.getD i []).getD a 0):putC s i a x≠s:=fun e=>by
 have h1:(putC s i a x).cells.getD i []=s.cells.getD i []:=by rw[e]
 have h2:(putC s i a x).cells.getD i []=(s.cells.getD i []).set a x:=by
  simp only[putC,List.getD_eq_getElem?_getD,List.getElem?_set_self hi,Option.getD_some]
 rw[h2]at h1;have h3:((s.cells.getD i []).set a x).getD a 0=x:=by rw[List.getD_eq_getElem?_getD,List.getElem?_set_self ha];rfl
 rw[h1]at h3;exact hx h3.symm
theorem zKw{x c:Int}(hx:I64 x)(hc:1<=c/\c<=256):updE 40 x c≠x:=by
 unfold updE;rw[if_pos rfl];intro h;have h1:=hx.1;have h2:=hx.2;unfold wrap64 at h;omega
theorem zw2{prs:List PR}{F:Int}{g:Nat}{t:T}{r:RS}(h:t.k=40):zkt prs F (g+1) false t r=(zkB F r).bind fun r=>zkj r (doE r.S t):=by
 rw[zkt,if_neg (by omega),if_neg (by omega),if_neg (by omega),if_neg (by omega),if_neg (by omega)];rfl
theorem zzY{F:Int}{t:T}{f:T->RS->Out}{r0 r2:RS}(h:((zkB F r0).bind fun r=>zkj r (doE r.S t)).bind (zkK f [])=.ok r2):(doE r0.S t).1=0/\r2.S=(doE r0.S t).2:=by
 unfold zkB at h;by_cases h7:F<=r0.n
 ·rw[if_pos h7]at h;cases h
 ·rw[if_neg h7]at h;simp only[Out.bind,zkj]at h;by_cases h8:(doE r0.S t).1≠0
  ·rw[if_pos h8]at h;cases h
  ·rw[if_neg h8]at h;simp only[zkK]at h;injection h with h;exact⟨Classical.not_not.1 h8,by rw[<-h]⟩
def oneT(nm:ByteArray)(c:Int):T:=.nd 40 0 ⟨#[]⟩ [.nd 2 0 nm [],.nd 1 c ⟨#[]⟩ []]
theorem zzu{p:PG}{s:SS}{F:Int}{g:Nat}{nm:ByteArray}{c:Int}(hF:F<=1000000)(hF0:0<=F)(hg:F.toNat*2000+2000<=g)(h57:p.m.k=57)(hl:LitB p.m)(hp:PrB p.prs)(hf:∀u∈p.vs,FldV u)(hI:s.I)(hc1:1<=c/\c<=256)
  (hv:zkL p=true)(hc:chkN p=0)(hvq:zkL (p.part (p.m.ks++[oneT nm c]))=true)(hcq:chkN (p.part (p.m.ks++[oneT nm c]))=0)(hfi:fitB p.vs s=true) :
  ((resO p s F g false).2.2.1≠0->(resO (p.part (p.m.ks++[oneT nm c])) s F g false).2.2.1=(resO p s F g false).2.2.1/\(resO (p.part (p.m.ks++[oneT nm c])) s F g false).1=(resO p s F g false).1) /\
  ((resO p s F g false).2.2.1=0->(resO (p.part (p.m.ks++[oneT nm c])) s F g false).2.2.1≠0\/(resO (p.part (p.m.ks++[oneT nm c])) s F g false).1≠(resO p s F g false).1):=by
 obtain⟨q,hq⟩:=zX (p.part (p.m.ks++[oneT nm c]));have hqvs:q.vs=p.vs:=by rw[<-hq];rfl
 have wU:q.prs=p.prs:=by rw[<-hq];rfl
 have hqm:q.m.ks=p.m.ks++[oneT nm c]:=by rw[<-hq];rfl
 have hqk:q.m.k=57:=by rw[<-hq];exact h57
 rw[hq]at hvq hcq ⊢;obtain⟨yI,hcb⟩:=zwm hqk hqm hcq;have hone:q.part [oneT nm c]=p.part [oneT nm c]:=by rw[<-hq];rfl
 rw[hone]at hcb;have hvb:zkL (p.part [oneT nm c])=true:=by
  rw[<-hone];have hd:=zsv p.m.ks [oneT nm c];have hs:=zqj p.m.ks [oneT nm c];exact zsV hvq (fun t ht=>by rw[hqm];exact List.mem_append_right _ ht) (by rw[hqm];omega) (by rw[hqm];omega)
 have hP:=zqn (F:=F) (g:=g) (back:=false) hv hc hfi;have hQ:resO q s F g false=outR s (runO p.prs F g false q.m ⟨newS p.vs s,0,List.replicate p.prs.length 0⟩):=by
  have:=zqn (p:=q) (F:=F) (g:=g) (back:=false) hvq hcq (by rw[hqvs];exact hfi);rw[wU,hqvs]at this;exact this
 have hQr:runO p.prs F g false q.m ⟨newS p.vs s,0,List.replicate p.prs.length 0⟩=(runO p.prs F g false p.m ⟨newS p.vs s,0,List.replicate p.prs.length 0⟩).bind (runO p.prs F g false (p.part [oneT nm c]).m):=by
  have e1:∀r,runO p.prs F g false q.m r=zkK (zkt p.prs F g false) (p.m.ks++[oneT nm c]) r:=fun r=>by unfold runO blkL;rw[hqm];rfl
  rw[e1,znS];rfl
 have hga:=(zpB (p:=p) (F:=F) hv hg false (newS p.vs s) (List.replicate p.prs.length 0)).1;have hza:Nz (runO p.prs F g false p.m ⟨newS p.vs s,0,List.replicate p.prs.length 0⟩):=zrb zxG (zp3 hv hc);have hi:=zo1 (e:=List.replicate p.prs.length 0) (by have:=(zlp hv).1;omega) hfi hf hI;rw[hP,hQ,hQr]
 cases hoa:runO p.prs F g false p.m ⟨newS p.vs s,0,List.replicate p.prs.length 0⟩with
 | gas=>exact absurd hoa hga
 | err e =>
  rw[hoa]at hza;simp only[Out.bind,outR];exact⟨fun _=>⟨trivial,trivial⟩,fun h=>absurd (by rw[h]) hza⟩
 | ok r =>
  simp only[Out.bind,outR];refine⟨fun h=>absurd rfl h,fun _=>?_⟩;obtain⟨aV,hk⟩:=ztT hF hp g false p.m _ r hl hi hoa;have sU:fitB p.vs r.S.state=true:=zzd hfi aV.wf hk;have hsim:=zwg (k:=(r.n:Int)) (F':=F) (zzb F) (by omega) (prs:=p.prs) g false (p.part [oneT nm c]).m ⟨newS p.vs r.S.state,0,List.replicate p.prs.length 0⟩ r ⟨(zze hk).symm,by simp only;omega⟩;have hzb:Nz (runO p.prs F g false (p.part [oneT nm c]).m ⟨newS p.vs r.S.state,0,List.replicate p.prs.length 0⟩):=zrb zxG (zp3 hvb hcb);have hgb:=(zpB (p:=p.part [oneT nm c]) (F:=F) hvb hg false (newS p.vs r.S.state) (List.replicate p.prs.length 0)).1;change runO p.prs F g false (p.part [oneT nm c]).m ⟨newS p.vs r.S.state,0,List.replicate p.prs.length 0⟩≠_ at hgb;rcases hsim with⟨h1,-⟩|h1
  ·rw[h1];exact .inl (show(18:Int)≠0 by decide)
  ·cases ak:runO p.prs F g false (p.part [oneT nm c]).m ⟨newS p.vs r.S.state,0,List.replicate p.prs.length 0⟩with
   | gas=>exact absurd ak hgb
   | err e =>
    rw[ak]at h1 hzb;simp only at h1;rw[h1 trivial];exact .inl fun h=>hzb (by rw[<-h])
   | ok r2 =>
    have h1':=h1;rw[ak]at h1';simp only at h1';obtain⟨r',hr',hs⟩:=h1';rw[hr'];refine .inr ?_
    show r'.S.state≠r.S.state
    rw[hs.rl.state];obtain⟨g',rfl⟩:∃g',g=g'+1:=⟨g-1,by omega⟩
    have hr2:runO p.prs F (g'+1) false (p.part [oneT nm c]).m ⟨newS p.vs r.S.state,0,List.replicate p.prs.length 0⟩=(zkt p.prs F (g'+1) false (oneT nm c) ⟨newS p.vs r.S.state,0,List.replicate p.prs.length 0⟩).bind (zkK (zkt p.prs F (g'+1) false) []):=by
     show zkK _ [oneT nm c] _=_
     rw[zkK]
    rw[hr2,zw2 rfl]at ak;have hwf:(newS p.vs r.S.state).WF:=by
     have hi2:=zo1 (e:=List.replicate p.prs.length 0) (by have:=(zlp hv).1;omega) sU hf (zpz aV.wf).1;exact hi2.wf
    obtain⟨h9',h10⟩:=zzY ak;rw[h10];obtain⟨i,a,hil,hal,hx⟩:=zyC hwf (zyG h9') h9';have hlen:r.S.state.cells.length=p.vs.length:=by
     have h:=sU;unfold fitB at h;simp only[Bool.and_eq_true,decide_eq_true_eq]at h;exact h.1.1.1.2
    show((doE (newS p.vs r.S.state) (oneT nm c)).2).state≠_
    unfold oneT;rw[hx,zt1 hlen hil];have hev:(zk9 (newS p.vs r.S.state).look (.nd 1 c ⟨#[]⟩ [])).1=c:=by
     unfold zk9;rw[if_pos (by simp[isE];omega),evE];rfl
    rw[hev];refine zyA (by omega) hal (zKw ?_ hc1);have hsi:=(zpz aV.wf).1.1 _ (show r.S.state.cells.getD i []∈r.S.state.cells from by
     rw[List.getD_eq_getElem?_getD,List.getElem?_eq_getElem (by omega)];exact List.getElem_mem _)
    refine hsi _ ?_;generalize r.S.state.cells.getD i []=l at hal ⊢;rw[List.getD_eq_getElem?_getD,List.getElem?_eq_getElem hal];exact List.getElem_mem _
theorem zvk{vs:List VD}{b:BX}(h:(b.ok&&svB vs)=true):∀x∈allS b (lenE vs b),fitB vs x=true/\x.I:=by
 intro x hx;obtain⟨y,hy,rfl⟩:=List.mem_map.1 hx;have h1:=zpZ rfl y hy;have h2:=zmk h;have h3:=h1.len;have hl:y.length=vs.length+1:=by rw[h3,h2.1]
 have hv:∀i (hi:i<y.length),∀e∈y[i],I64 e:=fun i hi e he=>by
  have h5:=(h1.get i (by omega) hi).2.2 e he;have h6:=h2.2.2.2;exact⟨by omega,by omega⟩
 have hv':∀l∈y,∀e∈l,I64 e:=fun l hl=>by obtain⟨i,hi,rfl⟩:=List.mem_iff_getElem.1 hl;exact hv i hi
 have hlast:(stOf y).tin=y[vs.length]'(by omega):=by
  show y.getLastD []=_
  rw[zmA (n:=y.length) rfl (by omega)];simp only[hl,Nat.add_sub_cancel]
 have hcl:(stOf y).cells.length=vs.length:=by simp[stOf,hl]
 have hcg:∀i (hi:i<vs.length),(stOf y).cells[i]'(by omega)=y[i]'(by omega):=fun i hi=>by simp[stOf]
 have hbn:∀i (hi:i<vs.length),(len1 b vs[i]).1<=(y[i]'(by omega)).length/\(y[i]'(by omega)).length<=(len1 b vs[i]).2:=fun i hi=>by
  have h5:=h1.get i (by rw[h2.1];omega) (by omega);simp only[lenE]at h5;rw[List.getElem_append_left (by simpa using hi),List.getElem_map]at h5;exact⟨h5.1,h5.2.1⟩
 have hsv:svB vs=true:=by simp only[Bool.and_eq_true]at h;exact h.2
 have hok:b.ok=true:=by simp only[Bool.and_eq_true]at h;exact h.1
 refine⟨?_,fun l hl=>hv' l ((List.dropLast_sublist y).subset hl),by rw[hlast];exact hv _ _,fun e he=>by cases he⟩;unfold fitB;simp only[Bool.and_eq_true,decide_eq_true_eq];refine⟨⟨⟨⟨hsv,hcl⟩,?_⟩,Nat.zero_le _⟩,zpQ _ _ fun i hi hi'=>?_⟩
 ·rw[hlast];have h5:=(h1.get vs.length (by rw[h2.1];omega) (by omega)).2.1;have h6:=(h2.2.2.1 _ (List.getElem_mem (show vs.length<(lenE vs b).length by rw[h2.1];omega))).2.2;omega
 ·rw[hcg i hi];have hb:=hbn i hi;have hd:vdB vs[i]=true:=by
   unfold svB at hsv;simp only[Bool.and_eq_true,List.all_eq_true]at hsv;exact hsv.2 _ (List.getElem_mem _)
  have h6:=h2.2.2.1 (len1 b vs[i]) (by unfold lenE;exact List.mem_append_left _ (List.mem_map.2 ⟨vs[i],List.getElem_mem _,rfl⟩));unfold len1 at hb h6;unfold fit1;unfold vdB at hd;by_cases hk:vs[i].k=3
  ·rw[if_pos hk]at hb h6 ⊢;simp only at hb h6;exact decide_eq_true (by omega)
  ·rw[if_neg hk]at hb h6 ⊢;simp only at hb h6;refine decide_eq_true ?_;have hp:0<=fixE vs[i]:=by
    unfold fixE
    split
    ·omega
    ·rename_i h7;rw[if_neg (by rintro(e|e);exact h7 e;exact hk e)]at hd
     split at hd
     ·have:=of_decide_eq_true hd;omega
     ·cases hd
   omega
def difS(p q:PG)(F:Int)(g:Nat)(s:SS):Bool:=decide ((resO p s F g false).2.2.1≠(resO q s F g false).2.2.1) || !eqS (resO p s F g false).1 (resO q s F g false).1
theorem zqP{p:PG}{b:BX}{F:Int}{g:Nat}{nm:ByteArray}{c:Int}(h:(b.ok&&svB p.vs)=true)(hF:F<=1000000)(hF0:0<=F)(hg:F.toNat*2000+2000<=g)(h57:p.m.k=57)(hl:LitB p.m)(hp:PrB p.prs)(hf:∀u∈p.vs,FldV u)(hc1:1<=c/\c<=256)
  (hv:zkL p=true)(hc:chkN p=0)(hvq:zkL (p.part (p.m.ks++[oneT nm c]))=true)(hcq:chkN (p.part (p.m.ks++[oneT nm c]))=0) :
  fndE (difS p (p.part (p.m.ks++[oneT nm c])) F g) (allS b (lenE p.vs b))=fndE (fun s=>(resO p s F g false).2.2.1==0) (allS b (lenE p.vs b)):=by
 refine zs4 fun x hx=>?_;obtain⟨hfi,hI⟩:=zvk h x hx;obtain⟨h1,h2⟩:=zzu (s:=x) hF hF0 hg h57 hl hp hf hI hc1 hv hc hvq hcq hfi;unfold difS;by_cases h0:(resO p x F g false).2.2.1=0
 ·rw[show((resO p x F g false).2.2.1==0)=true by simpa using h0];rcases h2 h0 with h3|h3
  ·rw[Bool.or_eq_true];exact .inl (decide_eq_true fun e=>h3 (by rw[<-e];exact h0))
  ·rw[Bool.or_eq_true];refine .inr ?_
   cases he:eqS (resO p x F g false).1 (resO (p.part (p.m.ks++[oneT nm c])) x F g false).1 with
   | false=>rfl
   | true =>
    unfold eqS at he;simp only[Bool.and_eq_true,decide_eq_true_eq]at he;refine absurd ?_ h3;generalize (resO p x F g false).1=u at he ⊢;generalize (resO (p.part (p.m.ks++[oneT nm c])) x F g false).1=v at he ⊢;obtain⟨u1,u2,u3⟩:=u;obtain⟨v1,v2,v3⟩:=v;simp only at he;rw[he.1.1,he.1.2,he.2]
 ·obtain⟨h3,h4⟩:=h1 h0;rw[h3,h4,show((resO p x F g false).2.2.1==0)=false by simpa using h0];simp[eqS]
end
end Go.Proofs.YtembgnhbpmfhpaaGreat
