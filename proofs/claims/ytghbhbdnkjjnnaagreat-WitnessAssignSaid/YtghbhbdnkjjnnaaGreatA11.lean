/-
  Texts of the proof, put together without their remarks: Tel, Tdf, Lwb, Alt, Wak, Lift, LiftV.
-/
import Derived.Test.YtghbhbdnkjjnnaaGreatA10
import Derived.Test.YtghbhbdnkjjnnaaGreatRows
import Derived.ProofKit
import Derived.SizedLaws
import Derived.Deep.Slices
import Derived.Deep.Fields
import Derived.Lib.SmallJoins
set_option linter.unusedSimpArgs false
set_option linter.unusedVariables false
set_option maxHeartbeats 8000000
set_option maxRecDepth 100000
namespace Go.Proofs.YtghbhbdnkjjnnaaGreat
section
open Go Go.RowKit
def revI(xs:List Int)(i:Nat):List Int:=(List.range xs.length).map fun k=>if k<i\/xs.length-i<=k then xs.getD (xs.length-1-k) 0 else xs.getD k 0
theorem zlT(xs:List Int)(i:Nat):(revI xs i).length=xs.length:=by simp[revI]
theorem zmt(xs:List Int)(i:Nat){k:Nat}(h:k<xs.length):(revI xs i)[k]'(by rw[zlT];exact h)=if k<i\/xs.length-i<=k then xs.getD (xs.length-1-k) 0 else xs.getD k 0:=by simp[revI]
theorem zsA(xs:List Int):revI xs 0=xs:=by
 refine List.ext_getElem (zlT _ _) fun k h1 h2=>?_;rw[zmt xs 0 h2,if_neg (by omega),List.getD_eq_getElem?_getD,List.getElem?_eq_getElem h2];rfl
theorem zsB(xs:List Int){i:Nat}(h:i<xs.length-1-i):((revI xs i).set i (xs.getD (xs.length-1-i) 0)).set (xs.length-1-i) (xs.getD i 0)=revI xs (i+1):=by
 refine List.ext_getElem (by simp[zlT]) fun k h1 h2=>?_;have hk:k<xs.length:=by rw[zlT]at h2;exact h2
 rw[zmt xs (i+1) hk,List.getElem_set,List.getElem_set];by_cases e1:xs.length-1-i=k
 ·rw[if_pos e1,if_pos (by omega),<-e1];congr 1;omega
 ·rw[if_neg e1];by_cases e2:i=k
  ·rw[if_pos e2,if_pos (by omega),e2]
  ·rw[if_neg e2,zmt xs i hk];by_cases e3:k<i\/xs.length-i<=k
   ·rw[if_pos e3,if_pos (by omega)]
   ·rw[if_neg e3,if_neg (by omega)]
theorem zuD(xs:List Int){i:Nat}(h:¬ (i:Int)<(xs.length:Int)-1-i)(hi:(i:Int)<=(xs.length:Int)-i):revI xs i=xs.reverse:=by
 refine List.ext_getElem (by simp[zlT]) fun k h1 h2=>?_;have hk:k<xs.length:=by rw[zlT]at h1;exact h1
 have hr:xs.reverse[k]=xs.getD (xs.length-1-k) 0:=by
  rw[List.getElem_reverse,List.getD_eq_getElem?_getD,List.getElem?_eq_getElem (by omega)];rfl
 rw[zmt xs i hk,hr]
 split
 ·rfl
 ·rw[show xs.length-1-k=k by omega]
def oneI(v:Value)(l:List Int):Unit->RowD:=fun _=>⟨v,3,1,l.length,zkf l⟩
theorem zq1{W:World}{n0:Nat}{v:Value}{l:List Int}(h:W.ownsRow n0 3 1 v l.length (zkf l)):Rws W n0 (oneI v l):=⟨fun _=>h,fun i j b hij=>absurd rfl hij⟩
theorem zq0{W:World}{n0 g:Nat}{v:Value}{l:List Int}(h:Rws W n0 (oneI v l))(hg:v.ownBlock=some g){o:Nat}(ho:o<l.length)(x:Int):Rws (W.setCell ⟨g,o,none⟩ (.int .i64 x)) n0 (oneI v (l.set o x)):=by
 have:=h.set () hg (o:=o) (by simp[oneI,zkf,ho]) (.int .i64 x);refine⟨fun _=>?_,fun i j b hij=>absurd rfl hij⟩;have h2:=this.row ();simp only[zku]at h2;have e:(oneI v (l.set o x)) ()=⟨v,3,1,l.length,(zkf l).set o (.int .i64 x)⟩:=by simp[oneI,zkf,List.map_set]
 rw[e];exact h2
theorem zmW{W:World}{n0 g:Nat}{v:Value}{l:List Int}(h:Rws W n0 (oneI v l))(hg:v.ownBlock=some g){o:Nat}(ho:o<l.length):W.cell? ⟨g,o,none⟩=some (.int .i64 (l.getD o 0))/\W.frozen? ⟨g,o,none⟩=false :=
 ⟨h.cell () hg (by simp[oneI,zkf,ho,List.getD_eq_getElem?_getD]),h.frozen () hg o⟩
theorem zqH{n0:Nat}{v:Value}{xs:List Int}(w:World)(h:w.ownsRow n0 3 1 v xs.length (zkf xs))(hl:xs.length<=LI):Calls Tryz.prog 99 #[v] w fun e w' =>
  (∃u,e=.returned u)/\w'.ownsRow n0 3 1 v xs.reverse.length (zkf xs.reverse)/\Chg (fun b=>v.ownBlock=some b) w w':=by
 have hl':=znc hl;obtain⟨A,c,rfl,hlc,-⟩:=zkd h;have HR:=zh (show Rws w n0 (oneI (.slice A xs.length c) (revI xs 0)) by rw[zsA];exact zq1 h);have HG:=zh (show 0<xs.length->∃g,A=some ⟨g,0,none⟩from fun h0=>by
  rcases h.2 with⟨e1,e2⟩|⟨g,cap,cur,e1,-⟩
  ·omega
  ·injection e1 with e1;exact⟨g,e1⟩)
 have hwn:IntKind.i64.wrap ((xs.length:Int)-1)=(xs.length:Int)-1:=IntWalk.i64_in _ (by omega);clear h;go_enter Tryz.func99,Tryz.ntmps99;go_wp2_with fail
 go_loopw [2,3] (fun i j wr=>∃k:Nat,i=.int .i64 k/\j=.int .i64 ((xs.length:Int)-1-k)/\Hid ((k:Int)<=(xs.length:Int)-k)/\Hid (Rws wr n0 (oneI (.slice A xs.length c) (revI xs k)))/\Hid (Chg (fun b=>(Value.slice A xs.length c).ownBlock=some b) w wr)) (fun i j _=>xs.length-(intOf i).toNat)
 case atStart=>exact⟨0,rfl,by simp,zh (by omega),HR,zh (Chg.refl _ _)⟩
 case round =>
  obtain⟨k,rfl,rfl,lZ,oh,bH⟩:=hrel;by_cases hlt:(k:Int)<(xs.length:Int)-1-k
  ·have hkl:=lZ.out;obtain⟨g,rfl⟩:=HG.out (by omega);have hj:k<xs.length-1-k:=by omega
   have xN:((xs.length-1-k:Nat):Int)=(xs.length:Int)-1-k:=by omega
   obtain⟨j,hjj⟩:∃j:Nat,xs.length-1-k=j:=⟨_,rfl⟩
   rw[hjj]at xN hj;rw[<-xN]at hlt ⊢;have hstep:=zsB xs (i:=k) (by omega);rw[hjj]at hstep;have hki:k<(revI xs k).length:=by rw[zlT];omega
   have hji:j<(revI xs k).length:=by rw[zlT];omega
   have hg:(Value.slice (some ⟨g,0,none⟩) xs.length c).ownBlock=some g:=rfl;obtain⟨p0,p1⟩:=zmW oh.out hg hki;obtain⟨q0,q1⟩:=zmW oh.out hg hji;have ek:(revI xs k).getD k 0=xs.getD k 0:=by rw[List.getD_eq_getElem?_getD,List.getElem?_eq_getElem hki,Option.getD_some,zmt xs k (by omega),if_neg (by omega)]
   have ej:(revI xs k).getD j 0=xs.getD j 0:=by rw[List.getD_eq_getElem?_getD,List.getElem?_eq_getElem hji,Option.getD_some,zmt xs k (by omega),if_neg (by omega)]
   rw[ek]at p0;rw[ej]at q0;obtain⟨x,hx⟩:=zX (xs.getD k 0);obtain⟨y,hy⟩:=zX (xs.getD j 0);rw[hx]at p0 hstep;rw[hy]at q0 hstep;have hk1:(k:Int)<(xs.length:Int):=by omega
   have hj1:(j:Int)<(xs.length:Int):=by omega
   have hk0:(0:Int)<=(k:Int):=by omega
   have hj0:(0:Int)<=(j:Int):=by omega
   have s1:=zq0 oh.out hg hki y;have s2:=zq0 s1 hg (o:=j) (by rw[List.length_set];exact hji) x;rw[hstep]at s2;have hne:k≠j:=by omega
   obtain⟨r0,r1⟩:=zmW s1 hg (o:=j) (by rw[List.length_set];exact hji);have HS2:=zh s2;have hc2:=(bH.out.setCell (p:=⟨g,k,none⟩) (.inl rfl) (.int .i64 y)).setCell (p:=⟨g,j,none⟩) (.inl rfl) (.int .i64 x);have jk:=zh hc2;have ui:=zh xN;have HJJ:=zh hjj;clear s1 s2 hstep oh hki hji ek ej hc2 xN hjj;go_upto_region 3 with fail;have hSS:zU wr.drew/\(fun w':World=>zv w' g k (.int .i64 x)/\zv w' g j (.int .i64 y)) wr.drew:=⟨trivial,p0,q0⟩
   refine wp_region_noPanic ?_;refine zkk zU (fun w':World=>zv w' g k (.int .i64 x)/\zv w' g j (.int .i64 y)) 13 (by kernel_rfl) ?_;refine zT 0 hSS ?_;refine zT 1 hSS ?_;refine zT 2 hSS ?_;refine zT 3 hSS ?_;refine zT 4 hSS ?_;refine zT 5 hSS ?_;refine zT 6 hSS ?_;refine zJ 7 hSS ?_;refine zT 8 hSS ?_;refine zT 9 hSS ?_;refine zT 10 hSS ?_;refine zJ 11 hSS ?_;have yn:wr.drew.frozen? ⟨g,k,none⟩=false:=p1;have yo:wr.drew.cell? ⟨g,k,none⟩=some (.int .i64 x):=p0;refine zo 12 fun K hK=>?_;(try simp only[zA,zB,zC]);go_simp;refine hK.out _ _ hSS ?_;clear hK K;(try simp only[zQ]);refine zp 13 fun K hK=>?_;(try simp only[zA,zB,zC]);go_simp;refine hK.out _ _ trivial ?_;clear hK K hSS;(try simp only[zQ]);have r0':(wr.drew.setCell ⟨g,k,none⟩ (.int .i64 y)).cell? ⟨g,j,none⟩=some (.int .i64 (((revI xs k).set k y).getD j 0)):=r0
   have r1':(wr.drew.setCell ⟨g,k,none⟩ (.int .i64 y)).frozen? ⟨g,j,none⟩=false:=r1;refine zp 14 fun K hK=>?_;(try simp only[zA,zB,zC]);go_simp;refine hK.out _ _ trivial ?_;clear hK K;(try simp only[zQ]);refine zp 15 fun K hK=>?_;(try simp only[zA,zB,zC]);go_simp;refine hK.out _ _ trivial ?_;clear hK K;(try simp only[zQ]);refine zd ?_;refine NoPanic.normal ?_;clear p0 p1 q0 q1 r0 r1 yo yn r0' r1';go_wp2_with fail
   go_roundw
   case rel=>exact⟨k+1,by go_num,by have:=ui.out;have:=HJJ.out;simp;omega,zh (by have:=ui.out;omega),zh (HS2.out.later zr.drew),zh ⟨jk.out.os,jk.out.tape,jk.out.output,jk.out.size,jk.out.block⟩⟩
   case measure=>simp[intOf];omega
  ·have hrev:=zuD xs hlt lZ.out;have fM:=zh (oh.out.row ());go_wp2_with fail;go_end0;refine⟨⟨_,rfl⟩,?_,bH.out⟩;have:=fM.out;rw[hrev]at this;simpa[oneI]using this
theorem zvz(x:Int)(w:World):(Instr.buildSlice 32 1 #[(0,.int .i64 x)]).run Tryz.prog w=.ok (.slice (some ⟨w.heap.size,0,none⟩) 1 1) (w.alloc (.cells #[.int .i64 x] 3)):=by kernel_rfl
theorem zop(n:Nat)(hn:n<=5864062014800)(w:World):Calls Tryz.prog 70 #[.int .i64 (n:Int)] w fun e w' =>
  ∃v,e=.returned v/\w'.ownsRow w.heap.size 3 1 v (zkT n).length (zkf (zkT n))/\Below w.heap.size w w':=by
 have h1:=zvz;have h2:=bI2;go_enter Tryz.func70,Tryz.ntmps70;go_wp2_with fail
 go_loopw [3,6] (fun v i wr=>∃j:Nat,j<=n/\i=.int .i64 j/\(∃A c,v=.slice A j c)/\Hid (wr.ownsRow w.heap.size 3 1 v j (zkf ((List.range j).map Int.ofNat)))/\Hid (Below w.heap.size w wr)) (fun _ i _=>n-(intOf i).toNat)
 case atStart=>exact⟨0,Nat.zero_le _,rfl,⟨none,0,rfl⟩,zh (World.ownsRow_nil w _ _ _),zh zr⟩
 case round =>
  obtain⟨j,hj,rfl,⟨A,c,rfl⟩,HO,HB⟩:=hrel;by_cases hlt:j<n
  ·have hj1:(j:Int)<(n:Int):=by omega
   have hbz:=zkc (zs wr) (.cells #[.int .i64 (j:Int)] 3);have hrow:=zky HO.out hbz;have aQ:RowI (wr.alloc (.cells #[.int .i64 (j:Int)] 3)) Any (some ⟨wr.heap.size,0,none⟩) [(j:Int)]:=zo4 (xs:=[(j:Int)]) (heap_alloc_new wr _) (by intro x hx;simp at hx;subst hx;exact⟨by omega,by omega⟩);have hln:j+1<=5864062014801:=by omega
   have hsz:w.heap.size<=(wr.alloc (.cells #[.int .i64 (j:Int)] 3)).heap.size:=Nat.le_trans HB.out.size hbz.size;have HX:=zh (show ∀v' w',w'.ownsRow w.heap.size 3 1 v' (j+[(j:Int)].length) (zkf ((List.range j).map Int.ofNat)++zkf [(j:Int)])->(wr.alloc (.cells #[.int .i64 (j:Int)] 3)).grownBy w' (Value.slice A j c).ownBlock->(∃A c,v'=.slice A (j+1) c)/\w'.ownsRow w.heap.size 3 1 v' (j+1) (zkf ((List.range (j+1)).map Int.ofNat))/\Below w.heap.size w w' from fun v' w' ho hg=>by
    have hx:=(Chg.row hg).below (B:=w.heap.size) hsz (fun b e=>(HO.out.lt b e).1);have e:zkf ((List.range j).map Int.ofNat)++zkf [(j:Int)]=zkf ((List.range (j+1)).map Int.ofNat):=by rw[<-zlL,List.range_succ,List.map_append];rfl
    rw[e]at ho;obtain⟨A',c',e',-⟩:=zkd ho;exact⟨⟨A',c',e'⟩,ho,(zkb HB.out hbz).trans hx⟩)
   go_wp2_with (at_builtin;refine zmh rfl (.tmp 9) (.tmp 11) rfl w.heap.size (.slice A j c) j (zkf ((List.range j).map Int.ofNat)) rfl hrow (some ⟨wr.heap.size,0,none⟩) [(j:Int)] 1 rfl aQ (by simp;omega) hsz ?_;intro v' w' ho hg aR;obtain⟨⟨A',c',rfl⟩,ho2,hb2⟩:=HX.out _ _ ho hg;clear ho hg aR)
   exact⟨⟨j+1,by omega,by go_num,⟨A',c',rfl⟩,zh ho2,zh hb2⟩,by simp[intOf];omega⟩
  ·obtain rfl:j=n:=by omega
   have hj1:¬ (j:Int)<(j:Int):=by omega
   have hbz:=zkc (zs wr) (.cells #[.int .i64 (-1),.int .i64 (-2)] 3);have hrow:=zky HO.out hbz;have aQ:RowI (wr.alloc (.cells #[.int .i64 (-1),.int .i64 (-2)] 3)) Any (some ⟨wr.heap.size,0,none⟩) [-1,-2]:=zo4 (xs:=[-1,-2]) (heap_alloc_new wr _) (by intro x hx;simp at hx;rcases hx with rfl|rfl<;>exact⟨by decide,by decide⟩);have hln:j+2<=5864062014802:=by omega
   have hsz:w.heap.size<=(wr.alloc (.cells #[.int .i64 (-1),.int .i64 (-2)] 3)).heap.size:=Nat.le_trans HB.out.size hbz.size;have HX:=zh (show ∀v' w',w'.ownsRow w.heap.size 3 1 v' (j+[(-1:Int),-2].length) (zkf ((List.range j).map Int.ofNat)++zkf [-1,-2])->(wr.alloc (.cells #[.int .i64 (-1),.int .i64 (-2)] 3)).grownBy w' (Value.slice A j c).ownBlock->w'.ownsRow w.heap.size 3 1 v' (zkT j).length (zkf (zkT j))/\Below w.heap.size w w' from fun v' w' ho hg=>by
    have hx:=(Chg.row hg).below (B:=w.heap.size) hsz (fun b e=>(HO.out.lt b e).1);rw[<-zlL]at ho;have el:(zkT j).length=j+[(-1:Int),-2].length:=by simp[zkT]
    rw[el];exact⟨ho,(zkb HB.out hbz).trans hx⟩)
   go_wp2_with (at_builtin;refine zmh rfl (.tmp 14) (.tmp 15) rfl w.heap.size (.slice A j c) j (zkf ((List.range j).map Int.ofNat)) rfl hrow (some ⟨wr.heap.size,0,none⟩) [-1,-2] 2 rfl aQ (by simp;omega) hsz ?_;intro v' w' ho hg aR;obtain⟨ho2,hb2⟩:=HX.out _ _ ho hg;clear ho hg aR)
   go_ret;exact⟨_,rfl,ho2,hb2⟩
theorem zmb(l:List Int)(A:Option Addr)(c:Nat)(i:Nat)(w:World)(hr:RowI w Any A l)(hl:l.length<=LI):Calls Tryz.prog 71 #[.slice A l.length c,.int .i64 (i:Int)] w fun e w'=>e=.returned (.int .i64 (l.getD i 0))/\w'=w:=by
 have hl':=znc hl;by_cases h:i<l.length
 ·obtain⟨a,rfl,h0⟩:=hr.nd h;have hi:(i:Int)<(l.length:Int):=by omega
  have hi0:(0:Int)<=(i:Int):=by omega
  obtain⟨x,hx⟩:=zX (l.getD i 0);rw[hx]at h0 ⊢;clear hr;go_enter Tryz.func71,Tryz.ntmps71;go_wp2_with fail;go_ret;exact⟨rfl,rfl⟩
 ·have hi:¬ (i:Int)<(l.length:Int):=by omega
  have e:l.getD i 0=0:=by rw[List.getD_eq_getElem?_getD,List.getElem?_eq_none (by omega)];rfl
  rw[e];clear hr;go_enter Tryz.func71,Tryz.ntmps71;go_wp2_with fail;go_ret;exact⟨rfl,rfl⟩
theorem znw(A B D:Option Addr)(l c m d n e:Nat)(w:World):Calls Tryz.prog 69 #[.agg #[.slice A l c,.slice B m d,.slice D n e]] w fun e' w' =>
  e'=.returned (.func (.func 98) #[] #[.pointer (some ⟨w.heap.size,0,none⟩)])/\w'=w.alloc (.cells #[.slice A l c,.slice B m d,.slice D n e] 34):=by
 have vM:∀(fn:Fn) (first cap:Array Value) (w:World),(Instr.makeFunc fn first cap).run Tryz.prog w=.ok (.func fn first cap) w:=fun _ _ _ _=>rfl;go_enter Tryz.func69,Tryz.ntmps69;go_wp2_with fail;go_ret;exact⟨rfl,rfl⟩
def zvT(s:SS)(cc:Int)(w:World)(e:Ending)(w':World):Prop:=∃v,e=.returned v/\w'.ownsRow w.heap.size 3 1 v (part s cc).length (zkf (part s cc))/\Below w.heap.size w w'
theorem zm5(s:SS)(A B D:Option Addr)(c d e b:Nat)(cc:Int)(w:World)(hb:w.heap[b]?=some (.cells #[.slice A s.cells.length c,.slice B s.tin.length d,.slice D s.tout.length e] 34 (0,0)))(hs:SV w Any s (.agg #[.slice A s.cells.length c,.slice B s.tin.length d,.slice D s.tout.length e]))(hc:cc∈zkT s.cells.length) :
  Calls Tryz.prog 98 #[.int .i64 cc,.pointer (some ⟨b,0,none⟩)] w (zvT s cc w):=by
 obtain⟨A2,c2,B2,d2,D2,e2,he,r1,r2,r3,l1,l2,l3,m1,m2,m3,m4⟩:=hs;injection he with he;simp only[Array.mk.injEq,List.cons.injEq,Value.slice.injEq,and_true,true_and]at he;obtain⟨⟨rfl,rfl⟩,⟨rfl,rfl⟩,⟨rfl,rfl⟩⟩:=he;obtain⟨x0,x1,x2⟩:=zkn hb;by_cases h1:cc = -1
 ·subst h1;have bJ:=zh (zkD s.tin B d Any w r2 m3);have hp:part s (-1)=s.tin.reverse:=by unfold part;rw[if_pos rfl]
  unfold zvT;rw[hp];clear hb r1 r2 r3 hp;go_enter Tryz.func98,Tryz.ntmps98;go_wp2_with fail;refine bJ.out.mono ?_;rintro e1 w1 ⟨v1,rfl,ho1,hf1,hb1⟩;have HRV:=zh (zqH (n0:=w.heap.size) (v:=v1) (xs:=s.tin) w1 (by simpa[zkf]using ho1) m3);have qH:=zh ho1;have HB1:=zh hb1;obtain⟨A1,k1,rfl,-⟩:=zkd ho1;clear ho1 hb1 hf1 x0 x1 x2 bJ;go_wp2_with fail;refine HRV.out.mono ?_;rintro e2' w2 ⟨⟨u,rfl⟩,ho2,hc2⟩;have wR:=zh ho2;have HB2:=zh (HB1.out.trans (hc2.below HB1.out.size fun b e=>(qH.out.lt b e).1));clear ho2 hc2;go_wp2_with fail;go_ret;exact⟨_,rfl,wR.out,HB2.out⟩
 ·by_cases h2:cc = -2
  ·subst h2;have bJ:=zh (zkD s.tout D e Any w r3 m4);have hp:part s (-2)=s.tout:=by unfold part;rw[if_neg (by omega),if_pos rfl]
   unfold zvT;rw[hp];clear hb r1 r2 r3 hp;go_enter Tryz.func98,Tryz.ntmps98;go_wp2_with fail;refine bJ.out.mono ?_;rintro e1 w1 ⟨v1,rfl,ho1,hf1,hb1⟩;have qH:=zh ho1;have HB1:=zh hb1;clear ho1 hb1 hf1 x0 x1 x2 bJ;go_wp2_with fail;go_ret;exact⟨_,rfl,by simpa[zkf]using qH.out,HB1.out⟩
  ·obtain⟨i,hi,rfl⟩:∃i:Nat,i<s.cells.length/\cc=(i:Int):=by
    unfold zkT at hc;rcases List.mem_append.1 hc with h|h
    ·obtain⟨i,hi,rfl⟩:=List.mem_map.1 h;exact⟨i,List.mem_range.1 hi,rfl⟩
    ·simp at h;omega
   obtain⟨a,A',c',rfl,-,h0,hcl,hr⟩:=r1 i hi;have bJ:=zh (zkD s.cells[i] A' c' Any w hr (m2 _ (List.getElem_mem hi)));have hp:part s (i:Int)=s.cells[i]:=by unfold part;rw[if_neg (by omega),if_neg (by omega),Int.toNat_natCast,List.getD_eq_getElem?_getD,List.getElem?_eq_getElem hi];rfl
   have e1:((i:Int) == -1)=false:=by simp
   have e2:((i:Int) == -2)=false:=by simp
   have hi1:(i:Int)<(s.cells.length:Int):=by omega
   have hi0:(0:Int)<=(i:Int):=by omega
   unfold zvT;rw[hp];obtain⟨l,hle⟩:=zX (s.cells[i]);rw[hle]at h0 bJ ⊢;have hl':=znc m1;clear hb r2 r3 hp hr r1 hle;go_enter Tryz.func98,Tryz.ntmps98;go_wp2_with fail;refine bJ.out.mono ?_;rintro e1 w1 ⟨v1,rfl,ho1,hf1,hb1⟩;have qH:=zh ho1;have HB1:=zh hb1;clear ho1 hb1 hf1 x0 x1 x2 bJ;go_wp2_with fail;go_ret;exact⟨_,rfl,by simpa[zkf]using qH.out,HB1.out⟩
theorem ztA:(Tryz.prog.info? 126).map (fun i=>(i.zero,i.size,i.bytes))=some (some (.agg #[.int .i64 0,.int .i64 0,.int .i64 0,.int .i64 0]),4,32):=by kernel_rfl
theorem bCh(x y z u:Int)(w:World):(Instr.build 126 #[(0,.int .i64 x),(1,.int .i64 y),(2,.int .i64 z),(3,.int .i64 u)]).run Tryz.prog w=.ok (.agg #[.int .i64 x,.int .i64 y,.int .i64 z,.int .i64 u]) w:=by kernel_rfl
theorem bChs(x y z u:Int)(w:World):(Instr.buildSlice 70 1 #[(0,.agg #[.int .i64 x,.int .i64 y,.int .i64 z,.int .i64 u])]).run Tryz.prog w=.ok (.slice (some ⟨w.heap.size,0,none⟩) 1 1) (w.alloc (.cells #[.int .i64 x,.int .i64 y,.int .i64 z,.int .i64 u] 126)):=by kernel_rfl
theorem zqC(c:CH):∀u∈CH.nums c,u.oneCell'=true:=by
 intro u hu;simp only[CH.nums,List.mem_cons,List.not_mem_nil,or_false]at hu;rcases hu with rfl|rfl|rfl|rfl<;>rfl
theorem zrO(l:List CH)(c:CH):zn8 (l++[c])=zn8 l++CH.nums c:=by simp[zn8]
def DiR(n0:Nat)(w:World)(v:Value)(l:List CH):Prop:=w.ownsRow n0 126 4 v l.length (zn8 l)/\∀c∈l,c.I
theorem DiR.nil(n0:Nat)(w:World):DiR n0 w (.slice none 0 0) []:=⟨World.ownsRow_nil w _ _ _,by simp⟩
theorem zsK{W:World}{n0 n1:Nat}{E:TypeId}{sz n:Nat}{v:Value}{xs:List Value}(h:W.ownsRow n1 E sz v n xs)(hn:n0<=n1):W.ownsRow n0 E sz v n xs:=by
 obtain⟨e1,h2⟩:=h;refine⟨e1,?_⟩;rcases h2 with h2|⟨g,cap,cur,e2,h3,h4⟩
 ·exact .inl h2
 ·exact .inr ⟨g,cap,cur,e2,Nat.le_trans hn h3,h4⟩
theorem DiR.later{n0:Nat}{w w':World}{v:Value}{l:List CH}(h:DiR n0 w v l)(hb:Below w.heap.size w w'):DiR n0 w' v l:=⟨zky h.1 hb,h.2⟩
theorem DiR.push{n0:Nat}{w:World}{v:Value}{l:List CH}{c:CH}(h:DiR n0 w v l)(hc:c.I)(hl:l.length+1<=4398046511103)(hn:n0<=w.heap.size) :
  (w.alloc (.cells (CH.nums c).toArray 126)).ownsRow n0 126 4 v l.length (zn8 l)/\(l.length+1<=maxLen/\(l.length+1)*32<=140737488355328)/\n0<=(w.alloc (.cells (CH.nums c).toArray 126)).heap.size /\
  (∀j u,(CH.nums c)[j]?=some u->(w.alloc (.cells (CH.nums c).toArray 126)).cell? ((⟨w.heap.size,0,none⟩:Addr).add j)=some u) /\
  ∀v' w',w'.ownsRow n0 126 4 v' (l.length+1) (zn8 l++CH.nums c)->(w.alloc (.cells (CH.nums c).toArray 126)).grownBy w' v.ownBlock->(v'.ownBlock=v.ownBlock\/v'.ownBlock=some (w.alloc (.cells (CH.nums c).toArray 126)).heap.size)->DiR n0 w' v' (l++[c])/\Chg (fun b=>v.ownBlock=some b) w w'/\(v'.ownBlock=v.ownBlock\/∃b,v'.ownBlock=some b/\w.heap.size<=b):=by
 have hb:=zkc (zs w) (.cells (CH.nums c).toArray 126);have hs:n0<=(w.alloc (.cells (CH.nums c).toArray 126)).heap.size:=Nat.le_trans hn hb.size;refine⟨zky h.1 hb,⟨by unfold maxLen;omega,by omega⟩,hs,fun j u hj=>?_,fun v' w' ho hg aR=>⟨⟨?_,?_⟩,?_,?_⟩⟩
 ·have hk:=heap_alloc_new w (.cells (CH.nums c).toArray 126);rw[Addr.add_lit,Nat.zero_add];exact zc hk (by simpa using hj)
 ·rw[zrO,List.length_append];exact ho
 ·intro d hd;rcases List.mem_append.1 hd with h1|h1
  ·exact h.2 d h1
  ·simp at h1;subst h1;exact hc
 ·have h1:=Chg.row hg;exact⟨h1.os.trans hb.os,h1.tape.trans hb.tape,h1.output.trans hb.output,Nat.le_trans hb.size h1.size,fun b hlt hne=>(h1.block b (Nat.lt_of_lt_of_le hlt hb.size) hne).trans (hb.block b hlt)⟩
 ·rcases aR with e|e
  ·exact .inl e
  ·exact .inr ⟨_,e,hb.size⟩
def DF(lo mid:Nat)(W7:World)(v:Value)(wi:World):Prop:=Chg (fun b=>lo<=b/\b<mid) W7 wi/\∀b,v.ownBlock=some b->b<mid\/W7.heap.size<=b
theorem DF.push{lo mid:Nat}{W7 wi w':World}{v v':Value}{l:List CH}(h:DF lo mid W7 v wi)(hd:DiR lo wi v l)(hc:Chg (fun b=>v.ownBlock=some b) wi w')(aR:v'.ownBlock=v.ownBlock\/∃b,v'.ownBlock=some b/\wi.heap.size<=b):DF lo mid W7 v' w':=by
 refine⟨⟨hc.os.trans h.1.os,hc.tape.trans h.1.tape,hc.output.trans h.1.output,Nat.le_trans h.1.size hc.size,fun b hlt hne=>?_⟩,fun b hb=>?_⟩
 ·have h2:=h.1.size;refine(hc.block b (by omega) fun hv=>hne ?_).trans (h.1.block b hlt hne);have:=(hd.1.lt b hv).1;rcases h.2 b hv with h3|h3
  ·exact⟨this,h3⟩
  ·omega
 ·rcases aR with e|⟨b',e,hb'⟩
  ·exact h.2 b (e▸hb)
  ·rw[e]at hb;injection hb with hb;have:=h.1.size;exact .inr (by omega)
def difs(a b:SS)(n j:Nat):List CH:=((zkT n).take j).flatMap fun c=>dif1 c (part a c) (part b c)
theorem zob(a b:SS){n j:Nat}(h:j<(zkT n).length):difs a b n (j+1)=difs a b n j++dif1 (zkT n)[j] (part a (zkT n)[j]) (part b (zkT n)[j]):=by
 unfold difs;rw[List.take_succ_eq_append_getElem h,List.flatMap_append];simp
theorem zxc(c:Int)(x y:List Int)(i:Nat):(chg1 c x y i).length<=1:=by unfold chg1;split<;>simp
theorem znH(c:Int)(x y:List Int):∀q,((List.range q).flatMap (chg1 c x y)).length<=q
 | 0=>by simp
 | q+1=>by
  rw[List.range_succ,List.flatMap_append,List.length_append];have:=znH c x y q;have:=zxc c x y q;simp only[List.flatMap_cons,List.flatMap_nil,List.append_nil];omega
theorem zxb(c:Int)(x y:List Int):(chgL c x y).length<=1:=by unfold chgL;split<;>simp
theorem zo6{s:SS}(h:s.Sm)(c:Int):(part s c).length<=1000000:=by
 unfold part
 split
 ·rw[List.length_reverse];exact h.2.2.1
 ·split
  ·exact h.2.2.2
  ·rw[List.getD_eq_getElem?_getD];rcases hk:s.cells[c.toNat]? with _|l
   ·simp
   ·exact h.2.1 l (List.mem_of_getElem? hk)
theorem zpn{a b:SS}(ha:a.Sm)(hb:b.Sm)(n:Nat):∀j,(difs a b n j).length<=j*1000001
 | 0=>by simp[difs]
 | j+1=>by
  by_cases h:j<(zkT n).length
  ·rw[zob a b h,List.length_append];have h1:=zpn ha hb n j;have h2:=zo6 ha (zkT n)[j];have h3:=zo6 hb (zkT n)[j];have h4:=zxb (zkT n)[j] (part a (zkT n)[j]) (part b (zkT n)[j]);have h5:=znH (zkT n)[j] (part a (zkT n)[j]) (part b (zkT n)[j]) (max (part a (zkT n)[j]).length (part b (zkT n)[j]).length);unfold dif1;rw[List.length_append];omega
  ·have e:difs a b n (j+1)=difs a b n j:=by
    unfold difs;rw[List.take_of_length_le (by omega),List.take_of_length_le (by omega)]
   rw[e];have h1:=zpn ha hb n j;exact Nat.le_trans h1 (Nat.mul_le_mul_right _ (Nat.le_succ j))
theorem zrm{c:Int}{x y:List Int}{q:Nat}(h:x.getD q 0=y.getD q 0){l:List CH}:l++(List.range (q+1)).flatMap (chg1 c x y)=l++(List.range q).flatMap (chg1 c x y):=by
 rw[List.range_succ,List.flatMap_append];simp only[List.flatMap_cons,List.flatMap_nil,List.append_nil];rw[show chg1 c x y q=[] by unfold chg1;rw[if_neg (fun hh=>hh h)],List.append_nil]
theorem zrl{c:Int}{x y:List Int}{q:Nat}{u v:Int}(hu:x.getD q 0=u)(hv:y.getD q 0=v)(h:¬ u=v){l:List CH}:l++(List.range (q+1)).flatMap (chg1 c x y)=l++(List.range q).flatMap (chg1 c x y)++[⟨c,q,u,v⟩]:=by
 rw[List.range_succ,List.flatMap_append,List.append_assoc];simp only[List.flatMap_cons,List.flatMap_nil,List.append_nil];rw[show chg1 c x y q=[⟨c,q,u,v⟩] by unfold chg1;rw[hu,hv,if_pos h]]
theorem zso{s:SS}{w:World}{S:Nat->Prop}{v:Value}(h:SV w S s v):s.I:=by
 obtain⟨A,c,B,d,D,e,-,hr,hi,ho,-⟩:=h;refine⟨fun l hl=>?_,hi.fits,ho.fits⟩;obtain⟨i,hi,rfl⟩:=List.getElem_of_mem hl;obtain⟨_,_,_,_,_,_,_,h⟩:=hr i hi;exact h.fits
theorem zw9{n:Nat}(hn:n<=1000000){c:Int}(h:c∈zkT n):I64 c:=by
 unfold zkT at h;rcases List.mem_append.1 h with h|h
 ·obtain⟨i,hi,rfl⟩:=List.mem_map.1 h;have:=List.mem_range.1 hi;exact⟨by show -9223372036854775808<=(i:Int);omega,by show(i:Int)<=9223372036854775807;omega⟩
 ·have:c = -1\/c = -2:=by simpa using h
  exact⟨by omega,by omega⟩
theorem zqZ{s:SS}(h:s.I)(c:Int):∀x∈part s c,I64 x:=by
 unfold part
 split
 ·exact fun x hx=>h.2.1 x (List.mem_reverse.1 hx)
 ·split
  ·exact h.2.2
  ·rw[List.getD_eq_getElem?_getD];rcases hk:s.cells[c.toNat]? with _|l
   ·exact fun x hx=>by simp at hx
   ·exact h.1 l (List.mem_of_getElem? hk)
theorem zwh{l:List Int}(h:∀x∈l,I64 x)(q:Nat):I64 (l.getD q 0):=by
 rw[List.getD_eq_getElem?_getD];rcases hk:l[q]? with _|x
 ·exact zero_I64
 ·exact h x (List.mem_of_getElem? hk)
theorem zvm{a b:SS}(h:a.cells.length=b.cells.length):difs a b a.cells.length (a.cells.length+2)=zpo a b:=by
 unfold difs zpo;rw[if_neg (fun hh=>hh h),List.take_of_length_le (by simp[zkT])]
def zyn(a b:SS)(w:World)(e:Ending)(w':World):Prop:=∃v,e=.returned v/\DiR w.heap.size w' v (zpo a b)/\Below w.heap.size w w'
theorem ztf:IsFn Tryz.prog 69 Tryz.f69:=⟨Tryz.func69,by kernel_rfl,by kernel_rfl⟩
theorem zv4(a b:SS)(va vb:Value)(w:World)(ha:SV w Any a va)(hb:SV w Any b vb)(sa:a.Sm)(sb:b.Sm):Calls Tryz.prog 32 #[va,vb] w (zyn a b w):=by
 have HA:=zh ha;have HB:=zh hb;have h1:=bCh;have h2:=bChs;obtain⟨A,c,B,d,D,e,rfl,-⟩:=ha;obtain⟨A2,c2,B2,d2,D2,e2,rfl,-⟩:=hb;have k0:=zkg (heap_alloc_new w (.cells #[.slice A a.cells.length c,.slice B a.tin.length d,.slice D a.tout.length e] 34)) (.cells #[.slice A2 b.cells.length c2,.slice B2 b.tin.length d2,.slice D2 b.tout.length e2] 34);have k1:=heap_alloc_new (w.alloc (.cells #[.slice A a.cells.length c,.slice B a.tin.length d,.slice D a.tout.length e] 34)) (.cells #[.slice A2 b.cells.length c2,.slice B2 b.tin.length d2,.slice D2 b.tout.length e2] 34);rw[World.size_alloc]at k1;have hb0:=zkc (zkc (zs w) (.cells #[.slice A a.cells.length c,.slice B a.tin.length d,.slice D a.tout.length e] 34)) (.cells #[.slice A2 b.cells.length c2,.slice B2 b.tin.length d2,.slice D2 b.tout.length e2] 34)
 obtain⟨w0,hw0⟩:=zX ((w.alloc (.cells #[.slice A a.cells.length c,.slice B a.tin.length d,.slice D a.tout.length e] 34)).alloc (.cells #[.slice A2 b.cells.length c2,.slice B2 b.tin.length d2,.slice D2 b.tout.length e2] 34));rw[hw0]at k0 k1 hb0;have aN:=zh k0;have aB:=zh k1;have HB0:=zh hb0;have zw:=zh sa;have og:=zh sb;obtain⟨x0,x1,x2⟩:=zkn k0;obtain⟨y0,y1,y2⟩:=zkn k1;clear k0 k1 hb0 sa sb;by_cases hne:a.cells.length=b.cells.length
 ·have hn1:((a.cells.length:Int) != (b.cells.length:Int))=false:=by simp[hne]
  have wT:=zh hne;clear hne;go_enter Tryz.func32,Tryz.ntmps32;go_upto_region 4 with fail;have ax:=zh (show ∀w',Below w0.heap.size w0 w'->(fun w':World=>zv w' w.heap.size 0 (.slice A a.cells.length c)/\zv w' w.heap.size 1 (.slice B a.tin.length d)/\zv w' w.heap.size 2 (.slice D a.tout.length e)/\zN3 w' (w.heap.size+1) (.slice A2 b.cells.length c2) (.slice B2 b.tin.length d2) (.slice D2 b.tout.length e2)) w' from fun w' hb=>⟨zb hb (zc aN.out rfl),zb hb (zc aN.out rfl),zb hb (zc aN.out rfl),zb hb (zc aB.out rfl),zb hb (zc aB.out rfl),zb hb (zc aB.out rfl)⟩);have hSS:zW (fun w':World=>zv w' w.heap.size 0 (.slice A a.cells.length c)/\zv w' w.heap.size 1 (.slice B a.tin.length d)/\zv w' w.heap.size 2 (.slice D a.tout.length e)/\zN3 w' (w.heap.size+1) (.slice A2 b.cells.length c2) (.slice B2 b.tin.length d2) (.slice D2 b.tout.length e2)) zU w0.drew:=⟨ax.out _ zr.drew,trivial⟩
  clear x0 x1 x2 y0 y1 y2 hn1;refine wp_region_noPanic ?_;refine zG hSS 3 ?_;refine zT 0 hSS ?_;refine zT 2 hSS ?_;have had:Calls Tryz.prog 69 [.agg #[.slice A a.cells.length c,.slice B a.tin.length d,.slice D a.tout.length e]].toArray w0.drew fun e1 W'=>∃u,e1=.returned u/\(u=.func (.func 98) #[] #[.pointer (some ⟨w0.heap.size,0,none⟩)]/\W'=w0.drew.alloc (.cells #[.slice A a.cells.length c,.slice B a.tin.length d,.slice D a.tout.length e] 34)) :=
   (znw A B D a.cells.length c a.tin.length d a.tout.length e w0.drew).mono fun e1 W' ⟨h1,h2⟩=>⟨_,h1,rfl,h2⟩
  refine zo 1 fun K hK=>?_;refine zke (by rfl) (.func 69) [.tmp 22] _ (by rfl) 69 _ ztf (by rfl) _ (by rfl) _ had ?_;rintro v3 w3 ⟨rfl,rfl⟩;have vz:=heap_alloc_new w0.drew (.cells #[.slice A a.cells.length c,.slice B a.tin.length d,.slice D a.tout.length e] 34);have mH:=zkc (zs w0).drew (.cells #[.slice A a.cells.length c,.slice B a.tin.length d,.slice D a.tout.length e] 34);obtain⟨w3,hw3⟩:=zX (w0.drew.alloc (.cells #[.slice A a.cells.length c,.slice B a.tin.length d,.slice D a.tout.length e] 34));rw[hw3]at vz mH;rw[hw3];have vz:w3.heap[w0.heap.size]?=_:=vz;obtain⟨ba,jq⟩:=zX (w0.heap.size);refine hK.out _ _ ⟨ax.out _ mH,trivial⟩ ?_;clear hK K had hSS;(try simp only[zQ])
  have had:Calls Tryz.prog 69 [.agg #[.slice A2 b.cells.length c2,.slice B2 b.tin.length d2,.slice D2 b.tout.length e2]].toArray w3 fun e1 W'=>∃u,e1=.returned u/\(u=.func (.func 98) #[] #[.pointer (some ⟨w3.heap.size,0,none⟩)]/\W'=w3.alloc (.cells #[.slice A2 b.cells.length c2,.slice B2 b.tin.length d2,.slice D2 b.tout.length e2] 34)) :=
   (znw A2 B2 D2 b.cells.length c2 b.tin.length d2 b.tout.length e2 w3).mono fun e1 W' ⟨h1,h2⟩=>⟨_,h1,rfl,h2⟩
  refine zp 3 fun K hK=>?_;refine zke (by rfl) (.func 69) [.tmp 24] _ (by rfl) 69 _ ztf (by rfl) _ (by rfl) _ had ?_;rintro v4 w4 ⟨rfl,rfl⟩;have yu:=heap_alloc_new w3 (.cells #[.slice A2 b.cells.length c2,.slice B2 b.tin.length d2,.slice D2 b.tout.length e2] 34);have dS:=zkc (zs w3) (.cells #[.slice A2 b.cells.length c2,.slice B2 b.tin.length d2,.slice D2 b.tout.length e2] 34);obtain⟨w4,hw4⟩:=zX (w3.alloc (.cells #[.slice A2 b.cells.length c2,.slice B2 b.tin.length d2,.slice D2 b.tout.length e2] 34));rw[hw4]at yu dS;rw[hw4];obtain⟨bb,hbb⟩:=zX (w3.heap.size);have rV:=mH.trans (dS.mono mH.size);have jr:=ax.out _ rV;refine hK.out _ _ jr ?_;clear hK K had;(try simp only[zQ]);refine zp 4 fun K hK=>?_;(try simp only[zA,zB,zC]);go_simp;refine hK.out _ _ jr ?_;clear hK K;(try simp only[zQ]);refine zp 5 fun K hK=>?_;(try simp only[zA,zB,zC]);go_simp
  refine hK.out _ _ jr ?_;clear hK K;(try simp only[zQ]);refine zd ?_;refine NoPanic.normal ?_;have dL:=zh (show a.cells.length<=1000000 from zw.out.1);have xk:=zh (zop a.cells.length (by have:=dL.out;omega) w4);have Aa:=zh (zka vz dS);have eX:=zh yu;have av:=zh (HB0.out.trans (rV.mono HB0.out.size));have HAI:=zh (zso HA.out);have HBI0:=zh (zso HB.out);obtain⟨y0,y1,y2,-,-,-⟩:=jr;clear vz yu mH dS rV hw3 hw4 ax aN aB y1 y2;rw[jq]at Aa;rw[hbb]at eX;(try rw[jq]);(try rw[hbb]);clear jq hbb;obtain⟨n,hn⟩:=zX (a.cells.length);have fA:=zh hn;rw[hn]at xk;go_wp2_with fail;refine xk.out.mono ?_;rintro e5 w5 ⟨v5,rfl,dC,hb5⟩;clear y0 xk;obtain⟨Ac,c5,rfl,-⟩:=zkd dC;have hcl:(zkT n).length=n+2:=by simp[zkT]
  have bJ:=zh hcl;obtain⟨g,rfl⟩:∃g,Ac=some ⟨g,0,none⟩:=by
   rcases dC.2 with⟨e1,e2⟩|⟨g,cap,cur,e1,-⟩
   ·omega
   ·injection e1 with e1;exact⟨g,e1⟩
  have fO:=zh (zq1 dC);have HKA5:=zh (zka Aa.out hb5);have HKB5:=zh (zka eX.out hb5);have ay:=zh (zkb av.out hb5);rw[hcl];clear dC hb5 hcl Aa eX hn;go_wp2_with fail
  go_loopw [5,31] (fun v i wo=>∃j:Nat,j<=n+2/\i=.int .i64 j/\Hid (DiR w5.heap.size wo v (difs a b n j))/\Hid (Below w5.heap.size w5 wo)) (fun _ i _=>n+2-(intOf i).toNat)
  case atStart=>exact⟨0,Nat.zero_le _,rfl,zh (by simpa[difs]using DiR.nil w5.heap.size w5),zh zr⟩
  case round =>
   obtain⟨wo,rfl⟩:∃x,x=wr:=⟨_,rfl⟩
   obtain⟨j,hj,rfl,u7,fE⟩:=hrel;by_cases hlt2:j<n+2
   ·have hlt:j<(zkT n).length:=by rw[bJ.out];exact hlt2
    have hj1:(j:Int)<((n:Nat):Int)+2:=by omega
    have hj2:(j:Int)<((n+2:Nat):Int):=by omega
    have hj0:(0:Int)<=(j:Int):=by omega
    obtain⟨z0,-⟩:=zmW (fO.out.later fE.out) rfl hlt;obtain⟨cc,hcc⟩:=zX ((zkT n)[j]);have hgd:(zkT n).getD j 0=cc:=by rw[List.getD_eq_getElem?_getD,List.getElem?_eq_getElem hlt,Option.getD_some,hcc]
    rw[hgd]at z0;have hmem:cc∈zkT n:=by rw[<-hcc];exact List.getElem_mem hlt
    have qf:=zh (show I64 cc from zw9 (by have:=dL.out;have:=fA.out;omega) hmem);have aV:=zh hcc;have HPA:=zh (fun w' (hb:Below wo.heap.size wo w')=>zm5 a A B D c d e ba cc w' (zka HKA5.out (zkb fE.out hb)) (HA.out.later (zkb (zkb ay.out fE.out) hb)) (by rw[fA.out];exact hmem));have qG:=zh (fun w' (hb:Below wo.heap.size wo w')=>zm5 b A2 B2 D2 c2 d2 e2 bb cc w' (zka HKB5.out (zkb fE.out hb)) (HB.out.later (zkb (zkb ay.out fE.out) hb)) (by rw[<-wT.out,fA.out];exact hmem));obtain⟨Aj,cj,hvj,-⟩:=zkd u7.out.1;subst hvj;have HOL:=zh (fun b h=>(u7.out.1.lt b h).2);have uW:=zh hlt2;clear hgd hmem hcc;go_wp2_with fail;refine(HPA.out wo zr).mono ?_;rintro e6 w6 ⟨vx,rfl,hox,hbx⟩;clear z0 hj1 hj2;go_wp2_with fail;refine(qG.out w6 hbx).mono ?_;rintro e7 w7 ⟨vy,rfl,hoy,hby⟩
    have hnx:∀q,I64 ((part a cc).getD q 0)/\True:=fun q=>⟨zwh (zqZ HAI.out cc) q,trivial⟩
    have hny:∀q,I64 ((part b cc).getD q 0)/\True:=fun q=>⟨zwh (zqZ HBI0.out cc) q,trivial⟩
    obtain⟨Ax,cx,rfl,-,hrx⟩:=zoD hox (zqZ HAI.out cc);obtain⟨Ay,cy,rfl,-,hry⟩:=zoD hoy (zqZ HBI0.out cc);have HRX0:=zh (hrx.later hby);have HRY0:=zh (hry.mono (S':=fun b=>wo.heap.size<=b) fun b hb=>Nat.le_trans hbx.size hb);have tV:=zh hlt;have HNX:=zh hnx;have HNY:=zh hny;have hpa:=zo6 zw.out cc;have hpb:=zo6 og.out cc;have HLX:=zh (show(part a cc).length<=LI by unfold LI;omega);have HLY:=zh (show(part b cc).length<=LI by unfold LI;omega);have gX:=zh (zkb hbx hby);have HD7:=zh (u7.out.later gX.out);have hdl:=zpn zw.out og.out n j;have hjb:j*1000001<=1000001*1000001:=Nat.mul_le_mul_right _ (by have:=dL.out;have:=fA.out;omega);have nD:=zh (show(difs a b n j).length+1000002<=4398046511103 by omega);have ou:=zh (show(part a cc).length<=1000000/\(part b cc).length<=1000000 from⟨hpa,hpb⟩)
    clear hox hoy hbx hby hnx hny hrx hry HPA qG u7 hdl hjb hpa hpb;have hi63:((part a cc).length:Int)<=9223372036854775807/\((part b cc).length:Int)<=9223372036854775807:=by have:=ou.out;omega
    by_cases hll:(part a cc).length=(part b cc).length
    ·have hl1:(((part a cc).length:Int) != ((part b cc).length:Int))=false:=by simp[hll]
     obtain⟨LQ,mK⟩:=zX (difs a b n j);have kM:=zh (show LQ=difs a b n j++chgL cc (part a cc) (part b cc) by unfold chgL;rw[if_neg (fun h=>h hll),List.append_nil,mK]);have x8:=HD7;have zP:=zh (show LQ.length+1000001<=4398046511103 by have:=nD.out;rw[mK]at this;omega);rw[mK]at x8;have zt:=zh (show w5.heap.size<=w7.heap.size from(zkb fE.out gX.out).size);have AB:=zh (show DF w5.heap.size wo.heap.size w7 (.slice Aj LQ.length cj) w7 from⟨Chg.refl _ _,fun b hb=>.inl (HOL.out b (by rw[mK];exact hb))⟩);rw[mK];clear mK HD7 hll nD;obtain⟨mx,hmx⟩:∃m:Nat,max (part a cc).length (part b cc).length=m:=⟨_,rfl⟩
     have hmxI:max ((part a cc).length:Int) ((part b cc).length:Int)=(mx:Int):=by omega
     have wV:=zh hmx;have wW:=zh (show mx<=1000000 by have:=ou.out;omega);go_wp2_with fail
     go_loopw [5,60] (fun v i wi=>∃q:Nat,q<=mx/\i=.int .i64 q/\Hid (DiR w5.heap.size wi v (LQ++(List.range q).flatMap (chg1 cc (part a cc) (part b cc))))/\Hid (DF w5.heap.size wo.heap.size w7 v wi)) (fun _ i _=>mx-(intOf i).toNat)
     case atStart=>exact⟨0,Nat.zero_le _,rfl,by simpa using x8,AB⟩
     case round =>
      obtain⟨wi,rfl⟩:∃x,x=wr:=⟨_,rfl⟩
      obtain⟨q,hq,rfl,fT,bz⟩:=hrel;by_cases hq2:q<mx
      ·have hq1:(q:Int)<(mx:Int):=by omega
       obtain⟨LL,jw⟩:=zX (LQ++(List.range q).flatMap (chg1 cc (part a cc) (part b cc)));have dV:=zh jw;have zR:=zh (show LL.length+1<=4398046511103 by have:=zP.out;have:=wW.out;have:=(znH cc (part a cc) (part b cc) q);rw[<-jw,List.length_append];omega);rw[jw]at fT;obtain⟨xv,hxv⟩:=zX ((part a cc).getD q 0);obtain⟨yv,hyv⟩:=zX ((part b cc).getD q 0);have nY:=zh hxv;have sO:=zh hyv;have dN:=zh (zmb (part a cc) Ax cx q wi (HRX0.out.keep (fun _ _ _=>trivial) (fun b hb hlt=>bz.out.1.block b hlt (by omega))) HLX.out);have HE2:=zh (zmb (part b cc) Ay cy q wi (HRY0.out.keep (fun _ _ _=>trivial) (fun b hb hlt=>bz.out.1.block b hlt (by omega))) HLY.out);rw[hxv]at dN;rw[hyv]at HE2;clear hxv hyv jw;obtain⟨Aq,cq,rfl,-⟩:=zkd fT.out.1;go_wp2_with fail;refine dN.out.mono ?_;rintro e8 w8 ⟨rfl,h8⟩;rw[h8];clear h8;go_wp2_with fail;refine HE2.out.mono ?_
       rintro e9 w9 ⟨rfl,h9⟩;rw[h9];clear h9;clear dN HE2;by_cases hxy:xv=yv
       ·subst hxy;have AR:=zh (show DiR w5.heap.size wi (.slice Aq LL.length cq) (LQ++(List.range (q+1)).flatMap (chg1 cc (part a cc) (part b cc)))from by
         rw[zrm (by rw[nY.out,sO.out]),dV.out];exact fT.out)
        go_wp2_with fail;exact⟨⟨q+1,by omega,by go_num,AR,bz⟩,by simp[intOf];omega⟩
       ·have hxy1:(xv != yv)=true:=by simp[hxy]
        have hI:=(HNX.out q).1;have hI2:=(HNY.out q).1;rw[nY.out]at hI;rw[sO.out]at hI2;have hpush:=fT.out.push (c:=⟨cc,q,xv,yv⟩) ⟨qf.out,⟨(by omega : -9223372036854775808<=(q:Int)),(by have:=wW.out;omega:(q:Int)<=9223372036854775807)⟩,hI,hI2⟩ zR.out (Nat.le_trans zt.out bz.out.1.size);obtain⟨hrow,hln,hsz,hnw,qF⟩:=hpush;have pM:=zh (show ∀v' w',w'.ownsRow w5.heap.size 126 4 v' (LL.length+1) (zn8 LL++CH.nums ⟨cc,q,xv,yv⟩)->(wi.alloc (.cells (CH.nums ⟨cc,q,xv,yv⟩).toArray 126)).grownBy w' (Value.slice Aq LL.length cq).ownBlock->(v'.ownBlock=(Value.slice Aq LL.length cq).ownBlock\/v'.ownBlock=some (wi.alloc (.cells (CH.nums ⟨cc,q,xv,yv⟩).toArray 126)).heap.size)->DiR w5.heap.size w' v' (LQ++(List.range (q+1)).flatMap (chg1 cc (part a cc) (part b cc)))/\DF w5.heap.size wo.heap.size w7 v' w' from fun v' w' ho hg aR=>by
         obtain⟨h1,h2,h3⟩:=qF v' w' ho hg aR;rw[zrl nY.out sO.out hxy,dV.out];exact⟨h1,bz.out.push fT.out h2 h3⟩)
        clear qF hI hI2;obtain⟨ix,hix,hz0,hz1,hz2⟩:=info_parts ztA;go_wp2_with (at_builtin;refine wpList_append_own_at (P:=Tryz.prog) _ rfl (.tmp 72) (.tmp 78) 70 rfl w5.heap.size 126 ix _ 4 32 Tryz.underlying70 hix hz0 hz1 hz2 rfl (by decide) (.slice Aq LL.length cq) LL.length (zn8 LL) rfl hrow ⟨wi.heap.size,0,none⟩ 1 1 (CH.nums ⟨cc,q,xv,yv⟩) rfl rfl hnw (zqC _) hln.1 hln.2 hsz ?_;intro v' w' ho hg hh aR;obtain⟨ho2,hb2⟩:=pM.out _ _ ho hg aR;obtain⟨A',c',rfl,-⟩:=zkd ho;clear ho hg hh aR)
        exact⟨⟨q+1,by omega,by go_num,zh ho2,zh hb2⟩,by simp[intOf];omega⟩
      ·obtain rfl:q=mx:=by omega
       have hq1:¬ (q:Int)<(q:Int):=by omega
       have AQ:=zh (show DiR w5.heap.size wi _ (difs a b n (j+1))from by
        rw[zob a b tV.out,aV.out,dif1,wV.out,<-List.append_assoc,<-kM.out];exact fT.out)
       have kv:=zh (show Below w5.heap.size w5 wi from(zkb fE.out gX.out).trans (bz.out.1.below (zkb fE.out gX.out).size fun b h=>h.1));have hjb2:(j:Int)+1<=9223372036854775807:=by have:=uW.out;have:=dL.out;have:=fA.out;omega
       go_wp2_with fail;exact⟨⟨j+1,uW.out,by go_num,AQ,kv⟩,by have:=uW.out;simp[intOf];omega⟩
    ·have hl1:(((part a cc).length:Int) != ((part b cc).length:Int))=true:=bne_iff_ne.2 (by omega);have hcl0:chgL cc (part a cc) (part b cc)=[⟨cc,-1,(part a cc).length,(part b cc).length⟩]:=by unfold chgL;rw[if_pos hll]
     obtain⟨L0,hL0⟩:=zX (difs a b n j);have uo:=zh (show L0.length+1000002<=4398046511103 by rw[<-hL0];exact nD.out);rw[hL0]at HD7;rw[hL0];have hpush:=HD7.out.push (c:=⟨cc,-1,(part a cc).length,(part b cc).length⟩) ⟨qf.out,⟨(by decide : -9223372036854775808<=(-1:Int)),(by decide:(-1:Int)<=9223372036854775807)⟩,⟨(by omega : -9223372036854775808<=((part a cc).length:Int)),hi63.1⟩,⟨(by omega : -9223372036854775808<=((part b cc).length:Int)),hi63.2⟩⟩ (by have:=uo.out;omega) ((zkb fE.out gX.out).size);obtain⟨hrow,hln,hsz,hnw,qF⟩:=hpush;have pM:=zh qF;have HD70:=HD7;obtain⟨lx,hlx⟩:=zX ((part a cc).length);obtain⟨ly,uG⟩:=zX ((part b cc).length);rw[hlx,uG]at hrow hsz hnw pM;obtain⟨ix,hix,hz0,hz1,hz2⟩:=info_parts ztA;rw[hlx]at hl1;rw[uG]at hl1;rw[hlx,uG];clear qF HD7
     go_upto_region 11 with(at_builtin;refine wpList_append_own_at (P:=Tryz.prog) _ rfl (.tmp 46) (.tmp 53) 70 rfl w5.heap.size 126 ix _ 4 32 Tryz.underlying70 hix hz0 hz1 hz2 rfl (by decide) (.slice Aj L0.length cj) L0.length (zn8 L0) rfl hrow ⟨w7.heap.size,0,none⟩ 1 1 (CH.nums ⟨cc,-1,lx,ly⟩) rfl rfl hnw (zqC _) hln.1 hln.2 hsz ?_;intro v8 w8 ho hg hh aR;obtain⟨ho2,hb2,hob2⟩:=pM.out _ _ ho hg aR;obtain⟨A8,c8,rfl,-⟩:=zkd ho;clear ho hg hh aR)
     subst hlx uG;obtain⟨LQ,mK⟩:=zX (L0++[(⟨cc,-1,(part a cc).length,(part b cc).length⟩:CH)]);have kM:=zh (show LQ=difs a b n j++chgL cc (part a cc) (part b cc) by rw[hcl0,hL0,mK]);have zP:=zh (show LQ.length+1000001<=4398046511103 by have:=uo.out;rw[<-mK,List.length_append];simp only[List.length_cons,List.length_nil];omega);rw[mK]at ho2;have x8:=zh ho2;have zt:=zh (show w5.heap.size<=w7.heap.size from(zkb fE.out gX.out).size);have AB:=zh (show DF w5.heap.size wo.heap.size w7 (.slice A8 (L0.length+1) c8) w8 from DF.push (v:=.slice Aj L0.length cj) (l:=L0) ⟨Chg.refl _ _,fun b hb=>.inl (HOL.out b (by rw[hL0];exact hb))⟩ HD70.out hb2 hob2);clear mK hL0 hll nD uo hcl0 ho2 hb2 hob2 hrow hln hsz hnw hix hz0 hz1 hz2 pM;obtain⟨mx,hmx⟩:∃m:Nat,max (part a cc).length (part b cc).length=m:=⟨_,rfl⟩
     have hmxI:max ((part a cc).length:Int) ((part b cc).length:Int)=(mx:Int):=by omega
     have wV:=zh hmx;have wW:=zh (show mx<=1000000 by have:=ou.out;omega);go_wp2_with fail
     go_loopw [5,60] (fun v i wi=>∃q:Nat,q<=mx/\i=.int .i64 q/\Hid (DiR w5.heap.size wi v (LQ++(List.range q).flatMap (chg1 cc (part a cc) (part b cc))))/\Hid (DF w5.heap.size wo.heap.size w7 v wi)) (fun _ i _=>mx-(intOf i).toNat)
     case atStart=>exact⟨0,Nat.zero_le _,rfl,by simpa using x8,AB⟩
     case round =>
      obtain⟨wi,rfl⟩:∃x,x=wr:=⟨_,rfl⟩
      obtain⟨q,hq,rfl,fT,bz⟩:=hrel;by_cases hq2:q<mx
      ·have hq1:(q:Int)<(mx:Int):=by omega
       obtain⟨LL,jw⟩:=zX (LQ++(List.range q).flatMap (chg1 cc (part a cc) (part b cc)));have dV:=zh jw;have zR:=zh (show LL.length+1<=4398046511103 by have:=zP.out;have:=wW.out;have:=(znH cc (part a cc) (part b cc) q);rw[<-jw,List.length_append];omega);rw[jw]at fT;obtain⟨xv,hxv⟩:=zX ((part a cc).getD q 0);obtain⟨yv,hyv⟩:=zX ((part b cc).getD q 0);have nY:=zh hxv;have sO:=zh hyv;have dN:=zh (zmb (part a cc) Ax cx q wi (HRX0.out.keep (fun _ _ _=>trivial) (fun b hb hlt=>bz.out.1.block b hlt (by omega))) HLX.out);have HE2:=zh (zmb (part b cc) Ay cy q wi (HRY0.out.keep (fun _ _ _=>trivial) (fun b hb hlt=>bz.out.1.block b hlt (by omega))) HLY.out);rw[hxv]at dN;rw[hyv]at HE2;clear hxv hyv jw;obtain⟨Aq,cq,rfl,-⟩:=zkd fT.out.1;go_wp2_with fail;refine dN.out.mono ?_;rintro e8 w8 ⟨rfl,h8⟩;rw[h8];clear h8;go_wp2_with fail;refine HE2.out.mono ?_
       rintro e9 w9 ⟨rfl,h9⟩;rw[h9];clear h9;clear dN HE2;by_cases hxy:xv=yv
       ·subst hxy;have AR:=zh (show DiR w5.heap.size wi (.slice Aq LL.length cq) (LQ++(List.range (q+1)).flatMap (chg1 cc (part a cc) (part b cc)))from by
         rw[zrm (by rw[nY.out,sO.out]),dV.out];exact fT.out)
        go_wp2_with fail;exact⟨⟨q+1,by omega,by go_num,AR,bz⟩,by simp[intOf];omega⟩
       ·have hxy1:(xv != yv)=true:=by simp[hxy]
        have hI:=(HNX.out q).1;have hI2:=(HNY.out q).1;rw[nY.out]at hI;rw[sO.out]at hI2;have hpush:=fT.out.push (c:=⟨cc,q,xv,yv⟩) ⟨qf.out,⟨(by omega : -9223372036854775808<=(q:Int)),(by have:=wW.out;omega:(q:Int)<=9223372036854775807)⟩,hI,hI2⟩ zR.out (Nat.le_trans zt.out bz.out.1.size);obtain⟨hrow,hln,hsz,hnw,qF⟩:=hpush;have pM:=zh (show ∀v' w',w'.ownsRow w5.heap.size 126 4 v' (LL.length+1) (zn8 LL++CH.nums ⟨cc,q,xv,yv⟩)->(wi.alloc (.cells (CH.nums ⟨cc,q,xv,yv⟩).toArray 126)).grownBy w' (Value.slice Aq LL.length cq).ownBlock->(v'.ownBlock=(Value.slice Aq LL.length cq).ownBlock\/v'.ownBlock=some (wi.alloc (.cells (CH.nums ⟨cc,q,xv,yv⟩).toArray 126)).heap.size)->DiR w5.heap.size w' v' (LQ++(List.range (q+1)).flatMap (chg1 cc (part a cc) (part b cc)))/\DF w5.heap.size wo.heap.size w7 v' w' from fun v' w' ho hg aR=>by
         obtain⟨h1,h2,h3⟩:=qF v' w' ho hg aR;rw[zrl nY.out sO.out hxy,dV.out];exact⟨h1,bz.out.push fT.out h2 h3⟩)
        clear qF hI hI2;obtain⟨ix,hix,hz0,hz1,hz2⟩:=info_parts ztA;go_wp2_with (at_builtin;refine wpList_append_own_at (P:=Tryz.prog) _ rfl (.tmp 72) (.tmp 78) 70 rfl w5.heap.size 126 ix _ 4 32 Tryz.underlying70 hix hz0 hz1 hz2 rfl (by decide) (.slice Aq LL.length cq) LL.length (zn8 LL) rfl hrow ⟨wi.heap.size,0,none⟩ 1 1 (CH.nums ⟨cc,q,xv,yv⟩) rfl rfl hnw (zqC _) hln.1 hln.2 hsz ?_;intro v' w' ho hg hh aR;obtain⟨ho2,hb2⟩:=pM.out _ _ ho hg aR;obtain⟨A',c',rfl,-⟩:=zkd ho;clear ho hg hh aR)
        exact⟨⟨q+1,by omega,by go_num,zh ho2,zh hb2⟩,by simp[intOf];omega⟩
      ·obtain rfl:q=mx:=by omega
       have hq1:¬ (q:Int)<(q:Int):=by omega
       have AQ:=zh (show DiR w5.heap.size wi _ (difs a b n (j+1))from by
        rw[zob a b tV.out,aV.out,dif1,wV.out,<-List.append_assoc,<-kM.out];exact fT.out)
       have kv:=zh (show Below w5.heap.size w5 wi from(zkb fE.out gX.out).trans (bz.out.1.below (zkb fE.out gX.out).size fun b h=>h.1));have hjb2:(j:Int)+1<=9223372036854775807:=by have:=uW.out;have:=dL.out;have:=fA.out;omega
       go_wp2_with fail;exact⟨⟨j+1,uW.out,by go_num,AQ,kv⟩,by have:=uW.out;simp[intOf];omega⟩
   ·obtain rfl:j=n+2:=by omega
    have hj1:¬ ((n:Int)+2<(n:Int)+2):=by omega
    have hj2:¬ (((n+2:Nat):Int)<((n+2:Nat):Int)):=by omega
    have ow:=zh (show difs a b n (n+2)=zpo a b from fA.out▸zvm wT.out);go_wp2_with fail;go_ret;refine⟨_,rfl,?_,zkb ay.out fE.out⟩;rw[<-ow.out];exact⟨zsK u7.out.1 ay.out.size,u7.out.2⟩
 ·have hn1:((a.cells.length:Int) != (b.cells.length:Int))=true:=bne_iff_ne.2 (by omega);have hd:zpo a b=[]:=by unfold zpo;rw[if_pos hne]
  unfold zyn;rw[hd];go_enter Tryz.func32,Tryz.ntmps32;go_wp2_with fail;go_ret;exact⟨_,rfl,DiR.nil _ _,HB0.out⟩
theorem ztj{vs:List VD}{x:SS}(h:fitB vs x=true):x.Sm:=by
 obtain⟨h1,h2,h3,h4,h5⟩:=zlF h;refine⟨by omega,fun l hl=>?_,by omega,by omega⟩;obtain⟨i,hi,rfl⟩:=List.mem_iff_getElem.1 hl;obtain⟨a,b⟩:=h5 i (by omega) hi;unfold fit1 fixE at b;unfold vdB at a
 split at b
 ·simp at b;omega
 ·simp only[decide_eq_true_eq]at b
  split at b
  ·omega
  ·split at a
   ·simp at a;omega
   ·split at a
    ·simp at a;omega
    ·cases a
theorem zwW:IsFn Tryz.prog 17 Tryz.f17:=⟨Tryz.func17,by kernel_rfl,by kernel_rfl⟩
theorem zv7(haw:AwP){W:World}{vs:List VD}{t:T}{s:SS}{v sv:Value}{A1:Option Addr}{c1:Nat}(hv:NV W Any t v)(hr:RowV W Any A1 vs)(hl:vs.length<=LV)(hs:SV W Any s sv)(hcl:s.cells.length<=5864062014800) :
  Calls Tryz.prog 6 #[v,.slice A1 vs.length c1,sv] W fun e w'=>e=.returned (.bool true)/\Below W.heap.size W w':=by
 have xu:=zh haw;have HBIG:=zh (fun w' (hb:Below W.heap.size W w')=>zv6 t v w' (hv.later hb));have HCLO:=zh (fun w' (hb:Below W.heap.size W w')=>zpx s sv w' (hs.later hb) hcl);have fU:=zh (fun w' ov (hb:Below W.heap.size W w') (ho:SV w' Any s ov)=>zoY (c:=c1) (hv.later hb) (hr.later hb) hl ho);have lH:=zh (fun w' x y u1 u2 (h1:SV w' Any x u1) (h2:SV w' Any y u2)=>zp3 x y u1 u2 w' h1 h2);have qa:=zh (fun w' (hb:Below W.heap.size W w')=>zpv vs s A1 c1 sv w' (hr.later hb) hl (hs.later hb));have HIS:=zh (fun w' (hb:Below W.heap.size W w')=>zns t v w' (hv.later hb));have nI:=zh (fun w' (hb:Below W.heap.size W w')=>zrX (hv.later hb));have iA:=zh (fun w' y yv (hb:Below W.heap.size W w') (hy:SV w' Any y yv)=>zqI vs y A1 c1 yv w' (hr.later hb) hl hy);have jV:=zh (fun w' (hb:Below W.heap.size W w')=>hs.later hb)
 have kL:=zh (fun w' (hb:Below W.heap.size W w')=>hv.later hb);have nS:∀x∈vs,FldV x:=fun x hx=>by
  obtain⟨i,hi,rfl⟩:=List.mem_iff_getElem.1 hx;obtain⟨a,v,-,-,Hv,-,hf⟩:=hr.nd hi;rw[Hv.out];exact hf
 have Az:=zh nS;have tu:=zh (fun h=>zxo (vs:=vs) (t:=t) (s:=s) h);obtain⟨A,c,B,d,D,e,rfl,-,-,-,-,-,-,hlim⟩:=hs;obtain⟨A3,c3,rfl,-,-,hlc,hrow⟩:=hv.open_;have aa:=zh (And.intro hlc hrow);clear hlc hrow;have iY:=zh hlim;obtain⟨k,n,nm,ks⟩:=t;simp only[T.k_nd,T.n_nd,T.s_nd,T.ks_nd]at HBIG HIS nI fU kL tu aa ⊢;have bG:=zh (show asgE vs (.nd k n nm ks) s=if fitB vs s=false\/isS (.nd k n nm ks)=false then(3,nilS)else if k=56 then setE vs s (.nd k n nm ks)else if (doE (newS vs s) (.nd k n nm ks)).1≠0 then((doE (newS vs s) (.nd k n nm ks)).1,nilS)else(0,(doE (newS vs s) (.nd k n nm ks)).2.state)from rfl);have jg:=zh (show(asgE vs (.nd k n nm ks) s).1=0->s.I->fitB vs (asgE vs (.nd k n nm ks) s).2=true from fun h hI=>zxp Az.out hI h);obtain⟨N,hN⟩:=zX (W.heap.size)
 have hb1:=zkc (zkc (zs W) (.cells #[.int .u8 k,.int .i64 n,.string nm,.slice A3 ks.length c3] 24)) (.cells #[.slice A s.cells.length c,.slice B s.tin.length d,.slice D s.tout.length e] 34);have k0:=zkg (zlC W hN (.cells #[.int .u8 k,.int .i64 n,.string nm,.slice A3 ks.length c3] 24)) (.cells #[.slice A s.cells.length c,.slice B s.tin.length d,.slice D s.tout.length e] 34);have k1:=zlC (W.alloc (.cells #[.int .u8 k,.int .i64 n,.string nm,.slice A3 ks.length c3] 24)) (n:=N+1) (by simp[hN]) (.cells #[.slice A s.cells.length c,.slice B s.tin.length d,.slice D s.tout.length e] 34);obtain⟨w1,hw1⟩:=zX ((W.alloc (.cells #[.int .u8 k,.int .i64 n,.string nm,.slice A3 ks.length c3] 24)).alloc (.cells #[.slice A s.cells.length c,.slice B s.tin.length d,.slice D s.tout.length e] 34));rw[hw1]at hb1 k0 k1;have HB:=zh hb1;have aX:=zh k0;have aS:=zh k1;have HN:=zh hN
 show Calls Tryz.prog 6 #[.agg #[.int .u8 k,.int .i64 n,.string nm,.slice A3 ks.length c3],.slice A1 vs.length c1,.agg #[.slice A s.cells.length c,.slice B s.tin.length d,.slice D s.tout.length e]] W _
 clear hv hr hl hb1 k0 k1 haw hlim hcl nS;go_enter Tryz.func6,Tryz.ntmps6;go_wp2_with fail;clear hw1 hN;refine(xu.out _).mono ?_;rintro e2 w2 ⟨rfl,hb⟩
 replace HB:=zh (zkb HB.out hb)
 replace aX:=zh (zka aX.out hb)
 replace aS:=zh (zka aS.out hb)
 try replace fP:=zh (zka fP.out hb)
 try replace bE:=zh (zka bE.out hb)
 try replace bT:=zh (bT.out.later hb)
 try replace eT:=zh (eT.out.later hb)
 try replace HT:=zh (HT.out.later hb)
 clear hb;obtain⟨x0,x1,x2,x3⟩:=box4 aX.out;obtain⟨y0,y1,y2⟩:=zkn aS.out;go_wp2_with fail;refine(HBIG.out _ HB.out).mono ?_;rintro e3 w3 ⟨bg,rfl,hb⟩;clear x0 x1 x2 x3 y0 y1 y2
 replace HB:=zh (zkb HB.out hb)
 replace aX:=zh (zka aX.out hb)
 replace aS:=zh (zka aS.out hb)
 try replace fP:=zh (zka fP.out hb)
 try replace bE:=zh (zka bE.out hb)
 try replace bT:=zh (bT.out.later hb)
 try replace eT:=zh (eT.out.later hb)
 try replace HT:=zh (HT.out.later hb)
 clear hb;obtain⟨x0,x1,x2,x3⟩:=box4 aX.out;obtain⟨y0,y1,y2⟩:=zkn aS.out
 cases bg
 rotate_left 1
 ·go_wp2_with fail;go_ret;exact⟨rfl,HB.out⟩
 by_cases yT:40<vs.length
 ·have h40i:(40:Int)<(vs.length:Int):=by omega
  go_wp2_with fail;go_ret;exact⟨rfl,HB.out⟩
 have h40i:¬ (40:Int)<(vs.length:Int):=by omega
 go_wp2_with fail;refine(HCLO.out _ HB.out).mono ?_;rintro e4 w4 ⟨ov,rfl,ho,hb⟩;have HI:=zh (show s.I from by obtain⟨_,_,_,_,_,_,h⟩:=ho;exact h);have hso:=ho.svR iY.out;obtain⟨Ao,co,Bo,dO,Do,eo,rfl,-⟩:=(show ∃A c B d D e,ov=.agg #[.slice A s.cells.length c,.slice B s.tin.length d,.slice D s.tout.length e]/\True from by obtain⟨A,c,B,d,D,e,h,-⟩:=hso;exact⟨_,_,_,_,_,_,h,trivial⟩)
 have hko:=heap_alloc_new w4 (.cells #[.slice Ao s.cells.length co,.slice Bo s.tin.length dO,.slice Do s.tout.length eo] 34);have jq:=zkc (zs w4) (.cells #[.slice Ao s.cells.length co,.slice Bo s.tin.length dO,.slice Do s.tout.length eo] 34);have q9:=hso.any.later jq
 replace hb:=zkb hb jq
 clear x0 x1 x2 x3 y0 y1 y2;obtain⟨q0,q1,q2⟩:=zkn (heap_alloc_new w4 (.cells #[.slice none 0 0,.slice none 0 0,.slice none 0 0] 34));go_upto_region 6 with fail;obtain⟨w5,eF⟩:=zX (w4.alloc (.cells #[.slice Ao s.cells.length co,.slice Bo s.tin.length dO,.slice Do s.tout.length eo] 34));obtain⟨ob,aR⟩:=zX (w4.heap.size);rw[eF]at hko hb q9 ⊢;rw[aR]at hko ⊢
 replace HB:=zh (zkb HB.out hb)
 replace aX:=zh (zka aX.out hb)
 replace aS:=zh (zka aS.out hb)
 try replace fP:=zh (zka fP.out hb)
 try replace bE:=zh (zka bE.out hb)
 try replace bT:=zh (bT.out.later hb)
 try replace eT:=zh (eT.out.later hb)
 try replace HT:=zh (HT.out.later hb)
 clear hb;obtain⟨x0,x1,x2,x3⟩:=box4 aX.out;obtain⟨y0,y1,y2⟩:=zkn aS.out;have fP:=zh hko;have bT:=zh q9;clear hko q9 hso ho jq eF aR q0 q1 q2;have has:=fU.out _ _ HB.out bT.out;obtain⟨⟨R1,R2⟩,hR⟩:=zX (asgE vs (.nd k n nm ks) s);rw[hR]at has tu bG jg;have HAS:=zh has;clear has hR fU;obtain⟨o0,o1,o2⟩:=zkn fP.out;go_wp2_with fail;refine HAS.out.mono ?_;rintro e6 w6 ⟨hb,xv,rfl,hx,hxl⟩;simp only at hxl hx;have hsx:=hx.svR hxl;obtain⟨Ax,cx,Bx,dx,Dx,ex,rfl,-⟩:=(show ∃A c B d D e,xv=.agg #[.slice A R2.cells.length c,.slice B R2.tin.length d,.slice D R2.tout.length e]/\True from by obtain⟨A,c,B,d,D,e,h,-⟩:=hsx;exact⟨_,_,_,_,_,_,h,trivial⟩)
 have hkx:=heap_alloc_new w6 (.cells #[.slice Ax R2.cells.length cx,.slice Bx R2.tin.length dx,.slice Dx R2.tout.length ex] 34);have jq:=zkc (zs w6) (.cells #[.slice Ax R2.cells.length cx,.slice Bx R2.tin.length dx,.slice Dx R2.tout.length ex] 34);have qY:=hsx.any.later jq
 replace hb:=zkb hb jq
 clear x0 x1 x2 x3 y0 y1 y2;clear o0 o1 o2 HAS;obtain⟨q0,q1,q2⟩:=zkn (heap_alloc_new w6 (.cells #[.slice none 0 0,.slice none 0 0,.slice none 0 0] 34));go_upto_region 7 with fail;obtain⟨w7,hw7⟩:=zX (w6.alloc (.cells #[.slice Ax R2.cells.length cx,.slice Bx R2.tin.length dx,.slice Dx R2.tout.length ex] 34));obtain⟨xb,hxb⟩:=zX (w6.heap.size);rw[hw7]at hkx hb qY ⊢;rw[hxb]at hkx ⊢
 replace HB:=zh (zkb HB.out hb)
 replace aX:=zh (zka aX.out hb)
 replace aS:=zh (zka aS.out hb)
 try replace fP:=zh (zka fP.out hb)
 try replace bE:=zh (zka bE.out hb)
 try replace bT:=zh (bT.out.later hb)
 try replace eT:=zh (eT.out.later hb)
 try replace HT:=zh (HT.out.later hb)
 clear hb;obtain⟨x0,x1,x2,x3⟩:=box4 aX.out;obtain⟨y0,y1,y2⟩:=zkn aS.out;have bE:=zh hkx;have eT:=zh qY;clear hkx qY hsx hx hxl jq hw7 hxb q0 q1 q2;obtain⟨o0,o1,o2⟩:=zkn fP.out;obtain⟨z0,z1,z2⟩:=zkn bE.out;have dN:=zh (lH.out _ s s _ _ bT.out (jV.out _ HB.out));rw[show eqS s s=true by simp[eqS]]at dN;have hbz:=bStZ;go_wp2_with fail;refine dN.out.mono ?_;rintro e8 w8 ⟨rfl,hb⟩;clear dN;clear x0 x1 x2 x3 y0 y1 y2;clear o0 o1 o2 z0 z1 z2
 replace HB:=zh (zkb HB.out hb)
 replace aX:=zh (zka aX.out hb)
 replace aS:=zh (zka aS.out hb)
 try replace fP:=zh (zka fP.out hb)
 try replace bE:=zh (zka bE.out hb)
 try replace bT:=zh (bT.out.later hb)
 try replace eT:=zh (eT.out.later hb)
 try replace HT:=zh (HT.out.later hb)
 clear hb;obtain⟨x0,x1,x2,x3⟩:=box4 aX.out;obtain⟨y0,y1,y2⟩:=zkn aS.out;obtain⟨o0,o1,o2⟩:=zkn fP.out;obtain⟨z0,z1,z2⟩:=zkn bE.out;by_cases h0:R1=0;rotate_left 1;have e0:(R1 != 0)=true:=by simpa using h0
 have hnil:=tu.out h0;have HE2:=zh (lH.out _ R2 nilS _ _ eT.out (zxz _ Any));rw[show eqS R2 nilS=true by rw[hnil];decide]at HE2;clear hnil;go_wp2_with fail;refine HE2.out.mono ?_;rintro e9 w9 ⟨rfl,hb⟩;clear HE2;clear x0 x1 x2 x3 y0 y1 y2;clear o0 o1 o2 z0 z1 z2
 replace HB:=zh (zkb HB.out hb)
 replace aX:=zh (zka aX.out hb)
 replace aS:=zh (zka aS.out hb)
 try replace fP:=zh (zka fP.out hb)
 try replace bE:=zh (zka bE.out hb)
 try replace bT:=zh (bT.out.later hb)
 try replace eT:=zh (eT.out.later hb)
 try replace HT:=zh (HT.out.later hb)
 clear hb;obtain⟨x0,x1,x2,x3⟩:=box4 aX.out;obtain⟨y0,y1,y2⟩:=zkn aS.out;go_wp2_with fail;clear e0;rotate_left 1;have e0:(R1 != 0)=false:=by simpa using h0
 go_wp2_with fail;clear e0 o0 o1 o2 z0 z1 z2
 all_goals
  obtain⟨bf,hbf⟩:=zX (fitB vs s);rw[hbf]at bG qa;have kv:=zh hbf;clear hbf;refine(qa.out _ HB.out).mono ?_;rintro ea wa ⟨rfl,hb⟩;clear x0 x1 x2 x3 y0 y1 y2
  replace HB:=zh (zkb HB.out hb)
  replace aX:=zh (zka aX.out hb)
  replace aS:=zh (zka aS.out hb)
  try replace fP:=zh (zka fP.out hb)
  try replace bE:=zh (zka bE.out hb)
  try replace bT:=zh (bT.out.later hb)
  try replace eT:=zh (eT.out.later hb)
  try replace HT:=zh (HT.out.later hb)
  clear hb;obtain⟨x0,x1,x2,x3⟩:=box4 aX.out;obtain⟨y0,y1,y2⟩:=zkn aS.out
  cases bf
  ·have h3:R1=3:=by have:=bG.out;rw[if_pos (.inl rfl)]at this;injection this
   subst h3;go_wp2_with fail;go_ret;exact⟨rfl,HB.out⟩
  obtain⟨bs,hbs⟩:=zX (isS (.nd k n nm ks));rw[hbs]at bG HIS;have iF:=zh hbs;clear hbs;go_wp2_with fail;refine(HIS.out _ HB.out).mono ?_;rintro ec wc ⟨rfl,hb⟩;clear x0 x1 x2 x3 y0 y1 y2
  replace HB:=zh (zkb HB.out hb)
  replace aX:=zh (zka aX.out hb)
  replace aS:=zh (zka aS.out hb)
  try replace fP:=zh (zka fP.out hb)
  try replace bE:=zh (zka bE.out hb)
  try replace bT:=zh (bT.out.later hb)
  try replace eT:=zh (eT.out.later hb)
  try replace HT:=zh (HT.out.later hb)
  clear hb;obtain⟨x0,x1,x2,x3⟩:=box4 aX.out;obtain⟨y0,y1,y2⟩:=zkn aS.out
  cases bs
  ·have h3:R1=3:=by have:=bG.out;rw[if_pos (.inr rfl)]at this;injection this
   subst h3;go_wp2_with fail;go_ret;exact⟨rfl,HB.out⟩
  replace bG:=zh (bG.out.trans (if_neg (by simp)))
  obtain⟨bb,hbb⟩:=zX (basB k);rw[hbb]at nI;have dA:=zh hbb;clear hbb;go_wp2_with fail;refine(nI.out _ HB.out).mono ?_;rintro ed wd ⟨rfl,hb⟩;clear x0 x1 x2 x3 y0 y1 y2
  replace HB:=zh (zkb HB.out hb)
  replace aX:=zh (zka aX.out hb)
  replace aS:=zh (zka aS.out hb)
  try replace fP:=zh (zka fP.out hb)
  try replace bE:=zh (zka bE.out hb)
  try replace bT:=zh (bT.out.later hb)
  try replace eT:=zh (eT.out.later hb)
  try replace HT:=zh (HT.out.later hb)
  clear hb;obtain⟨x0,x1,x2,x3⟩:=box4 aX.out;obtain⟨y0,y1,y2⟩:=zkn aS.out;by_cases iV:k=56;rotate_left 1
  ·have e56:(k != 56)=true:=by simpa using iV
   replace bG:=zh (bG.out.trans (if_neg iV))
   cases bb
   ·have h7:R1=7:=by
     have h9:(doE (newS vs s) (.nd k n nm ks)).1=7:=do_7 iF.out iV dA.out;have:=bG.out;rw[if_pos (by rw[h9];simp),h9]at this;injection this
    subst h7
    first
     | exact absurd h0 (by decide)
     | (go_wp2_with fail;go_ret;exact⟨rfl,HB.out⟩)
   clear e56;obtain⟨n0,hn0⟩:=zX (wd.heap.size);have cZ:=zh (eT.out.keep (S':=fun b=>b<n0) (fun b _ h=>by omega) fun _ _ _=>rfl);have wY:=zh (And.intro (show N<n0 from by rw[<-hn0];exact zki aX.out) (show xb<n0 from by rw[<-hn0];exact zki bE.out));go_wp2_with fail;refine(iA.out _ s _ HB.out (jV.out _ HB.out)).mono ?_;rintro eg wg ⟨hb,⟨hf,-⟩|⟨hf,P,rfl,gz⟩⟩
   ·rw[kv.out]at hf;cases hf
   have HT:=zh (KS.new (w:=W) HB.out hb gz);rw[hn0]at HT;clear hn0 gz hf;clear x0 x1 x2 x3 y0 y1 y2
   replace HB:=zh (zkb HB.out hb)
   replace aX:=zh (zka aX.out hb)
   replace bE:=zh (zka bE.out hb)
   replace cZ:=zh (cZ.out.later hb)
   try replace aS:=zh (zka aS.out hb)
   clear hb;obtain⟨x0,x1,x2,x3⟩:=box4 aX.out;go_wp2_with fail;refine(nI.out _ HB.out).mono ?_;rintro eh wh ⟨rfl,hb⟩;clear x0 x1 x2 x3
   replace HB:=zh (zkb HB.out hb)
   replace aX:=zh (zka aX.out hb)
   replace bE:=zh (zka bE.out hb)
   replace cZ:=zh (cZ.out.later hb)
   try replace aS:=zh (zka aS.out hb)
   replace HT:=zh (HT.out.later hb)
   clear hb;obtain⟨x0,x1,x2,x3⟩:=box4 aX.out;go_wp2_with fail;have ji:=zh (HT.out.do_ (.nd k n nm ks) _ (kL.out _ HB.out));obtain⟨⟨f,S6⟩,hR⟩:=zX (doE (newS vs s) (.nd k n nm ks));rw[hR]at ji bG;simp only at bG;clear hR;refine ji.out.mono ?_;rintro ej wj ⟨rfl,hks,hkp⟩;simp only;have gU:=zh hks;have pF:=zh (cZ.out.keep (S':=Any) (w':=wj) (fun _ _ _=>trivial) fun b h hlt=>hkp.kept b hlt (.inl h));have hx6:=hkp.blk (.inl wY.out.2) bE.out;have hcd:=Below.drew (zs wj);have wI:=zh (fun w' (hb:Below wj.heap.size wj w')=>show(fun w':World=>zN3 w' xb (.slice Ax R2.cells.length cx) (.slice Bx R2.tin.length dx) (.slice Dx R2.tout.length ex)) w' from zkn (zka hx6 hb));have HST:=zh (hks.later hcd).state;have fE:=zh hks.bl;have HLM6:=zh (znQ hks.wf).2.1;clear x0 x1 x2 x3 hks hkp hx6 ji HT;go_upto_region 16 with fail
   have hSS:zW (fun w':World=>zN3 w' xb (.slice Ax R2.cells.length cx) (.slice Bx R2.tin.length dx) (.slice Dx R2.tout.length ex)) zU wj.drew:=⟨wI.out _ hcd,trivial⟩
   refine wp_region_noPanic ?_;refine zG hSS 30 ?_;by_cases hf0:f=0
   ·have h1:R1=0/\R2=S6.state:=by
     have:=bG.out;rw[if_neg (by simpa using hf0)]at this;injection this with a b;exact⟨a,b⟩
    have h00:=h1.1;have h01:=h1.2;clear h1;(try exact absurd h00 h0)
    all_goals
     rw[<-h01]at HST;have H01:=zh h01;clear h01;clear h0;subst hf0 h00;have e0:((0:Int) != 0)=false:=by simp
     have e1:((0:Int)==0)=true:=by simp
     refine zT 0 hSS ?_;refine zT 1 hSS ?_;refine zT 2 hSS ?_;refine zT 3 hSS ?_;refine zT 4 hSS ?_;refine zT 5 hSS ?_;refine zT 6 hSS ?_;refine zT 7 hSS ?_;refine zT 8 hSS ?_;have had:Calls Tryz.prog 28 [.pointer (some ⟨P.sb,0,none⟩)].toArray wj.drew fun e W'=>∃u,e=.returned u/\(OwnS W' wj.drew.heap.size R2 u/\Below wj.drew.heap.size wj.drew W') :=
      HST.out.mono fun e W' ⟨v,h1,h2,h3⟩=>⟨v,h1,h2,h3⟩
     refine zo 9 fun K hK=>?_;refine zk3 (by rfl) (.func 28) [.tmp 100] _ (by rfl) 28 _ zrc (by rfl) _ (by rfl) _ had ?_;rintro v8 w8 ⟨mo,cK⟩;have bF:=zh (show Below wj.heap.size wj w8 from zr.drew.trans cK);have yN:=zV hSS (wI.out _ bF.out) trivial;have had:Calls Tryz.prog 17 [.agg #[.slice Ax R2.cells.length cx,.slice Bx R2.tin.length dx,.slice Dx R2.tout.length ex],v8].toArray w8 fun e W'=>∃u,e=.returned u/\(u=.bool true/\Below w8.heap.size w8 W') :=
      (lH.out _ R2 R2 _ _ (pF.out.later bF.out) (mo.sv (H01.out▸HLM6.out))).mono fun e W' ⟨h1,h2⟩=>⟨_,h1,by rw[show eqS R2 R2=true by simp[eqS]],h2⟩
     refine hK.out _ _ yN ?_;clear hK K mo cK hSS HST;(try simp only[zQ]);refine zo 10 fun K hK=>?_;refine zk3 (by rfl) (.func 17) [.tmp 99,.tmp 101] _ (by rfl) 17 _ zwW (by rfl) _ (by rfl) _ had ?_;rintro v9 w9 ⟨rfl,aF⟩;have aW:=zh (zkb bF.out aF);have sw:=zV yN (wI.out _ aW.out) trivial;refine hK.out _ _ sw ?_;clear hK K had aF yN;(try simp only[zQ]);refine zT 11 sw ?_;refine zT 12 sw ?_;refine zT 13 sw ?_;refine zd ?_;refine NoPanic.normal ?_;clear sw;go_wp2_with fail;go_ret;exact⟨rfl,zkb fE.out aW.out⟩
   ·have h1:R1=f:=by
     have:=bG.out;rw[if_pos hf0]at this;injection this
    have h2:R1≠0:=fun e=>hf0 (h1▸e);(try exact absurd h0 h2)
    all_goals
     subst h1;clear h0;have e0:(R1 != 0)=true:=by simpa using h2
     have e1:(R1==0)=false:=by simpa using h2
     refine zT 0 hSS ?_;refine zT 1 hSS ?_;refine zT 2 hSS ?_;refine zT 3 hSS ?_;refine zT 4 hSS ?_;refine zT 5 hSS ?_;refine zT 6 hSS ?_;refine zkp (i:=7) (v:=undef) rfl (by kernel_rfl) (by kernel_rfl) (by kernel_rfl) (by decide) (fun _ _ _ h=>h) (Or.inr ⟨by rfl,rfl⟩) hSS ?_;(try simp only[zQ]);refine zkp (i:=8) (v:=undef) rfl (by kernel_rfl) (by kernel_rfl) (by kernel_rfl) (by decide) (fun _ _ _ h=>h) (Or.inr ⟨by rfl,rfl⟩) hSS ?_;(try simp only[zQ]);refine zkp (i:=9) (v:=undef) rfl (by kernel_rfl) (by kernel_rfl) (by kernel_rfl) (by decide) (fun _ _ _ h=>h) (Or.inr ⟨by rfl,rfl⟩) hSS ?_;(try simp only[zQ]);refine zkp (i:=10) (v:=undef) rfl (by kernel_rfl) (by kernel_rfl) (by kernel_rfl) (by decide) (fun _ _ _ h=>h) (Or.inr ⟨by rfl,rfl⟩) hSS ?_;(try simp only[zQ]);refine zT 11 hSS ?_;refine zT 12 hSS ?_;refine zT 13 hSS ?_;refine zd ?_;refine NoPanic.normal ?_
     clear hSS;go_wp2_with fail;go_ret;exact⟨rfl,zkb fE.out (Below.drew (zs wj))⟩
  ·subst iV;obtain rfl:bb=false:=by rw[<-dA.out];rfl
   obtain⟨n0,hn0⟩:=zX (wd.heap.size);have cZ:=zh (eT.out.keep (S':=fun b=>b<n0) (fun b _ h=>by omega) fun _ _ _=>rfl);have wY:=zh (show N<n0/\xb<n0/\N+1<n0 from by rw[<-hn0];exact⟨zki aX.out,zki bE.out,zki aS.out⟩);go_wp2_with fail;refine(iA.out _ s _ HB.out (jV.out _ HB.out)).mono ?_;rintro eg wg ⟨hb,⟨hf,-⟩|⟨hf,P,rfl,gz⟩⟩
   ·rw[kv.out]at hf;cases hf
   have HT:=zh (KS.new (w:=W) HB.out hb gz);rw[hn0]at HT;clear hn0 gz hf;clear x0 x1 x2 x3 y0 y1 y2
   replace HB:=zh (zkb HB.out hb)
   replace aX:=zh (zka aX.out hb)
   replace bE:=zh (zka bE.out hb)
   replace cZ:=zh (cZ.out.later hb)
   try replace aS:=zh (zka aS.out hb)
   clear hb;obtain⟨x0,x1,x2,x3⟩:=box4 aX.out;go_wp2_with fail;refine(nI.out _ HB.out).mono ?_;rintro eh wh ⟨rfl,hb⟩;clear x0 x1 x2 x3
   replace HB:=zh (zkb HB.out hb)
   replace aX:=zh (zka aX.out hb)
   replace bE:=zh (zka bE.out hb)
   replace cZ:=zh (cZ.out.later hb)
   try replace aS:=zh (zka aS.out hb)
   replace HT:=zh (HT.out.later hb)
   clear hb;obtain⟨x0,x1,x2,x3⟩:=box4 aX.out;obtain⟨q0,q1,q2,q3⟩:=box4 (heap_alloc_new wh (.cells #[.int .u8 0,.int .i64 0,.string ByteArray.empty,.slice none 0 0] 24));go_upto_region 19 with fail;have hkl:=heap_alloc_new wh (.cells #[.int .u8 40,.int .i64 n,.string nm,.slice A3 ks.length c3] 24);obtain⟨wi,uC⟩:=zX (wh.alloc (.cells #[.int .u8 40,.int .i64 n,.string nm,.slice A3 ks.length c3] 24));have hb:Below wh.heap.size wh wi:=by rw[<-uC];exact zkc zr _
   obtain⟨lb,hlb⟩:=zX (wh.heap.size);rw[uC]at hkl ⊢;rw[hlb]at hkl ⊢;clear x0 x1 x2 x3 q0 q1 q2 q3
   replace HB:=zh (zkb HB.out hb)
   replace aX:=zh (zka aX.out hb)
   replace bE:=zh (zka bE.out hb)
   replace cZ:=zh (cZ.out.later hb)
   try replace aS:=zh (zka aS.out hb)
   replace HT:=zh (HT.out.later hb)
   clear hb uC hlb;have hw:=HT.out.wf;have ji:=zh (HT.out.do_ (.nd 40 n nm ks) _ (NV.kind (kL.out _ HB.out) (by decide)));obtain⟨p,q,hpq,hp,hq,ru⟩:=zwg iF.out rfl;have tH:=zh (fun h=>zwB (n:=n) (nm:=nm) (q:=q) hw kv.out hp h)
   replace bG:=zh (bG.out.trans (if_pos trivial))
   have hset:(doE (newS vs s) (.nd 40 n nm ks)).1≠0->setE vs s (.nd 56 n nm ks)=((doE (newS vs s) (.nd 40 n nm ks)).1,nilS):=fun h=>by unfold setE;simp only;rw[if_pos h]
   clear hw hp hq ru;subst hpq;obtain⟨⟨f,S6⟩,hR⟩:=zX (doE (newS vs s) (.nd 40 n nm [p,q]));rw[hR]at ji tH hset;have jW:=zh hset;clear hR hset;obtain⟨x0,x1,x2,x3⟩:=box4 hkl;go_wp2_with fail;clear x0 x1 x2 x3;refine ji.out.mono ?_;rintro ej wj ⟨rfl,hks,hkp⟩;simp only;have tJ:=zh (hkp.blk (.inl wY.out.2.1) bE.out);have HKN6:=zh (hkp.blk (.inl wY.out.1) aX.out);have gU:=zh (hkp.blk (.inl wY.out.2.2) aS.out);have pF:=zh (cZ.out.keep (S':=Any) (w':=wj) (fun _ _ _=>trivial) fun b h hlt=>hkp.kept b hlt (.inl h));have fE:=zh hks.bl;clear hks hkp ji HT cZ bE aX aS hkl;by_cases hf0:f=0;rotate_left 1
   ·have h1:R1=f:=by
     have:=bG.out.trans (jW.out hf0);injection this
    have h2:R1≠0:=fun e=>hf0 (h1▸e);(try exact absurd h0 h2)
    all_goals
     subst h1;have e0:(R1 != 0)=true:=by simpa using h2
     have e1:(R1==0)=false:=by simpa using h2
     go_wp2_with fail;go_ret;exact⟨rfl,fE.out⟩
   subst hf0;obtain⟨i,a,hi,hil,hind,hexp,hal,hse⟩:=tH.out rfl;have h12:R1=0/\R2=putC s i a (zk7 (newS vs s).look q).1:=by
    have:=bG.out.trans hse;injection this with h1 h2;exact⟨h1,h2⟩
   clear tH jW hse;have h1:=h12.1;have H2:=zh h12.2;clear h12;(try exact absurd h1 h0)
   all_goals
    clear h0;subst h1;have HI2:=zh hi;have pX:=zh hil;have HIND:=zh hind;have ug:=zh hexp;have gZ:=zh hal;clear hi hil hind hexp hal;obtain⟨y0,y1,y2⟩:=zkn gU.out;obtain⟨x0,x1,x2,x3⟩:=box4 HKN6.out;obtain⟨z0,z1,z2⟩:=zkn tJ.out;go_wp2_with fail;clear x0 x1 x2 x3 y0 y1 y2 z0 z1 z2;refine(iA.out _ s _ fE.out (jV.out _ fE.out)).mono ?_;rintro ek wk ⟨hb,⟨hf,-⟩|⟨hf,Pu,rfl,gz⟩⟩
    ·rw[kv.out]at hf;cases hf
    have HU:=zh (KS.new (w:=W) fE.out hb gz);have hw:=HU.out.wf;have di:=zh (zka HKN6.out hb);have aj:=zh (zkb fE.out hb);have HC:=zh hb;clear hb gz hf;obtain⟨hlc,hrow⟩:=aa.out;obtain⟨ka,u,A4,c4,rfl,ha2,Hu,⟨q0,q1,q2,q3⟩,hnu⟩:=hrow.nd (i:=0) (by simp);obtain⟨a',u',A5,c5,e4,xI,Hu',⟨r0,r1,r2,r3⟩,hnu'⟩:=hrow.nd (i:=1) (by simp);injection e4 with e4;subst e4;simp only[Nat.zero_mul,Nat.one_mul,Addr.add_zero']at q0 q1 q2 q3 r0 r1 r2 r3;have rW:ka.add 4=⟨ka.block,ka.off+4,none⟩:=by simp[Addr.add]
    simp only[rW]at r0 r1 r2 r3;have yR:p=u:=Hu.out;have sH:q=u':=Hu'.out;subst yR sH;obtain⟨pk,pn,ps,pks⟩:=p;obtain⟨qk,qn,qs,qks⟩:=q;simp only[T.k_nd,T.n_nd,T.s_nd,T.ks_nd]at q0 q1 q2 q3 r0 r1 r2 r3 HI2;have qK:=zh (And.intro q0 (And.intro q1 (And.intro q2 q3)));have HKQ:=zh (And.intro r0 (And.intro r1 (And.intro r2 r3)));have iB:=zh (fun w' (hb:Below W.heap.size W w') (h:KS W wj.heap.size Pu.sb (fun _=>False) w' (newS vs s))=>zl5 (zrV W wj.heap.size Pu.sb (fun _=>False) (newS vs s) hw) (.nd pk pn ps pks) _ w' (hnu.later hb) h);have iD:=zh (fun w' (hb:Below W.heap.size W w') (h:KS W wj.heap.size Pu.sb (fun _=>False) w' (newS vs s))=>zne (zrV W wj.heap.size Pu.sb (fun _=>False) (newS vs s) hw) (.nd qk qn qs qks) _ w' (hnu'.later hb) h);obtain⟨⟨xv,ev⟩,hxv⟩:=zX (zk7 (newS vs s).look (.nd qk qn qs qks));rw[HIND.out]at iB;rw[hxv]at iD ug H2
    obtain rfl:ev=0:=ug.out;simp only at H2 iB iD
    replace q0:=zb aj.out q0
    replace q1:=zb aj.out q1
    replace q2:=zb aj.out q2
    replace q3:=zb aj.out q3
    replace r0:=zb aj.out r0
    replace r1:=zb aj.out r1
    replace r2:=zb aj.out r2
    replace r3:=zb aj.out r3
    obtain⟨x0,x1,x2,x3⟩:=box4 di.out;clear hxv hnu hnu' hrow hlc ha2 xI Hu Hu' ug;go_wp2_with fail;clear x0 x1 x2 x3 q0 q1 q2 q3 r0 r1 r2 r3;refine(iD.out _ aj.out HU.out).mono ?_;rintro el wl ⟨rfl,hb⟩;clear iD
    replace aj:=zh (zkb aj.out hb)
    replace HU:=zh (HU.out.later hb)
    replace di:=zh (zka di.out hb)
    replace HC:=zh (zkb HC.out hb)
    try replace HA:=zh (HA.out.later hb)
    clear hb;obtain⟨x0,x1,x2,x3⟩:=box4 di.out;obtain⟨q0,q1,q2,q3⟩:=qK.out
    replace q0:=zb aj.out q0
    replace q1:=zb aj.out q1
    replace q2:=zb aj.out q2
    replace q3:=zb aj.out q3
    go_wp2_with fail;clear x0 x1 x2 x3 q0 q1 q2 q3;refine(iB.out _ aj.out HU.out).mono ?_;rintro em wm ⟨rfl,hb⟩;clear iB
    replace aj:=zh (zkb aj.out hb)
    replace HU:=zh (HU.out.later hb)
    replace di:=zh (zka di.out hb)
    replace HC:=zh (zkb HC.out hb)
    try replace HA:=zh (HA.out.later hb)
    clear hb;obtain⟨z0,z1,z2⟩:=zkn (zka tJ.out HC.out);have hfx:fitB vs R2=true:=jg.out trivial HI.out;go_wp2_with fail;clear z0 z1 z2;refine(iA.out _ R2 _ aj.out (pF.out.later HC.out)).mono ?_;rintro eo2 wo ⟨hb,⟨hf,-⟩|⟨hf,Pa,rfl,gz⟩⟩
    ·rw[hfx]at hf;cases hf
    have HA:=zh (KS.new (w:=W) aj.out hb gz)
    replace aj:=zh (zkb aj.out hb)
    replace HU:=zh (HU.out.later hb)
    replace di:=zh (zka di.out hb)
    replace HC:=zh (zkb HC.out hb)
    have qc:=zh hfx;clear hb gz hf hfx;obtain⟨x0,x1,x2,x3⟩:=box4 di.out;obtain⟨q0,q1,q2,q3⟩:=qK.out
    replace q0:=zb aj.out q0
    replace q1:=zb aj.out q1
    replace q2:=zb aj.out q2
    replace q3:=zb aj.out q3
    have hlen:s.cells.length=vs.length:=(zlo kv.out).2.1;have hcell:R2.cells.getD i []=(s.cells.getD i []).set a xv:=by
     rw[H2.out];simp only[putC,List.getD_eq_getElem?_getD,List.getElem?_set_self (show i<s.cells.length by have:=pX.out;omega),Option.getD_some]
    have iK:=(zq7 (vs:=vs) (s:=R2) HI2.out).trans (congrArg some hcell);have tF:=zh iK;clear iK hcell hlen;go_wp2_with fail;clear x0 x1 x2 x3 q0 q1 q2 q3;refine(HA.out.cell ps).mono ?_;rintro ep wp ⟨vl,l,bl,rfl,hlk,-,ho,hfl,hb⟩;rw[tF.out]at hlk
    cases bl
    ·cases hlk
    rw[if_pos rfl]at hlk;injection hlk with hlk;obtain⟨Al,cl,rfl,hlc,hrl⟩:=zo3 ho hfl;have hal:a<l.length:=by rw[<-hlk,List.length_set];exact gZ.out
    obtain⟨La,rfl,il⟩:=hrl.nd hal;rw[show l.getD a 0=xv by rw[<-hlk,List.getD_eq_getElem?_getD,List.getElem?_set_self gZ.out];rfl]at il;obtain⟨ll,hll⟩:=zX (l.length);rw[hll]at hal hlc ⊢;have hali:(a:Int)<(ll:Int):=by omega
    have yh:=zh (And.intro il hal)
    replace aj:=zh (zkb aj.out hb)
    replace HU:=zh (HU.out.later hb)
    replace di:=zh (zka di.out hb)
    replace HC:=zh (zkb HC.out hb)
    try replace HA:=zh (HA.out.later hb)
    clear hb hlk ho hfl hrl hll il hlc tF HA;obtain⟨il,hal⟩:=yh.out;have hge:¬ (ll:Int)<=(a:Int):=by omega
    go_upto_region 33 with fail;clear il hal hge hali yh;obtain⟨x0,x1,x2,x3⟩:=box4 di.out;obtain⟨q0,q1,q2,q3⟩:=qK.out
    replace q0:=zb aj.out q0
    replace q1:=zb aj.out q1
    replace q2:=zb aj.out q2
    replace q3:=zb aj.out q3
    have iK:=zq7 (vs:=vs) (s:=s) HI2.out;have tF:=zh iK;clear iK;go_wp2_with fail;clear x0 x1 x2 x3 q0 q1 q2 q3;refine(HU.out.cell ps).mono ?_;rintro eq2 wq ⟨vl,l2,bl,rfl,hlk,-,ho,hfl,hb⟩;rw[tF.out]at hlk
    cases bl
    ·cases hlk
    rw[if_pos rfl]at hlk;injection hlk with hlk;obtain⟨Ao2,co2,rfl,hlc,hrl⟩:=zo3 ho hfl;have hal:a<l2.length:=by rw[<-hlk];exact gZ.out
    have hci:=hrl.nd hal;obtain⟨u2,hu2⟩:=zX (l2.getD a 0);rw[hu2]at hci;obtain⟨Lb,rfl,il⟩:=hci;obtain⟨lm,hlm⟩:=zX (l2.length);rw[hlm]at hal hlc ⊢;have hali:(a:Int)<(lm:Int):=by omega
    have nD:=zh (show(zpo s R2).length=if u2≠xv then 1 else 0 from by
     rw[H2.out,zvn xv (by have:=(zlo kv.out).2.1;have:=pX.out;omega) gZ.out,hlk,hu2])
    replace aj:=zh (zkb aj.out hb)
    replace HU:=zh (HU.out.later hb)
    replace di:=zh (zka di.out hb)
    replace HC:=zh (zkb HC.out hb)
    try replace HA:=zh (HA.out.later hb)
    have hks:=zka gU.out HC.out;have hkx:=zka tJ.out HC.out;clear hb hlk ho hfl hrl hlm hu2 hlc tF;have fT:=zh (zv4 s R2 _ _ wq (jV.out _ aj.out) (pF.out.later HC.out) (ztj kv.out) (ztj qc.out));obtain⟨z0,z1,z2⟩:=zkn hkx;obtain⟨y0,y1,y2⟩:=zkn hks;clear hks hkx;by_cases hne:u2=xv;rotate_left 1
    ·have e0:(u2 != xv)=true:=by simpa using hne
     have e1:(u2==xv)=false:=by simpa using hne
     rw[if_pos hne]at nD;clear hne;go_wp2_with fail;refine fT.out.mono ?_;rintro er wr ⟨vd,rfl,hdi,hb⟩;obtain⟨Ad,cd,rfl,-⟩:=zkd hdi.1;rw[nD.out];clear hdi fT nD HU;go_wp2_with fail;go_ret;exact⟨rfl,zkb aj.out hb⟩
    ·subst hne;rw[if_neg (by simp)]at nD;go_wp2_with fail;refine fT.out.mono ?_;rintro er wr ⟨vd,rfl,hdi,hb⟩;obtain⟨Ad,cd,rfl,-⟩:=zkd hdi.1;rw[nD.out];clear hdi fT nD HU;go_wp2_with fail;go_ret;exact⟨rfl,zkb aj.out hb⟩
section
variable {P:Program} {md:Region.Mode} {ops:Array Oper} {Q:Exit->Act->World->Prop} {S1 S2:World->Prop} {k:Nat}
theorem zlJ{i j:Nat}{oi oj:Oper}(si sj:Option Nat)(n:Nat)(L:Bool->Bool->Array Bool)(a0:Act)(Inv:World->Prop)(Al Fact:Value->World->Prop)
  (hoi:ops[i]?=some oi)(hoj:ops[j]?=some oj)(hdi:oi.dst=si)(hdj:oj.dst=sj)(hr0:Region.ready md ops (L false false)=[i,j])(hr1:Region.ready md ops (L false true)=[i])
  (hLi:∀l4,(L false l4).setIfInBounds i true=L true l4)(hLj:(L false false).setIfInBounds j true=L false true)
  (hS:∀w,Inv w->S1 w/\S2 w)(hInv:∀w w',Inv w->Below w.heap.size w w'->Inv w')(hAl:∀u w w',Al u w->Below w.heap.size w w'->Al u w')
  (hi:∀(v4:Value) (K:Act->World->Prop) (w:World),Inv w->Shut (∀v w',Below w.heap.size w w'->Fact v w'->K ((a0.put sj v4).put si v) w')->if Region.wanted oi (yielded ops (a0.put sj v4).tmps)=true then Oper.wp P oi (a0.put sj v4) w K Q else K ((a0.put sj v4).put si undef) w)
  (hj:∀(v4:Value) (K:Act->World->Prop) (w:World),Inv w->Shut (∀v w',Below w.heap.size w w'->Al v w'->K ((a0.put sj v4).put sj v) w')->if Region.wanted oj (yielded ops (a0.put sj v4).tmps)=true then Oper.wp P oj (a0.put sj v4) w K Q else K ((a0.put sj v4).put sj undef) w)
  (vJ:∀u v,(a0.put sj u).put sj v=a0.put sj v)
  (hc:∀(l4:Bool) (v4 v:Value) (w:World),Inv w->Fact v w->(l4=true->Al v4 w)->(l4=false->v4=undef)->wpG P md ops Q S1 S2 k (n+(!l4).toNat) (L true l4) ((a0.put sj v4).put si v) w) :
  ∀(l4:Bool) (v4:Value) (w:World),Inv w->(l4=true->Al v4 w)->(l4=false->v4=undef)->a0.put sj v4=a0->wpG P md ops Q S1 S2 k (n+1+(!l4).toNat) (L false l4) a0 w:=by
 subst hdi hdj;have h1:∀(v4:Value) (w:World),Inv w->Al v4 w->wpG P md ops Q S1 S2 k (n+1) (L false true) (a0.put oj.dst v4) w:=by
  intro v4 w hI hA;refine⟨(fun h0=>by rw[hr1]at h0;cases h0),fun q hq=>?_⟩;rw[hr1]at hq;simp only[List.mem_singleton]at hq;subst hq;refine wpOp_step hoi fun K' hK=>hi v4 K' w hI ?_;intro v w' hb hF;have hI':=hInv _ _ hI hb;refine hK _ _ ⟨⟨(hS _ hI').1,fun _=>(hS _ hI').2⟩,?_⟩;rw[hLi];exact hc true v4 v w' hI' hF (fun _=>hAl _ _ _ hA hb) (fun h=>by cases h)
 intro l4 v4 w hI hA hU ha
 cases l4
 ·have hv:=hU rfl;refine⟨(fun h0=>by rw[hr0]at h0;cases h0),fun q hq=>?_⟩;rw[hr0]at hq;simp only[List.mem_cons,List.not_mem_nil,or_false]at hq;rcases hq with rfl|rfl
  ·refine wpOp_step hoi fun K' hK=>?_;rw[<-ha];refine hi v4 K' w hI ?_;intro v w' hb hF;have hI':=hInv _ _ hI hb;refine hK _ _ ⟨⟨(hS _ hI').1,fun _=>(hS _ hI').2⟩,?_⟩;rw[hLi];exact hc false v4 v w' hI' hF (fun h=>by cases h) (fun _=>hv)
  ·refine wpOp_step hoj fun K' hK=>?_;rw[<-ha];refine hj v4 K' w hI ?_;intro v w' hb hF;have hI':=hInv _ _ hI hb;refine hK _ _ ⟨⟨(hS _ hI').1,fun _=>(hS _ hI').2⟩,?_⟩;rw[hLj,vJ];exact h1 v w' hI' hF
 ·rw[<-ha];exact h1 v4 w hI (hA rfl)
theorem zo0{j:Nat}{oj:Oper}(sj:Option Nat)(n:Nat)(L:Bool->Array Bool)(a0:Act)(Inv:World->Prop)(Al:Value->World->Prop)
  (hoj:ops[j]?=some oj)(hdj:oj.dst=sj)(hr0:Region.ready md ops (L false)=[j])(hLj:(L false).setIfInBounds j true=L true)
  (hS:∀w,Inv w->S1 w/\S2 w)(hInv:∀w w',Inv w->Below w.heap.size w w'->Inv w')
  (hj:∀(v4:Value) (K:Act->World->Prop) (w:World),Inv w->Shut (∀v w',Below w.heap.size w w'->Al v w'->K ((a0.put sj v4).put sj v) w')->if Region.wanted oj (yielded ops (a0.put sj v4).tmps)=true then Oper.wp P oj (a0.put sj v4) w K Q else K ((a0.put sj v4).put sj undef) w)
  (vJ:∀u v,(a0.put sj u).put sj v=a0.put sj v)
  (hc:∀(v4:Value) (w:World),Inv w->Al v4 w->wpG P md ops Q S1 S2 k n (L true) (a0.put sj v4) w) :
  ∀(l4:Bool) (v4:Value) (w:World),Inv w->(l4=true->Al v4 w)->a0.put sj v4=a0->wpG P md ops Q S1 S2 k (n+(!l4).toNat) (L l4) a0 w:=by
 subst hdj;intro l4 v4 w hI hA ha
 cases l4
 ·refine⟨(fun h0=>by rw[hr0]at h0;cases h0),fun q hq=>?_⟩;rw[hr0]at hq;simp only[List.mem_singleton]at hq;subst hq;refine wpOp_step hoj fun K' hK=>?_;rw[<-ha];refine hj v4 K' w hI ?_;intro v w' hb hF;have hI':=hInv _ _ hI hb;refine hK _ _ ⟨⟨(hS _ hI').1,fun _=>(hS _ hI').2⟩,?_⟩;rw[hLj,vJ];exact hc v w' hI' hF
 ·rw[<-ha];exact hc v4 w hI (hA rfl)
end
abbrev AlW(w0:World)(Z:Array Value)(E:TypeId)(u:Value)(w:World):Prop:=∃b,u=.pointer (some ⟨b,0,none⟩)/\w0.heap.size<=b/\w.heap[b]?=some (.cells Z E (0,0))
theorem bVdW(w:World):(Instr.build 76 #[(0,.string ⟨#[120]⟩),(1,.int .u8 1)]).run Tryz.prog w=.ok (.agg #[.string ⟨#[120]⟩,.int .u8 1,.int .i64 0]) w:=by kernel_rfl
theorem bSVW(a0 a1 a2:Value)(w:World):(Instr.buildSlice 25 1 #[(0,.agg #[a0,a1,a2])]).run Tryz.prog w=.ok (.slice (some ⟨w.heap.size,0,none⟩) 1 1) (w.alloc (.cells #[a0,a1,a2] 76)):=by kernel_rfl
theorem bBxW(w:World):(Instr.build 27 #[(0,.int .i64 1)]).run Tryz.prog w=.ok (.agg #[.int .i64 1,.int .i64 0,.int .i64 0]) w:=by kernel_rfl
theorem bXW(w:World):(Instr.build 24 #[(0,.int .u8 2),(2,.string ⟨#[120]⟩)]).run Tryz.prog w=.ok (.agg #[.int .u8 2,.int .i64 0,.string ⟨#[120]⟩,.slice none 0 0]) w:=by kernel_rfl
theorem zya(a0 a1 a2 a3 b0 b1 b2 b3:Value)(w:World):(Instr.buildSlice 22 2 #[(0,.agg #[a0,a1,a2,a3]),(1,.agg #[b0,b1,b2,b3])]).run Tryz.prog w=.ok (.slice (some ⟨w.heap.size,0,none⟩) 2 2) (w.alloc (.cells #[a0,a1,a2,a3,b0,b1,b2,b3] 24)):=by kernel_rfl
theorem bNkW(k:Int)(A:Option Addr)(l c:Nat)(w:World):(Instr.build 24 #[(0,.int .u8 k),(3,.slice A l c)]).run Tryz.prog w=.ok (nv k 0 ⟨#[]⟩ A l c) w:=by kernel_rfl
theorem fldW(k:Int)(hk:0<=k/\k<256):Fld k 0 ⟨#[]⟩:=⟨hk,⟨by omega,by omega⟩,by decide⟩
theorem fldX:Fld 2 0 ⟨#[120]⟩:=⟨⟨by omega,by omega⟩,⟨by omega,by omega⟩,by decide⟩
theorem fldN(n:Int)(h:I64 n):Fld 1 n ⟨#[]⟩:=⟨⟨by omega,by omega⟩,h,by decide⟩
theorem ztd:IsFn Tryz.prog 35 Tryz.f35:=⟨Tryz.func35,by kernel_rfl,by kernel_rfl⟩
theorem zxW:IsFn Tryz.prog 12 Tryz.f12:=⟨Tryz.func12,by kernel_rfl,by kernel_rfl⟩
theorem zero_pair{w:World}{p:Addr}{bb:Nat}{E:TypeId}{u:Value}(hz:w.heap[bb]?=some (.cells #[.slice none 0 0,.slice none 0 0,.slice none 0 0,.slice none 0 0,.slice none 0 0,.slice none 0 0] E (0,0)))(hp:p.block=bb)(h:w.cell? p=some u):u=.slice none 0 0:=by
 subst hp;obtain⟨b,o,m⟩:=p;simp only[World.cell?]at h hz
 cases m with
 | none =>
  simp only[hz]at h
  match o,h with
  | 0,h=>simp at h;exact h.symm
  | 1,h=>simp at h;exact h.symm
  | 2,h=>simp at h;exact h.symm
  | 3,h=>simp at h;exact h.symm
  | 4,h=>simp at h;exact h.symm
  | 5,h=>simp at h;exact h.symm
  | n+6,h=>simp at h
 | some x=>simp[hz]at h
theorem SV.nz6{w:World}{S:Nat->Prop}{bb:Nat}{E:TypeId}{x:Int}{v:Value}(hz:w.heap[bb]?=some (.cells #[.slice none 0 0,.slice none 0 0,.slice none 0 0,.slice none 0 0,.slice none 0 0,.slice none 0 0] E (0,0)))(h:SV w S ⟨[[x]],[],[]⟩ v):SV w (fun b=>S b/\b≠bb) ⟨[[x]],[],[]⟩ v:=by
 obtain⟨A,c,B,d,D,e,rfl,h1,h2,h3,h4⟩:=h;refine⟨A,c,B,d,D,e,rfl,fun i hi=>?_,(fun i hi=>by simp at hi),(fun i hi=>by simp at hi),h4⟩;obtain⟨a,A',c',hA,hS,hc,hl,hr⟩:=h1 i hi;obtain rfl:i=0:=by simpa using hi
 refine⟨a,A',c',hA,⟨hS,fun e=>?_⟩,hc,hl,fun j hj=>?_⟩
 ·have:=zero_pair hz (by rw[zkq];exact e) hc;simp at this
 ·obtain⟨a2,hA2,hS2,hc2,hi2⟩:=hr j hj;refine⟨a2,hA2,⟨hS2,fun e=>?_⟩,hc2,hi2⟩;have:=zero_pair hz (by rw[zkq];exact e) hc2
  cases this
theorem zxI{w:World}{b:Nat}(h:w.heap[b]?=some (.cells #[.string ⟨#[120]⟩,.int .u8 1,.int .i64 0] 76 (0,0))):RowV w Any (some ⟨b,0,none⟩) vsW:=zuC h (by
  intro v hv;simp only[vsW,List.mem_cons,List.not_mem_nil,or_false]at hv;subst hv;exact⟨by decide,⟨by decide,by decide⟩,by decide,by decide⟩)
theorem zero_st{w:World}{p:Addr}{bb:Nat}{E:TypeId}{u:Value}(hz:w.heap[bb]?=some (.cells #[.slice none 0 0,.slice none 0 0,.slice none 0 0] E (0,0)))(hp:p.block=bb)(h:w.cell? p=some u):u=.slice none 0 0:=by
 subst hp;obtain⟨b,o,m⟩:=p;simp only[World.cell?]at h hz
 cases m with
 | none =>
  simp only[hz]at h
  match o,h with
  | 0,h=>simp at h;exact h.symm
  | 1,h=>simp at h;exact h.symm
  | 2,h=>simp at h;exact h.symm
  | n+3,h=>simp at h
 | some x=>simp[hz]at h
theorem SV.nz3{w:World}{S:Nat->Prop}{bb:Nat}{E:TypeId}{x:Int}{v:Value}(hz:w.heap[bb]?=some (.cells #[.slice none 0 0,.slice none 0 0,.slice none 0 0] E (0,0)))(h:SV w S ⟨[[x]],[],[]⟩ v):SV w (fun b=>S b/\b≠bb) ⟨[[x]],[],[]⟩ v:=by
 obtain⟨A,c,B,d,D,e,rfl,h1,h2,h3,h4⟩:=h;refine⟨A,c,B,d,D,e,rfl,fun i hi=>?_,(fun i hi=>by simp at hi),(fun i hi=>by simp at hi),h4⟩;obtain⟨a,A',c',hA,hS,hc,hl,hr⟩:=h1 i hi;obtain rfl:i=0:=by simpa using hi
 refine⟨a,A',c',hA,⟨hS,fun e=>?_⟩,hc,hl,fun j hj=>?_⟩
 ·have:=zero_st hz (by rw[zkq];exact e) hc;simp at this
 ·obtain⟨a2,hA2,hS2,hc2,hi2⟩:=hr j hj;refine⟨a2,hA2,⟨hS2,fun e=>?_⟩,hc2,hi2⟩;have:=zero_st hz (by rw[zkq];exact e) hc2
  cases this
theorem zwG{W:World}{b:Nat}{E:TypeId}{l1:List Int}{A1:Option Addr}{c1:Nat}(h:W.heap[b]?=some (.cells #[.slice A1 l1.length c1] E (0,0)))(r1:RowI W Any A1 l1)(h1:l1.length<=c1):zmR W Any (some ⟨b,0,none⟩) [l1]:=fun i hi=>by
 match i,hi with
 | 0,_=>exact⟨⟨b,0,none⟩,A1,c1,rfl,trivial,zc h rfl,h1,r1⟩
theorem SV1W{W:World}{b q:Nat}{x:Int}(hx:I64 x)(h1:W.heap[b]?=some (.cells #[.slice (some ⟨q,0,none⟩) 1 1] 32 (0,0)))(h2:W.heap[q]?=some (.cells #[.int .i64 x] 3 (0,0))):SV W Any ⟨[[x]],[],[]⟩ (.agg #[.slice (some ⟨b,0,none⟩) 1 1,.slice none 0 0,.slice none 0 0]) :=
 ⟨_,1,none,0,none,0,rfl,zwG (l1:=[x]) h1 (zo4 h2 (by intro y hy;simp at hy;subst hy;exact hx)) (by simp),fun i hi=>by simp at hi,fun i hi=>by simp at hi,by simp,by simp,by simp,by simp[LI],by intro l hl;simp at hl;subst hl;simp[LI],by simp[LI],by simp[LI]⟩
theorem zxA{W:World}{b:Nat}{E:TypeId}{S:Nat->Prop}(hS:S b){t1 t2:T}{k n k1 n1 k2 n2:Int}{s s1 s2:ByteArray}{A1 A2:Option Addr}{l1 c1 l2 c2:Nat}(hf:Fld k n s)(h1:NV W S t1 (nv k1 n1 s1 A1 l1 c1))(h2:NV W S t2 (nv k2 n2 s2 A2 l2 c2))
  (hx:W.heap[b]?=some (.cells #[.int .u8 k1,.int .i64 n1,.string s1,.slice A1 l1 c1,.int .u8 k2,.int .i64 n2,.string s2,.slice A2 l2 c2] E (0,0))):NV W S (.nd k n s [t1,t2]) (nv k n s (some ⟨b,0,none⟩) 2 2):=by
 refine NV.shut (ks:=[t1,t2]) hf (by simp[LK]) (by simp) fun i hi=>?_
 match i,hi with
 | 0,_=>exact⟨⟨b,0,none⟩,_,_,_,_,rfl,hS,⟨zc hx rfl,zc hx rfl,zc hx rfl,zc hx rfl⟩,h1⟩
 | 1,_=>exact⟨⟨b,0,none⟩,_,_,_,_,rfl,hS,⟨zc hx rfl,zc hx rfl,zc hx rfl,zc hx rfl⟩,h2⟩
theorem zvV{W:World}{b:Nat}{E:TypeId}{S:Nat->Prop}(hS:S b){t1 t2 t3 t4:T}{k n k1 n1 k2 n2 k3 n3 k4 n4:Int}{s s1 s2 s3 s4:ByteArray}{A1 A2 A3 A4:Option Addr}{l1 c1 l2 c2 l3 c3 l4 c4:Nat}(hf:Fld k n s)(h1:NV W S t1 (nv k1 n1 s1 A1 l1 c1))(h2:NV W S t2 (nv k2 n2 s2 A2 l2 c2))(h3:NV W S t3 (nv k3 n3 s3 A3 l3 c3))(h4:NV W S t4 (nv k4 n4 s4 A4 l4 c4))
  (hx:W.heap[b]?=some (.cells #[.int .u8 k1,.int .i64 n1,.string s1,.slice A1 l1 c1,.int .u8 k2,.int .i64 n2,.string s2,.slice A2 l2 c2,.int .u8 k3,.int .i64 n3,.string s3,.slice A3 l3 c3,.int .u8 k4,.int .i64 n4,.string s4,.slice A4 l4 c4] E (0,0))):NV W S (.nd k n s [t1,t2,t3,t4]) (nv k n s (some ⟨b,0,none⟩) 4 4):=by
 refine NV.shut (ks:=[t1,t2,t3,t4]) hf (by simp[LK]) (by simp) fun i hi=>?_
 match i,hi with
 | 0,_=>exact⟨⟨b,0,none⟩,_,_,_,_,rfl,hS,⟨zc hx rfl,zc hx rfl,zc hx rfl,zc hx rfl⟩,h1⟩
 | 1,_=>exact⟨⟨b,0,none⟩,_,_,_,_,rfl,hS,⟨zc hx rfl,zc hx rfl,zc hx rfl,zc hx rfl⟩,h2⟩
 | 2,_=>exact⟨⟨b,0,none⟩,_,_,_,_,rfl,hS,⟨zc hx rfl,zc hx rfl,zc hx rfl,zc hx rfl⟩,h3⟩
 | 3,_=>exact⟨⟨b,0,none⟩,_,_,_,_,rfl,hS,⟨zc hx rfl,zc hx rfl,zc hx rfl,zc hx rfl⟩,h4⟩
theorem st4W{W:World}{b:Nat}{a0 a1 a2 a3:Value}{ty:TypeId}(v0 v1 v2 v3:Value)(h:W.heap[b]?=some (.cells #[a0,a1,a2,a3] ty (0,0))) :
  ∃W',(((W.setCell ⟨b,0,none⟩ v0).setCell ⟨b,1,none⟩ v1).setCell ⟨b,2,none⟩ v2).setCell ⟨b,3,none⟩ v3=W'/\Chg (fun q=>q=b) W W'/\W'.heap[b]?=some (.cells #[v0,v1,v2,v3] ty (0,0)):=by
 obtain⟨W0,h0,c0,k0⟩:=setU (o:=0) v0 h;obtain⟨W1,h1,c1,k1⟩:=setU (o:=1) v1 k0;obtain⟨W2,h2,c2,k2⟩:=setU (o:=2) v2 k1;obtain⟨W3,h3,c3,k3⟩:=setU (o:=3) v3 k2;exact⟨W3,by rw[h0,h1,h2,h3],((c0.trans c1).trans c2).trans c3,by simpa using k3⟩
theorem zyJ(a0 a1 a2 a3 b0 b1 b2 b3 c0 c1 c2 c3 d0 d1 d2 d3:Value)(w:World):(Instr.buildSlice 22 4 #[(0,.agg #[a0,a1,a2,a3]),(1,.agg #[b0,b1,b2,b3]),(2,.agg #[c0,c1,c2,c3]),(3,.agg #[d0,d1,d2,d3])]).run Tryz.prog w=.ok (.slice (some ⟨w.heap.size,0,none⟩) 4 4) (w.alloc (.cells #[a0,a1,a2,a3,b0,b1,b2,b3,c0,c1,c2,c3,d0,d1,d2,d3] 24)):=by kernel_rfl
theorem bBlW(w:World):(Instr.build 24 #[(0,.int .u8 57)]).run Tryz.prog w=.ok (.agg #[.int .u8 57,.int .i64 0,.string ⟨#[]⟩,.slice none 0 0]) w:=by kernel_rfl
theorem bIW(x:Int)(w:World):(Instr.buildSlice 32 1 #[(0,.int .i64 x)]).run Tryz.prog w=.ok (.slice (some ⟨w.heap.size,0,none⟩) 1 1) (w.alloc (.cells #[.int .i64 x] 3)):=by kernel_rfl
theorem zyO(A:Option Addr)(l c:Nat)(w:World):(Instr.buildSlice 31 1 #[(0,.slice A l c)]).run Tryz.prog w=.ok (.slice (some ⟨w.heap.size,0,none⟩) 1 1) (w.alloc (.cells #[.slice A l c] 32)):=by kernel_rfl
theorem bStW(A:Option Addr)(l c:Nat)(w:World):(Instr.build 34 #[(0,.slice A l c)]).run Tryz.prog w=.ok (.agg #[.slice A l c,.slice none 0 0,.slice none 0 0]) w:=by kernel_rfl
theorem zxY:IsFn Tryz.prog 18 Tryz.f18:=⟨Tryz.func18,by kernel_rfl,by kernel_rfl⟩
theorem ztI:AwP:=by
 intro W;have h1:=bVdW;have h2:=bSVW;have h3:=bBxW;have h4:=bXW;go_enter Tryz.func9,Tryz.ntmps9;go_upto_region 4 with fail;clear h1 h2 h3 h4;have hb1:=zkc (zkc (zkc (zs W) (.cells #[.int .u8 2,.int .i64 0,.string ⟨#[120]⟩,.slice none 0 0] 24)) (.cells #[.string ⟨#[120]⟩,.int .u8 1,.int .i64 0] 76)) (.cells #[.int .i64 1,.int .i64 0,.int .i64 0] 27);obtain⟨-,hz,k0,k1,k2⟩:=al3 W (.cells #[.int .u8 2,.int .i64 0,.string ⟨#[120]⟩,.slice none 0 0] 24) (.cells #[.string ⟨#[120]⟩,.int .u8 1,.int .i64 0] 76) (.cells #[.int .i64 1,.int .i64 0,.int .i64 0] 27);obtain⟨w1,hw1⟩:=zX (((W.alloc (.cells #[.int .u8 2,.int .i64 0,.string ⟨#[120]⟩,.slice none 0 0] 24)).alloc (.cells #[.string ⟨#[120]⟩,.int .u8 1,.int .i64 0] 76)).alloc (.cells #[.int .i64 1,.int .i64 0,.int .i64 0] 27));rw[hw1]at hb1 hz k0 k1 k2 ⊢;obtain⟨N,hN⟩:=zX (W.heap.size);rw[hN]at hz k0 k1 k2;have HN:=zh hN;have HB1:=zh hb1
 have HZ1:=zh hz;have bE:=zh k0;have HKV:=zh k1;have eX:=zh k2;clear hb1 hz k0 k1 k2 hN;simp only[HN.out];clear hw1;have ax:=zh (show ∀w',Below w1.heap.size w1 w'->(fun w':World=>(zN4 w' N (.int .u8 2) (.int .i64 0) (.string ⟨#[120]⟩) (.slice none 0 0))/\zN3 w' (N+2) (.int .i64 1) (.int .i64 0) (.int .i64 0)) w' from fun w' hb=>⟨box4 (zka bE.out hb),zkn (zka eX.out hb)⟩);have hSS:zW (fun w':World=>(zN4 w' N (.int .u8 2) (.int .i64 0) (.string ⟨#[120]⟩) (.slice none 0 0))/\zN3 w' (N+2) (.int .i64 1) (.int .i64 0) (.int .i64 0)) zU w1.drew:=⟨ax.out _ zr.drew,trivial⟩
 refine wp_region_noPanic ?_;refine zG hSS 11 ?_;refine zT 0 hSS ?_;refine zT 4 hSS ?_;refine zT 5 hSS ?_;have hI:(fun w=>Below w1.heap.size w1 w) w1.drew:=zr.drew;clear hSS;refine zlJ (i:=1) (j:=10) (some 17) (some 4) 8 (fun li l4 => #[true,li,false,false,true,true,false,false,false,false,l4,false,false]) _ (fun w=>Below w1.heap.size w1 w) (AlW w1 #[.slice none 0 0,.slice none 0 0,.slice none 0 0,.slice none 0 0,.slice none 0 0,.slice none 0 0] 36) (fun v w=>v=nv 1 0 ⟨#[]⟩ none 0 0) rfl rfl rfl rfl (by kernel_rfl) (by kernel_rfl) (fun l4=>by cases l4<;>rfl) rfl (fun w h=>⟨ax.out _ h,trivial⟩) (fun w w' h hb=>?_) (fun u w w' h hb=>?_) (fun v4 K w h au=>?_) (fun v4 K w h au=>?_) (fun u v=>?_) (fun l4 v4 v wc h hF hA hU=>?_) false undef w1.drew hI (fun h=>by cases h) (fun _=>rfl) ?_
 ·exact zkb h hb
 ·obtain⟨b,e1,e2,e3⟩:=h;exact⟨b,e1,e2,zka e3 hb⟩
 ·have hb0:=h;have hK:=zh au;clear au;have had:Calls Tryz.prog 35 [.int .i64 0].toArray w fun e w'=>∃v,e=.returned v/\(v=nv 1 0 ⟨#[]⟩ none 0 0/\Below w.heap.size w w'):=(zqm 0 w).mono fun e w' ⟨h1,h2⟩=>⟨_,h1,rfl,h2⟩
  refine zke (by rfl) (.func 35) [.const (.int .i64 0)] _ (by rfl) 35 _ ztd (by rfl) _ (by rfl) _ had ?_;rintro v w' ⟨rfl,hb⟩;exact hK.out _ _ hb rfl
 ·have hK:=zh au;clear au;(try simp only[zQ]);(try simp only[zA,zB,zC]);go_simp;exact hK.out _ _ (zkc zr _) ⟨_,rfl,h.size,heap_alloc_new w _⟩
 ·simp only[Act.put,zD,zE,zF]
 rotate_left 1
 ·simp only[Act.put,zD,zE,zF]
 (try simp only[zQ]);obtain rfl:=hF;clear hI;have hI:(fun w=>Below w1.heap.size w1 w) wc:=h;have iU:=hA;have gM:=hU;clear hA hU;refine zlJ (i:=2) (j:=10) (some 18) (some 4) 7 (fun li l4 => #[true,true,li,false,true,true,false,false,false,false,l4,false,false]) _ (fun w=>Below w1.heap.size w1 w) (AlW w1 #[.slice none 0 0,.slice none 0 0,.slice none 0 0,.slice none 0 0,.slice none 0 0,.slice none 0 0] 36) (fun v w=>∃b,v=.slice (some ⟨b,0,none⟩) 2 2/\NV w Any stTW (nv 56 0 ⟨#[]⟩ (some ⟨b,0,none⟩) 2 2)) rfl rfl rfl rfl (by kernel_rfl) (by kernel_rfl) (fun l4=>by cases l4<;>rfl) rfl (fun w h=>⟨ax.out _ h,trivial⟩) (fun w w' h hb=>?_) (fun u w w' h hb=>?_) (fun v4 K w h au=>?_) (fun v4 K w h au=>?_) (fun u v=>?_) (fun l4 v4 v wc h hF hA hU=>?_) l4 v4 wc hI iU gM ?_
 ·exact zkb h hb
 ·obtain⟨b,e1,e2,e3⟩:=h;exact⟨b,e1,e2,zka e3 hb⟩
 ·have hK:=zh au;clear au;have hbs:=zya;(try simp only[zQ]);(try simp only[zA,zB,zC]);go_simp;exact hK.out _ _ (zkc zr _) ⟨_,rfl,zyi w 24 (S:=Any) trivial (fldW 56 (by omega)) (zmS w _ fldX) (zmS w _ (fldN 0 ⟨by decide,by decide⟩))⟩
 ·have hK:=zh au;clear au;(try simp only[zQ]);(try simp only[zA,zB,zC]);go_simp;exact hK.out _ _ (zkc zr _) ⟨_,rfl,h.size,heap_alloc_new w _⟩
 ·simp only[Act.put,zD,zE,zF]
 rotate_left 1
 ·simp only[Act.put,zD,zE,zF]
 (try simp only[zQ]);obtain⟨sb,rfl,m18⟩:=hF;clear hI;have hI:(fun w=>Below w1.heap.size w1 w/\NV w Any stTW (nv 56 0 ⟨#[]⟩ (some ⟨sb,0,none⟩) 2 2)) wc:=⟨h,m18⟩
 have iU:=hA;have gM:=hU;clear hA hU m18;refine zlJ (i:=3) (j:=10) (some 19) (some 4) 6 (fun li l4 => #[true,true,true,li,true,true,false,false,false,false,l4,false,false]) _ (fun w=>Below w1.heap.size w1 w/\NV w Any stTW (nv 56 0 ⟨#[]⟩ (some ⟨sb,0,none⟩) 2 2)) (AlW w1 #[.slice none 0 0,.slice none 0 0,.slice none 0 0,.slice none 0 0,.slice none 0 0,.slice none 0 0] 36) (fun v w=>v=.agg #[.int .u8 56,.int .i64 0,.string ⟨#[]⟩,.slice (some ⟨sb,0,none⟩) 2 2]) rfl rfl rfl rfl (by kernel_rfl) (by kernel_rfl) (fun l4=>by cases l4<;>rfl) rfl (fun w h=>⟨ax.out _ h.1,trivial⟩) (fun w w' h hb=>?_) (fun u w w' h hb=>?_) (fun v4 K w h au=>?_) (fun v4 K w h au=>?_) (fun u v=>?_) (fun l4 v4 v wc h hF hA hU=>?_) l4 v4 wc hI iU gM ?_
 ·exact⟨zkb h.1 hb,h.2.later hb⟩
 ·obtain⟨b,e1,e2,e3⟩:=h;exact⟨b,e1,e2,zka e3 hb⟩
 ·have hK:=zh au;clear au;have hbs:=bNkW;(try simp only[zQ]);(try simp only[zA,zB,zC]);go_simp;exact hK.out _ _ zr rfl
 ·have hK:=zh au;clear au;(try simp only[zQ]);(try simp only[zA,zB,zC]);go_simp;exact hK.out _ _ (zkc zr _) ⟨_,rfl,h.1.size,heap_alloc_new w _⟩
 ·simp only[Act.put,zD,zE,zF]
 rotate_left 1
 ·simp only[Act.put,zD,zE,zF]
 (try simp only[zQ]);obtain rfl:=hF;clear hI;have hI:(fun w=>Below w1.heap.size w1 w/\NV w Any stTW (nv 56 0 ⟨#[]⟩ (some ⟨sb,0,none⟩) 2 2)) wc:=h;have iU:=hA;have gM:=hU;clear hA hU
 refine zlJ (i:=6) (j:=10) (some 22) (some 4) 5 (fun li l4 => #[true,true,true,true,true,true,li,false,false,false,l4,false,false]) _ (fun w=>Below w1.heap.size w1 w/\NV w Any stTW (nv 56 0 ⟨#[]⟩ (some ⟨sb,0,none⟩) 2 2)) (AlW w1 #[.slice none 0 0,.slice none 0 0,.slice none 0 0,.slice none 0 0,.slice none 0 0,.slice none 0 0] 36) (fun v w=>∃A0 c0 B0 d0 D0 e0 A1 c1 B1 d1 D1 e1,v=.tuple #[.agg #[.slice A0 1 c0,.slice B0 0 d0,.slice D0 0 e0,.slice A1 1 c1,.slice B1 0 d1,.slice D1 0 e1],.bool true]/\SV w (fun b=>w1.heap.size<=b) ⟨[[0]],[],[]⟩ (.agg #[.slice A0 1 c0,.slice B0 0 d0,.slice D0 0 e0])/\SV w (fun b=>w1.heap.size<=b) ⟨[[1]],[],[]⟩ (.agg #[.slice A1 1 c1,.slice B1 0 d1,.slice D1 0 e1])) rfl rfl rfl rfl (by kernel_rfl) (by kernel_rfl) (fun l4=>by cases l4<;>rfl) rfl (fun w h=>⟨ax.out _ h.1,trivial⟩) (fun w w' h hb=>?_) (fun u w w' h hb=>?_) (fun v4 K w h au=>?_) (fun v4 K w h au=>?_) (fun u v=>?_) (fun l4 v4 v wc h hF hA hU=>?_) l4 v4 wc hI iU gM ?_
 ·exact⟨zkb h.1 hb,h.2.later hb⟩
 ·obtain⟨b,e1,e2,e3⟩:=h;exact⟨b,e1,e2,zka e3 hb⟩
 ·have hb0:=h.1;have hn0:=h.2;have hK:=zh au;clear au;have had:Calls Tryz.prog 12 [.agg #[.int .u8 56,.int .i64 0,.string ⟨#[]⟩,.slice (some ⟨sb,0,none⟩) 2 2],.slice (some ⟨N+1,0,none⟩) 1 1,.agg #[.int .i64 1,.int .i64 0,.int .i64 0]].toArray w fun e w'=>∃v,e=.returned v/\((∃A0 c0 B0 d0 D0 e0 A1 c1 B1 d1 D1 e1,v=.tuple #[.agg #[.slice A0 1 c0,.slice B0 0 d0,.slice D0 0 e0,.slice A1 1 c1,.slice B1 0 d1,.slice D1 0 e1],.bool true]/\SV w' (fun b=>w1.heap.size<=b) ⟨[[0]],[],[]⟩ (.agg #[.slice A0 1 c0,.slice B0 0 d0,.slice D0 0 e0])/\SV w' (fun b=>w1.heap.size<=b) ⟨[[1]],[],[]⟩ (.agg #[.slice A1 1 c1,.slice B1 0 d1,.slice D1 0 e1]))/\Below w.heap.size w w') :=
   (ztU (t:=stTW) (vs:=vsW) (b:=bxW) (c1:=1) hn0 (zxI (zka HKV.out hb0)) (by decide)).mono fun e w' ⟨hb,x0,x1,x2,x3,x4,x5,bb,he,hr⟩=>by
    rw[zxN]at hr;rcases hr with⟨h,-⟩|⟨q,s,h,rfl,hq,hs⟩
    ·cases h
    ·injection h with h;injection h with h1 h2;subst h1 h2;have hq2:=hq;have hs2:=hs;obtain⟨A0,c0,B0,d0,D0,e0,hv0,-⟩:=hq2;obtain⟨A1,c1,B1,d1,D1,e1,hv1,-⟩:=hs2;injection hv0 with hv0;injection hv1 with hv1;simp only[Array.mk.injEq,List.cons.injEq,and_true,List.length_cons,List.length_nil,Nat.zero_add]at hv0 hv1;obtain⟨rfl,rfl,rfl⟩:=hv0;obtain⟨rfl,rfl,rfl⟩:=hv1;exact⟨_,he,⟨_,_,_,_,_,_,_,_,_,_,_,_,rfl,hq.keep (fun b h _=>Nat.le_trans hb0.size h) (fun _ _ _=>rfl),hs.keep (fun b h _=>Nat.le_trans hb0.size h) (fun _ _ _=>rfl)⟩,hb⟩
  refine zke (by rfl) (.func 12) [.tmp 19,.tmp 20,.tmp 21] _ (by rfl) 12 _ zxW (by rfl) _ (by rfl) _ had ?_;rintro v w' ⟨hF,hb⟩;exact hK.out _ _ hb hF
 ·have hK:=zh au;clear au;(try simp only[zQ]);(try simp only[zA,zB,zC]);go_simp;exact hK.out _ _ (zkc zr _) ⟨_,rfl,h.1.size,heap_alloc_new w _⟩
 ·simp only[Act.put,zD,zE,zF]
 rotate_left 1
 ·simp only[Act.put,zD,zE,zF]
 (try simp only[zQ]);obtain⟨A0,c0,B0,d0,D0,e0,A1,c1,B1,d1,D1,e1,rfl,hq,hs⟩:=hF;clear hI;have hSS:zW (fun w':World=>(zN4 w' N (.int .u8 2) (.int .i64 0) (.string ⟨#[120]⟩) (.slice none 0 0))/\zN3 w' (N+2) (.int .i64 1) (.int .i64 0) (.int .i64 0)) zU wc:=⟨ax.out _ h.1,trivial⟩
 have hI:(fun w=>Below w1.heap.size w1 w/\SV w (fun b=>w1.heap.size<=b) ⟨[[0]],[],[]⟩ (.agg #[.slice A0 1 c0,.slice B0 0 d0,.slice D0 0 e0])/\SV w (fun b=>w1.heap.size<=b) ⟨[[1]],[],[]⟩ (.agg #[.slice A1 1 c1,.slice B1 0 d1,.slice D1 0 e1])) wc:=⟨h.1,hq,hs⟩
 clear h iU gM hq hs;rw[Nat.add_comm 5];refine zkp (i:=7) (v:=?_) rfl (by kernel_rfl) (by cases l4<;>kernel_rfl) (by cases l4<;>kernel_rfl) (by decide) (fun _ _ _ h=>h) (Or.inl ⟨by rfl,?_⟩) hSS ?_;rotate_left 1
 ·(intro w hSw;(try dsimp only at hSw);(try simp only[zA,zB,zC]);go_simp;(try with_reducible rfl))
 (try simp only[zQ]);refine zkp (i:=8) (v:=?_) rfl (by kernel_rfl) (by cases l4<;>kernel_rfl) (by cases l4<;>kernel_rfl) (by decide) (fun _ _ _ h=>h) (Or.inl ⟨by rfl,?_⟩) hSS ?_;rotate_left 1
 ·(intro w hSw;(try dsimp only at hSw);(try simp only[zA,zB,zC]);go_simp;(try with_reducible rfl))
 (try simp only[zQ]);refine zkp (i:=9) (v:=?_) rfl (by kernel_rfl) (by cases l4<;>kernel_rfl) (by cases l4<;>kernel_rfl) (by decide) (fun _ _ _ h=>h) (Or.inl ⟨by rfl,?_⟩) hSS ?_;rotate_left 1
 ·(intro w hSw;(try dsimp only at hSw);(try simp only[zA,zB,zC]);go_simp;(try with_reducible rfl))
 (try simp only[zQ]);rw[Nat.add_comm (Bool.toNat _) 2];clear hSS;refine zo0 (j:=10) (some 4) 2 (fun l4 => #[true,true,true,true,true,true,true,true,true,true,l4,false,false]) _ (fun w=>Below w1.heap.size w1 w/\SV w (fun b=>w1.heap.size<=b) ⟨[[0]],[],[]⟩ (.agg #[.slice A0 1 c0,.slice B0 0 d0,.slice D0 0 e0])/\SV w (fun b=>w1.heap.size<=b) ⟨[[1]],[],[]⟩ (.agg #[.slice A1 1 c1,.slice B1 0 d1,.slice D1 0 e1])) (AlW w1 #[.slice none 0 0,.slice none 0 0,.slice none 0 0,.slice none 0 0,.slice none 0 0,.slice none 0 0] 36) rfl rfl (by kernel_rfl) rfl (fun w h=>⟨ax.out _ h.1,trivial⟩) (fun w w' h hb=>⟨zkb h.1 hb,h.2.1.later hb,h.2.2.later hb⟩) (fun v4 K w h au=>?_) (fun u v=>?_) (fun v5 w3 h5 wC=>?_) l4 v4 wc hI hA ?_
 ·have hb0:=h.1;have hK:=zh au;clear au;(try simp only[zQ]);(try simp only[zA,zB,zC]);go_simp;exact hK.out _ _ (zkc zr _) ⟨_,rfl,hb0.size,heap_alloc_new w _⟩
 ·simp only[Act.put,zD,zE,zF]
 rotate_left 1
 ·simp only[Act.put,zD,zE,zF]
 (try simp only[zQ]);clear hI hA hU;obtain⟨pb,rfl,hbl,hbz⟩:=wC;obtain⟨hb3,hq3,hs3⟩:=h5;obtain⟨q0,q1,q2,q3,q4,q5⟩:=box6 hbz;have cf:∀o,w3.frozen? ⟨pb,o,none⟩=false:=fun _=>zf hbz;obtain⟨w4,hw4,hc4,hh4⟩:=st6 (.slice A0 1 c0) (.slice B0 0 d0) (.slice D0 0 e0) (.slice A1 1 c1) (.slice B1 0 d1) (.slice D1 0 e1) hbz;have hb4:Below w1.heap.size w1 w4:=hb3.trans (hc4.below hb3.size fun b (e:b=pb)=>by omega);have vg:=zh hbz;have av:=zh hb4;have Bb:=zh hc4;have qM:=zh hh4;have HQ3:=zh hq3;have zx:=zh hs3;clear hb3 hq3 hs3 hbz hc4 hh4 hb4;have xW:=zh ((HQ3.out.nz6 vg.out).keep (w':=w4) (S':=fun b=>w1.heap.size<=b) (fun _ h _=>h.1) fun b h hlt=>Bb.out.block b hlt h.2);have jB:=zh ((zx.out.nz6 vg.out).keep (w':=w4) (S':=fun b=>w1.heap.size<=b) (fun _ h _=>h.1) fun b h hlt=>Bb.out.block b hlt h.2);clear HQ3 zx;refine zp 11 fun K hK=>?_;(try simp only[zA,zB,zC]);go_simp
 refine hK.out _ _ (ax.out _ av.out) ?_;clear hK K q0 q1 q2 q3 q4 q5 cf hw4 vg Bb;(try simp only[zQ]);refine zo 12 fun K hK=>?_;(try simp only[zA,zB,zC]);go_simp;refine hK.out _ _ ⟨ax.out _ av.out,trivial⟩ ?_;clear hK K;(try simp only[zQ]);refine zd ?_;refine NoPanic.normal ?_;clear ax;go_upto_region 5 with fail;have HKX4:=zh (zka bE.out av.out);have HKB4:=zh (zka eX.out av.out);have ax:=zh (show ∀w',Below w4.heap.size w4 w'->(fun w':World=>zN4 w' N (.int .u8 2) (.int .i64 0) (.string ⟨#[120]⟩) (.slice none 0 0)) w' from fun w' hb=>box4 (zka HKX4.out hb));have hSS:zW (fun w':World=>zN4 w' N (.int .u8 2) (.int .i64 0) (.string ⟨#[120]⟩) (.slice none 0 0)) zU w4.drew:=⟨ax.out _ zr.drew,trivial⟩
 refine wp_region_noPanic ?_;refine zG hSS 5 ?_;refine zT 0 hSS ?_;have hI:(fun w=>Below w4.heap.size w4 w) w4.drew:=zr.drew;clear hSS;refine zlJ (i:=1) (j:=4) (some 26) (some 6) 3 (fun li l4 => #[true,li,false,false,l4,false]) _ (fun w=>Below w4.heap.size w4 w) (AlW w4 #[.int .u8 0,.int .i64 0,.string ⟨#[]⟩,.slice none 0 0] 24) (fun v w=>v=nv 1 1 ⟨#[]⟩ none 0 0) rfl rfl rfl rfl (by kernel_rfl) (by kernel_rfl) (fun l4=>by cases l4<;>rfl) rfl (fun w h=>⟨ax.out _ h,trivial⟩) (fun w w' h hb=>?_) (fun u w w' h hb=>?_) (fun v4 K w h au=>?_) (fun v4 K w h au=>?_) (fun u v=>?_) (fun l4 v4 v wc h hF hA hU=>?_) false undef w4.drew hI (fun h=>by cases h) (fun _=>rfl) ?_
 ·exact zkb h hb
 ·obtain⟨b,e1,e2,e3⟩:=h;exact⟨b,e1,e2,zka e3 hb⟩
 ·have hK:=zh au;clear au;have had:Calls Tryz.prog 35 [.int .i64 1].toArray w fun e w'=>∃v,e=.returned v/\(v=nv 1 1 ⟨#[]⟩ none 0 0/\Below w.heap.size w w'):=(zqm 1 w).mono fun e w' ⟨h1,h2⟩=>⟨_,h1,rfl,h2⟩
  refine zke (by rfl) (.func 35) [.const (.int .i64 1)] _ (by rfl) 35 _ ztd (by rfl) _ (by rfl) _ had ?_;rintro v w' ⟨rfl,hb⟩;exact hK.out _ _ hb rfl
 ·have hK:=zh au;clear au;(try simp only[zQ]);(try simp only[zA,zB,zC]);go_simp;exact hK.out _ _ (zkc zr _) ⟨_,rfl,h.size,heap_alloc_new w _⟩
 ·simp only[Act.put,zD,zE,zF]
 rotate_left 1
 ·simp only[Act.put,zD,zE,zF]
 (try simp only[zQ]);obtain rfl:=hF;clear hI;have hI:(fun w=>Below w4.heap.size w4 w) wc:=h;have iU:=hA;have gM:=hU;clear hA hU;refine zlJ (i:=2) (j:=4) (some 27) (some 6) 2 (fun li l4 => #[true,true,li,false,l4,false]) _ (fun w=>Below w4.heap.size w4 w) (AlW w4 #[.int .u8 0,.int .i64 0,.string ⟨#[]⟩,.slice none 0 0] 24) (fun v w=>∃b,v=.slice (some ⟨b,0,none⟩) 2 2/\w.heap[b]?=some (.cells #[.int .u8 2,.int .i64 0,.string ⟨#[120]⟩,.slice none 0 0,.int .u8 1,.int .i64 1,.string ⟨#[]⟩,.slice none 0 0] 24 (0,0))) rfl rfl rfl rfl (by kernel_rfl) (by kernel_rfl) (fun l4=>by cases l4<;>rfl) rfl (fun w h=>⟨ax.out _ h,trivial⟩) (fun w w' h hb=>?_) (fun u w w' h hb=>?_) (fun v4 K w h au=>?_) (fun v4 K w h au=>?_) (fun u v=>?_) (fun l4 v4 v wc h hF hA hU=>?_) l4 v4 wc hI iU gM ?_
 ·exact zkb h hb
 ·obtain⟨b,e1,e2,e3⟩:=h;exact⟨b,e1,e2,zka e3 hb⟩
 ·have hK:=zh au;clear au;have hbs:=zya;(try simp only[zQ]);(try simp only[zA,zB,zC]);go_simp;exact hK.out _ _ (zkc zr _) ⟨_,rfl,heap_alloc_new w _⟩
 ·have hK:=zh au;clear au;(try simp only[zQ]);(try simp only[zA,zB,zC]);go_simp;exact hK.out _ _ (zkc zr _) ⟨_,rfl,h.size,heap_alloc_new w _⟩
 ·simp only[Act.put,zD,zE,zF]
 rotate_left 1
 ·simp only[Act.put,zD,zE,zF]
 (try simp only[zQ]);obtain⟨eb,rfl,m27⟩:=hF;clear hI;have hI:(fun w=>Below w4.heap.size w4 w/\w.heap[eb]?=some (.cells #[.int .u8 2,.int .i64 0,.string ⟨#[120]⟩,.slice none 0 0,.int .u8 1,.int .i64 1,.string ⟨#[]⟩,.slice none 0 0] 24 (0,0))) wc:=⟨h,m27⟩
 have iU:=hA;have gM:=hU;clear hA hU m27;refine zlJ (i:=3) (j:=4) (some 28) (some 6) 1 (fun li l4 => #[true,true,true,li,l4,false]) _ (fun w=>Below w4.heap.size w4 w/\w.heap[eb]?=some (.cells #[.int .u8 2,.int .i64 0,.string ⟨#[120]⟩,.slice none 0 0,.int .u8 1,.int .i64 1,.string ⟨#[]⟩,.slice none 0 0] 24 (0,0))) (AlW w4 #[.int .u8 0,.int .i64 0,.string ⟨#[]⟩,.slice none 0 0] 24) (fun v w=>v=.agg #[.int .u8 16,.int .i64 0,.string ⟨#[]⟩,.slice (some ⟨eb,0,none⟩) 2 2]) rfl rfl rfl rfl (by kernel_rfl) (by kernel_rfl) (fun l4=>by cases l4<;>rfl) rfl (fun w h=>⟨ax.out _ h.1,trivial⟩) (fun w w' h hb=>?_) (fun u w w' h hb=>?_) (fun v4 K w h au=>?_) (fun v4 K w h au=>?_) (fun u v=>?_) (fun l4 v4 v wc h hF hA hU=>?_) l4 v4 wc hI iU gM ?_
 ·exact⟨zkb h.1 hb,zka h.2 hb⟩
 ·obtain⟨b,e1,e2,e3⟩:=h;exact⟨b,e1,e2,zka e3 hb⟩
 ·have hK:=zh au;clear au;have hbs:=bNkW;(try simp only[zQ]);(try simp only[zA,zB,zC]);go_simp;exact hK.out _ _ zr rfl
 ·have hK:=zh au;clear au;(try simp only[zQ]);(try simp only[zA,zB,zC]);go_simp;exact hK.out _ _ (zkc zr _) ⟨_,rfl,h.1.size,heap_alloc_new w _⟩
 ·simp only[Act.put,zD,zE,zF]
 rotate_left 1
 ·simp only[Act.put,zD,zE,zF]
 (try simp only[zQ]);obtain rfl:=hF;clear hI;have hI:(fun w=>Below w4.heap.size w4 w/\w.heap[eb]?=some (.cells #[.int .u8 2,.int .i64 0,.string ⟨#[120]⟩,.slice none 0 0,.int .u8 1,.int .i64 1,.string ⟨#[]⟩,.slice none 0 0] 24 (0,0))) wc:=h;refine zo0 (j:=4) (some 6) 1 (fun l4 => #[true,true,true,true,l4,false]) _ (fun w=>Below w4.heap.size w4 w/\w.heap[eb]?=some (.cells #[.int .u8 2,.int .i64 0,.string ⟨#[120]⟩,.slice none 0 0,.int .u8 1,.int .i64 1,.string ⟨#[]⟩,.slice none 0 0] 24 (0,0))) (AlW w4 #[.int .u8 0,.int .i64 0,.string ⟨#[]⟩,.slice none 0 0] 24) rfl rfl (by kernel_rfl) rfl (fun w h=>⟨ax.out _ h.1,trivial⟩) (fun w w' h hb=>⟨zkb h.1 hb,zka h.2 hb⟩) (fun v4 K w h au=>?_) (fun u v=>?_) (fun v5 w5 h5 wC=>?_) l4 v4 wc hI hA ?_
 ·have hb0:=h.1;have hK:=zh au;clear au;(try simp only[zQ]);(try simp only[zA,zB,zC]);go_simp;exact hK.out _ _ (zkc zr _) ⟨_,rfl,hb0.size,heap_alloc_new w _⟩
 ·simp only[Act.put,zD,zE,zF]
 rotate_left 1
 ·simp only[Act.put,zD,zE,zF]
 (try simp only[zQ]);clear hI hA hU;obtain⟨qb,rfl,hbl,hbz⟩:=wC;obtain⟨hb5,xG⟩:=h5;obtain⟨q0,q1,q2,q3⟩:=box4 hbz;have cf:∀o,w5.frozen? ⟨qb,o,none⟩=false:=fun _=>zf hbz;have hne:eb≠qb:=by
  rintro rfl;rw[hbz]at xG;simp at xG
 obtain⟨w6,uD,hc6,nR⟩:=st4W (.int .u8 16) (.int .i64 0) (.string ⟨#[]⟩) (.slice (some ⟨eb,0,none⟩) 2 2) hbz;have hb6:Below w4.heap.size w4 w6:=hb5.trans (hc6.below hb5.size fun b (e:b=qb)=>by omega);have HE6:=zh (hc6.keep xG hne);have aT:=zh hb6;have qL:=zh nR;clear hb5 hbz hc6 nR hb6 xG hne;refine zp 5 fun K hK=>?_;(try simp only[zA,zB,zC]);go_simp;refine hK.out _ _ (ax.out _ aT.out) ?_;clear hK K q0 q1 q2 q3 cf uD;(try simp only[zQ]);refine zd ?_;refine NoPanic.normal ?_;clear ax hbl;have sZ:=zh (xW.out.later aT.out);have kK:=zh (jB.out.later aT.out);have HB16:=zh (zkb av.out aT.out);have HP6:=zh (zka qM.out aT.out);clear xW jB qM HKX4;go_upto_region 6 with fail;have hbl6:=bBlW
 have ax:=zh (show ∀w',Below w6.heap.size w6 w'->(fun w':World=>(zN4 w' qb (.int .u8 16) (.int .i64 0) (.string ⟨#[]⟩) (.slice (some ⟨eb,0,none⟩) 2 2))/\zN3 w' (N+2) (.int .i64 1) (.int .i64 0) (.int .i64 0)) w' from fun w' hb=>⟨box4 (zka qL.out hb),zkn (zka HKB4.out (zkb aT.out hb))⟩);have hSS:zW (fun w':World=>(zN4 w' qb (.int .u8 16) (.int .i64 0) (.string ⟨#[]⟩) (.slice (some ⟨eb,0,none⟩) 2 2))/\zN3 w' (N+2) (.int .i64 1) (.int .i64 0) (.int .i64 0)) zU w6.drew:=⟨ax.out _ zr.drew,trivial⟩
 refine wp_region_noPanic ?_;refine zG hSS 13 ?_;refine zT 0 hSS ?_;refine zT 1 hSS ?_;refine zT 2 hSS ?_;refine zT 6 hSS ?_;refine zT 7 hSS ?_;have hI:(fun w=>Below w6.heap.size w6 w) w6.drew:=zr.drew;clear hSS hbl6;refine zlJ (i:=3) (j:=12) (some 33) (some 7) 8 (fun li l4 => #[true,true,true,li,false,false,true,true,false,false,false,false,l4,false,false]) _ (fun w=>Below w6.heap.size w6 w) (AlW w6 #[.slice none 0 0,.slice none 0 0,.slice none 0 0] 34) (fun v w=>v=nv 1 1 ⟨#[]⟩ none 0 0) rfl rfl rfl rfl (by kernel_rfl) (by kernel_rfl) (fun l4=>by cases l4<;>rfl) rfl (fun w h=>⟨ax.out _ h,trivial⟩) (fun w w' h hb=>?_) (fun u w w' h hb=>?_) (fun v4 K w h au=>?_) (fun v4 K w h au=>?_) (fun u v=>?_) (fun l4 v4 v wc h hF hA hU=>?_) false undef w6.drew hI (fun h=>by cases h) (fun _=>rfl) ?_
 ·exact zkb h hb
 ·obtain⟨b,e1,e2,e3⟩:=h;exact⟨b,e1,e2,zka e3 hb⟩
 ·have hK:=zh au;clear au;have had:Calls Tryz.prog 35 [.int .i64 1].toArray w fun e w'=>∃v,e=.returned v/\(v=nv 1 1 ⟨#[]⟩ none 0 0/\Below w.heap.size w w'):=(zqm 1 w).mono fun e w' ⟨h1,h2⟩=>⟨_,h1,rfl,h2⟩
  refine zke (by rfl) (.func 35) [.const (.int .i64 1)] _ (by rfl) 35 _ ztd (by rfl) _ (by rfl) _ had ?_;rintro v w' ⟨rfl,hb⟩;exact hK.out _ _ hb rfl
 ·have hK:=zh au;clear au;(try simp only[zQ]);(try simp only[zA,zB,zC]);go_simp;exact hK.out _ _ (zkc zr _) ⟨_,rfl,h.size,heap_alloc_new w _⟩
 ·simp only[Act.put,zD,zE,zF]
 rotate_left 1
 ·simp only[Act.put,zD,zE,zF]
 (try simp only[zQ]);obtain rfl:=hF;clear hI;have hI:(fun w=>Below w6.heap.size w6 w) wc:=h;have iU:=hA;have gM:=hU;clear hA hU
 refine zlJ (i:=4) (j:=12) (some 34) (some 7) 7 (fun li l4 => #[true,true,true,true,li,false,true,true,false,false,false,false,l4,false,false]) _ (fun w=>Below w6.heap.size w6 w) (AlW w6 #[.slice none 0 0,.slice none 0 0,.slice none 0 0] 34) (fun v w=>∃b,v=.slice (some ⟨b,0,none⟩) 4 4/\w.heap[b]?=some (.cells #[.int .u8 16,.int .i64 0,.string ⟨#[]⟩,.slice (some ⟨eb,0,none⟩) 2 2,.int .u8 57,.int .i64 0,.string ⟨#[]⟩,.slice none 0 0,.int .u8 57,.int .i64 0,.string ⟨#[]⟩,.slice none 0 0,.int .u8 1,.int .i64 1,.string ⟨#[]⟩,.slice none 0 0] 24 (0,0))) rfl rfl rfl rfl (by kernel_rfl) (by kernel_rfl) (fun l4=>by cases l4<;>rfl) rfl (fun w h=>⟨ax.out _ h,trivial⟩) (fun w w' h hb=>?_) (fun u w w' h hb=>?_) (fun v4 K w h au=>?_) (fun v4 K w h au=>?_) (fun u v=>?_) (fun l4 v4 v wc h hF hA hU=>?_) l4 v4 wc hI iU gM ?_
 ·exact zkb h hb
 ·obtain⟨b,e1,e2,e3⟩:=h;exact⟨b,e1,e2,zka e3 hb⟩
 ·have hK:=zh au;clear au;have hbs:=zyJ;(try simp only[zQ]);(try simp only[zA,zB,zC]);go_simp;exact hK.out _ _ (zkc zr _) ⟨_,rfl,heap_alloc_new w _⟩
 ·have hK:=zh au;clear au;(try simp only[zQ]);(try simp only[zA,zB,zC]);go_simp;exact hK.out _ _ (zkc zr _) ⟨_,rfl,h.size,heap_alloc_new w _⟩
 ·simp only[Act.put,zD,zE,zF]
 rotate_left 1
 ·simp only[Act.put,zD,zE,zF]
 (try simp only[zQ]);obtain⟨fb,rfl,m34⟩:=hF;clear hI;have hI:(fun w=>Below w6.heap.size w6 w/\w.heap[fb]?=some (.cells #[.int .u8 16,.int .i64 0,.string ⟨#[]⟩,.slice (some ⟨eb,0,none⟩) 2 2,.int .u8 57,.int .i64 0,.string ⟨#[]⟩,.slice none 0 0,.int .u8 57,.int .i64 0,.string ⟨#[]⟩,.slice none 0 0,.int .u8 1,.int .i64 1,.string ⟨#[]⟩,.slice none 0 0] 24 (0,0))) wc:=⟨h,m34⟩
 have iU:=hA;have gM:=hU;clear hA hU m34
 refine zlJ (i:=5) (j:=12) (some 35) (some 7) 6 (fun li l4 => #[true,true,true,true,true,li,true,true,false,false,false,false,l4,false,false]) _ (fun w=>Below w6.heap.size w6 w/\w.heap[fb]?=some (.cells #[.int .u8 16,.int .i64 0,.string ⟨#[]⟩,.slice (some ⟨eb,0,none⟩) 2 2,.int .u8 57,.int .i64 0,.string ⟨#[]⟩,.slice none 0 0,.int .u8 57,.int .i64 0,.string ⟨#[]⟩,.slice none 0 0,.int .u8 1,.int .i64 1,.string ⟨#[]⟩,.slice none 0 0] 24 (0,0))) (AlW w6 #[.slice none 0 0,.slice none 0 0,.slice none 0 0] 34) (fun v w=>v=.agg #[.int .u8 52,.int .i64 0,.string ⟨#[]⟩,.slice (some ⟨fb,0,none⟩) 4 4]) rfl rfl rfl rfl (by kernel_rfl) (by kernel_rfl) (fun l4=>by cases l4<;>rfl) rfl (fun w h=>⟨ax.out _ h.1,trivial⟩) (fun w w' h hb=>?_) (fun u w w' h hb=>?_) (fun v4 K w h au=>?_) (fun v4 K w h au=>?_) (fun u v=>?_) (fun l4 v4 v wc h hF hA hU=>?_) l4 v4 wc hI iU gM ?_
 ·exact⟨zkb h.1 hb,zka h.2 hb⟩
 ·obtain⟨b,e1,e2,e3⟩:=h;exact⟨b,e1,e2,zka e3 hb⟩
 ·have hK:=zh au;clear au;have hbs:=bNkW;(try simp only[zQ]);(try simp only[zA,zB,zC]);go_simp;exact hK.out _ _ zr rfl
 ·have hK:=zh au;clear au;(try simp only[zQ]);(try simp only[zA,zB,zC]);go_simp;exact hK.out _ _ (zkc zr _) ⟨_,rfl,h.1.size,heap_alloc_new w _⟩
 ·simp only[Act.put,zD,zE,zF]
 rotate_left 1
 ·simp only[Act.put,zD,zE,zF]
 (try simp only[zQ]);obtain rfl:=hF;clear hI;have hI:(fun w=>Below w6.heap.size w6 w/\w.heap[fb]?=some (.cells #[.int .u8 16,.int .i64 0,.string ⟨#[]⟩,.slice (some ⟨eb,0,none⟩) 2 2,.int .u8 57,.int .i64 0,.string ⟨#[]⟩,.slice none 0 0,.int .u8 57,.int .i64 0,.string ⟨#[]⟩,.slice none 0 0,.int .u8 1,.int .i64 1,.string ⟨#[]⟩,.slice none 0 0] 24 (0,0))) wc:=h;have iU:=hA;have gM:=hU;clear hA hU
 refine zlJ (i:=8) (j:=12) (some 38) (some 7) 5 (fun li l4 => #[true,true,true,true,true,true,true,true,li,false,false,false,l4,false,false]) _ (fun w=>Below w6.heap.size w6 w/\w.heap[fb]?=some (.cells #[.int .u8 16,.int .i64 0,.string ⟨#[]⟩,.slice (some ⟨eb,0,none⟩) 2 2,.int .u8 57,.int .i64 0,.string ⟨#[]⟩,.slice none 0 0,.int .u8 57,.int .i64 0,.string ⟨#[]⟩,.slice none 0 0,.int .u8 1,.int .i64 1,.string ⟨#[]⟩,.slice none 0 0] 24 (0,0))) (AlW w6 #[.slice none 0 0,.slice none 0 0,.slice none 0 0] 34) (fun v w=>∃A2 c2 B2 d2 D2 e2,v=.tuple #[.agg #[.slice A2 1 c2,.slice B2 0 d2,.slice D2 0 e2],.bool true]/\SV w (fun b=>w6.heap.size<=b) ⟨[[0]],[],[]⟩ (.agg #[.slice A2 1 c2,.slice B2 0 d2,.slice D2 0 e2])) rfl rfl rfl rfl (by kernel_rfl) (by kernel_rfl) (fun l4=>by cases l4<;>rfl) rfl (fun w h=>⟨ax.out _ h.1,trivial⟩) (fun w w' h hb=>?_) (fun u w w' h hb=>?_) (fun v4 K w h au=>?_) (fun v4 K w h au=>?_) (fun u v=>?_) (fun l4 v4 v wc h hF hA hU=>?_) l4 v4 wc hI iU gM ?_
 ·exact⟨zkb h.1 hb,zka h.2 hb⟩
 ·obtain⟨b,e1,e2,e3⟩:=h;exact⟨b,e1,e2,zka e3 hb⟩
 ·have hb0:=h.1;have hf0:=h.2;have hK:=zh au;clear au;have hne0:NV w Any ifTW (nv 52 0 ⟨#[]⟩ (some ⟨fb,0,none⟩) 4 4):=zvV trivial (fldW 52 (by omega)) (zxA trivial (fldW 16 (by omega)) (zmS w _ fldX) (zmS w _ (fldN 1 ⟨by decide,by decide⟩)) (zka HE6.out hb0)) (zmS w _ (fldW 57 (by omega))) (zmS w _ (fldW 57 (by omega))) (zmS w _ (fldN 1 ⟨by decide,by decide⟩)) hf0;have had:Calls Tryz.prog 18 [.agg #[.int .u8 52,.int .i64 0,.string ⟨#[]⟩,.slice (some ⟨fb,0,none⟩) 4 4],.slice (some ⟨N+1,0,none⟩) 1 1,.agg #[.int .i64 1,.int .i64 0,.int .i64 0],.int .i64 100].toArray w fun e w'=>∃v,e=.returned v/\((∃A2 c2 B2 d2 D2 e2,v=.tuple #[.agg #[.slice A2 1 c2,.slice B2 0 d2,.slice D2 0 e2],.bool true]/\SV w' (fun b=>w6.heap.size<=b) ⟨[[0]],[],[]⟩ (.agg #[.slice A2 1 c2,.slice B2 0 d2,.slice D2 0 e2]))/\Below w.heap.size w w') :=
   (zp5 (t:=ifTW) (vs:=vsW) (b:=bxW) (c1:=1) (F:=100) hne0 (zxI (zka HKV.out (zkb HB16.out hb0))) (by decide) (by decide) ⟨by decide,by decide⟩ (by decide)).mono fun e w' ⟨hb,v,bb,he,hr⟩=>by
    rw[zx4]at hr;rcases hr with⟨h,-⟩|⟨q,h,rfl,hq⟩
    ·cases h
    ·injection h with h;subst h;have hq2:=hq;obtain⟨A2,c2,B2,d2,D2,e2,rfl,-⟩:=hq2;exact⟨_,he,⟨_,_,_,_,_,_,rfl,hq.keep (fun b h _=>Nat.le_trans hb0.size h) (fun _ _ _=>rfl)⟩,hb⟩
  refine zke (by rfl) (.func 18) [.tmp 35,.tmp 36,.tmp 37,.const (.int .i64 100)] _ (by rfl) 18 _ zxY (by rfl) _ (by rfl) _ had ?_;rintro v w' ⟨hF,hb⟩;exact hK.out _ _ hb hF
 ·have hK:=zh au;clear au;(try simp only[zQ]);(try simp only[zA,zB,zC]);go_simp;exact hK.out _ _ (zkc zr _) ⟨_,rfl,h.1.size,heap_alloc_new w _⟩
 ·simp only[Act.put,zD,zE,zF]
 rotate_left 1
 ·simp only[Act.put,zD,zE,zF]
 (try simp only[zQ]);obtain⟨A2,c2,B2,d2,D2,e2,rfl,hq⟩:=hF;clear hI;have hSS:zW (fun w':World=>(zN4 w' qb (.int .u8 16) (.int .i64 0) (.string ⟨#[]⟩) (.slice (some ⟨eb,0,none⟩) 2 2))/\zN3 w' (N+2) (.int .i64 1) (.int .i64 0) (.int .i64 0)) zU wc:=⟨ax.out _ h.1,trivial⟩
 have hI:(fun w=>Below w6.heap.size w6 w/\SV w (fun b=>w6.heap.size<=b) ⟨[[0]],[],[]⟩ (.agg #[.slice A2 1 c2,.slice B2 0 d2,.slice D2 0 e2])) wc:=⟨h.1,hq⟩
 clear h iU gM hq;rw[Nat.add_comm 5];refine zkp (i:=9) (v:=?_) rfl (by kernel_rfl) (by cases l4<;>kernel_rfl) (by cases l4<;>kernel_rfl) (by decide) (fun _ _ _ h=>h) (Or.inl ⟨by rfl,?_⟩) hSS ?_;rotate_left 1
 ·(intro w hSw;(try dsimp only at hSw);(try simp only[zA,zB,zC]);go_simp;(try with_reducible rfl))
 (try simp only[zQ]);refine zkp (i:=10) (v:=?_) rfl (by kernel_rfl) (by cases l4<;>kernel_rfl) (by cases l4<;>kernel_rfl) (by decide) (fun _ _ _ h=>h) (Or.inl ⟨by rfl,?_⟩) hSS ?_;rotate_left 1
 ·(intro w hSw;(try dsimp only at hSw);(try simp only[zA,zB,zC]);go_simp;(try with_reducible rfl))
 (try simp only[zQ]);refine zkp (i:=11) (v:=?_) rfl (by kernel_rfl) (by cases l4<;>kernel_rfl) (by cases l4<;>kernel_rfl) (by decide) (fun _ _ _ h=>h) (Or.inl ⟨by rfl,?_⟩) hSS ?_;rotate_left 1
 ·(intro w hSw;(try dsimp only at hSw);(try simp only[zA,zB,zC]);go_simp;(try with_reducible rfl))
 (try simp only[zQ]);rw[Nat.add_comm (Bool.toNat _) 2];clear hSS;refine zo0 (j:=12) (some 7) 2 (fun l4 => #[true,true,true,true,true,true,true,true,true,true,true,true,l4,false,false]) _ (fun w=>Below w6.heap.size w6 w/\SV w (fun b=>w6.heap.size<=b) ⟨[[0]],[],[]⟩ (.agg #[.slice A2 1 c2,.slice B2 0 d2,.slice D2 0 e2])) (AlW w6 #[.slice none 0 0,.slice none 0 0,.slice none 0 0] 34) rfl rfl (by kernel_rfl) rfl (fun w h=>⟨ax.out _ h.1,trivial⟩) (fun w w' h hb=>⟨zkb h.1 hb,h.2.later hb⟩) (fun v4 K w h au=>?_) (fun u v=>?_) (fun v5 w7 h5 wC=>?_) l4 v4 wc hI hA ?_
 ·have hb0:=h.1;have hK:=zh au;clear au;(try simp only[zQ]);(try simp only[zA,zB,zC]);go_simp;exact hK.out _ _ (zkc zr _) ⟨_,rfl,hb0.size,heap_alloc_new w _⟩
 ·simp only[Act.put,zD,zE,zF]
 rotate_left 1
 ·simp only[Act.put,zD,zE,zF]
 (try simp only[zQ]);clear hI hA hU;obtain⟨sb3,rfl,hbl,hbz⟩:=wC;obtain⟨dF,hq7⟩:=h5;obtain⟨q0,q1,q2⟩:=zkn hbz;have cf:∀o,w7.frozen? ⟨sb3,o,none⟩=false:=fun _=>zf hbz;obtain⟨w8,hw8,hc8,iO⟩:=st3 (.slice A2 1 c2) (.slice B2 0 d2) (.slice D2 0 e2) hbz;have cK:Below w6.heap.size w6 w8:=dF.trans (hc8.below dF.size fun b (e:b=sb3)=>by omega);have HX8:=zh ((hq7.nz3 hbz).keep (w':=w8) (S':=Any) (fun _ _ _=>trivial) fun b h hlt=>hc8.block b hlt h.2);have bF:=zh cK;have Am:=zh iO;clear dF hbz hc8 iO cK hq7;refine zp 13 fun K hK=>?_;(try simp only[zA,zB,zC]);go_simp;refine hK.out _ _ (ax.out _ bF.out) ?_;clear hK K q0 q1 q2 cf hw8;(try simp only[zQ]);refine zo 14 fun K hK=>?_;(try simp only[zA,zB,zC]);go_simp;refine hK.out _ _ ⟨ax.out _ bF.out,trivial⟩ ?_;clear hK K;(try simp only[zQ]);refine zd ?_;refine NoPanic.normal ?_;clear ax hbl;have uU:=zh (sZ.out.later bF.out)
 have HS8:=zh (kK.out.later bF.out);have HB18:=zh (zkb HB16.out bF.out);have zK:=zh (zka HP6.out bF.out);clear sZ kK HP6 qL HE6;have h1:=bIW;have h2:=zyO;have h3:=bStW;go_upto_region 8 with fail;clear h1 h2 h3;obtain⟨M,hM⟩:=zX (w8.heap.size);obtain⟨aF,lL,k0,k1,k2⟩:=al3 w8 (.cells #[.int .i64 0] 3) (.cells #[.slice (some ⟨w8.heap.size,0,none⟩) 1 1] 32) (.cells #[.int .i64 1] 3);rw[hM]at lL k0 k1 k2 ⊢;obtain⟨w9,aP⟩:=zX (((w8.alloc (.cells #[.int .i64 0] 3)).alloc (.cells #[.slice (some ⟨M,0,none⟩) 1 1] 32)).alloc (.cells #[.int .i64 1] 3));rw[aP]at lL k0 k1 k2 ⊢;have aF:Below w8.heap.size w8 w9:=by rw[<-aP,<-hM];exact aF
 obtain⟨fH,jK,k3,k4,k5⟩:=al3 w9 (.cells #[.slice (some ⟨M+1+1,0,none⟩) 1 1] 32) (.cells #[.slice (some ⟨M+1,0,none⟩) 1 1,.slice none 0 0,.slice none 0 0] 34) (.cells #[.slice (some ⟨M+1+1+1,0,none⟩) 1 1,.slice none 0 0,.slice none 0 0] 34);rw[lL]at jK k3 k4 k5;obtain⟨wa,qi⟩:=zX (((w9.alloc (.cells #[.slice (some ⟨M+1+1,0,none⟩) 1 1] 32)).alloc (.cells #[.slice (some ⟨M+1,0,none⟩) 1 1,.slice none 0 0,.slice none 0 0] 34)).alloc (.cells #[.slice (some ⟨M+1+1+1,0,none⟩) 1 1,.slice none 0 0,.slice none 0 0] 34));rw[qi]at fH jK k3 k4 k5 ⊢;have iH:=zh (zkb aF fH);have HB1A:=zh (zkb HB18.out (zkb aF fH));have HZ:=zh (SV1W (x:=0) ⟨by decide,by decide⟩ (zka k1 fH) (zka k0 fH));have HO:=zh (SV1W (x:=1) ⟨by decide,by decide⟩ k3 (zka k2 fH));have eB:=zh k4;have dW:=zh k5;clear aP qi aF fH k0 k1 k2 k3 k4 k5 lL jK hM
 have hs0:SS.Sm ⟨[[0]],[],[]⟩:=⟨by decide,(by intro l hl;simp only[List.mem_cons,List.not_mem_nil,or_false]at hl;subst hl;decide),by decide,by decide⟩
 have hs1:SS.Sm ⟨[[1]],[],[]⟩:=⟨by decide,(by intro l hl;simp only[List.mem_cons,List.not_mem_nil,or_false]at hl;subst hl;decide),by decide,by decide⟩
 have HEQ1:=zh (fun w' (hb:Below wa.heap.size wa w')=>zmQ ⟨[[0]],[],[]⟩ ⟨[[0]],[],[]⟩ _ _ w' (uU.out.any.later (zkb iH.out hb)) (HZ.out.later hb) hs0 hs0);have HEQ2:=zh (fun w' (hb:Below wa.heap.size wa w')=>zmQ ⟨[[1]],[],[]⟩ ⟨[[1]],[],[]⟩ _ _ w' (HS8.out.any.later (zkb iH.out hb)) (HO.out.later hb) hs1 hs1);have HEQ3:=zh (fun w' (hb:Below wa.heap.size wa w')=>zmQ ⟨[[0]],[],[]⟩ ⟨[[0]],[],[]⟩ _ _ w' (HX8.out.later (zkb iH.out hb)) (HZ.out.later hb) hs0 hs0);rw[show eqS ⟨[[0]],[],[]⟩ ⟨[[0]],[],[]⟩=true from by decide]at HEQ1 HEQ3;rw[show eqS ⟨[[1]],[],[]⟩ ⟨[[1]],[],[]⟩=true from by decide]at HEQ2;clear hs0 hs1;have aO:=Below.refl wa.heap.size wa;obtain⟨q0,q1,q2,q3,q4,q5⟩:=box6 (zka zK.out (zkb iH.out aO));obtain⟨y0,y1,y2⟩:=zkn (zka eB.out aO);obtain⟨z0,z1,z2⟩:=zkn (zka dW.out aO)
 obtain⟨t0,t1,t2⟩:=zkn (zka Am.out (zkb iH.out aO));go_wp2_with fail;refine(HEQ1.out _ zr).mono ?_;rintro e wb ⟨rfl,hbb⟩;have dA:=zh hbb;clear aO q0 q1 q2 q3 q4 q5 y0 y1 y2 z0 z1 z2 t0 t1 t2 hbb;have aO:=dA.out;obtain⟨q0,q1,q2,q3,q4,q5⟩:=box6 (zka zK.out (zkb iH.out aO));obtain⟨y0,y1,y2⟩:=zkn (zka eB.out aO);obtain⟨z0,z1,z2⟩:=zkn (zka dW.out aO);obtain⟨t0,t1,t2⟩:=zkn (zka Am.out (zkb iH.out aO));go_wp2_with fail;refine(HEQ2.out _ dA.out).mono ?_;rintro e wc ⟨rfl,hbb⟩;have iG:=zh (zkb dA.out hbb);clear aO q0 q1 q2 q3 q4 q5 y0 y1 y2 z0 z1 z2 t0 t1 t2 hbb;have aO:=iG.out;obtain⟨q0,q1,q2,q3,q4,q5⟩:=box6 (zka zK.out (zkb iH.out aO));obtain⟨y0,y1,y2⟩:=zkn (zka eB.out aO);obtain⟨z0,z1,z2⟩:=zkn (zka dW.out aO);obtain⟨t0,t1,t2⟩:=zkn (zka Am.out (zkb iH.out aO));go_wp2_with fail;refine(HEQ3.out _ iG.out).mono ?_
 rintro e wd ⟨rfl,hbb⟩;have jl:=zh (zkb iG.out hbb);clear aO q0 q1 q2 q3 q4 q5 y0 y1 y2 z0 z1 z2 t0 t1 t2 hbb;go_wp2_with fail;go_ret;exact⟨rfl,zkb HB1.out (zkb HB1A.out jl.out)⟩
end
section
open Go.RowKit Go.ChangeShapes Go.WideShapes Go.ChangeAt Go.Deep
theorem zpX:Tryz.prog.cellsOf 24=4:=by kernel_rfl
theorem ztD:Tryz.prog.bytesOf 24=56:=by kernel_rfl
theorem zxd:Tryz.prog.cellsOf 5=1:=by kernel_rfl
theorem zrp:Tryz.prog.cellsOf 3=1:=by kernel_rfl
theorem zvr:Tryz.prog.cellsOf 9=1:=by kernel_rfl
theorem ztC:Tryz.prog.cellsOf 22=1:=by kernel_rfl
theorem zlX{H:Type}{P:Program}{e:TypeId}:∀ {l:List (DataW H)} {d:DataW H},d∈l->∀n∈d.weights P e,n∈DataW.weightsAll P e l
 | d0::l,d,hd,n,hn=>by
  simp only[DataW.weightsAll,List.mem_append];rcases List.mem_cons.1 hd with rfl|hd
  ·exact .inl hn
  ·exact .inr (zlX hd n hn)
theorem zmV{H:Type}:∀(ks:List T) (ds:List (DataW H)),ks.length=ds.length->(∀i (h:i<ks.length) (h':i<ds.length),size ks[i]<=Rows.uptoBulk ds[i])->zkX ks<=Rows.uptoBulkAll ds
 | [],[],_,_=>by simp[zkX]
 | t::ts,d::ds,hl,h=>by
  have h0:=h 0 (Nat.zero_lt_succ _) (Nat.zero_lt_succ _);have h1:=zmV ts ds (by simpa using hl) (fun i hi hi'=>h (i+1) (Nat.succ_lt_succ hi) (Nat.succ_lt_succ hi'));simp only[List.getElem_cons_zero]at h0;simp only[zkX,Rows.uptoBulkAll];omega
 | [],_::_,hl,_=>by simp at hl
 | _::_,[],hl,_=>by simp at hl
section
variable {H:Type} {enc:TypeId×Value->H} {w:World} {held:Bool}
def zeroT':T:=.nd 0 0 ⟨#[]⟩ []
theorem zsM:∀(fuel:Nat) (cs:List Value) (x:DataW H×List MemPlace),DataW.trod enc Tryz.prog w 0 (fun _=>true) held fuel 24 cs=some x ->
  (∀n∈x.1.weights Tryz.prog 24,n<=reachBytes) ->
  ∃t u0 u1 u2 u3,cs=[u0,u1,u2,u3]/\NV w Any t (.agg #[u0,u1,u2,u3])/\t.ks.length*56<=reachBytes/\size t<=Rows.uptoBulk x.1:=by
 intro fuel
 induction fuel using Nat.strongRecOn with
 | _ fuel ih =>
 intro cs x h hw;have hts:=DataW.trod_struct Tryz.underlying24 h;obtain⟨xs,n,hfu,hx,hcl,hxl,hg⟩:=hts;subst hx;rw[zpX]at hcl
 match cs,hcl with
 | [c0,c1,c2,c3],_ =>
 match xs,hxl with
 | [y0,y1,y2,y3],_ =>
 have g0:=hg 0 _ rfl;have g1:=hg 1 _ rfl;have g2:=hg 2 _ rfl;have g3:=hg 3 _ rfl;simp only[zxd,zrp,zvr,ztC,List.drop_zero,List.take_succ_cons,List.take_zero,List.drop_succ_cons,List.getElem?_cons_zero,List.getElem?_cons_succ]at g0 g1 g2 g3;obtain⟨k,e0,e0',wk⟩:=DataW.trod_int Tryz.underlying5 g0;obtain⟨m,e1,yV,wm⟩:=DataW.trod_int Tryz.underlying3 g1;obtain⟨s,e2,e2',ws⟩:=DataW.trod_string Tryz.underlying9 g2;injection e0 with e0;injection e1 with e1;injection e2 with e2;subst e0 e1 e2 e0' yV e2';have hf:Fld k m s:=by
  refine⟨?_,?_,ws⟩
  ·have:=wk;simp[Lit.wf,IntKind.min,IntKind.max,IntKind.signed,IntKind.bits]at this;omega
  ·have:=wm;simp[Lit.wf,IntKind.min,IntKind.max,IntKind.signed,IntKind.bits]at this;omega
 have hsl:=DataW.trod_slice Tryz.underlying22 g3;rcases hsl with⟨e3,e3'⟩|⟨a,len,cap,elems,rest,n',hn',e3,e3',_,hl,hm,hel,hat,hsp,_⟩
 ·injection e3 with e3;subst e3 e3';refine⟨.nd k m s [],_,_,_,_,rfl,NV.shut (ks:=[]) hf (Nat.zero_le _) (Nat.zero_le _) zl4.nil,by simp,?_⟩;simp only[size,zkX,List.map_cons,List.map_nil,Rows.uptoBulk];omega
 ·injection e3 with e3;subst e3 e3';obtain⟨hrl,_⟩:=hsp rfl;rw[zpX]at hat
  -- what the reach says of this slice,and of its elements
  have hws:∀q∈DataW.weights Tryz.prog 22 (.slice (elems.map (·.1)) (rest.map (·.1)):DataW H),q<=reachBytes:=by
   intro q hq;refine hw q ?_;simp only[List.map_cons,List.map_nil,DataW.weights,Tryz.underlying24];simp only[DataW.weightsEach,List.map_cons,List.map_nil,List.mem_append];exact .inr (.inr (.inr (.inl hq)))
  simp only[DataW.weights,Tryz.underlying22,ztD]at hws;have hcap:cap*56<=reachBytes:=by
   have:=hws _ (List.mem_cons_self ..);simp only[List.length_map]at this;rw[hel,hrl]at this;rw[show cap=len+(cap-len) by omega];exact this
  have xz:∀y∈elems,∀q∈y.1.weights Tryz.prog 24,q<=reachBytes:=fun y hy q hq =>
   hws q (List.mem_cons_of_mem _ (List.mem_append_left _ (zlX (List.mem_map_of_mem hy) q hq)))
  have key:∀i (hi:i<elems.length),∃t u0 u1 u2 u3,w.cells? 0 (a.add (i*4)) 4=some [u0,u1,u2,u3]/\NV w Any t (.agg #[u0,u1,u2,u3])/\size t<=Rows.uptoBulk elems[i].1:=by
   intro i hi;have h1:=hat i (by omega);rw[List.getElem?_eq_getElem hi]at h1;obtain⟨cs',hcs,ht⟩:=Option.bind_eq_some_iff.1 h1;obtain⟨t,u0,u1,u2,u3,rfl,hn,_,hb⟩:=ih n' (by omega) cs' elems[i] ht (xz _ (List.getElem_mem hi));exact⟨t,u0,u1,u2,u3,hcs,hn,hb⟩
  have hex:∃ks:List T,ks.length=elems.length/\∀i (h:i<ks.length) (h':i<elems.length),(∃u0 u1 u2 u3,w.cells? 0 (a.add (i*4)) 4=some [u0,u1,u2,u3]/\NV w Any ks[i] (.agg #[u0,u1,u2,u3]))/\size ks[i]<=Rows.uptoBulk elems[i].1:=by
   classical
   refine⟨(List.range elems.length).map fun i=>if h:i<elems.length then(key i h).choose else zeroT',by simp,fun i h h'=>?_⟩;simp only[List.getElem_map,List.getElem_range,h',dif_pos];obtain⟨u0,u1,u2,u3,h1,h2,h3⟩:=(key i h').choose_spec;exact⟨⟨u0,u1,u2,u3,h1,h2⟩,h3⟩
  obtain⟨ks,hkl,hks⟩:=hex;have hlen:ks.length=len:=by omega
  have hLK:ks.length<=LK:=by unfold LK;unfold reachBytes at hcap;omega
  refine⟨.nd k m s ks,_,_,_,_,rfl,?_,?_,?_⟩
  ·rw[<-hlen];refine NV.shut hf hLK (by omega) fun i hi=>?_;obtain⟨⟨u0,u1,u2,u3,hc,hn⟩,_⟩:=hks i hi (by omega);obtain⟨_,_,hcell⟩:=World.cells?_some hc;refine⟨a,u0,u1,u2,u3,rfl,trivial,⟨?_,?_,?_,?_⟩,hn⟩
   ·have:=hcell 0 (by omega);simpa[Addr.add]using this
   ·have:=hcell 1 (by omega);simpa[Addr.add]using this
   ·have:=hcell 2 (by omega);simpa[Addr.add]using this
   ·have:=hcell 3 (by omega);simpa[Addr.add]using this
  ·simp only[T.ks_nd];omega
  ·have hb:=zmV ks (elems.map (·.1)) (by simp[hkl]) (fun i h h'=>by
    have:=(hks i h (by simpa using h')).2;simpa using this)
   simp only[size,List.map_cons,List.map_nil,Rows.uptoBulk,Rows.uptoBulkAll];omega
end
theorem Tryz.own:ownKnob Tryz.prog.godebug=none:=by kernel_rfl
theorem Tryz.laidOut:laidOutB Tryz.prog=true:=by kernel_rfl
theorem zwJ{H:Type}{enc:TypeId×Value->H}{W:World}{base:Nat}{v:Value}{d:DataW H}{p:List MemPlace}(hok:Value.okWide Tryz.prog W .any base 24 v)
  (h:DataW.Trod enc Tryz.prog W 0 (fun _=>true) true 24 v d p)(hw:∀n∈d.weights Tryz.prog 24,n<=reachBytes) :
  ∃t,NV W Any t v/\t.ks.length*56<=reachBytes/\size t<=Rows.uptoBulk d:=by
 obtain⟨cs,rfl,hcs⟩:=okWide_struct Tryz.underlying24 hok;obtain⟨fuel,hf⟩:=h;obtain⟨t,u0,u1,u2,u3,e,hn,h1,h2⟩:=zsM fuel _ _ hf hw;refine⟨t,?_,h1,h2⟩;have:cs = #[u0,u1,u2,u3]:=by
  apply Array.ext';simpa[Value.cells]using e
 rw[this];exact hn
theorem ztB:Tryz.prog.cellsOf 76=3:=by kernel_rfl
theorem zxe:Tryz.prog.bytesOf 76=32:=by kernel_rfl
section
variable {H:Type} {enc:TypeId×Value->H} {w:World} {held:Bool}
theorem zo7{ty E:TypeId}{n b:Nat}(ht:Tryz.prog.underlying ty=some (.slice E))(hc:Tryz.prog.cellsOf E=n)(hb:Tryz.prog.bytesOf E=b){fuel:Nat}{cs:List Value}{x:DataW H×List MemPlace}
  (h:DataW.trod enc Tryz.prog w 0 (fun _=>true) held fuel ty cs=some x)(hw:∀q∈x.1.weights Tryz.prog ty,q<=reachBytes) :
  cs=[.slice none 0 0]\/∃a len cap,cs=[.slice (some a) len cap]/\len<=cap/\cap*b<=reachBytes/\∀i,i<len->∃cs' y n',w.cells? 0 (a.add (i*n)) n=some cs'/\DataW.trod enc Tryz.prog w 0 (fun _=>true) held n' E cs'=some y/\∀q∈y.1.weights Tryz.prog E,q<=reachBytes:=by
 have hsl:=DataW.trod_slice ht h;rcases hsl with⟨e3,e3'⟩|⟨a,len,cap,elems,rest,n',hn',e3,e3',_,hl,hm,hel,hat,hsp,_⟩
 ·exact .inl e3
 ·refine .inr ⟨a,len,cap,e3,hl,?_,?_⟩
  ·obtain⟨hrl,_⟩:=hsp rfl;subst e3';simp only[DataW.weights,ht,hb]at hw;have:=hw _ (List.mem_cons_self ..);simp only[List.length_map]at this;rw[hel,hrl]at this;rw[show cap=len+(cap-len) by omega];exact this
  ·intro i hi;subst e3';simp only[DataW.weights,ht,hb]at hw;have hi':i<elems.length:=by omega
   have h1:=hat i (by omega);rw[List.getElem?_eq_getElem hi',hc]at h1;obtain⟨cs',hcs,ht'⟩:=Option.bind_eq_some_iff.1 h1;exact⟨cs',elems[i],n',hcs,ht',fun q hq=>hw q (List.mem_cons_of_mem _ (List.mem_append_left _ (zlX (List.mem_map_of_mem (List.getElem_mem hi')) q hq)))⟩
theorem zwH{fuel:Nat}{cs:List Value}{x:DataW H×List MemPlace}(h:DataW.trod enc Tryz.prog w 0 (fun _=>true) held fuel 76 cs=some x) :
  ∃v:VD,cs=[.string v.s,.int .u8 v.k,.int .i64 v.n]/\FldV v:=by
 have hts:=DataW.trod_struct Tryz.underlying76 h;obtain⟨xs,n,hfu,hx,hcl,hxl,hg⟩:=hts;rw[ztB]at hcl
 match cs,hcl with
 | [c0,c1,c2],_ =>
 match xs,hxl with
 | [y0,y1,y2],_ =>
 have g0:=hg 0 _ rfl;have g1:=hg 1 _ rfl;have g2:=hg 2 _ rfl;obtain⟨s,e2,e2',ws⟩:=DataW.trod_string Tryz.underlying9 g0;obtain⟨k,e0,e0',wk⟩:=DataW.trod_int Tryz.underlying5 g1;obtain⟨m,e1,yV,wm⟩:=DataW.trod_int Tryz.underlying3 g2;injection e0 with e0;injection e1 with e1;injection e2 with e2;subst e0 e1 e2;refine⟨⟨s,k,m⟩,rfl,ws,?_,?_⟩
 ·have:=wk;simp[Lit.wf,IntKind.min,IntKind.max,IntKind.signed,IntKind.bits]at this;constructor<;>simp only<;>omega
 ·have:=wm;simp[Lit.wf,IntKind.min,IntKind.max,IntKind.signed,IntKind.bits]at this;constructor<;>simp only<;>omega
theorem zmP{α:Type}[Inhabited α]{n:Nat}{P:Nat->α->Prop}(h:∀i,i<n->∃x,P i x):∃l:List α,l.length=n/\∀i (hi:i<l.length),P i l[i]:=by
 obtain⟨f,hf⟩:=choose_lt h;exact⟨(List.range n).map f,by simp,fun i hi=>by simp only[List.getElem_map,List.getElem_range];exact hf i (by simpa using hi)⟩
instance:Inhabited VD:=⟨⟨⟨#[]⟩,0,0⟩⟩
theorem zrH{fuel:Nat}{cs:List Value}{x:DataW H×List MemPlace}(h:DataW.trod enc Tryz.prog w 0 (fun _=>true) held fuel 25 cs=some x)(hw:∀q∈x.1.weights Tryz.prog 25,q<=reachBytes) :
  ∃(A:Option Addr) (vs:List VD) (c:Nat),cs=[.slice A vs.length c]/\RowV w Any A vs/\vs.length<=4398046510976/\vs.length<=c:=by
 rcases zo7 Tryz.underlying25 ztB zxe h hw with rfl|⟨a,len,cap,rfl,hl,hcap,hat⟩
 ·exact⟨none,[],0,rfl,fun i hi=>absurd hi (by simp),Nat.zero_le _,Nat.zero_le _⟩
 ·obtain⟨vs,hvl,hvs⟩:=zmP (n:=len) (P:=fun i (v:VD)=>w.cells? 0 (a.add (i*3)) 3=some [.string v.s,.int .u8 v.k,.int .i64 v.n]/\FldV v) fun i hi=>by
   obtain⟨cs',y,n',hcs,ht,_⟩:=hat i hi;obtain⟨v,rfl,hf⟩:=zwH ht;exact⟨v,hcs,hf⟩
  refine⟨some a,vs,cap,by rw[hvl],fun i hi=>?_,by unfold reachBytes at hcap;omega,by omega⟩;obtain⟨hc,hf⟩:=hvs i hi;obtain⟨_,_,hcell⟩:=World.cells?_some hc;refine⟨a,rfl,trivial,⟨?_,?_,?_⟩,hf⟩
  ·have:=hcell 0 (by omega);simpa[Addr.add]using this
  ·have:=hcell 1 (by omega);simpa[Addr.add]using this
  ·have:=hcell 2 (by omega);simpa[Addr.add]using this
theorem zsL{fuel:Nat}{cs:List Value}{x:DataW H×List MemPlace}(h:DataW.trod enc Tryz.prog w 0 (fun _=>true) held fuel 25 cs=some x)(hw:∀q∈x.1.weights Tryz.prog 25,q<=reachBytes) :
  ∃(A:Option Addr) (vs:List VD) (c:Nat),cs=[.slice A vs.length c]/\RowV w Any A vs/\vs.length<=LV/\vs.length<=c:=by
 obtain⟨A,vs,c,h1,h2,h3,h4⟩:=zrH h hw;exact⟨A,vs,c,h1,h2,by unfold LV;omega,h4⟩
instance:Inhabited T:=⟨zeroT'⟩
end
end
end Go.Proofs.YtghbhbdnkjjnnaaGreat
