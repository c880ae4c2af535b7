/-
  Texts of the proof, put together without their remarks: Enw, Rfg, Bkv, Rfx, Enp, Enq, En1, En2, En3, Asg, Ass.
-/
import Derived.Test.YtghbhbdnkjjnnaaGreatN9
import Derived.Laws.BytesString
import Derived.Deep.Cut
import Derived.Sort.CutIn
set_option linter.unusedSimpArgs false
set_option linter.unusedVariables false
set_option maxHeartbeats 8000000
set_option maxRecDepth 100000
namespace Go.Proofs.YtghbhbdnkjjnnaaGreat
open Go Go.RowKit
theorem zww:(Tryz.prog.info? 5).map (fun i=>(i.zero,i.size,i.bytes))=some (some (.int .u8 0),1,1):=by kernel_rfl
theorem zwc (x:Int) (w:World):(Instr.buildSlice 83 1 #[(0,.int .u8 x)]).run Tryz.prog w=.ok (.slice (some ⟨w.heap.size,0,none⟩) 1 1) (w.alloc (.cells #[.int .u8 x] 5)):=by kernel_rfl
def zkR (xs:List Int):List Value:=xs.map fun x=>.int .u8 x
theorem zny {ops:Array Oper} {rest:List Oper} {o:Oper} {a:Act} {W:World} {Q:Exit->Act->World->Prop} (hgd:o.guard=none) (s x:Operand)
  (ho:o.op=.call { callee:=.builtin .append,args := #[s,x],argTypes := #[83,83] }) (base:Nat) (v:Value) (n:Nat) (xs:List Value) (hs:a.eval s=v) (hrow:W.ownsRow base 5 1 v n xs)
  (b:Nat) (y:Int) (hx:a.eval x=.slice (some ⟨b,0,none⟩) 1 1) (hc:W.heap[b]?=some (.cells #[.int .u8 y] 5 (0,0))) (hl:n+1<=1000000) (hb:base<=W.heap.size)
  (h:∀ v' w',w'.ownsRow base 5 1 v' (n+1) (xs++[.int .u8 y])->W.grownBy w' v.ownBlock->wpList Tryz.prog ops Q rest (a.put o.dst v') w') :
  wpList Tryz.prog ops Q (o::rest) a W:=by
 obtain⟨i,hi,hz0,hz1,hz2⟩:=info_parts zww;refine wpList_append_own_at (P:=Tryz.prog) _ hgd s x 83 ho base 5 i _ 1 1 Tryz.underlying83 hi hz0 hz1 hz2 rfl (by decide) v n xs hs hrow ⟨b,0,none⟩ 1 1 [.int .u8 y] hx (by simp) (fun j u hj=>?_) (fun u hu=>?_) (by unfold maxLen;omega) (by omega) hb (fun v' w' h1 h2 _ _=>h v' w' h1 h2)
 ·rw[Addr.add_lit,Nat.zero_add];exact zc hc (by simpa using hj)
 ·simp only[List.mem_cons,List.not_mem_nil,or_false] at hu;subst hu;rfl
theorem zqP (n:Int):∀ (k j:Nat),j<k->(bysE n k)[j]?=some (byE n (k-1-j))
 | k+1,0,_=>by simp[bysE]
 | k+1,j+1,h=>by
  rw[bysE,List.getElem?_cons_succ,zqP n k j (by omega)];congr 2;omega
def BytP (base:Nat) (n:Nat) (xs:List Value) (ys:List Int) (w:World) (e:Ending) (w':World):Prop :=
 ∃ A c,e=.returned (.slice A (n+ys.length) c)/\w'.ownsRow base 5 1 (.slice A (n+ys.length) c) (n+ys.length) (xs++zkR ys)/\Below base w w'
theorem zlf (base n:Nat) (A:Option Addr) (c:Nat) (xs:List Value) (x:Int) (k:Nat) (w:World) (hr:w.ownsRow base 5 1 (.slice A n c) n xs) (hb:base<=w.heap.size) (hk:k<=8) (hn:n<=900000) (hx:I64 x) :
  Calls Tryz.prog 82 #[.slice A n c,.int .i64 x,.int .i64 (k:Int)] w (BytP base n xs (bysE x k) w):=by
 have HR:=zh hr;have HB:=zh hb;clear hr hb;go_enter Tryz.func82,Tryz.ntmps82;go_wp2_with fail
 go_loopw [9,0] (fun i v wr=>∃ (j:Nat) (A':Option Addr) (c':Nat),j<=k/\i=.int .i64 j/\v=.slice A' (n+j) c'/\Hid (Below base w wr)/\Hid (wr.ownsRow base 5 1 (.slice A' (n+j) c') (n+j) (xs++zkR ((bysE x k).take j)))) (fun i _ _=>k-(intOf i).toNat)
 case atStart=>exact⟨0,A,c,Nat.zero_le _,rfl,rfl,zh (Below.refl _ _),zh (by simpa[zkR] using HR.out)⟩
 case round =>
  obtain⟨j,A',c',hj,rfl,rfl,af,HRW⟩:=hrel;by_cases hlt:j<k
  ·have hj1:(j:Int)<(k:Int):=by omega
   have e1:IntKind.i64.wrap ((k:Int)-1)=(k:Int)-1:=IntWalk.i64_in _ (by omega);have e2:IntKind.i64.wrap ((k:Int)-1-(j:Int))=((k-1-j:Nat):Int):=by rw[show((k-1-j:Nat):Int)=(k:Int)-1-(j:Int) by omega];exact IntWalk.i64_in _ (by omega)
   obtain⟨m,hm⟩:∃ m,k-1-j=m:=⟨_,rfl⟩
   rw[hm] at e2;have e3:IntKind.i64.wrap (8*(m:Int))=8*(m:Int):=IntWalk.i64_in _ (by omega);obtain⟨y,hy⟩:∃ y,x / 2 ^ (8*m) % 256=y:=⟨_,rfl⟩
   have hyb:byE x m=y:=by
    rw[<-hy];unfold byE;rw[show(256:Int) ^ m=2 ^ (8*m) by rw[Int.pow_mul];rfl]
   have htk:(bysE x k).take (j+1)=(bysE x k).take j++[y]:=by
    rw[List.take_add_one,zqP x k j hlt,hm,hyb];rfl
   have lT:=zh htk;have hrow:=zkI HRW.out (zkc (Below.refl wr.heap.size wr) (.cells #[.int .u8 y] 5));have hk4:=heap_alloc_new wr (.cells #[.int .u8 y] 5);have hl4:n+j+1<=1000000:=by omega
   have hsz:=af.out.size;have hb4:base<=(wr.alloc (.cells #[.int .u8 y] 5)).heap.size:=by have:=HB.out;simp;omega
   have HX:=zh (show ∀ v' w',w'.ownsRow base 5 1 v' (n+j+1) (xs++zkR ((bysE x k).take j)++[.int .u8 y])->(wr.alloc (.cells #[.int .u8 y] 5)).grownBy w' (Value.slice A' (n+j) c').ownBlock->∃ A9 c9,v'=.slice A9 (n+j+1) c9/\Hid (Below base w w')/\Hid (w'.ownsRow base 5 1 (.slice A9 (n+j+1) c9) (n+j+1) (xs++zkR ((bysE x k).take (j+1)))) from fun v' w' ho hg=>by
    obtain⟨A9,c9,rfl,-⟩:=zkg ho;have h2:Below base w (wr.alloc (.cells #[.int .u8 y] 5)):=af.out.trans ((zkc (Below.refl wr.heap.size wr) _).mono (Nat.le_trans HB.out hsz));refine⟨A9,c9,rfl,zh (h2.trans ((Chg.row hg).below hb4 fun q e=>(HRW.out.lt q e).1)),zh ?_⟩;rw[lT.out,show zkR ((bysE x k).take j++[y])=zkR ((bysE x k).take j)++[.int .u8 y] by simp[zkR],<-List.append_assoc];exact ho)
   have hbu:=zwc y wr;have sH:IntKind.i64.wrap ((j:Int)+1)=(j:Int)+1:=IntWalk.i64_in _ (by omega);clear htk hyb;go_wp2_with (at_builtin;refine zny rfl (.tmp 12) (.tmp 21) rfl base (.slice A' (n+j) c') (n+j) _ rfl hrow wr.heap.size _ rfl hk4 hl4 hb4 ?_;intro v' w' ho hg;obtain⟨A9,c9,rfl,aW,ed⟩:=HX.out _ _ ho hg;clear ho hg)
   exact⟨⟨j+1,A9,c9,by omega,by go_num,rfl,aW,ed⟩,by simp[intOf];omega⟩
  ·obtain rfl:j=k:=by omega
   have hj1:¬ (j:Int)<(j:Int):=by omega
   go_wp2_with fail;go_ret;have h:=HRW.out;rw[List.take_of_length_le (by rw[zkH];exact Nat.le_refl _)] at h;refine⟨A',c',by rw[zkH];rfl,by rw[zkH];exact h,af.out⟩
theorem ztZ {l:List Int} {j:Nat} (h:j<l.length):lsE (l.take (j+1))=lsE (l.take j)++bysE l[j] 8:=by
 rw[List.take_succ_eq_append_getElem h];unfold lsE;rw[List.flatMap_append];simp
theorem BytP.mk' {base n:Nat} {xs:List Value} {ys:List Int} {w w':World} {A:Option Addr} {c m:Nat} (hm:n+ys.length=m) (ho:w'.ownsRow base 5 1 (.slice A m c) m (xs++zkR ys)) (hb:Below base w w'):BytP base n xs ys w (.returned (.slice A m c)) w':=by
 subst hm;exact⟨A,c,rfl,ho,hb⟩
theorem zlV (base n:Nat) (A:Option Addr) (c:Nat) (xs:List Value) (B:Option Addr) (d:Nat) (l:List Int) (w:World) (hr:w.ownsRow base 5 1 (.slice A n c) n xs) (hb:base<=w.heap.size) (hl:RowI w (fun q=>q<base) B l) (hn:n+8*l.length<=900000) :
  Calls Tryz.prog 83 #[.slice A n c,.slice B l.length d] w (BytP base n xs (lsE l) w):=by
 have HR:=zh hr;have HB:=zh hb;have HL:=zh hl;obtain⟨k,hk⟩:∃ k,l.length=k:=⟨_,rfl⟩
 have HK:=zh hk;rw[hk] at hn ⊢;clear hr hb hl hk;go_enter Tryz.func83,Tryz.ntmps83;go_wp2_with fail
 go_loopw [9,0] (fun i v wr=>∃ (j:Nat) (A':Option Addr) (c':Nat),j<=k/\i=.int .i64 j/\v=.slice A' (n+8*j) c'/\Hid (Below base w wr)/\Hid (wr.ownsRow base 5 1 (.slice A' (n+8*j) c') (n+8*j) (xs++zkR (lsE (l.take j))))) (fun i _ _=>k-(intOf i).toNat)
 case atStart=>exact⟨0,A,c,Nat.zero_le _,rfl,rfl,zh (Below.refl _ _),zh (by simpa[zkR,lsE] using HR.out)⟩
 case round =>
  obtain⟨j,A',c',hj,rfl,rfl,af,HRW⟩:=hrel;by_cases hlt:j<k
  ·have hj1:(j:Int)<(k:Int):=by omega
   have hj0:(0:Int)<=(j:Int):=by omega
   have hlk:j<l.length:=by rw[HK.out];exact hlt
   have hl2:=HL.out.keep (w':=wr) (S':=Any) (fun _ _ _=>trivial) fun q h _=>af.out.block q h;obtain⟨a,rfl,-,hx0,iV⟩:=hl2 j hlk;have lT:=zh (ztZ hlk);obtain⟨x,hx⟩:∃ x,l[j]=x:=⟨_,rfl⟩
   rw[hx] at hx0 iV lT;have HAB:=zh (zlf base (n+8*j) A' c' (xs++zkR (lsE (l.take j))) x 8 wr HRW.out (Nat.le_trans HB.out af.out.size) (by omega) (by omega) iV);have sH:IntKind.i64.wrap ((j:Int)+1)=(j:Int)+1:=IntWalk.i64_in _ (by omega);clear hl2 hx iV;go_wp2_with fail;refine HAB.out.mono ?_;rintro e w5 ⟨A9,c9,rfl,ho,hb5⟩;rw[zkH] at ho ⊢;have av:=zh (af.out.trans hb5);have fQ:=zh (show w5.ownsRow base 5 1 (.slice A9 (n+8*(j+1)) c9) (n+8*(j+1)) (xs++zkR (lsE (l.take (j+1)))) by
    rw[lT.out,show zkR (lsE (l.take j)++bysE x 8)=zkR (lsE (l.take j))++zkR (bysE x 8) by simp[zkR],<-List.append_assoc];exact ho)
   clear ho hb5 hx0;go_wp2_with fail;exact⟨⟨j+1,A9,c9,by omega,by go_num,rfl,av,fQ⟩,by simp[intOf];omega⟩
  ·obtain rfl:j=k:=by omega
   have hj1:¬ (j:Int)<(j:Int):=by omega
   go_wp2_with fail;go_ret;have h:=HRW.out;rw[List.take_of_length_le (by rw[HK.out];exact Nat.le_refl _)] at h;exact BytP.mk' (by rw[zoQ,HK.out]) h af.out
theorem zqL:∀ {vs:List VD} {ls:List (List Int)} {j:Nat} (h:j<vs.length) (h':j<ls.length),enC (vs.take (j+1)) (ls.take (j+1))=enC (vs.take j) (ls.take j)++((if vs[j].k=3 then bysE ls[j].length 2 else [])++lsE ls[j])
 | v::vs,l::ls,0,_,_=>by simp[enC]
 | v::vs,l::ls,j+1,h,h'=>by
  have:=zqL (vs:=vs) (ls:=ls) (j:=j) (by simpa using h) (by simpa using h');simp only[List.take_succ_cons,enC,List.getElem_cons_succ] at this ⊢;rw[this];simp only[List.append_assoc]
theorem zsG:∀ {vs:List VD} {ls:List (List Int)} (j:Nat),(∀ l∈ls,l.length<=1000)->(enC (vs.take j) (ls.take j)).length<=j*8002
 | [],_,j,_=>by simp[enC]
 | _::_,[],j,_=>by cases j<;>simp[enC]
 | v::vs,l::ls,0,_=>by simp[enC]
 | v::vs,l::ls,j+1,h=>by
  have:=zsG (vs:=vs) (ls:=ls) j fun l hl=>h l (List.mem_cons_of_mem _ hl);have hl:=h l (List.mem_cons_self ..);simp only[List.take_succ_cons,enC,List.length_append,zoQ];have h2:(if v.k=3 then bysE (l.length:Int) 2 else []).length<=2:=by split<;>simp[zkH]
  omega
theorem zqG:∀ {vs:List VD} {ls:List (List Int)},ls.length=vs.length->vs.all vdB=true->zlJ vs ls=true->∀ l∈ls,l.length<=1000
 | [],[],_,_,_,l,h=>by cases h
 | v::vs,m::ls,hl,hv,hf,l,h=>by
  simp only[zlJ,Bool.and_eq_true] at hf;simp only[List.all_cons,Bool.and_eq_true] at hv;rcases List.mem_cons.1 h with rfl|h
  ·have h1:=hf.1;unfold fit1 at h1
   split at h1
   ·exact of_decide_eq_true h1
   ·have h2:=of_decide_eq_true h1;have h3:=zoI hv.1;omega
  ·exact zqG (by simpa using hl) hv.2 hf.2 l h
 | [],_::_,h,_,_,_,_=>by simp at h
 | _::_,[],h,_,_,_,_=>by simp at h
theorem zmj (a b:List Int):zkR (a++b)=zkR a++zkR b:=by simp[zkR]
def EncP (vs:List VD) (s:SS) (w:World) (e:Ending) (w':World):Prop:=Below w.heap.size w w'/\((fitB vs s=false/\e=.returned (.tuple #[.slice none 0 0,.int .i64 3]))\/(fitB vs s=true/\∃ A c,e=.returned (.tuple #[.slice A (encS vs s).length c,.int .i64 0])/\w'.ownsRow w.heap.size 5 1 (.slice A (encS vs s).length c) (encS vs s).length (zkR (encS vs s))))
theorem zor:IsFn Tryz.prog 82 Tryz.f82:=⟨Tryz.func82,by kernel_rfl,by kernel_rfl⟩
theorem zpo:IsFn Tryz.prog 83 Tryz.f83:=⟨Tryz.func83,by kernel_rfl,by kernel_rfl⟩
theorem zrs (vs:List VD) (s:SS) (A0:Option Addr) (c0:Nat) (v:Value) (w:World) (hrow:RowV w Any A0 vs) (hl:vs.length<=LV) (hv:SV w Any s v):Calls Tryz.prog 39 #[.slice A0 vs.length c0,v] w (EncP vs s w):=by
 have ae:=zh hrow;have cB:=zh (fun w' (hb:Below w.heap.size w w')=>zqS vs s A0 c0 v w' (hrow.later hb) hl (hv.later hb));obtain⟨fb,o8⟩:∃ x,fitB vs s=x:=⟨_,rfl⟩
 have dz:=zh o8;rw[o8] at cB;have HSVV:=zh (hv.keep (S':=fun q=>q<w.heap.size) (fun _ _ h=>h) fun _ _ _=>rfl);obtain⟨A,c,B,d,D,e,rfl,-⟩:=hv;have hb1:=zkc (Below.refl w.heap.size w) (.cells #[.slice A s.cells.length c,.slice B s.tin.length d,.slice D s.tout.length e] 34);have hk1:=heap_alloc_new w (.cells #[.slice A s.cells.length c,.slice B s.tin.length d,.slice D s.tout.length e] 34);clear hrow o8;go_enter Tryz.func39,Tryz.ntmps39;go_upto_region 1 with fail;obtain⟨w1,hw1⟩:∃ x,w.alloc (.cells #[.slice A s.cells.length c,.slice B s.tin.length d,.slice D s.tout.length e] 34)=x:=⟨_,rfl⟩
 rw[hw1] at hb1 hk1 ⊢;obtain⟨x0,x1,x2⟩:=zkr hk1;have HB1:=zh hb1;have aB:=zh hk1;clear hw1 hb1 hk1;go_wp2_with fail;refine(cB.out _ HB1.out).mono ?_;rintro e1 w2 ⟨rfl,hb2⟩;have HB2:=zh (zka HB1.out hb2);have aK:=zh (zkb aB.out hb2);clear hb2 x0 x1 x2
 cases fb
 ·go_wp2_with fail;go_ret2;exact⟨HB2.out,.inl ⟨dz.out,rfl⟩⟩
 obtain⟨q1,q2,q3,q4,q5⟩:=zna dz.out;have hq6:=zqG q2 (by simp only[svB,Bool.and_eq_true] at q1;exact q1.2) q5;have hn32:vs.length<=32:=by simp only[svB,Bool.and_eq_true,decide_eq_true_eq] at q1;exact q1.1
 obtain⟨A_,c_,B_,d_,D_,e_,he,hr1,hr2,hr3,-⟩:=HSVV.out;injection he with he;simp only[Array.mk.injEq,List.cons.injEq,and_true,Value.slice.injEq,true_and] at he;obtain⟨⟨rfl,rfl⟩,⟨rfl,rfl⟩,rfl,rfl⟩:=he;have HR1:=zh hr1;have HR2:=zh hr2;have HR3:=zh hr3;have rA:=zh hq6;have pK:=zh q2;have HTI:=zh q3;have HTO:=zh q4;rw[q2] at aK;obtain⟨n,hn⟩:∃ n,vs.length=n:=⟨_,rfl⟩
 have HN:=zh hn;rw[hn] at hn32 aK;clear q1 q2 q5 hq6 hr1 hr2 hr3 cB HSVV;rw[HN.out];go_wp2_with fail
 go_loopw [15,6] (fun i v wr=>∃ (j:Nat) (A':Option Addr) (c':Nat),j<=n/\i=.int .i64 j/\v=.slice A' (enC (vs.take j) (s.cells.take j)).length c'/\Hid (Below w2.heap.size w2 wr)/\Hid (wr.ownsRow w2.heap.size 5 1 (.slice A' (enC (vs.take j) (s.cells.take j)).length c') (enC (vs.take j) (s.cells.take j)).length (zkR (enC (vs.take j) (s.cells.take j))))) (fun i _ _=>n-(intOf i).toNat)
 case atStart=>exact⟨0,none,0,Nat.zero_le _,rfl,rfl,zh (Below.refl _ _),zh ⟨rfl,.inl ⟨rfl,rfl⟩⟩⟩
 case round =>
  obtain⟨j,A',c',hj,rfl,rfl,af,HRW⟩:=hrel;have yc:=zh (zsG (vs:=vs) (ls:=s.cells) j rA.out);obtain⟨E,hE⟩:∃ E,enC (vs.take j) (s.cells.take j)=E:=⟨_,rfl⟩
  rw[hE] at HRW yc ⊢;have HE:=zh hE;clear hE;by_cases hlt:j<n
  ·have hj1:(j:Int)<(n:Int):=by omega
   have hj0:(0:Int)<=(j:Int):=by omega
   have hlv:j<vs.length:=by rw[HN.out];exact hlt
   have hlc:j<s.cells.length:=by rw[pK.out];exact hlv
   have hEL:E.length<=300000:=by have:=yc.out;omega
   obtain⟨a,u,rfl,-,Hu,⟨p0,p1,p2⟩,hf⟩:=(ae.out.later (zka HB2.out af.out)).nd hlv;have lT:=zh (zqL hlv hlc);rw[Hu.out,HE.out] at lT;have hll:=rA.out _ (List.getElem_mem hlc);obtain⟨a2,A3,c3,ha2,has,hce,-,aS⟩:=HR1.out j hlc;obtain⟨l,vU⟩:∃ l,s.cells[j]=l:=⟨_,rfl⟩
   rw[vU] at lT hce aS hll;obtain⟨us,uk,un⟩:=u;simp only at p0 p1 p2 lT;obtain⟨w9,aQ⟩:∃ x,wr.alloc (.cells #[.string us,.int .u8 uk,.int .i64 un] 76)=x:=⟨_,rfl⟩
   have aH:Below wr.heap.size wr w9:=by rw[<-aQ];exact zkc (Below.refl _ _) _
   have aG:=heap_alloc_new wr (.cells #[.string us,.int .u8 uk,.int .i64 un] 76);rw[aQ] at aG;have y1:w9.cell? ⟨wr.heap.size,1,none⟩=some (.int .u8 uk):=zc aG rfl;have aW:=zh (zka af.out aH);obtain⟨x0,-,-⟩:=zkr (zkb aK.out aW.out);have z0:=zb aW.out (zb HB2.out hce);rw[ha2] at x0;clear ha2;have bV:=zh (aS.keep (w':=w9) (S':=fun q=>q<w2.heap.size) (fun q h _=>Nat.lt_of_lt_of_le h HB2.out.size) fun q h _=>(zka HB2.out aW.out).block q h);have j3:=zh (zkI HRW.out aH);have hbs9:w2.heap.size<=w9.heap.size:=aW.out.size;have fZ:=zh (fun w' (hb:Below w2.heap.size w9 w')=>(show w'.cell? ⟨w.heap.size,0,none⟩=some (.slice (some a2) n c)/\w'.cell? (a2.add j)=some (.slice A3 l.length c3) from
    ⟨zkp x0 (hb.block _ (zkj aK.out)),zkp z0 (hb.block _ (by rw[zko];exact Nat.lt_of_lt_of_le has HB2.out.size))⟩))
   have jM:=zh (fun w' (hb:Below w2.heap.size w9 w') (m:Nat) (A5:Option Addr) (c5:Nat) (xs:List Value) (ho:w'.ownsRow w2.heap.size 5 1 (.slice A5 m c5) m xs) (hm:m<=300002) =>
    zlV w2.heap.size m A5 c5 xs A3 c3 l w' ho (Nat.le_trans hbs9 hb.size) (bV.out.keep (fun _ h _=>h) fun q h _=>hb.block q h) (by omega))
   have sH:IntKind.i64.wrap ((j:Int)+1)=(j:Int)+1:=IntWalk.i64_in _ (by omega);have aC:=zh (fun(w':World) (A7:Option Addr) (c7 m:Nat) (hb:Below w2.heap.size w9 w') (hm:m=(E++((if uk=3 then bysE l.length 2 else [])++lsE l)).length) (ho:w'.ownsRow w2.heap.size 5 1 (.slice A7 m c7) m (zkR (E++((if uk=3 then bysE l.length 2 else [])++lsE l)))) =>
    (show ∃ c',Value.slice A7 m c7=.slice A7 (enC (vs.take (j+1)) (s.cells.take (j+1))).length c'/\Hid (Below w2.heap.size w2 w')/\Hid (w'.ownsRow w2.heap.size 5 1 (.slice A7 (enC (vs.take (j+1)) (s.cells.take (j+1))).length c') (enC (vs.take (j+1)) (s.cells.take (j+1))).length (zkR (enC (vs.take (j+1)) (s.cells.take (j+1))))) from by
     rw[lT.out];subst hm;exact⟨c7,rfl,zh (aW.out.trans hb),zh ho⟩))
   clear z0 aG aH aS vU hce hf;by_cases h3:uk=3
   ·subst h3;have HA1:=zh (zlf w2.heap.size E.length A' c' (zkR E) (l.length:Int) 2 w9 j3.out hbs9 (by omega) (by omega) (by unfold I64;omega));obtain⟨z1,z2⟩:=fZ.out w9 (Below.refl _ _);clear x0;go_wp2_with fail;refine HA1.out.mono ?_;rintro e5 w5 ⟨A5,c5,rfl,dW,hb5⟩;rw[zkH] at dW ⊢;have av:=zh hb5;have sF:=zh (jM.out w5 hb5 (E.length+2) A5 c5 _ dW (by omega));obtain⟨z3,z4⟩:=fZ.out w5 hb5;clear dW hb5 z1 z2 y1 aQ;go_wp2_with fail;refine sF.out.mono ?_;rintro e6 w6 ⟨A7,c7,rfl,gz,bF⟩;obtain⟨c8,e8,bA,gG⟩:=aC.out w6 A7 c7 (E.length+2+(lsE l).length) (av.out.trans bF) (by simp[zkH];omega) (by rw[if_pos (show True from trivial),zmj,zmj,<-List.append_assoc];exact gz);rw[e8];clear e8 gz bF z3 z4;go_wp2_with fail
    go_roundw
    case rel=>exact⟨j+1,A7,c8,by omega,by go_num,rfl,bA,gG⟩
    case measure=>simp[intOf];omega
   ·have e3:(uk==3)=false:=by simpa using h3
    have sF:=zh (jM.out w9 (Below.refl _ _) E.length A' c' _ j3.out (by omega));obtain⟨z1,z2⟩:=fZ.out w9 (Below.refl _ _);clear x0;go_wp2_with fail;refine sF.out.mono ?_;rintro e6 w6 ⟨A7,c7,rfl,gz,bF⟩;obtain⟨c8,e8,bA,gG⟩:=aC.out w6 A7 c7 (E.length+(lsE l).length) bF (by simp[h3]) (by rw[if_neg h3,List.nil_append,zmj];exact gz);rw[e8];clear e8 gz bF z1 z2 y1 aQ;go_wp2_with fail
    go_roundw
    case rel=>exact⟨j+1,A7,c8,by omega,by go_num,rfl,bA,gG⟩
    case measure=>simp[intOf];omega
  ·obtain rfl:j=n:=by omega
   have hj1:¬ (j:Int)<(j:Int):=by omega
   have hEE:enC vs s.cells=E:=by rw[<-HE.out,List.take_of_length_le (by rw[HN.out];exact Nat.le_refl _),List.take_of_length_le (by rw[pK.out,HN.out];exact Nat.le_refl _)]
   have HEE:=zh hEE;have hEL:E.length<=300000:=by have:=yc.out;omega
   obtain⟨-,x1,x2⟩:=zkr (zkb aK.out af.out);clear hEE;have hti:=HTI.out;have hto:=HTO.out;have mi:=zh (show Below w.heap.size w wr from zka HB2.out af.out);go_upto_region 11 with fail;have hSS:(fun w':World=>w'.cell? ⟨w.heap.size,1,none⟩=some (.slice B s.tin.length d)) wr.drew/\(fun _:World=>True) wr.drew:=⟨x1,trivial⟩
   refine wp_region_noPanic ?_;refine zkd (fun w':World=>w'.cell? ⟨w.heap.size,1,none⟩=some (.slice B s.tin.length d)) (fun _:World=>True) 100 (by kernel_rfl) ?_;refine zT 0 hSS ?_;(try simp only[zQ]);refine zT 1 hSS ?_;(try simp only[zQ]);refine zT 2 hSS ?_;(try simp only[zQ]);refine zT 3 hSS ?_;(try simp only[zQ]);refine zT 5 hSS ?_;(try simp only[zQ]);refine zT 6 hSS ?_;(try simp only[zQ]);have hbd:=(Below.refl wr.heap.size wr).drew;have had:Calls Tryz.prog 82 [.slice A' E.length c',.int .i64 (s.tin.length:Int),.int .i64 2].toArray wr.drew fun e w'=>∃ u,e=.returned u/\((∃ A5 c5,u=.slice A5 (E.length+2) c5/\w'.ownsRow w2.heap.size 5 1 (.slice A5 (E.length+2) c5) (E.length+2) (zkR (E++bysE s.tin.length 2)))/\Below w2.heap.size wr w') :=
    (zlf w2.heap.size E.length A' c' (zkR E) (s.tin.length:Int) 2 wr.drew (zkI HRW.out hbd) (Nat.le_trans af.out.size (Nat.le_refl _)) (by omega) (by omega) (by unfold I64;omega)).mono fun e w' ⟨A5,c5,h1,h2,h3⟩=>⟨_,h1,⟨A5,c5,by rw[zkH],by rw[zkH] at h2;rw[zmj];exact h2⟩,(hbd.mono af.out.size).trans h3⟩
   refine zo 4 fun K hK=>?_;refine zke (by rfl) (.func 82) [.tmp 39,.tmp 42,.const (.int .i64 2)] _ (by rfl) 82 _ zor (by rfl) _ (by rfl) _ had ?_;rintro v5 w5 ⟨⟨A5,c5,rfl,dW⟩,hb5⟩;have hS5:(fun w':World=>w'.cell? ⟨w.heap.size,1,none⟩=some (.slice B s.tin.length d)) w5:=zkp x1 (hb5.block _ (zkj aK.out));refine hK.out _ _ ⟨hS5,trivial⟩ ?_;clear hK K had hSS hbd;(try simp only[zQ]);have had:Calls Tryz.prog 83 [.slice A5 (E.length+2) c5,(.slice B s.tin.length d)].toArray w5 fun e w'=>∃ u,e=.returned u/\((∃ A7 c7,u=.slice A7 (E++cnE s.tin).length c7/\w'.ownsRow w2.heap.size 5 1 (.slice A7 (E++cnE s.tin).length c7) (E++cnE s.tin).length (zkR (E++cnE s.tin)))/\Below w2.heap.size wr w') :=
    (zlV w2.heap.size (E.length+2) A5 c5 _ _ _ s.tin w5 dW (Nat.le_trans af.out.size hb5.size) (HR2.out.keep (fun q h _=>Nat.lt_of_lt_of_le h HB2.out.size) fun q h _=>(mi.out.trans (hb5.mono HB2.out.size)).block q h) (by omega)).mono fun e w' ⟨A7,c7,h1,h2,h3⟩=>by
     have e9:E.length+2+(lsE s.tin).length=(E++cnE s.tin).length:=by simp[cnE,zkH];omega
     rw[e9] at h1 h2;exact⟨_,h1,⟨A7,c7,rfl,by rw[show zkR (E++bysE s.tin.length 2)++zkR (lsE s.tin)=zkR (E++cnE s.tin) by simp[zkR,cnE]] at h2;exact h2⟩,hb5.trans h3⟩
   refine zo 7 fun K hK=>?_;refine zke (by rfl) (.func 83) [.tmp 43,.tmp 45] _ (by rfl) 83 _ zpo (by rfl) _ (by rfl) _ had ?_;rintro v7 wx ⟨⟨A7,c7,rfl,gz⟩,bF⟩;have qO:(fun w':World=>w'.cell? ⟨w.heap.size,1,none⟩=some (.slice B s.tin.length d)) wx:=zkp x1 (bF.block _ (zkj aK.out));refine hK.out _ _ ⟨qO,trivial⟩ ?_;clear hK K had hS5 dW hb5;(try simp only[zQ]);refine zkt (i:=8) (v:=?_) rfl (by kernel_rfl) (by kernel_rfl) (by kernel_rfl) (by decide) (fun _ _ _ h=>h) (Or.inl ⟨by rfl,?_⟩) ⟨qO,trivial⟩ ?_;rotate_left 1
   ·(intro w hSw;(try dsimp only at hSw);(try simp only[zA,zB,zC]);go_simp;(try with_reducible rfl))
   (try simp only[zQ]);refine zd ?_;refine NoPanic.normal ?_;clear qO;have aM:=zh bF;obtain⟨F,hF⟩:∃ F,E++cnE s.tin=F:=⟨_,rfl⟩
   have hFL:F.length<=340000:=by rw[<-hF];simp[cnE,zkH,zoQ];omega
   have hF2:E.length+(cnE s.tin).length=F.length:=by rw[<-hF];simp
   rw[hF] at gz ⊢;have HOX:=zh gz;have HF:=zh hF;have HJ1:=zh (show Below w.heap.size w wx from mi.out.trans (bF.mono HB2.out.size));have HJ2:=zh (show w2.heap.size<=wx.heap.size from Nat.le_trans af.out.size bF.size)
   replace x2:wx.cell? ⟨w.heap.size,2,none⟩=some (.slice D s.tout.length e):=zkp x2 (bF.block _ (zkj aK.out))
   clear gz bF hF x1;obtain⟨A6,hA6⟩:∃ x,A7=x:=⟨_,rfl⟩
   obtain⟨c6,hc6⟩:∃ x,c7=x:=⟨_,rfl⟩
   rw[hA6,hc6] at HOX ⊢;clear hA6 hc6;go_upto_region 12 with fail;have hSS:(fun w':World=>w'.cell? ⟨w.heap.size,2,none⟩=some (.slice D s.tout.length e)) wx.drew/\(fun _:World=>True) wx.drew:=⟨x2,trivial⟩
   refine wp_region_noPanic ?_;refine zkd (fun w':World=>w'.cell? ⟨w.heap.size,2,none⟩=some (.slice D s.tout.length e)) (fun _:World=>True) 100 (by kernel_rfl) ?_;refine zT 0 hSS ?_;(try simp only[zQ]);refine zT 1 hSS ?_;(try simp only[zQ]);refine zT 2 hSS ?_;(try simp only[zQ]);refine zT 3 hSS ?_;(try simp only[zQ]);refine zT 5 hSS ?_;(try simp only[zQ]);refine zT 6 hSS ?_;(try simp only[zQ]);have hbd:=(Below.refl wx.heap.size wx).drew;have had:Calls Tryz.prog 82 [.slice A6 F.length c6,.int .i64 (s.tout.length:Int),.int .i64 2].toArray wx.drew fun e w'=>∃ u,e=.returned u/\((∃ A5 c5,u=.slice A5 (F.length+2) c5/\w'.ownsRow w2.heap.size 5 1 (.slice A5 (F.length+2) c5) (F.length+2) (zkR (F++bysE s.tout.length 2)))/\Below w2.heap.size wx w') :=
    (zlf w2.heap.size F.length A6 c6 (zkR F) (s.tout.length:Int) 2 wx.drew (zkI HOX.out hbd) (Nat.le_trans HJ2.out (Nat.le_refl _)) (by omega) (by omega) (by unfold I64;omega)).mono fun e w' ⟨A5,c5,h1,h2,h3⟩=>⟨_,h1,⟨A5,c5,by rw[zkH],by rw[zkH] at h2;rw[zmj];exact h2⟩,(hbd.mono HJ2.out).trans h3⟩
   refine zo 4 fun K hK=>?_;refine zke (by rfl) (.func 82) [.tmp 47,.tmp 50,.const (.int .i64 2)] _ (by rfl) 82 _ zor (by rfl) _ (by rfl) _ had ?_;rintro v5 w5 ⟨⟨A5,c5,rfl,dW⟩,hb5⟩;have hS5:(fun w':World=>w'.cell? ⟨w.heap.size,2,none⟩=some (.slice D s.tout.length e)) w5:=zkp x2 (hb5.block _ (zkj aK.out));refine hK.out _ _ ⟨hS5,trivial⟩ ?_;clear hK K had hSS hbd;(try simp only[zQ]);have had:Calls Tryz.prog 83 [.slice A5 (F.length+2) c5,(.slice D s.tout.length e)].toArray w5 fun e w'=>∃ u,e=.returned u/\((∃ A7 c7,u=.slice A7 (F++cnE s.tout).length c7/\w'.ownsRow w2.heap.size 5 1 (.slice A7 (F++cnE s.tout).length c7) (F++cnE s.tout).length (zkR (F++cnE s.tout)))/\Below w2.heap.size wx w') :=
    (zlV w2.heap.size (F.length+2) A5 c5 _ _ _ s.tout w5 dW (Nat.le_trans HJ2.out hb5.size) (HR3.out.keep (fun q h _=>Nat.lt_of_lt_of_le h HB2.out.size) fun q h _=>(HJ1.out.trans (hb5.mono HB2.out.size)).block q h) (by omega)).mono fun e w' ⟨A7,c7,h1,h2,h3⟩=>by
     have e9:F.length+2+(lsE s.tout).length=(F++cnE s.tout).length:=by simp[cnE,zkH];omega
     rw[e9] at h1 h2;exact⟨_,h1,⟨A7,c7,rfl,by rw[show zkR (F++bysE s.tout.length 2)++zkR (lsE s.tout)=zkR (F++cnE s.tout) by simp[zkR,cnE]] at h2;exact h2⟩,hb5.trans h3⟩
   refine zo 7 fun K hK=>?_;refine zke (by rfl) (.func 83) [.tmp 51,.tmp 53] _ (by rfl) 83 _ zpo (by rfl) _ (by rfl) _ had ?_;rintro v7 wy ⟨⟨A7,c7,rfl,gz⟩,bF⟩;have qO:(fun w':World=>w'.cell? ⟨w.heap.size,2,none⟩=some (.slice D s.tout.length e)) wy:=zkp x2 (bF.block _ (zkj aK.out));refine hK.out _ _ ⟨qO,trivial⟩ ?_;clear hK K had hS5 dW hb5;(try simp only[zQ]);refine zkt (i:=8) (v:=?_) rfl (by kernel_rfl) (by kernel_rfl) (by kernel_rfl) (by decide) (fun _ _ _ h=>h) (Or.inl ⟨by rfl,?_⟩) ⟨qO,trivial⟩ ?_;rotate_left 1
   ·(intro w hSw;(try dsimp only at hSw);(try simp only[zA,zB,zC]);go_simp;(try with_reducible rfl))
   (try simp only[zQ]);refine zd ?_;refine NoPanic.normal ?_;clear qO;have yF:=zh (show Below w.heap.size w wy from HJ1.out.trans (bF.mono HB2.out.size));have hfin:F++cnE s.tout=encS vs s:=by rw[<-HF.out,<-HEE.out];unfold encS;rw[List.append_assoc]
   have hfl:F.length+(cnE s.tout).length=(encS vs s).length:=by rw[<-hfin];simp
   rw[hfin] at gz;have HOY:=zh (zk6 gz HB2.out.size);have tO:=zh hfl;clear gz bF hfin hfl x2;go_wp2_with fail;go_ret2;refine⟨yF.out,.inr ⟨dz.out,A7,c7,by rw[<-tO.out];rfl,HOY.out⟩⟩
def zwo {α:Type} (Y:Nat->α->Value->Value->World->Prop) (n:Nat) (P:Program) (gf:FuncId) (lb:Array Value) (xs:List α) (R:Nat->Prop) (W:World):Prop :=
 ∀ (l:Nat) (J Jx:List α->(Nat->Prop)->World->Prop) (C:Nat->Prop) (W1:World),l<W1.heap.size->(∀ b,C b->¬ R b)->Chg C W W1 ->
  (∀ pre C W W',J pre C W->Chg (fun b=>¬ C b) W W'->J pre C W')->(∀ pre C W,J pre C W->∀ b,C b->b<W.heap.size) ->
  (∀ pre x C W pv v,J pre C W->(pre++[x]) <+: xs->Y l x pv v W ->
   YieldAt (Fw none) (n-1) P l #[pv,v] W fun e W' =>
    (e=.returned (.bool true)/\∃ C',J (pre++[x]) C' W'/\(∀ b,C' b->C b\/W.heap.size<=b)/\Chg C W W') \/
    (e=.returned (.bool false)/\∃ C',Jx (pre++[x]) C' W'/\Chg C W W')) ->
  J [] C W1 ->
  CallsIn (Fw none) n P gf (#[.func (.yield l) #[] #[]]++lb) W1 fun e W'=>(∃ v,e=.returned v)/\((∃ C',J xs C' W'/\Chg C W1 W')\/(∃ pre C',Jx pre C' W'/\Chg C W1 W'))
attribute [local go_sem] Oper.semAt_some
def vdV (u:VD):Value:=.agg #[.string u.s,.int .u8 u.k,.int .i64 u.n]
def YV (vs:List VD) (S:Nat->Prop) (W0:World) (_:Nat) (x:Nat) (pv v:Value) (W:World):Prop:=pv=.int .i64 x/\(∃ h:x<vs.length,v=vdV vs[x])/\∀ b,S b->b<W0.heap.size->W.heap[b]?=W0.heap[b]?
theorem zpJ (n bb:Nat) (hn:1<=n) (l:List VD) (A:Option Addr) (c:Nat) (S:Nat->Prop) (W:World) (hbb:W.heap[bb]?=some (.cells #[.slice A l.length c] 25 (0,0))) (hr:RowV W S A l) (hl:l.length<=4398046511103) :
  zwo (YV l S W) n Tryz.prog 115 #[.pointer (some ⟨bb,0,none⟩)] ((List.range l.length).reverse) (fun b=>b=bb\/(S b/\b<W.heap.size)) W:=by
 intro lp J Jx C W1 hl0 lL hch hJ nT hY h0;have dH:=zh hbb;have HR:=zh hr;have fU:=zh hl;have yC:=zh lL;have bJ:=zh hch;have HJ:=zh hJ;have HY:=zh hY;have H0:=zh h0;have hb1:=hch.keep hbb fun h=>lL _ h (.inl rfl);have y0:W1.cell? ⟨bb,0,none⟩=some (.slice A l.length c):=zc hb1 rfl;have hw0:IntKind.i64.wrap ((l.length:Int)-1)=(l.length:Int)-1:=IntWalk.i64_in _ (by omega);clear hbb hr hl lL hch hJ nT hY h0 hb1;refine callsIn_of_wp Tryz.func115 rfl trivial ?_ rfl;simp only[Tryz.ntmps115,List.size_toArray,List.length_cons,List.length_nil,Nat.reduceAdd,Nat.reduceSub,Array.replicate_succ,Array.replicate_zero,List.push_toArray,List.append_toArray,List.nil_append,List.cons_append]
 gi_wp2
 gi_loopw [3] (fun i wr=>∃ k:Nat,k<=l.length/\i=.int .i64 ((k:Int)-1)/\∃ C',Hid (J ((List.range l.length).reverse.take (l.length-k)) C' wr/\Chg C W1 wr/\∀ b,C' b->C b\/W1.heap.size<=b)) (fun i _=>(intOf i+1).toNat)
 case atStart=>exact⟨l.length,Nat.le_refl _,rfl,C,zh ⟨by rw[Nat.sub_self];exact H0.out,Chg.refl _ _,fun b h=>.inl h⟩⟩
 case round =>
  obtain⟨k,hk,rfl,C',HK⟩:=hrel;rcases k with _|j
  ·have h1:¬ (0:Int)<=((0:Nat):Int)-1:=by decide
   have HX:=zh HK.out.1
   gi_wp2
   go_end0;exact⟨⟨_,rfl⟩,.inl ⟨⟨C',by have:=HX.out;rwa[Nat.sub_zero,List.take_of_length_le (by simp)] at this⟩,HK.out.2.1⟩⟩
  ·have hj1:(((j+1:Nat):Int)-1)=(j:Int):=by omega
   rw[hj1];have hj0:(0:Int)<=(j:Int):=by omega
   have hjl:j<l.length:=by omega
   have hjl2:(j:Int)<(l.length:Int):=by omega
   have sH:IntKind.i64.wrap ((j:Int)-1)=(j:Int)-1:=IntWalk.i64_in _ (by have:=fU.out;omega);have aX:Chg C W wr:=bJ.out.trans2 HK.out.2.1 fun _ _ h=>h;have hbw:=aX.keep dH.out fun h=>yC.out _ h (.inl rfl);have y0:wr.cell? ⟨bb,0,none⟩=some (.slice A l.length c):=zc hbw rfl;obtain⟨a,rfl,-,⟨m0,m1,m2⟩,-⟩:=(HR.out.keep (S':=Any) (fun _ _ _=>trivial) fun b hb hlt=>aX.block b hlt fun h=>yC.out _ h (.inr ⟨hb,hlt⟩)) j hjl;have htk:(List.range l.length).reverse.take (l.length-(j+1))++[j]=(List.range l.length).reverse.take (l.length-j):=by
    rw[show l.length-j=l.length-(j+1)+1 by omega,List.take_succ_eq_append_getElem (by simp;omega),List.getElem_reverse];simp;omega
   obtain⟨x,hx⟩:∃ x,l[j]=x:=⟨_,rfl⟩
   rw[hx] at m0 m1 m2;have lT:=zh htk;obtain⟨fn,tmps,assign,body,hy,qP⟩:=HY.out ((List.range l.length).reverse.take (l.length-(j+1))) j C' wr (.int .i64 j) (vdV x) HK.out.1 (by rw[htk];exact List.take_prefix _ _) ⟨rfl,⟨hjl,by rw[hx]⟩,fun b hb hlt=>aX.block b hlt fun h=>yC.out _ h (.inr ⟨hb,hlt⟩)⟩;have kT:=zh qP;unfold vdV at hy;clear aX hbw htk qP hx
   gi_wp2
   refine kT.out.mono ?_;rintro e W3 (⟨rfl,C3,mO,hc3,df⟩|⟨rfl,C3,mO,df⟩)
   ·have wO:=zh (show J ((List.range l.length).reverse.take (l.length-j)) C3 W3/\Chg C W1 W3/\∀ b,C3 b->C b\/W1.heap.size<=b from ⟨by rw[<-lT.out];exact mO,HK.out.2.1.trans2 df fun b hb h=>(HK.out.2.2 b h).elim id fun h=>by omega,fun b h=>by
     rcases hc3 b h with h|h
     ·exact HK.out.2.2 b h
     ·exact .inr (by have:=HK.out.2.1.size;omega)⟩)
    clear mO hc3 df hy
    gi_wp2
    exact⟨⟨j,by omega,by go_num,C3,wO⟩,by simp[intOf]⟩
   ·have wO:=zh (show Jx ((List.range l.length).reverse.take (l.length-(j+1))++[j]) C3 W3/\Chg C W1 W3 from ⟨mO,HK.out.2.1.trans2 df fun b hb h=>(HK.out.2.2 b h).elim id fun h=>by omega⟩);clear mO df hy
    gi_wp2
    refine bodyPost_ret (results_none rfl _ _ _) rfl ?_;exact⟨⟨_,rfl⟩,.inr ⟨_,C3,wO.out.1,wO.out.2⟩⟩
def zvf {α:Type} (k:Nat) (I Ix:List α->(Nat->Prop)->World->Prop) (pre:List α) (C:Nat->Prop) (W:World):Exit->Act->World->Prop
 | .normal,_,W'=>∃ C',I pre C' W'/\(∀ b,C' b->C b\/W.heap.size<=b)/\Chg C W W'
 | .exit j,_,W'=>j=k/\∃ C',Ix pre C' W'/\(∀ b,C' b->C b\/W.heap.size<=b)/\Chg C W W'
 | _,_,_=>False
theorem zq4 {α:Type} {k:Nat} {Y:Nat->α->Value->Value->World->Prop} {n:Nat} {P:Program} {g:Operand} {ps:Array Tmp} {assign body:Code} {Q:Exit->Act->World->Prop} {a:Act} {w:World} {gf:FuncId} {lb:Array Value} {xs:List α} {R:Nat->Prop}
  (hg:a.eval g=.func (.func gf) #[] lb) (eg:∀ args w,(callFunc gf args).run P w=.ok (.enter gf args) w) (hseq:zwo Y (n-1) P gf lb xs R w) (hps:ps.size=2)
  (I Ix:List α->(Nat->Prop)->World->Prop) (C0:Nat->Prop) (hI:∀ pre C W W',I pre C W->Chg (fun b=>¬ C b) W W'->I pre C W') (hIx:∀ pre C W W',Ix pre C W->Chg (fun b=>¬ C b) W W'->Ix pre C W')
  (hIlt:∀ pre C W,I pre C W->∀ b,C b->b<W.heap.size) (hIxlt:∀ pre C W,Ix pre C W->∀ b,C b->b<W.heap.size) (hC:∀ b,C0 b->¬ R b) (hRlt:∀ b,R b->b<w.heap.size) (h0:I [] C0 w)
  (dO:∀ l pre x C W pv v,I pre C W->¬ C l->w.heap.size<=l->l<W.heap.size->(pre++[x]) <+: xs->Y l x pv v W ->
   assign.wpIn (Fw (some l)) (n-1-1) P (Exit.then (fun a1 W1=>Chg C W W1/\∀ W2,Chg (· = l) W1 W2->body.wpIn (Fw (some l)) (n-1-1) P (zvf k I Ix (pre++[x]) C W2) a1 W2) (fun _ _ _=>False))
    { tmps:=(ps.zip #[pv,v]).foldl (fun t (p,v)=>t.setIfInBounds p v) a.tmps,defers:=[] } W)
  (hdone:∀ D C W',w.heap.size<=D->I xs C W'->Chg C0 w W'->W'.heap[D]?=some (.deferred (some []))->Q .normal { a with defers:={ target:=.collected D,args := #[] }::a.defers } W')
  (hstop:∀ D pre C W',w.heap.size<=D->Ix pre C W'->Chg C0 w W'->W'.heap[D]?=some (.deferred (some []))->(Code.exit k).wpIn (Fw none) n P Q { a with defers:={ target:=.collected D,args := #[] }::a.defers } W') :
  (Code.rangeFunc g ps assign body).wpIn (Fw none) n P Q a w:=by
 refine wpIn_rangeFunc ?_;intro fn hfn;obtain⟨rec,hrec⟩:∃ rec:LoopState->Option Code->Loop,rec=fun st pe=>{ state:=st,pending:=pe,fn,tmps:=a.tmps,params:=ps,assign,body,defers:=w.heap.size }:=⟨_,rfl⟩
 obtain⟨W1,hW1⟩:∃ W1,(w.alloc (.deferred (some []))).alloc (.loop (rec .ready none))=W1:=⟨_,rfl⟩
 have hL1:W1.heap[w.heap.size+1]?=some (.loop (rec .ready none)):=by
  rw[<-hW1];have:=World.alloc_heap_new (w.alloc (.deferred (some []))) (.loop (rec .ready none));rwa[World.size_alloc] at this
 have hK1:W1.heap[w.heap.size]?=some (.deferred (some [])):=by
  rw[<-hW1];exact(Below.heap_alloc _ _ _ (by simp)).trans (World.alloc_heap_new w _)
 have hb1:Below w.heap.size w W1:=by rw[<-hW1];exact((Below.refl _ w).alloc (Nat.le_refl _) _).alloc (by simp) _
 have hI1:I [] C0 W1:=hI _ _ _ _ h0 (Chg.of_below hb1);have gZ:∀ b,C0 b->b<w.heap.size:=hIlt _ _ _ h0;refine⟨w.heap.size+1,[{ target:=.collected w.heap.size,args := #[] }],W1,{ target:=.fn (.func gf) lb,args := #[.func (.yield (w.heap.size+1)) #[] #[]] },W1,gf,
  #[.func (.yield (w.heap.size+1)) #[] #[]]++lb,W1,?_,?_,(fun _ _=>trivial),?_,(fun e=>by cases e),?_⟩
 ·rw[<-hW1,hrec];exact run_enterLoop_outer _ _ _ _ _
 ·simp only[resolve,hg];simp[go_sem]
 ·simp[invoke,go_sem,eg]
 ·refine(hseq (w.heap.size+1)
   (fun pre C' W=>∃ C,(∀ b,C' b↔C b\/b=w.heap.size+1\/b=w.heap.size)/\I pre C W/\¬ C (w.heap.size+1)/\¬ C w.heap.size/\(∀ b,C b->b<w.heap.size->C0 b)/\W.heap[w.heap.size+1]?=some (.loop (rec .ready none))/\W.heap[w.heap.size]?=some (.deferred (some [])))
   (fun pre C' W=>∃ C,Ix pre C W/\¬ C (w.heap.size+1)/\W.heap[w.heap.size+1]?=some (.loop (rec .done (some (.exit k))))/\W.heap[w.heap.size]?=some (.deferred (some [])))
   (fun b=>C0 b\/b=w.heap.size+1\/b=w.heap.size) W1 (Array.getElem?_eq_some_iff.1 hL1).1 ?_ (Chg.of_below hb1) ?_ ?_ ?_ ⟨C0,fun _=>Iff.rfl,hI1,(fun h=>by have:=gZ _ h;omega),(fun h=>by have:=gZ _ h;omega),(fun _ h _=>h),hL1,hK1⟩).mono ?_
  ·intro b hb hr;have:=hRlt b hr;rcases hb with hb|hb|hb
   ·exact hC b hb hr
   ·omega
   ·omega
  ·rintro pre C' W W' ⟨C,hC',hi,h1,h2,h3,hl,hk⟩ hch;refine⟨C,hC',hI _ _ _ _ hi (hch.mono fun b _ hb hc=>hb ((hC' b).2 (.inl hc))),h1,h2,h3,hch.keep hl (fun h=>h ((hC' _).2 (.inr (.inl rfl)))),hch.keep hk (fun h=>h ((hC' _).2 (.inr (.inr rfl))))⟩
  ·rintro pre C' W ⟨C,hC',hi,h1,h2,h3,hl,hk⟩ b hb;rcases(hC' b).1 hb with hb|rfl|rfl
   ·exact hIlt _ _ _ hi b hb
   ·exact(Array.getElem?_eq_some_iff.1 hl).1
   ·exact(Array.getElem?_eq_some_iff.1 hk).1
  ·rintro pre x C' W pv v ⟨C,hC',hi,h1,h2,h3,hl,hk⟩ hpre hpv;have hlt:w.heap.size+1<W.heap.size:=(Array.getElem?_eq_some_iff.1 hl).1;have hy:=run_yield (P:=P) (args := #[pv,v]) hl (by rw[hrec];exact hps.symm);rw[hrec] at hy;refine⟨fn,_,assign,body,hy,roundIn_of_wpIn hfn (wpIn_mono (dO (w.heap.size+1) pre x C W pv v hi h1 (by omega) hlt hpre hpv) ?_)⟩;rintro e a1 Wa jR
   cases e with
   | normal =>
    obtain⟨lG,hbody⟩:=jR;have hl1:=lG.keep hl h1;have hk1:=lG.keep hk h2;have hlt1:w.heap.size+1<Wa.heap.size:=(Array.getElem?_eq_some_iff.1 hl1).1;refine⟨_,run_beginRound hl1 (by rw[hrec]),?_⟩;have hl2:(Wa.putObj (w.heap.size+1) (.loop { rec .ready none with state:=.busy })).heap[w.heap.size+1]?=some (.loop { rec .ready none with state:=.busy }):=World.putObj_heap_same hlt1;have hk2:(Wa.putObj (w.heap.size+1) (.loop { rec .ready none with state:=.busy })).heap[w.heap.size]?=some (.deferred (some [])):=(World.putObj_heap_other (by omega)).trans hk1;have hc2:Chg (fun b=>C b\/b=w.heap.size+1) W (Wa.putObj (w.heap.size+1) (.loop { rec .ready none with state:=.busy })) :=
     (lG.mono fun _ _ h=>.inl h).trans2 (Chg.putObj Wa (w.heap.size+1) _) (fun b _ h=>.inr h)
    refine wpIn_mono (hbody _ (Chg.putObj _ _ _)) ?_;have fin:∀ (jump:Option Code) (W3:World),Chg C (Wa.putObj (w.heap.size+1) (.loop { rec .ready none with state:=.busy })) W3 ->
      (Instr.endRound (w.heap.size+1) jump).run P W3=.ok (.bool jump.isNone) (W3.putObj (w.heap.size+1) (.loop (rec (if jump.isNone then .ready else .done) jump))) /\
      (W3.putObj (w.heap.size+1) (.loop (rec (if jump.isNone then .ready else .done) jump))).heap[w.heap.size+1]?=some (.loop (rec (if jump.isNone then .ready else .done) jump)) /\
      (W3.putObj (w.heap.size+1) (.loop (rec (if jump.isNone then .ready else .done) jump))).heap[w.heap.size]?=some (.deferred (some [])) /\
      Chg C' W (W3.putObj (w.heap.size+1) (.loop (rec (if jump.isNone then .ready else .done) jump))):=fun jump W3 hk3=>by
     have hl3:=hk3.keep hl2 h1;have:=run_endRound (P:=P) jump hl3;rw[hrec] at this ⊢;refine⟨this,World.putObj_heap_same (Array.getElem?_eq_some_iff.1 hl3).1,(World.putObj_heap_other (by omega)).trans (hk3.keep hk2 h2),?_⟩;have hA:Chg (fun b=>C b\/b=w.heap.size+1) W W3:=by
      have:=hc2;rw[hrec] at this hk3;exact this.trans2 hk3 (fun b _ h=>.inl h)
     exact(hA.trans2 (Chg.putObj W3 (w.heap.size+1) _) (fun b _ h=>.inr h)).mono fun b _ hb=>(hC' b).2 (by rcases hb with hb|hb;exact .inl hb;exact .inr (.inl hb))
    rintro e3 a3 W3 hp;have hsz:W.heap.size<=(Wa.putObj (w.heap.size+1) (.loop { rec .ready none with state:=.busy })).heap.size:=hc2.size
    cases e3 with
    | normal =>
     obtain⟨C3,hi3,jh,df⟩:=hp;have bZ:∀ b,C3 b->C b\/W.heap.size<=b:=fun b h=>(jh b h).imp id fun h'=>Nat.le_trans hsz h';obtain⟨hr,hl4,hk4,cZ⟩:=fin none W3 df;have bL:¬ C3 (w.heap.size+1):=fun h=>by rcases bZ _ h with h|h;exact h1 h;omega
     have eB:¬ C3 w.heap.size:=fun h=>by rcases bZ _ h with h|h;exact h2 h;omega
     refine⟨_,_,hr,.inl ⟨rfl,fun b=>C3 b\/b=w.heap.size+1\/b=w.heap.size,⟨C3,fun _=>Iff.rfl,hI _ _ _ _ hi3 ((Chg.putObj _ _ _).mono fun b _ hb hc=>bL (hb▸hc)),bL,eB,?_,hl4,hk4⟩,?_,cZ⟩⟩
     ·intro b hb hlt';rcases bZ b hb with hb|hb
      ·exact h3 b hb hlt'
      ·omega
     ·intro b hb;rcases hb with hb|hb
      ·rcases bZ b hb with hb|hb
       ·exact .inl ((hC' b).2 (.inl hb))
       ·exact .inr (by omega)
      ·exact .inl ((hC' b).2 (.inr hb))
    | exit jd =>
     obtain⟨rfl,C3,hi3,jh,df⟩:=hp;have bZ:∀ b,C3 b->C b\/W.heap.size<=b:=fun b h=>(jh b h).imp id fun h'=>Nat.le_trans hsz h';obtain⟨hr,hl4,hk4,cZ⟩:=fin (some (.exit jd)) W3 df;have bL:¬ C3 (w.heap.size+1):=fun h=>by rcases bZ _ h with h|h;exact h1 h;omega
     exact⟨_,_,hr,.inr ⟨rfl,fun _=>True,⟨C3,hIx _ _ _ _ hi3 ((Chg.putObj _ _ _).mono fun b _ hb hc=>bL (hb▸hc)),bL,hl4,hk4⟩,cZ⟩⟩
    | ret=>exact hp.elim
    | goto t=>exact hp.elim
    | panic ch=>exact hp.elim
    | outgrown=>exact hp.elim
   | exit id=>exact jR.elim
   | goto t=>exact jR.elim
   | ret=>exact jR.elim
   | panic ch=>exact jR.elim
   | outgrown=>exact jR.elim
  ·rintro e W2 ⟨⟨v,rfl⟩,(⟨C',⟨C,hC',hi,h1,h2,h3,hl,hk⟩,hch⟩|⟨pre,C',⟨C,hi,h1,hl,hk⟩,hch⟩)⟩
   all_goals
    have hw2:Chg C0 w W2:=((Chg.of_below hb1).trans2 hch fun b hb hc=>by rcases hc with hc|hc|hc;exact hc;omega;omega)
    have hfin:∀ o,Chg C0 w (W2.putObj (w.heap.size+1) o):=fun o=>hw2.trans2 (Chg.putObj W2 (w.heap.size+1) o) fun b hb hc=>by omega
   ·exact⟨none,_,by have:=run_endLoop (P:=P) hl (by rw[hrec];simp);rw[hrec] at this;exact this,hdone _ C _ (Nat.le_refl _) (hI _ _ _ _ hi ((Chg.putObj W2 (w.heap.size+1) _).mono fun b _ (hb:b=w.heap.size+1) hc=>h1 (hb▸hc))) (hfin _) ((World.putObj_heap_other (by omega)).trans hk)⟩
   ·exact⟨some (.exit k),_,by have:=run_endLoop (P:=P) hl (by rw[hrec];simp);rw[hrec] at this;exact this,hstop _ pre C _ (Nat.le_refl _) (hIx _ _ _ _ hi ((Chg.putObj W2 (w.heap.size+1) _).mono fun b _ (hb:b=w.heap.size+1) hc=>h1 (hb▸hc))) (hfin _) ((World.putObj_heap_other (by omega)).trans hk)⟩
theorem zq5 {α:Type} {k:Nat} {Y:Nat->α->Value->Value->World->Prop} {n:Nat} {P:Program} {g:Operand} {ps:Array Tmp} {assign body:Code} {Q:Exit->Act->World->Prop} {a:Act} {w:World} {gf:FuncId} {lb:Array Value} {xs:List α} {R:Nat->Prop}
  (hg:a.eval g=.func (.func gf) #[] lb) (eg:∀ args w,(callFunc gf args).run P w=.ok (.enter gf args) w) (hseq:zwo Y (n-1) P gf lb xs R w) (hps:ps.size=2)
  (I Ix:List α->(Nat->Prop)->World->Prop) (C0:Nat->Prop) (hI:∀ pre C W W',I pre C W->Chg (fun b=>¬ C b) W W'->I pre C W') (hIx:∀ pre C W W',Ix pre C W->Chg (fun b=>¬ C b) W W'->Ix pre C W')
  (hIlt:∀ pre C W,I pre C W->∀ b,C b->b<W.heap.size) (hIxlt:∀ pre C W,Ix pre C W->∀ b,C b->b<W.heap.size) (hC:∀ b,C0 b->¬ R b) (hRlt:∀ b,R b->b<w.heap.size) (h0:I [] C0 w)
  (dO:∀ l pre x C W pv v,I pre C W->¬ C l->w.heap.size<=l->l<W.heap.size->(pre++[x]) <+: xs->Y l x pv v W ->
   assign.wpIn (Fw (some l)) (n-1-1) P (Exit.then (fun a1 W1=>Chg C W W1/\∀ W2,Chg (· = l) W1 W2->body.wpIn (Fw (some l)) (n-1-1) P (zvf k I Ix (pre++[x]) C W2) a1 W2) (fun _ _ _=>False))
    { tmps:=(ps.zip #[pv,v]).foldl (fun t (p,v)=>t.setIfInBounds p v) a.tmps,defers:=[] } W)
  (hQ:∀ a w,Q .normal a w->Q (.exit k) a w)
  (hend:∀ D pre C W',w.heap.size<=D->(pre=xs/\I pre C W'\/Ix pre C W')->Chg C0 w W'->W'.heap[D]?=some (.deferred (some []))->Q .normal { a with defers:={ target:=.collected D,args := #[] }::a.defers } W') :
  (Code.rangeFunc g ps assign body).wpIn (Fw none) n P Q a w :=
 zq4 hg eg hseq hps I Ix C0 hI hIx hIlt hIxlt hC hRlt h0 dO (fun D C W' h1 h2 h3 h4=>hend D xs C W' h1 (.inl ⟨rfl,h2⟩) h3 h4)
  (fun D pre C W' h1 h2 h3 h4=>wpIn_exit (hQ _ _ (hend D pre C W' h1 (.inr h2) h3 h4)))
def unrk (r:Int):Int:=if r<0 then 0 else if r.tmod 2=1 then r.tdiv 2+1 else -(r.tdiv 2)
abbrev Bn:=Nat×Nat
def wlo (bs:List Bn):Nat:=(bs.map (·.1)).sum
def whi (h:Int) (bs:List Bn):Int:=(bs.map fun b=>(b.2:Int)*h).sum
def ranE (lo hi:Int):List Int:=(List.range (hi-lo+1).toNat).map fun(m:Nat)=>lo+(m:Int)
def hdC (x:Int):List (List Int)->List (List Int)
 | []=>[]
 | l::ls=>(x::l)::ls
def numE (h:Int) (bs:List Bn) (rec:Int->List (List (List Int))):Nat->Int->List (List (List Int))
 | 0,left=>(rec left).map ([] :: ·)
 | k+1,left=>(ranE (max 0 (left-1-k*h-whi h bs)) (min (h-1) (left-1-k-wlo bs))).flatMap fun r=>(numE h bs rec k (left-1-r)).map (hdC (unrk r))
def zkW (h:Int):List Bn->Int->List (List (List Int))
 | [],_=>[[]]
 | (lo,hi)::bs,left=>(ranE (max lo ((left-whi h bs+h-1).tdiv h)) (min hi (left-wlo bs))).flatMap fun m=>numE h bs (zkW h bs) m.toNat left
def allB (h:Int) (bs:List Bn):List (List (List Int)):=(ranE (wlo bs) (whi h bs)).flatMap (zkW h bs)
def FitB (v:Int):List Bn->List (List Int)->Prop
 | [],[]=>True
 | (lo,hi)::bs,x::xs=>lo<=x.length/\x.length<=hi/\(∀ e∈x,-v<=e/\e<=v)/\FitB v bs xs
 | _,_=>False
theorem zmP {lo hi x:Int} (h:x∈ranE lo hi):lo<=x/\x<=hi:=by
 obtain⟨m,hm,rfl⟩:=List.mem_map.1 h;have:=List.mem_range.1 hm;omega
theorem zrE {v r:Int} (h0:0<=r) (h1:r<=2*v) : -v<=unrk r/\unrk r<=v:=by
 unfold unrk;rw[Int.tmod_eq_emod_of_nonneg h0,Int.tdiv_eq_ediv_of_nonneg h0];rw[if_neg (by omega)]
 split<;>omega
theorem zqx {v h:Int} (hh:h=2*v+1) {bs:List Bn} {rec:Int->List (List (List Int))} (hr:∀ left,∀ x∈rec left,FitB v bs x) :
  ∀ (k:Nat) (left:Int),∀ x∈numE h bs rec k left,∃ l ls,x=l::ls/\l.length=k/\(∀ e∈l,-v<=e/\e<=v)/\FitB v bs ls
 | 0,left,x,hx=>by
  obtain⟨y,hy,rfl⟩:=List.mem_map.1 hx;exact⟨[],y,rfl,rfl,by simp,hr _ _ hy⟩
 | k+1,left,x,hx=>by
  rw[numE] at hx;obtain⟨r,hr1,hx⟩:=List.mem_flatMap.1 hx;obtain⟨y,hy,rfl⟩:=List.mem_map.1 hx;obtain⟨l,ls,rfl,h1,h2,h3⟩:=zqx hh hr k _ y hy;have h4:=zmP hr1;refine⟨unrk r::l,ls,rfl,by simp[h1],fun e he=>?_,h3⟩;rcases List.mem_cons.1 he with rfl|he
  ·exact zrE (by omega) (by omega)
  ·exact h2 e he
theorem zpv {v h:Int} (hh:h=2*v+1):∀ (bs:List Bn) (left:Int),∀ x∈zkW h bs left,FitB v bs x
 | [],left,x,hx=>by
  simp only[zkW,List.mem_singleton] at hx;subst hx;trivial
 | (lo,hi)::bs,left,x,hx=>by
  rw[zkW] at hx;obtain⟨m,hm,hx⟩:=List.mem_flatMap.1 hx;obtain⟨l,ls,rfl,h1,h2,h3⟩:=zqx hh (zpv hh bs) _ _ x hx;have h4:=zmP hm;exact⟨by omega,by omega,h2,h3⟩
theorem zuQ {v h:Int} (hh:h=2*v+1) {bs:List Bn}:∀ x∈allB h bs,FitB v bs x:=fun x hx=>by
 obtain⟨w,_,hx⟩:=List.mem_flatMap.1 hx;exact zpv hh bs w x hx
theorem FitB.len {v:Int}:∀ {bs:List Bn} {x:List (List Int)},FitB v bs x->x.length=bs.length
 | [],[],_=>rfl
 | _::_,_::_,h=>by simp[FitB.len h.2.2.2]
 | [],_::_,h=>h.elim
 | _::_,[],h=>h.elim
def sumZ (f:Int->Nat) (A:Int):Nat->Nat
 | 0=>0
 | n+1=>sumZ f A n+f (A+n)
theorem zrH {f g:Int->Nat} (A:Int) (h:∀ x,f x<=g x):∀ n,sumZ f A n<=sumZ g A n
 | 0=>Nat.le_refl _
 | n+1=>Nat.add_le_add (zrH A h n) (h _)
theorem zqo (f g:Int->Nat) (A:Int):∀ n,sumZ (fun x=>f x+g x) A n=sumZ f A n+sumZ g A n
 | 0=>rfl
 | n+1=>by
  rw[sumZ,sumZ,sumZ,zqo f g A n];omega
theorem zpd (A:Int):∀ n,sumZ (fun _=>0) A n=0
 | 0=>rfl
 | n+1=>by rw[sumZ,zpd A n]
theorem zog (f:Int->Nat) (A d:Int):∀ n,sumZ (fun x=>f (x-d)) A n=sumZ f (A-d) n
 | 0=>rfl
 | n+1=>by
  rw[sumZ,sumZ,zog f A d n,show A+(n:Int)-d=A-d+n by omega]
theorem zoJ (f:Int->Nat):∀ (n:Nat) (A lo hi:Int),A<=lo->hi<A+n->((ranE lo hi).map f).sum<=sumZ f A n:=by
 have key:∀ (m:Nat) (lo:Int),(((List.range m).map fun(i:Nat)=>lo+(i:Int)).map f).sum=sumZ f lo m:=by
  intro m lo
  induction m with
  | zero=>rfl
  | succ m ih=>rw[List.range_succ,List.map_append,List.map_append,List.sum_append,ih,sumZ];simp
 have mono:∀ (a m:Nat) (A:Int),sumZ f (A+a) m<=sumZ f A (a+m):=by
  intro a m A
  induction m with
  | zero=>exact Nat.zero_le _
  | succ m ih =>
   rw[sumZ,show a+(m+1)=(a+m)+1 by omega,sumZ,show A+(a:Int)+m=A+((a+m:Nat):Int) by omega];omega
 have grow:∀ (m k:Nat) (A:Int),sumZ f A m<=sumZ f A (m+k):=by
  intro m k A
  induction k with
  | zero=>exact Nat.le_refl _
  | succ k ih=>rw[show m+(k+1)=(m+k)+1 by omega,sumZ];omega
 intro n A lo hi h1 h2;unfold ranE;rw[key];by_cases hm:hi-lo+1<=0
 ·rw[show(hi-lo+1).toNat=0 by omega];exact Nat.zero_le _
 ·obtain⟨a,rfl⟩:∃ a:Nat,lo=A+a:=⟨(lo-A).toNat,by omega⟩
  refine Nat.le_trans (mono a _ A) ?_;have:=grow (a+(hi-(A+a)+1).toNat) (n-(a+(hi-(A+a)+1).toNat)) A;rwa[show a+(hi-(A+a)+1).toNat+(n-(a+(hi-(A+a)+1).toNat))=n by omega] at this
theorem znq {α β:Type} (f:α->List β):∀ l:List α,(l.flatMap f).length=(l.map fun x=>(f x).length).sum
 | []=>rfl
 | x::l=>by rw[List.flatMap_cons,List.length_append,znq f l,List.map_cons,List.sum_cons]
def Tot (f:Int->Nat) (N:Nat):Prop:=∀ (A:Int) (n:Nat),sumZ f A n<=N
theorem Tot.shift {f:Int->Nat} {N:Nat} (h:Tot f N) (d:Int):Tot (fun x=>f (x-d)) N:=fun A n=>by rw[zog];exact h _ _
theorem Tot.le {f g:Int->Nat} {N:Nat} (h:Tot f N) (hg:∀ x,g x<=f x):Tot g N:=fun A n=>Nat.le_trans (zrH A hg n) (h A n)
theorem Tot.add {f g:Int->Nat} {N M:Nat} (h:Tot f N) (h':Tot g M):Tot (fun x=>f x+g x) (N+M):=fun A n=>by rw[zqo];exact Nat.add_le_add (h A n) (h' A n)
theorem Tot.many {f:Int->Int->Nat} {F:Nat->Nat} (h:∀ i:Nat,Tot (fun x=>f x i) (F i)) (lo:Nat):∀ m,Tot (fun x=>sumZ (f x) lo m) (((List.range m).map fun i=>F (lo+i)).sum)
 | 0=>fun A n=>by rw[show(fun x=>sumZ (f x) lo 0)=fun _=>0 from rfl,zpd];exact Nat.zero_le _
 | m+1=>by
  rw[List.range_succ,List.map_append,List.sum_append];have:=(Tot.many h lo m).add (h (lo+m));simp only[List.map_cons,List.map_nil,List.sum_cons,List.sum_nil,Nat.add_zero];refine this.le fun x=>?_;rw[sumZ];exact Nat.le_of_eq (by rw[show((lo:Int)+(m:Int))=((lo+m:Nat):Int) by omega])
def nLst (h:Nat) (b:Bn):Nat:=((List.range (b.2+1-b.1)).map fun i=>h ^ (b.1+i)).sum
def nAll (h:Nat):List Bn->Nat
 | []=>1
 | b::bs=>nLst h b*nAll h bs
def fD (h:Int) (bs:List Bn) (w:Int):Nat:=if (wlo bs:Int)<=w/\w<=whi h bs then (zkW h bs w).length else 0
def fN (h:Int) (bs:List Bn) (k:Nat) (w:Int):Nat:=if (k+wlo bs:Int)<=w/\w<=k*h+whi h bs then (numE h bs (zkW h bs) k w).length else 0
theorem zmm {f g:Int->Nat}:∀ {l:List Int},(∀ x∈l,f x=g x)->(l.map f).sum=(l.map g).sum
 | [],_=>rfl
 | x::l,h=>by
  rw[List.map_cons,List.map_cons,List.sum_cons,List.sum_cons,h x (List.mem_cons_self ..),zmm fun y hy=>h y (List.mem_cons_of_mem _ hy)]
theorem zvl {h:Nat} {bs:List Bn} {N:Nat} (hr:Tot (fD h bs) N):∀ k,Tot (fN h bs k) (h ^ k*N)
 | 0=>by
  refine Tot.le (by simpa using hr) fun x=>?_;unfold fN fD;rw[numE,List.length_map];simp
 | k+1=>by
  have h1:∀ i:Nat,Tot (fun w=>(fun(w r:Int)=>fN h bs k (w-1-r)) w i) (h ^ k*N):=fun i=>by
   refine((zvl hr k).shift (1+(i:Int))).le fun x=>?_;simp only;rw[show x-1-(i:Int)=x-(1+i) by omega];exact Nat.le_refl _
  have h2:=Tot.many (f:=fun(w r:Int)=>fN h bs k (w-1-r)) (F:=fun _=>h ^ k*N) h1 0 h;have e:((List.range h).map fun _=>h ^ k*N).sum=h ^ (k+1)*N:=by
   rw[List.map_const',List.sum_replicate_nat,List.length_range,Nat.pow_succ,Nat.mul_comm (h ^ k) h,Nat.mul_assoc]
  rw[e] at h2;refine h2.le fun x=>?_;unfold fN
  split
  ·rw[numE,znq];simp only[List.length_map];rw[zmm (g:=fun r=>fN h bs k (x-1-r)) fun r hr=>by
    have hr:=zmP hr;unfold fN;rw[if_pos (by omega)]]
   exact zoJ (fun r=>fN h bs k (x-1-r)) h 0 _ _ (by omega) (by omega)
  ·exact Nat.zero_le _
theorem zrU:Tot (fun w=>if w=0 then 1 else 0) 1:=by
 have key:∀ (A:Int) (n:Nat),sumZ (fun w=>if w=0 then 1 else 0) A n=if A<=0/\0<A+n then 1 else 0:=by
  intro A n
  induction n with
  | zero=>rw[sumZ,if_neg (by omega)]
  | succ n ih =>
   rw[sumZ,ih];by_cases h1:A<=0/\0<A+(n:Int)
   ·rw[if_pos h1,if_neg (by omega),if_pos (by omega)]
   ·rw[if_neg h1];by_cases h2:A+(n:Int)=0
    ·rw[if_pos h2,if_pos (by omega)]
    ·rw[if_neg h2,if_neg (by omega)]
 intro A n;rw[key]
 split<;>omega
theorem zrG {a h m:Int} (hh:0<h) (hm:0<=m) (h1:(a+h-1).tdiv h<=m):a<=m*h:=by
 by_cases ha:0<=a+h-1
 ·rw[Int.tdiv_eq_ediv_of_nonneg ha] at h1;have h2:=Int.emod_lt_of_pos (a+h-1) hh;have h3:=Int.mul_ediv_add_emod (a+h-1) h;have h4:h*((a+h-1) / h)<=h*m:=Int.mul_le_mul_of_nonneg_left h1 (by omega);rw[Int.mul_comm m h];omega
 ·have:0<=m*h:=Int.mul_nonneg hm (by omega);omega
theorem zvm {h:Nat} (hh:0<h):∀ bs:List Bn,(∀ b∈bs,b.1<=b.2)->Tot (fD h bs) (nAll h bs)
 | [],_=>by
  refine zrU.le fun x=>?_;unfold fD;simp only[wlo,whi,zkW,List.map_nil,List.sum_nil,List.length_cons,List.length_nil];by_cases hx:x=0
  ·rw[if_pos hx];split<;>omega
  ·rw[if_neg hx,if_neg (by omega)];exact Nat.le_refl _
 | (lo,hi)::bs,hb=>by
  have ih:=zvm hh bs fun b h=>hb b (List.mem_cons_of_mem _ h);have hlh:lo<=hi:=hb (lo,hi) (List.mem_cons_self ..);have h1:∀ i:Nat,Tot (fun w=>(fun(w m:Int)=>fN h bs m.toNat w) w i) (h ^ i*nAll h bs):=fun i=>zvl ih i;have h2:=Tot.many (f:=fun(w m:Int)=>fN h bs m.toNat w) (F:=fun i=>h ^ i*nAll h bs) h1 lo (hi+1-lo);have e:((List.range (hi+1-lo)).map fun i=>h ^ (lo+i)*nAll h bs).sum=nAll h ((lo,hi)::bs):=by
   rw[nAll,nLst]
   induction List.range (hi+1-lo) with
   | nil=>simp
   | cons x l ih=>rw[List.map_cons,List.sum_cons,ih,List.map_cons,List.sum_cons,Nat.add_mul]
  rw[e] at h2;refine h2.le fun x=>?_;have e1:wlo ((lo,hi)::bs)=lo+wlo bs:=by simp[wlo]
  have e2:whi h ((lo,hi)::bs)=hi*h+whi h bs:=by simp[whi]
  rw[fD,zkW]
  split
  ·rename_i hx;rw[znq,zmm (g:=fun m=>fN h bs m.toNat x) fun m hm=>by
    have hm:=zmP hm;have hm0:0<=m:=by omega
    have hc:(x-whi h bs+h-1).tdiv h<=m:=by omega
    have hc2:=zrG (by omega) hm0 hc;rw[fN,if_pos];rw[show((m.toNat:Nat):Int)=m by omega];omega]
   exact zoJ (fun m=>fN h bs m.toNat x) (hi+1-lo) lo _ _ (by omega) (by omega)
  ·exact Nat.zero_le _
theorem zwk {h:Nat} (hh:0<h) {bs:List Bn} (hb:∀ b∈bs,b.1<=b.2):(allB h bs).length<=nAll h bs:=by
 unfold allB;rw[znq,zmm (g:=fD h bs) fun w hw=>by
  have hw:=zmP hw;rw[fD,if_pos hw]]
 refine Nat.le_trans (zoJ (fD h bs) (whi h bs-wlo bs+1).toNat (wlo bs) _ _ (by omega) (by omega)) (zvm hh bs hb _ _)
def maxC:Int:=1099511627776
def prdE (x y:Int):Int:=if maxC.tdiv y<x then maxC+1 else x*y
def lcL (lo:Nat) (v:Int):Nat->Int×Int
 | 0=>(0,1)
 | n+1=>(if lo<=n then min ((lcL lo v n).1+(lcL lo v n).2) (maxC+1) else (lcL lo v n).1,prdE (lcL lo v n).2 v)
def lcE (b:Bn) (v:Int):Int:=(lcL b.1 v (b.2+1)).1
def cntE (v:Int) (bs:List Bn):Int:=bs.foldl (fun s b=>prdE s (lcE b v)) 1
structure Sat (c:Int) (n:Nat):Prop where
 le:c<=maxC->(n:Int)<=c
 top:c<=maxC+1
 pos:0<=c
theorem Sat.prd {c d:Int} {n m:Nat} (h:Sat c n) (h':Sat d m) (hc:1<=c) (hd:1<=d):Sat (prdE c d) (n*m)/\1<=prdE c d:=by
 unfold prdE
 split
 ·exact⟨⟨fun h=>by omega,Int.le_refl _,by unfold maxC;omega⟩,by unfold maxC;omega⟩
 ·rename_i h1;rw[Int.tdiv_eq_ediv_of_nonneg (by unfold maxC;omega)] at h1;have h2:c<=maxC / d:=by omega
  have h3:c*d<=maxC:=by
   have h4:=Int.mul_le_mul_of_nonneg_right h2 (show 0<=d by omega);have h5:=Int.ediv_mul_le maxC (show d≠0 by omega);omega
  have h4:1*1<=c*d:=Int.mul_le_mul hc hd (by decide) (by omega);have h5:c*1<=c*d:=Int.mul_le_mul_of_nonneg_left hd (by omega);have h6:1*d<=c*d:=Int.mul_le_mul_of_nonneg_right hc (by omega);refine⟨⟨fun _=>?_,by omega,by omega⟩,by omega⟩;have a:=h.le (by omega);have b:=h'.le (by omega);rw[Int.natCast_mul];exact Int.mul_le_mul a b (by omega) (by omega)
theorem Sat.sum {c d:Int} {n m:Nat} (h:Sat c n) (h':Sat d m):Sat (min (c+d) (maxC+1)) (n+m):=by
 have h0:=h.pos;have h1:=h'.pos;refine⟨fun hle=>?_,by omega,by unfold maxC;omega⟩;have a:=h.le (by omega);have b:=h'.le (by omega);omega
theorem zp0 {v:Nat} (hv:1<=v) (hv2:(v:Int)<=maxC) (lo:Nat):∀ n,Sat (lcL lo v n).1 (((List.range (n-lo)).map fun i=>v ^ (lo+i)).sum)/\Sat (lcL lo v n).2 (v ^ n)/\1<=(lcL lo v n).2/\(lo<n->1<=(lcL lo v n).1)
 | 0=>by
  simp only[lcL];refine⟨⟨fun _=>?_,by decide,by decide⟩,⟨fun _=>by simp,by decide,by decide⟩,by decide,fun h=>by omega⟩;rw[Nat.zero_sub];exact Int.le_refl _
 | n+1=>by
  obtain⟨h1,h2,h3,h4⟩:=zp0 hv hv2 lo n;have hp:=h2.prd (d:=(v:Int)) (m:=v) ⟨fun _=>Int.le_refl _,by omega,by omega⟩ h3 (by omega);rw[lcL];refine⟨?_,by rw[Nat.pow_succ];exact hp.1,hp.2,fun hl=>?_⟩
  ·simp only
   split
   ·rename_i hl;rw[show n+1-lo=(n-lo)+1 by omega,List.range_succ,List.map_append,List.sum_append];simp only[List.map_cons,List.map_nil,List.sum_cons,List.sum_nil,Nat.add_zero];rw[show lo+(n-lo)=n by omega];exact h1.sum h2
   ·rename_i hl;rw[show n+1-lo=n-lo by omega];exact h1
  ·have:=h1.pos;simp only;rw[if_pos (by omega)];unfold maxC;omega
theorem zsh {v:Nat} (hv:1<=v) (hv2:(v:Int)<=maxC) {b:Bn} (hb:b.1<=b.2):Sat (lcE b v) (nLst v b)/\1<=lcE b v:=by
 obtain⟨h1,-,-,h4⟩:=zp0 hv hv2 b.1 (b.2+1);exact⟨h1,h4 (by omega)⟩
theorem zp7 {v:Nat} (hv:1<=v) (hv2:(v:Int)<=maxC):∀ (bs:List Bn) (c:Int) (n:Nat),(∀ b∈bs,b.1<=b.2)->Sat c n->1<=c->Sat (bs.foldl (fun s b=>prdE s (lcE b v)) c) (n*nAll v bs)/\1<=bs.foldl (fun s b=>prdE s (lcE b v)) c
 | [],c,n,_,h,hc=>by rw[nAll,Nat.mul_one];exact⟨h,hc⟩
 | b::bs,c,n,hb,h,hc=>by
  obtain⟨a1,a2⟩:=zsh hv hv2 (hb b (List.mem_cons_self ..));obtain⟨b1,b2⟩:=h.prd a1 hc a2;have:=zp7 hv hv2 bs _ _ (fun x hx=>hb x (List.mem_cons_of_mem _ hx)) b1 b2;rw[List.foldl_cons,nAll,<-Nat.mul_assoc];exact this
theorem zuR {v:Nat} (hv:1<=v) (hv2:(v:Int)<=maxC) {bs:List Bn} (hb:∀ b∈bs,b.1<=b.2) (hc:cntE v bs<=maxC):((allB v bs).length:Int)<=cntE v bs:=by
 have h1:=(zp7 hv hv2 bs 1 1 hb ⟨fun _=>Int.le_refl _,by decide,by decide⟩ (by decide)).1.le hc;have h2:=zwk (h:=v) (by omega) hb;rw[Nat.one_mul] at h1;unfold cntE at hc ⊢;omega
theorem znD (x y:Int) (w:World) (hx:0<=x/\x<=maxC+1) (hy:1<=y/\y<=maxC+1):Calls Tryz.prog 46 #[.int .i64 x,.int .i64 y] w fun e w'=>e=.returned (.int .i64 (prdE x y))/\w'=w:=by
 obtain⟨q,hq⟩:∃ q,(1099511627776:Int).tdiv y=q:=⟨_,rfl⟩
 have hq1:0<=q/\q<=1099511627776:=by
  rw[<-hq,Int.tdiv_eq_ediv_of_nonneg (by decide)];exact⟨Int.ediv_nonneg (by decide) (by omega),Int.ediv_le_self _ (by decide)⟩
 have hwq:IntKind.i64.wrap q=q:=IntWalk.i64_in _ (by omega);have hy0:¬ y=0:=by omega
 have HP:=zh (show prdE x y=if q<x then 1099511627777 else x*y by unfold prdE maxC;rw[hq];rfl);by_cases h:q<x
 ·have HN:=zh (HP.out.trans (if_pos h));go_enter Tryz.func46,Tryz.ntmps46;go_wp2_with fail;go_ret;exact⟨by rw[HN.out];rfl,rfl⟩
 ·have hm:0<=x*y/\x*y<=1099511627776:=by
   have h1:x<=1099511627776 / y:=by rw[Int.tdiv_eq_ediv_of_nonneg (by decide)] at hq;omega
   have h2:=Int.mul_le_mul_of_nonneg_right h1 (show 0<=y by omega);have h3:=Int.ediv_mul_le 1099511627776 (show y≠0 by omega);exact⟨Int.mul_nonneg hx.1 (by omega),by omega⟩
  have HN:=zh (HP.out.trans (if_neg h));have vM:IntKind.i64.wrap (x*y)=x*y:=IntWalk.i64_in _ (by omega);go_enter Tryz.func46,Tryz.ntmps46;go_wp2_with fail;go_ret;exact⟨by rw[HN.out];rfl,rfl⟩
theorem zrk (r:Int) (w:World) (hr:0<=r/\r<=1000000):Calls Tryz.prog 114 #[.int .i64 r] w fun e w'=>e=.returned (.int .i64 (unrk r))/\w'=w:=by
 obtain⟨q,hq⟩:∃ q,r.tdiv 2=q:=⟨_,rfl⟩
 obtain⟨m,hm⟩:∃ m,r.tmod 2=m:=⟨_,rfl⟩
 have hq1:0<=q/\q<=1000000:=by
  rw[<-hq,Int.tdiv_eq_ediv_of_nonneg hr.1];omega
 have hm1:0<=m/\m<2:=by
  rw[<-hm,Int.tmod_eq_emod_of_nonneg hr.1];omega
 have hwq:IntKind.i64.wrap q=q:=IntWalk.i64_in _ (by omega);have vM:IntKind.i64.wrap m=m:=IntWalk.i64_in _ (by omega);have hwq1:IntKind.i64.wrap (q+1)=q+1:=IntWalk.i64_in _ (by omega);have hwq2:IntKind.i64.wrap (-q) = -q:=IntWalk.i64_in _ (by omega);have hr0:¬ r<0:=by omega
 have HU:=zh (show unrk r=if m=1 then q+1 else -q by unfold unrk;rw[if_neg hr0,hq,hm]);by_cases h:m=1
 ·have e1:(m==1)=true:=by simpa using h
  go_enter Tryz.func114,Tryz.ntmps114;go_wp2_with fail;go_ret;exact⟨by rw[HU.out,if_pos h];rfl,rfl⟩
 ·have e1:(m==1)=false:=by simpa using h
  go_enter Tryz.func114,Tryz.ntmps114;go_wp2_with fail;go_ret;exact⟨by rw[HU.out,if_neg h];rfl,rfl⟩
theorem zvM {v:Nat} (hv:1<=v) (hv2:(v:Int)<=maxC) (lo n:Nat):0<=(lcL lo v n).1/\(lcL lo v n).1<=maxC+1/\1<=(lcL lo v n).2/\(lcL lo v n).2<=maxC+1:=by
 obtain⟨h1,h2,h3,-⟩:=zp0 hv hv2 lo n;exact⟨h1.pos,h1.top,h3,h2.top⟩
theorem zoR (b:Bn) (v:Nat) (w:World) (hb:b.1<=1000000/\b.2<=1000000) (hv:1<=v) (hv2:v<=1000000) :
  Calls Tryz.prog 47 #[.agg #[.int .i64 (b.1:Int),.int .i64 (b.2:Int)],.int .i64 (v:Int)] w fun e w'=>e=.returned (.int .i64 (lcE b v))/\Below w.heap.size w w':=by
 obtain⟨lo,hi⟩:=b;simp only at hb;have HTP:=zh (fun n=>zvM hv (by unfold maxC;omega) lo n);have iK:=zh (show lcE (lo,hi) v=(lcL lo v (hi+1)).1 from rfl);have HV:=zh (And.intro hv hv2);have hb1:=zkc (Below.refl w.heap.size w) (.cells #[.int .i64 (lo:Int),.int .i64 (hi:Int)] 97);have hk1:=heap_alloc_new w (.cells #[.int .i64 (lo:Int),.int .i64 (hi:Int)] 97);have hwh:IntKind.i64.wrap ((hi:Int)+1)=(hi:Int)+1:=IntWalk.i64_in _ (by omega);go_enter Tryz.func47,Tryz.ntmps47;go_upto_region 2 with fail;obtain⟨w1,hw1⟩:∃ x,w.alloc (.cells #[.int .i64 (lo:Int),.int .i64 (hi:Int)] 97)=x:=⟨_,rfl⟩
 rw[hw1] at hb1 hk1 ⊢;have x0:w1.cell? ⟨w.heap.size,0,none⟩=some (.int .i64 (lo:Int)):=zc hk1 rfl;have x1:w1.cell? ⟨w.heap.size,1,none⟩=some (.int .i64 (hi:Int)):=zc hk1 rfl;have HB1:=zh hb1;clear hw1 hb1 hk1;go_wp2_with fail
 go_loopw [11,5,6] (fun i s p wr=>∃ n:Nat,n<=hi+1/\i=.int .i64 n/\s=.int .i64 (lcL lo v n).1/\p=.int .i64 (lcL lo v n).2/\wr=w1) (fun i _ _ _=>hi+1-(intOf i).toNat)
 case atStart=>exact⟨0,Nat.zero_le _,rfl,rfl,rfl,rfl⟩
 case round =>
  obtain⟨n,hn,rfl,rfl,rfl,rfl⟩:=hrel;obtain⟨S,hS⟩:∃ x,(lcL lo v n).1=x:=⟨_,rfl⟩
  obtain⟨Q,hQ⟩:∃ x,(lcL lo v n).2=x:=⟨_,rfl⟩
  have HX:=zh (show lcL lo v (n+1)=(if lo<=n then min (S+Q) (maxC+1) else S,prdE Q v) by rw[lcL,hS,hQ]);have hT:=HTP.out n;rw[hS,hQ] at hT;have HT:=zh hT;rw[hS,hQ];have ay:=zh hS;clear hT hS hQ;have dS:=zh (znD Q v wr ⟨by have:=HT.out;omega,HT.out.2.2.2⟩ ⟨by have:=HV.out;omega,by have:=HV.out;unfold maxC;omega⟩);by_cases hlt:n<hi+1
  ·have hn1:(n:Int)<(hi:Int)+1:=by omega
   have hwn:IntKind.i64.wrap ((n:Int)+1)=(n:Int)+1:=IntWalk.i64_in _ (by omega);by_cases hl:lo<=n
   ·have hl1:(lo:Int)<=(n:Int):=by omega
    have hws:IntKind.i64.wrap (S+Q)=S+Q:=IntWalk.i64_in _ (by have:=HT.out;unfold maxC at this;omega);go_wp2_with fail
    all_goals
     refine dS.out.mono ?_;rintro e w2 ⟨rfl,hw2⟩;rw[hw2];go_wp2_with fail
     go_roundw
     case rel=>exact⟨n+1,by omega,by go_num,by rw[HX.out,if_pos hl];exact congrArg (Value.int .i64) (show _=min (S+Q) (maxC+1) by unfold maxC;omega),by rw[HX.out],trivial⟩
     case measure=>simp[intOf];omega
   ·have hl1:¬ (lo:Int)<=(n:Int):=by omega
    go_wp2_with fail;refine dS.out.mono ?_;rintro e w2 ⟨rfl,hw2⟩;rw[hw2];go_wp2_with fail
    go_roundw
    case rel=>exact⟨n+1,by omega,by go_num,by rw[HX.out,if_neg hl],by rw[HX.out],trivial⟩
    case measure=>simp[intOf];omega
  ·have hn1:¬ (n:Int)<(hi:Int)+1:=by omega
   obtain rfl:n=hi+1:=by omega
   have HF:=zh (iK.out.trans ay.out);go_wp2_with fail;go_ret;exact⟨by rw[HF.out];rfl,HB1.out⟩
def RowB (w:World) (S:Nat->Prop) (A:Option Addr) (bs:List Bn):Prop :=
 ∀ i (hi:i<bs.length),∃ a:Addr,A=some a/\S a.block/\w.cell? (a.add (i*2))=some (.int .i64 (bs[i].1:Int))/\w.cell? ⟨(a.add (i*2)).block,(a.add (i*2)).off+1,none⟩=some (.int .i64 (bs[i].2:Int))
theorem RowB.keep {w w':World} {S S':Nat->Prop} {A:Option Addr} {bs:List Bn} (h:RowB w S A bs) (hS:∀ b,S b->b<w.heap.size->S' b) (hk:∀ b,S b->b<w.heap.size->w'.heap[b]?=w.heap[b]?):RowB w' S' A bs:=fun i hi=>by
 obtain⟨a,hA,gY,h0,h1⟩:=h i hi;have hlt:a.block<w.heap.size:=by have:=World.block_lt_of_cell? w _ h0;rwa[zko] at this
 refine⟨a,hA,hS _ gY hlt,zkp h0 ?_,zkp h1 ?_⟩
 all_goals simp only[zko];exact hk _ gY hlt
theorem RowB.later {w w':World} {S:Nat->Prop} {A:Option Addr} {bs:List Bn} (h:RowB w S A bs) (hb:Below w.heap.size w w'):RowB w' S A bs:=h.keep (fun _ hb _=>hb) fun b _ hlt=>hb.block b hlt
def zpF (w:World) (b:Nat) (h:Int) (bs:List Bn):Prop :=
 ∀ i,i<=bs.length->w.cell? ⟨b,i*2,none⟩=some (.int .i64 (wlo (bs.drop i):Int))/\w.cell? ⟨b,i*2+1,none⟩=some (.int .i64 (whi h (bs.drop i)))
theorem zpF.keep {w w':World} {b:Nat} {h:Int} {bs:List Bn} (hr:zpF w b h bs) (hk:w'.heap[b]?=w.heap[b]?):zpF w' b h bs:=fun i hi =>
 ⟨zkp (hr i hi).1 hk,zkp (hr i hi).2 hk⟩
theorem ztw {bs:List Bn} {i:Nat} (hi:i<bs.length):wlo (bs.drop i)=wlo (bs.drop (i+1))+bs[i].1:=by
 unfold wlo;rw[List.drop_eq_getElem_cons hi,List.map_cons,List.sum_cons];omega
theorem ztx {h:Int} {bs:List Bn} {i:Nat} (hi:i<bs.length):whi h (bs.drop i)=whi h (bs.drop (i+1))+bs[i].2*h:=by
 unfold whi;rw[List.drop_eq_getElem_cons hi,List.map_cons,List.sum_cons];omega
theorem zsP:(Tryz.prog.info? 97).map (fun i=>(i.zero,i.size,i.bytes))=some (some (.agg #[.int .i64 0,.int .i64 0]),2,16):=by kernel_rfl
theorem bMkB (n:Nat) (hn:n<=4096) (w:World):(Instr.makeSlice 93 (.int .i64 (n:Int)) (.int .i64 (n:Int))).run Tryz.prog w=.ok (.slice (some ⟨w.heap.size,0,none⟩) n n) (w.alloc (.cells (madeCells #[.int .i64 0,.int .i64 0] (n*2)) 97)):=by
 have h:=zsP;obtain⟨i,hi,hz⟩:=Option.map_eq_some_iff.1 h;injection hz with h1 h2;injection h2 with h2 h3;have:=zld (P:=Tryz.prog) 93 97 i (.agg #[.int .i64 0,.int .i64 0]) Tryz.underlying93 hi h1 .i64 .i64 n n (Nat.le_refl _) (by rw[h3];omega) (by omega) w;rw[h2] at this;exact this
def zxa (w:World) (b:Nat) (h:Int) (bs:List Bn) (k:Nat):Prop :=
 ∃ us:Array Value,w.heap[b]?=some (.cells us 97 (0,0))/\us.size=(bs.length+1)*2/\∀ i,k<=i->i<=bs.length->us[i*2]?=some (.int .i64 (wlo (bs.drop i):Int))/\us[i*2+1]?=some (.int .i64 (whi h (bs.drop i)))
theorem zwu {bs:List Bn} (hb:∀ b∈bs,b.1<=1000/\b.2<=1000):wlo bs<=bs.length*1000:=by
 induction bs with
 | nil=>simp[wlo]
 | cons b bs ih =>
  have h1:=hb b (List.mem_cons_self ..);have h2:=ih fun c hc=>hb c (List.mem_cons_of_mem _ hc);have e:wlo (b::bs)=b.1+wlo bs:=by simp[wlo]
  rw[e,List.length_cons];omega
theorem zwv {bs:List Bn} {h:Nat} (hb:∀ b∈bs,b.1<=1000/\b.2<=1000):0<=whi h bs/\whi h bs<=bs.length*(1000*h):=by
 induction bs with
 | nil=>exact⟨Int.le_refl _,by rw[List.length_nil];show(0:Int)<=_;omega⟩
 | cons b bs ih =>
  have h1:=hb b (List.mem_cons_self ..);have h2:=ih fun c hc=>hb c (List.mem_cons_of_mem _ hc);have e:whi h (b::bs)=b.2*h+whi h bs:=by unfold whi;rw[List.map_cons,List.sum_cons]
  rw[e,List.length_cons];have h4:((bs.length+1:Nat):Int)*(1000*(h:Int))=bs.length*(1000*(h:Int))+1000*(h:Int):=by rw[Int.natCast_add,Int.add_mul];omega
  have h5:(0:Int)<=(b.2:Int)*(h:Int):=Int.mul_nonneg (by omega) (by omega);have h6:(b.2:Int)*(h:Int)<=1000*(h:Int):=Int.mul_le_mul_of_nonneg_right (by omega) (by omega);omega
theorem zrC {bs:List Bn} {h:Nat} (hb:∀ b∈bs,b.1<=1000/\b.2<=1000) (hn:bs.length<=1000) (hh:h<=10000):wlo bs<=1000000/\0<=whi h bs/\whi h bs<=10000000000:=by
 have h1:=zwu hb;have h2:=zwv (h:=h) hb;refine⟨by omega,h2.1,Int.le_trans h2.2 ?_⟩;have h3:(bs.length:Int)*(1000*(h:Int))<=1000*(1000*(h:Int)):=Int.mul_le_mul_of_nonneg_right (by omega) (by omega);omega
theorem zqR {bs:List Bn} (hb:∀ b∈bs,b.1<=1000/\b.2<=1000) (i:Nat):∀ b∈bs.drop i,b.1<=1000/\b.2<=1000:=fun b h=>hb b (List.mem_of_mem_drop h)
theorem zwF (n i:Nat) (hi:i<n):(madeCells #[Value.int .i64 0,.int .i64 0] n)[i]?=some (.int .i64 0):=by
 unfold madeCells;rw[Array.getElem?_map,Array.getElem?_eq_getElem (by simpa using hi)];have h:i % 2<2:=Nat.mod_lt _ (by decide);rcases Nat.lt_succ_iff_lt_or_eq.1 h with h|h
 ·simp[show i % 2=0 by omega]
 ·simp[h]
theorem setU {W:World} {b o:Nat} {us:Array Value} {ty:TypeId} (v:Value) (h:W.heap[b]?=some (.cells us ty (0,0))):∃ W',W.setCell ⟨b,o,none⟩ v=W'/\Chg (fun q=>q=b) W W'/\W'.heap[b]?=some (.cells (us.setIfInBounds o v) ty (0,0)) :=
 ⟨_,rfl,(Chg.refl (fun q=>q=b) W).setCell (p:=⟨b,o,none⟩) (.inl rfl) _,heap_setCell_same W b o us ty v h⟩
theorem zpM (bs:List Bn) (h:Nat) (A:Option Addr) (c:Nat) (w:World) (hr:RowB w Any A bs) (hn:bs.length<=1000) (hb:∀ b∈bs,b.1<=1000/\b.2<=1000) (hh:h<=10000) :
  Calls Tryz.prog 80 #[.slice A bs.length c,.int .i64 h] w fun e w'=>∃ b,e=.returned (.slice (some ⟨b,0,none⟩) (bs.length+1) (bs.length+1))/\w.heap.size<=b/\zpF w' b h bs/\Below w.heap.size w w':=by
 have HR:=zh (hr.keep (S':=fun q=>q<w.heap.size) (fun _ _ h=>h) fun _ _ _=>rfl);have HB:=zh hb;have HH:=zh hh;have hmk:=bMkB (bs.length+1) (by omega) w;obtain⟨n,hnn⟩:∃ n,bs.length=n:=⟨_,rfl⟩
 rw[hnn] at hn hmk ⊢;rw[show((n+1:Nat):Int)=(n:Int)+1 from rfl] at hmk;have HN:=zh hnn;have hwn:IntKind.i64.wrap ((n:Int)+1)=(n:Int)+1:=IntWalk.i64_in _ (by omega);have vM:IntKind.i64.wrap ((n:Int)-1)=(n:Int)-1:=IntWalk.i64_in _ (by omega);have hk0:=heap_alloc_new w (.cells (madeCells #[.int .i64 0,.int .i64 0] ((n+1)*2)) 97);have hb0:=zkc (Below.refl w.heap.size w) (.cells (madeCells #[.int .i64 0,.int .i64 0] ((n+1)*2)) 97);clear hr hnn hb hh;go_enter Tryz.func80,Tryz.ntmps80;go_upto_region 2 with fail;obtain⟨w1,hw1⟩:∃ x,w.alloc (.cells (madeCells #[.int .i64 0,.int .i64 0] ((n+1)*2)) 97)=x:=⟨_,rfl⟩
 rw[hw1] at hb0 hk0 ⊢;have HB0:=zh hb0;have aP:=zh hk0;clear hw1 hb0 hk0 hmk;obtain⟨b,hbb⟩:∃ b,w.heap.size=b:=⟨_,rfl⟩
 have dH:=zh hbb;rw[hbb] at aP ⊢;clear hbb;go_wp2_with fail
 go_loopw [6] (fun iv wr=>∃ k:Nat,k<=n/\iv=.int .i64 ((k:Int)-1)/\Hid (Chg (fun q=>q=b) w1 wr)/\Hid (zxa wr b h bs k)) (fun iv _=>(intOf iv+1).toNat)
 case atStart =>
  refine⟨n,Nat.le_refl _,rfl,zh (Chg.refl _ _),zh ⟨_,aP.out,?_,?_⟩⟩
  ·rw[size_madeCells,HN.out]
  ·intro j h1 h2;obtain rfl:j=n:=by have:=HN.out;omega
   rw[List.drop_of_length_le (by rw[HN.out];exact Nat.le_refl _),zwF _ _ (by omega),zwF _ _ (by omega)];exact⟨rfl,rfl⟩
 case round =>
  obtain⟨k,hk,rfl,HC,wJ⟩:=hrel;by_cases hlt:0<k
  ·obtain⟨i,rfl⟩:∃ i,k=i+1:=⟨k-1,by omega⟩
   obtain⟨us,hu,gM,ny⟩:=wJ.out;have hin:i<bs.length:=by have:=HN.out;omega
   have hin1:i+1<=bs.length:=by omega
   obtain⟨a,rfl,has,x0,x1⟩:=(HR.out.later HB0.out).keep (w':=wr) (S':=fun q=>q<w.heap.size) (fun _ h _=>h) (fun q h hq=>HC.out.block q hq (fun e=>by have e:q=b:=e;have h:q<w.heap.size:=h;have:=dH.out;omega)) i hin;have e1:((i+1:Nat):Int)-1=(i:Int):=by omega
   rw[e1];have hlt1:(0:Int)<=(i:Int):=by omega
   obtain⟨y0,y1⟩:wr.cell? ⟨b,(i+1)*2,none⟩=some (.int .i64 (wlo (bs.drop (i+1)):Int))/\wr.cell? ⟨b,(i+1)*2+1,none⟩=some (.int .i64 (whi h (bs.drop (i+1)))):=⟨zc hu (ny (i+1) (Nat.le_refl _) hin1).1,zc hu (ny (i+1) (Nat.le_refl _) hin1).2⟩
   obtain⟨z0,hz0⟩:∃ u,us[i*2]?=some u:=⟨_,Array.getElem?_eq_getElem (by omega)⟩
   obtain⟨z1,hz1⟩:∃ u,us[i*2+1]?=some u:=⟨_,Array.getElem?_eq_getElem (by omega)⟩
   have y2:wr.cell? ⟨b,i*2,none⟩=some z0:=zc hu hz0;have cf:∀ o,wr.frozen? ⟨b,o,none⟩=false:=fun o=>zf hu;have hw1:=zrC (zqR HB.out i) (by rw[List.length_drop,HN.out];omega) HH.out;have hw2:=zrC (zqR HB.out (i+1)) (by rw[List.length_drop,HN.out];omega) HH.out;obtain⟨w5,eX,di,kL⟩:=setU (o:=i*2) (.int .i64 (wlo (bs.drop i):Int)) hu;have lC:w5.drew.heap[b]?=some (.cells (us.setIfInBounds (i*2) (.int .i64 (wlo (bs.drop i):Int))) 97 (0,0)):=kL;obtain⟨w6,sI,hc6,mP⟩:=setU (o:=i*2+1) (.int .i64 (whi h (bs.drop i))) lC;have yD:=zh ((HC.out.trans di.drew).trans hc6.drew);have pR:=zh (show zxa w6.drew b h bs i from ⟨_,mP,by simpa using gM,fun j h1 h2=>by
    by_cases e:j=i
    ·subst e;refine⟨?_,?_⟩
     ·rw[Array.getElem?_setIfInBounds_ne (by omega),Array.getElem?_setIfInBounds_self_of_lt (by omega)]
     ·rw[Array.getElem?_setIfInBounds_self_of_lt (by rw[Array.size_setIfInBounds];omega)]
    ·rw[Array.getElem?_setIfInBounds_ne (by omega),Array.getElem?_setIfInBounds_ne (by omega),Array.getElem?_setIfInBounds_ne (by omega),Array.getElem?_setIfInBounds_ne (by omega)];exact ny j (by omega) h2⟩)
   have hwi1:IntKind.i64.wrap ((i:Int)-1)=(i:Int)-1:=IntWalk.i64_in _ (by omega);have hl0:=ztw hin;have hl1:=ztx (h:=h) hin;have hwl:IntKind.i64.wrap ((wlo (bs.drop (i+1)):Int)+(bs[i].1:Int))=(wlo (bs.drop i):Int):=by rw[hl0];exact IntWalk.i64_in _ (by omega)
   have hwm1:IntKind.i64.wrap ((bs[i].2:Int)*(h:Int))=(bs[i].2:Int)*(h:Int):=IntWalk.i64_in _ (by omega);have hwh:IntKind.i64.wrap (whi h (bs.drop (i+1))+(bs[i].2:Int)*(h:Int))=whi h (bs.drop i):=by rw[hl1];exact IntWalk.i64_in _ (by omega)
   have y3:w5.drew.cell? ⟨b,i*2+1,none⟩=some z1:=zc lC (by rw[Array.getElem?_setIfInBounds_ne (by omega)];exact hz1);have y4:w5.drew.cell? ⟨b,(i+1)*2+1,none⟩=some (.int .i64 (whi h (bs.drop (i+1)))):=zc lC (by rw[Array.getElem?_setIfInBounds_ne (by omega)];exact(ny (i+1) (Nat.le_refl _) hin1).2);have cf5:∀ o,w5.drew.frozen? ⟨b,o,none⟩=false:=fun o=>zf lC;have x5:w5.drew.cell? ⟨(a.add (i*2)).block,(a.add (i*2)).off+1,none⟩=some (.int .i64 (bs[i].2:Int)):=zkp x1 (di.block _ (World.block_lt_of_cell? wr _ x1) (by rw[zko];have:=dH.out;have has:a.block<w.heap.size:=has;omega));have HL0:=zh hl0;have pQ:=zh hl1;have hwi:IntKind.i64.wrap ((i:Int)+1)=(i:Int)+1:=IntWalk.i64_in _ (by omega);have hp0:(0:Int)<=(i:Int)+1:=by omega
   have hp1:(i:Int)+1<(n:Int)+1:=by omega
   have hp2:(i:Int)<(n:Int)+1:=by omega
   have hp3:(i:Int)<(n:Int):=by omega
   have HU:=zh hu;have HUS:=zh gM;have HUU:=zh ny;generalize bs[i].1=lo,bs[i].2=hi,wlo (bs.drop (i+1))=L1,whi h (bs.drop (i+1))=L2,wlo (bs.drop i)=M1,whi h (bs.drop i)=M2 at *
   clear hu gM ny hl0 hl1 hw1 hw2 lC HB HH;go_upto_region 5 with fail
   go_region
   go_upto_region 6 with fail
   go_region
   clear eX sI;go_wp2_with fail
   go_roundw
   case rel=>exact⟨i,by omega,rfl,yD,pR⟩
   case measure=>simp[intOf]
  ·obtain rfl:k=0:=by omega
   have hlt1:¬ (0:Int)<=((0:Nat):Int)-1:=by omega
   go_wp2_with fail;go_ret;obtain⟨us,hu,gM,ny⟩:=wJ.out;refine⟨b,rfl,by rw[dH.out];exact Nat.le_refl _,fun j hj=>⟨zc hu (ny j (Nat.zero_le _) hj).1,zc hu (ny j (Nat.zero_le _) hj).2⟩,HB0.out.trans (HC.out.below HB0.out.size fun q e=>by have e:q=b:=e;have:=dH.out;omega)⟩
attribute [local go_sem] Oper.semAt_some
def nilS:SS:=⟨[],[],[]⟩
def putC (x:SS) (i a:Nat) (v:Int):SS:=⟨x.cells.set i ((x.cells.getD i []).set a v),x.tin,x.tout⟩
def setE (vs:List VD) (s:SS):T->Int×SS
 | .nd k n nm ks =>
  if (doE (newS vs s) (.nd 40 n nm ks)).1≠0 then ((doE (newS vs s) (.nd 40 n nm ks)).1,nilS)
  else match zlD vs (ks.getD 0 nil0).s vs.length with
   | none=>(0,(doE (newS vs s) (.nd 40 n nm ks)).2.state)
   | some i=>(0,putC (doE (newS vs s) (.nd 40 n nm ks)).2.state i (indE (newS vs s).look (ks.getD 0 nil0)).1.toNat (zlz (newS vs s).look (ks.getD 1 nil0)).1)
def asgE (vs:List VD) (t:T) (s:SS):Int×SS :=
 if fitB vs s=false\/isS t=false then (3,nilS) else if t.k=56 then setE vs s t
 else if (doE (newS vs s) t).1≠0 then ((doE (newS vs s) t).1,nilS) else (0,(doE (newS vs s) t).2.state)
theorem zwL {k n:Int} {s:ByteArray} {ks:List T} (h:isS (.nd k n s ks)=true) (hk:k=56):∃ p q,ks=[p,q]/\isP p=true/\isE q=true/\isS (.nd 40 n s ks)=true:=by
 subst hk;have h':=h;rw[isS,if_pos (by decide),Bool.and_eq_true] at h;obtain⟨p,q,e,a,b⟩:=zsl h.2;exact⟨p,q,e,by simpa using a,by simpa using b,h'⟩
theorem ztV {vs:List VD} {s:SS} {nm:ByteArray} {id:Nat} (h:(newS vs s).num nm=some id):zlD vs nm vs.length=some id/\id<vs.length:=by
 unfold ST.num at h;obtain⟨i,h1,h2⟩:=Option.bind_eq_some_iff.1 h;have h3:(newS vs s).cur=⟨vs,List.range vs.length,0⟩:=rfl;rw[h3] at h1 h2;have hi:=FR.at_lt h1;simp only at hi h2;rw[List.getElem?_range hi] at h2;injection h2 with h2;subst h2;exact⟨h1,hi⟩
theorem zwy {vs:List VD} {s:SS} {n:Int} {nm:ByteArray} {p q:T} (hw:(newS vs s).WF) (hp:isP p=true) (h:(doE (newS vs s) (.nd 40 n nm [p,q])).1=0) :
  ∃ i a,zlD vs p.s vs.length=some i/\i<vs.length/\(indE (newS vs s).look p).1=((a:Nat):Int)/\a<(s.cells.getD i []).length/\∃ x,(doE (newS vs s) (.nd 40 n nm [p,q])).2=(newS vs s).put i a x:=by
 unfold doE at h ⊢
 split at h
 ·cases h
 rename_i h1
 split at h
 ·cases h
 rename_i h2
 split at h
 ·cases h
 rename_i h3
 split at h
 ·rename_i h4;exact absurd h h4
 rename_i h4;rw[if_neg h1,if_neg h2,if_neg h3,if_neg h4];have hfl:=zp3 (Classical.not_not.1 h4);have hfp:=zms hfl.2 p (by simp);obtain⟨id,kk,hid,-,-⟩:=znF hw hp hfp;simp only[zoX,List.getD_cons_zero,List.getD_cons_succ] at h ⊢;have e1:zmO (newS vs s) 40 q=zlz (newS vs s).look q:=by simp[zmO]
 rw[e1] at h ⊢;unfold zlh znn at h ⊢
 split at h
 ·rename_i h5;exact absurd h h5
 rename_i h5;rw[if_neg h5]
 split at h
 ·rename_i h6;exact absurd h h6
 rename_i h6;rw[if_neg h6];rw[hid] at h ⊢;simp only at h ⊢
 split at h
 ·rename_i h7;rw[if_pos h7];obtain⟨hl,hlt⟩:=ztV hid;refine⟨id,(indE (newS vs s).look p).1.toNat,hl,hlt,by omega,?_,?_⟩
  ·have h8:(newS vs s).cell id=s.cells.getD id []:=rfl;rw[h8] at h7;omega
  ·unfold znm;rw[if_pos (.inl rfl)];exact⟨_,rfl⟩
 ·cases h
theorem zrR {vs:List VD} {s:SS} (hl:s.cells.length=vs.length) {i a:Nat} (hi:i<vs.length) (x:Int):((newS vs s).put i a x).state=putC s i a x:=by
 unfold ST.put ST.setL ST.state putC;congr 1;refine List.ext_getElem (by simp[newS,hl]) fun j h1 h2=>?_;simp only[newS,List.length_range,Nat.sub_zero,List.getElem_map,List.getElem_take,List.getElem_range];have h3:j<s.cells.length:=by simpa using h2
 by_cases e:j=i
 ·subst e;rw[if_pos rfl,List.getElem_set_self]
 ·rw[if_neg e,List.getElem_set_ne (Ne.symm e),List.getD_eq_getElem?_getD,List.getElem?_eq_getElem h3];rfl
def AsgP (w:World) (n0:Nat) (kb:Nat->Prop) (R:Int×SS) (W:World) (e:Ending) (W':World):Prop:=Below w.heap.size w W'/\Kpt n0 kb W W'/\∃ v,e=.returned (.tuple #[v,.int .i64 R.1])/\OwnS W' W.heap.size R.2 v/\R.2.Lim
theorem zqy:nilS.Lim:=⟨Nat.zero_le _,(fun l h=>by cases h),Nat.zero_le _,Nat.zero_le _⟩
theorem ztN {x:SS} (h:x.Lim) (i a:Nat) (v:Int):(putC x i a v).Lim:=by
 obtain⟨h1,h2,h3,h4⟩:=h;refine⟨by simp only[putC,List.length_set];exact h1,fun l hl=>?_,h3,h4⟩;rcases List.mem_or_eq_of_mem_set hl with hl|rfl
 ·exact h2 l hl
 ·rw[List.length_set,List.getD_eq_getElem?_getD]
  cases h9:x.cells[i]? with
  | none=>exact Nat.zero_le _
  | some l0=>exact h2 l0 (List.mem_of_getElem? h9)
theorem OwnS.nil (W:World) (n0:Nat):OwnS W n0 nilS (.agg #[.slice none 0 0,.slice none 0 0,.slice none 0 0]):=by
 refine⟨_,_,_,fun _=>.slice none 0 0,rfl,⟨fun i=>?_,fun i j b _ hi=>?_⟩,⟨fun l hl=>(by cases hl),fun x hx=>(by cases hx),fun x hx=>(by cases hx)⟩⟩
 ·cases i<;>simp only[zk3,nilS,List.getD_nil]<;>exact⟨rfl,.inl ⟨rfl,rfl⟩⟩
 ·cases i<;>simp[zk3,nilS,nilR,Value.ownBlock] at hi
theorem NV.kind {w:World} {S:Nat->Prop} {k k' n:Int} {s:ByteArray} {ks:List T} {A:Option Addr} {l c:Nat} (h:NV w S (.nd k n s ks) (.agg #[.int .u8 k,.int .i64 n,.string s,.slice A l c])) (hk:0<=k'/\k'<256):NV w S (.nd k' n s ks) (.agg #[.int .u8 k',.int .i64 n,.string s,.slice A l c]):=by
 obtain⟨v,hv⟩:∃ v,Value.agg #[.int .u8 k,.int .i64 n,.string s,.slice A l c]=v:=⟨_,rfl⟩
 rw[hv] at h
 cases h with
 | mk _ _ _ _ A' c' a U0 U1 U2 U3 hf hlk hlc hA hc hk' =>
  unfold nv at hv;injection hv with hv;simp only[Array.mk.injEq,List.cons.injEq,and_true,Value.slice.injEq,true_and] at hv;obtain⟨rfl,rfl,rfl⟩:=hv;exact NV.mk k' n s ks A c a U0 U1 U2 U3 ⟨hk,hf.2⟩ hlk hlc hA hc hk'
theorem Kpt.chgS {n0:Nat} {kb C:Nat->Prop} {W w6 w9:World} (h:Kpt n0 kb W w6) (hc:Chg C w6 w9) (hC:∀ b,b<W.heap.size->¬ C b):Kpt n0 kb W w9 :=
 ⟨Nat.le_trans h.size hc.size,fun b hb hk=>(hc.block b (Nat.lt_of_lt_of_le hb h.size) (hC b hb)).trans (h.kept b hb hk)⟩
theorem zlA (w:World) {n:Nat} (hn:w.heap.size=n) (o:Obj):(w.alloc o).heap[n]?=some o:=by rw[<-hn];exact World.alloc_heap_new w o
theorem zqe (A:Option Addr) (n c:Nat) (w:World):Calls Tryz.prog 84 #[.slice A n c] w fun e w'=>e=.returned (.func (.func 115) #[] #[.pointer (some ⟨w.heap.size,0,none⟩)])/\w'=w.alloc (.cells #[.slice A n c] 25):=by
 go_enter Tryz.func84,Tryz.ntmps84;go_wp2_with fail;go_ret;exact⟨rfl,rfl⟩
theorem zxA:IsFn Tryz.prog 115 Tryz.f115:=⟨Tryz.func115,by kernel_rfl,by kernel_rfl⟩
theorem ztM {vc vi vo:Value} {fc:Nat->Value} {X:SS} {i a:Nat} {x:Int} (hi:i<X.cells.length) :
  updR (zk3 vc vi vo fc X) (.el i) { (zk3 vc vi vo fc X (.el i)) with xs:=(zk3 vc vi vo fc X (.el i)).xs.set a (.int .i64 x) }=zk3 vc vi vo fc (putC X i a x):=by
 funext j
 cases j with
 | all=>simp[updR,zk3,putC]
 | inp=>rfl
 | out=>rfl
 | el j =>
  by_cases e:j=i
  ·subst e;simp[updR,zk3,putC,hi,zki,List.getD_eq_getElem?_getD,List.map_set]
   try rw[List.getD_eq_getElem?_getD]
  ·have e2:(SI.el j=SI.el i)=False:=by simp[e]
   simp only[updR,e2,if_false,zk3,putC,List.length_set]
   split
   ·rw[show(X.cells.set i ((X.cells.getD i []).set a x)).getD j []=X.cells.getD j [] by simp only[List.getD_eq_getElem?_getD,List.getElem?_set_ne (Ne.symm e)]]
   ·rfl
theorem zqu {vc vi vo:Value} {fc:Nat->Value} {X:SS} {i a:Nat} {x:Int} (j:SI):(zk3 vc vi vo fc (putC X i a x) j).v=(zk3 vc vi vo fc X j).v:=by
 cases j<;>simp only[zk3,putC,List.length_set]
 split<;>rfl
theorem zon {vs:List VD} {s:ByteArray}:∀ {j i:Nat},zlD vs s j=some i->j<=vs.length->(∀ hi:i<vs.length,vs[i].s.toList=s.toList)/\∀ k,i<k->k<j->∀ hk:k<vs.length,vs[k].s.toList≠s.toList
 | 0,_,h,_=>by simp[zlD] at h
 | j+1,i,h,hj=>by
  have hjl:j<vs.length:=by omega
  rw[zm6 hjl] at h
  split at h
  ·rename_i h1;injection h with h;subst h;exact⟨fun _=>by simpa using h1,fun k h2 h3=>by omega⟩
  ·rename_i h1;obtain⟨a,b⟩:=zon h (by omega);refine⟨a,fun k h2 h3 hk=>?_⟩;by_cases e:k=j
   ·subst e;simpa using h1
   ·exact b k h2 (by omega) hk
structure SetI (N N2 N4 N8 n6:Nat) (nd:Array Value) (a0 xv:Int) (vc vi vo:Value) (fc:Nat->Value) (X:SS) (C:Nat->Prop) (W:World):Prop where
 c:∀ b,C b↔b=N\/b=N+1\/b=N2\/b=N4\/b=N8\/∃ i,(zk3 vc vi vo fc X i).v.ownBlock=some b
 n:W.heap[N]?=some (.cells nd 24 (0,0))
 n1:W.heap[N+1]?=some (.cells #[.slice none 0 0,.slice none 0 0,.slice none 0 0] 34 (0,0))
 n2:W.heap[N2]?=some (.cells #[.int .i64 a0] 3 (0,0))
 n4:W.heap[N4]?=some (.cells #[.int .i64 xv] 3 (0,0))
 n8:W.heap[N8]?=some (.cells #[vc,vi,vo] 34 (0,0))
 rws:Rws W n6 (zk3 vc vi vo fc X)
section
variable {N N2 N4 N8 n6:Nat} {nd:Array Value} {a0 xv:Int} {vc vi vo:Value} {fc:Nat->Value} {X:SS} {C:Nat->Prop} {W W':World}
theorem SetI.chg {D:Nat->Prop} (h:SetI N N2 N4 N8 n6 nd a0 xv vc vi vo fc X C W) (hc:Chg D W W') (hD:∀ b,C b->¬ D b):SetI N N2 N4 N8 n6 nd a0 xv vc vi vo fc X C W':=by
 have hk:=fun b (e:b=N\/b=N+1\/b=N2\/b=N4\/b=N8\/∃ i,(zk3 vc vi vo fc X i).v.ownBlock=some b)=>hD b ((h.c b).2 e);exact⟨h.c,hc.keep h.n (hk _ (.inl rfl)),hc.keep h.n1 (hk _ (.inr (.inl rfl))),hc.keep h.n2 (hk _ (.inr (.inr (.inl rfl)))),hc.keep h.n4 (hk _ (.inr (.inr (.inr (.inl rfl))))),hc.keep h.n8 (hk _ (.inr (.inr (.inr (.inr (.inl rfl)))))),h.rws.chg hc fun i b hb=>hk _ (.inr (.inr (.inr (.inr (.inr ⟨i,hb⟩)))))⟩
theorem SetI.lt (h:SetI N N2 N4 N8 n6 nd a0 xv vc vi vo fc X C W) (b:Nat) (hb:C b):b<W.heap.size:=by
 rcases(h.c b).1 hb with rfl|rfl|rfl|rfl|rfl|⟨i,hi⟩
 ·exact zkj h.n
 ·exact zkj h.n1
 ·exact zkj h.n2
 ·exact zkj h.n4
 ·exact zkj h.n8
 ·exact(h.rws.lt i b hi).2
end
theorem zvC {w:World} {n0 sb:Nat} {kb:Nat->Prop} {W:World} {vs:List VD} {s:SS} {n:Int} {nm:ByteArray} {ks:List T} {v:Value} {A:Option Addr} {c:Nat} (hk:KS w n0 sb kb W (newS vs s)) (hf:fitB vs s=true) (hs:isS (.nd 56 n nm ks)=true)
  (hv:NV W (fun b=>b<n0\/kb b) (.nd 56 n nm ks) v) (hr:RowV W (fun b=>b<n0\/kb b) A vs) :
  Calls Tryz.prog 40 #[v,.slice A vs.length c,.pointer (some ⟨sb,0,none⟩)] W (AsgP w n0 kb (setE vs s (.nd 56 n nm ks)) W):=by
 obtain⟨p,q,rfl,hp,hq,hs40⟩:=zwL hs rfl;obtain⟨A2,c2,rfl,hfl,hlk,hlc,hrow⟩:=hv.open_;simp only[T.k_nd,T.n_nd,T.s_nd,T.ks_nd,List.length_cons,List.length_nil,Nat.zero_add,Nat.reduceAdd] at hfl hlk hlc hrow;obtain⟨a,u,A3,c3,rfl,ha2,Hu,⟨q0,q1,q2,q3⟩,hnu⟩:=hrow.nd (i:=0) (by simp);obtain⟨a',u',A4,c4,e4,ha4,Hu',⟨r0,r1,r2,r3⟩,hnu'⟩:=hrow.nd (i:=1) (by simp);injection e4 with e4;subst e4;simp only[Nat.zero_mul,Nat.one_mul,Addr.add_zero'] at q0 q1 q2 q3 r0 r1 r2 r3;have had4:a.add 4=⟨a.block,a.off+4,none⟩:=by simp[Addr.add]
 simp only[had4] at r0 r1 r2 r3;have hw:=hk.wf;have HXV:=zh (zqI hw (hnu'.keep (S':=Any) (fun _ _ _=>trivial) fun _ _ _=>rfl));have kC:=zh (fun w' (hb:Below W.heap.size W w')=>zml (zuA w n0 sb kb (newS vs s) hw) u _ w' ((hnu.keep (S':=Any) (fun _ _ _=>trivial) fun _ _ _=>rfl).later hb) (hk.later hb));have kD:=zh (fun w' (hb:Below W.heap.size W w')=>znx (zuA w n0 sb kb (newS vs s) hw) u' _ w' ((hnu'.keep (S':=Any) (fun _ _ _=>trivial) fun _ _ _=>rfl).later hb) (hk.later hb));have hset:setE vs s (.nd 56 n nm [p,q])=if (doE (newS vs s) (.nd 40 n nm [p,q])).1≠0 then ((doE (newS vs s) (.nd 40 n nm [p,q])).1,nilS) else match zlD vs p.s vs.length with
   | none=>(0,(doE (newS vs s) (.nd 40 n nm [p,q])).2.state)
   | some i=>(0,putC (doE (newS vs s) (.nd 40 n nm [p,q])).2.state i (indE (newS vs s).look p).1.toNat (zlz (newS vs s).look q).1):=rfl
 have hok:=fun h=>zwy (q:=q) (n:=n) (nm:=nm) hw hp h;have hHu:p=u:=Hu.out;have hHu':q=u':=Hu'.out;subst hHu hHu';obtain⟨⟨xi,ei⟩,hxi⟩:∃ x,indE (newS vs s).look p=x:=⟨_,rfl⟩
 obtain⟨⟨xv,ev⟩,hxv⟩:∃ x,zlz (newS vs s).look q=x:=⟨_,rfl⟩
 rw[hxi] at kC hset hok;rw[hxv] at kD hset HXV;simp only at hset hok;have nY:=zh hset;have ko:=zh hok;have HK:=zh hk;have HR:=zh (hr.keep (S':=fun b=>(b<n0\/kb b)/\b<W.heap.size) (fun b h hlt=>⟨h,hlt⟩) fun _ _ _=>rfl);have HV:=zh (hv.keep (S':=fun b=>(b<n0\/kb b)/\b<W.heap.size) (fun b h hlt=>⟨h,hlt⟩) fun _ _ _=>rfl);have ae:=zh (hrow.keep (S':=fun b=>(b<n0\/kb b)/\b<W.heap.size) (fun b h hlt=>⟨h,hlt⟩) fun _ _ _=>rfl);have HF:=zh hf;have HA2:=zh (And.intro ha2 ha4);obtain⟨uk,un,us,uks⟩:=p;obtain⟨uk',un',wU,uks'⟩:=q;simp only[T.k_nd,T.n_nd,T.s_nd,T.ks_nd] at q0 q1 q2 q3 r0 r1 r2 r3 kC kD;obtain⟨N,hN⟩:∃ N,W.heap.size=N:=⟨_,rfl⟩
 have HN:=zh hN;have wE:=zh (show w.heap.size<=N by rw[<-hN];exact hk.bl.size);have k0:=zkf (heap_alloc_new W (.cells #[.int .u8 56,.int .i64 n,.string nm,.slice (some a) 2 c2] 24)) (.cells #[.slice none 0 0,.slice none 0 0,.slice none 0 0] 34);have hb1:Below W.heap.size W ((W.alloc (.cells #[.int .u8 56,.int .i64 n,.string nm,.slice (some a) 2 c2] 24)).alloc (.cells #[.slice none 0 0,.slice none 0 0,.slice none 0 0] 34)):=zkc (zkc (Below.refl _ _) _) _;have k1:=zlA (W.alloc (.cells #[.int .u8 56,.int .i64 n,.string nm,.slice (some a) 2 c2] 24)) (by simp[hN]:(W.alloc (.cells #[.int .u8 56,.int .i64 n,.string nm,.slice (some a) 2 c2] 24)).heap.size=N+1) (.cells #[.slice none 0 0,.slice none 0 0,.slice none 0 0] 34)
 obtain⟨w1,hw1⟩:∃ x,(W.alloc (.cells #[.int .u8 56,.int .i64 n,.string nm,.slice (some a) 2 c2] 24)).alloc (.cells #[.slice none 0 0,.slice none 0 0,.slice none 0 0] 34)=x:=⟨_,rfl⟩
 have hz1:w1.heap.size=N+2:=by rw[<-hw1,<-hN];simp
 rw[hw1] at k0 k1 hb1;rw[hN] at k0;have aP:=zh k0;have aB:=zh k1;have HB1:=zh hb1;have HZ1:=zh hz1;have y3:w1.cell? ⟨N,3,none⟩=some (.slice (some a) 2 c2):=zc k0 rfl;have t0:=zb hb1 q0;have t1:=zb hb1 q1;have t2:=zb hb1 q2;have t3:=zb hb1 q3;have pK:=zh q2;have HROWL:=zh (show a.block<W.heap.size from World.block_lt_of_cell? W _ q0);have HT:=zh (And.intro r0 (And.intro r1 (And.intro r2 r3)));clear hk hr hv hrow hf hp hq hs hs40 hfl hlk hlc hnu hnu' hw hset hok k0 k1 hz1 q0 q1 q2 q3 r0 r1 r2 r3 hxi hxv ha2 ha4 hb1 Hu Hu'
 show Calls Tryz.prog 40 #[.agg #[.int .u8 56,.int .i64 n,.string nm,.slice (some a) 2 c2],.slice A vs.length c,.pointer (some ⟨sb,0,none⟩)] W _
 refine(callsIn_wide (n:=3)).1 (callsIn_of_wp_marks Tryz.func40 rfl trivial ((wpIn_wide (n:=3)).2 ?_));simp only[Tryz.ntmps40,List.size_toArray,List.length_cons,List.length_nil,Nat.reduceAdd,Nat.reduceSub,Array.replicate_succ,Array.replicate_zero,List.push_toArray,List.append_toArray,List.nil_append,List.cons_append];go_wp2_with fail;refine(kC.out _ HB1.out).mono ?_;rintro e2 w2 ⟨rfl,hb2⟩;have HB2:=zh (zka HB1.out hb2);have k2:=zkb aP.out hb2;have hz2:=hb2.size;have HZ2:=zh (show N+2<=w2.heap.size by have:=HZ1.out;omega);obtain⟨w3,hw3⟩:∃ x,w2.alloc (.cells #[.int .i64 xi] 3)=x:=⟨_,rfl⟩
 have hb3:Below w2.heap.size w2 w3:=by rw[<-hw3];exact zkc (Below.refl _ _) _
 have hk3:=heap_alloc_new w2 (.cells #[.int .i64 xi] 3);rw[hw3] at hk3;have fw:=zh hk3;obtain⟨N2,qQ⟩:∃ N2,w2.heap.size=N2:=⟨_,rfl⟩
 have aI:=zh qQ;have HW3:=zh hw3;have HB3:=zh (zka HB2.out hb3);have k3:=zkb k2 hb3
 replace y3:w3.cell? ⟨N,3,none⟩=some (.slice (some a) 2 c2):=zc k3 rfl
 have HKN3:=zh k3;have oF:=zh (zkb aB.out (zka hb2 hb3));obtain⟨r0,r1,r2,r3⟩:=HT.out
 replace r0:=zb HB3.out r0
 replace r1:=zb HB3.out r1
 replace r2:=zb HB3.out r2
 replace r3:=zb HB3.out r3
 clear hb2 hb3 k2 k3 hk3 t0 t1 t2 t3 hw1 hz2 kC;go_wp2_with fail;refine(kD.out _ HB3.out).mono ?_;rintro e4 w4 ⟨rfl,hb4⟩;have ak:=zh (zka HB3.out hb4);obtain⟨w5,eX⟩:∃ x,w4.alloc (.cells #[.int .i64 xv] 3)=x:=⟨_,rfl⟩
 have hb5:Below w4.heap.size w4 w5:=by rw[<-eX];exact zkc (Below.refl _ _) _
 have hk5:=heap_alloc_new w4 (.cells #[.int .i64 xv] 3);rw[eX] at hk5;have jV:=zka hb4 hb5;have dF:=zh hk5;obtain⟨N4,sW⟩:∃ N4,w4.heap.size=N4:=⟨_,rfl⟩
 have uZ:=zh sW;have av:=zh (zka ak.out hb5);rw[qQ] at fw;rw[sW] at dF;have HK35:=zh (zkb fw.out jV);have rE:=zh (zkb HKN3.out jV);have rO:=zh (zkb oF.out jV);obtain⟨wk,hwk,hck,hhk⟩:=setU (o:=0) (.int .u8 40) rE.out;have qC:wk.heap[N]?=some (.cells #[.int .u8 40,.int .i64 n,.string nm,.slice (some a) 2 c2] 24 (0,0)):=by simpa using hhk
 obtain⟨z0,z1,z2,z3⟩:=box4 qC;have x0:w5.cell? ⟨N,0,none⟩=some (.int .u8 56):=zc rE.out rfl;have cf:∀ o,w5.frozen? ⟨N,o,none⟩=false:=fun o=>zf rE.out;have ku:=zh (show N2<w5.heap.size/\N4<w5.heap.size/\N+2<=N2/\N2<N4/\w5.heap.size=N4+1 from by
  have h1:=zkj HK35.out;have h2:=zkj dF.out;have h3:=HZ1.out;have h4:=hb4.size;have h5:=zkj fw.out;have h6:w5.heap.size=w4.heap.size+1:=by rw[<-eX];simp
  have h7:=HB2.out.size;have h8:=HZ2.out;exact⟨h1,h2,by omega,by omega,by omega⟩)
 have bI:=zh hck;have HHK:=zh qC;have hkb0:∀ b,(kb b\/b=N\/b=N+1\/b=N2\/b=N4)->kb b\/(W.heap.size<=b/\b<w5.heap.size):=fun b h=>by
  have:=ku.out;have h1:=HN.out;rcases h with h|rfl|rfl|rfl|rfl
  ·exact .inl h
  ·exact .inr ⟨by omega,by omega⟩
  ·exact .inr ⟨by omega,by omega⟩
  ·exact .inr ⟨by omega,by omega⟩
  ·exact .inr ⟨by omega,by omega⟩
 have hk5':=HK.out.also (kb':=fun b=>kb b\/b=N\/b=N+1\/b=N2\/b=N4) av.out hkb0;have hkk:=hk5'.chg hck fun b hb (e:b=N)=>⟨by have:=HK.out.bl.size;have:=HN.out;omega,.inr (.inr (.inl e))⟩
 have hnv40:NV wk Any (.nd 40 n nm [.nd uk un us uks,.nd uk' un' wU uks']) (.agg #[.int .u8 40,.int .i64 n,.string nm,.slice (some a) 2 c2]):=by
  refine((NV.kind HV.out (by decide)).later av.out).keep (fun _ _ _=>trivial) fun b hb hlt=>?_;exact hck.block b hlt fun(e:b=N)=>by have:=hb.2;have:=HN.out;omega
 have oN:=zh (hkk.do_ _ _ hnv40);clear hb4 hb5 hk5 jV hck hhk qC hkb0 hk5' r0 r1 r2 r3 kD hw3 qQ sW;go_wp2_with fail;refine oN.out.mono ?_;rintro e6 w6 ⟨rfl,gQ,dP⟩;obtain⟨⟨er,S6⟩,hdo⟩:∃ x,doE (newS vs s) (.nd 40 n nm [.nd uk un us uks,.nd uk' un' wU uks'])=x:=⟨_,rfl⟩
 rw[hdo] at gQ ⊢;have hset:=nY.out;have hok:=ko.out;rw[hdo] at hset hok;simp only at gQ hset hok ⊢;have kW:=zh gQ;have wM:=zh dP;have hin:∀ b,b=N\/b=N+1\/b=N2\/b=N4->b<n0\/(kb b\/b=N\/b=N+1\/b=N2\/b=N4):=fun b h=>.inr (.inr h);have ll:=dP.blk (hin N (.inl rfl)) HHK.out;have hn61:=dP.blk (hin (N+1) (.inr (.inl rfl))) (bI.out.keep rO.out fun e=>by have e:N+1=N:=e;omega);have hn62:=dP.blk (hin N2 (.inr (.inr (.inl rfl)))) (bI.out.keep HK35.out fun e=>by have e:N2=N:=e;have:=ku.out;omega);have hn64:=dP.blk (hin N4 (.inr (.inr (.inr rfl)))) (bI.out.keep dF.out fun e=>by have e:N4=N:=e;have:=ku.out;omega);have fq:=zh ll;have oq:=zh hn61;have HN62:=zh hn62;have HN64:=zh hn64;have HKW:=zh (show Kpt n0 kb W w6 from ⟨Nat.le_trans av.out.size (Nat.le_trans bI.out.size dP.size),fun b hb hk=>by
  rw[dP.kept b (by have:=av.out.size;have:=bI.out.size;omega) (hk.imp id .inl),bI.out.block b (by have:=av.out.size;omega) fun(e:b=N)=>by have:=HN.out;omega];exact av.out.block b hb⟩)
 clear gQ dP hin ll hn61 hn62 hn64 x0 cf z0 z1 z2 z3 eX hwk y3 oN hkk hnv40;by_cases h0:er=0;rotate_left 1
 ·have hne:(er==0)=false:=by simpa using h0
  have HS:=zh (hset.trans (if_pos h0));obtain⟨w9,aQ,aR,aY⟩:=st3 (.slice none 0 0) (.slice none 0 0) (.slice none 0 0) oq.out;obtain⟨q0,q1,q2⟩:=zkr oq.out;have cf:∀ o,w6.frozen? ⟨N+1,o,none⟩=false:=fun o=>zf oq.out;obtain⟨t0,t1,t2⟩:=zkr aY;have mr:=zh aR;clear hset hok aY aR hdo;go_wp2_with fail;rw[HS.out];exact⟨_,by simp[results,Tryz.results40,go_sem,t0,t1,t2],kW.out.bl.trans (mr.out.below kW.out.bl.size fun b (e:b=N+1)=>by have:=wE.out;omega),HKW.out.chgS mr.out fun b hb (e:b=N+1)=>by have:=HN.out;omega,_,rfl,OwnS.nil _ _,zqy⟩
 subst h0;obtain⟨i,a0,g1,g2,g3,g4,x,g5⟩:=hok rfl;rw[if_neg (by decide),g1] at hset;simp only at hset;have hst:=kW.out.state;have HST:=zh hst;have hst9:S6.state=putC s i a0 x:=by
  rw[show S6=(newS vs s).put i a0 x from g5];exact zrR (zl6 HF.out).2.1 g2 x
 have nX:=zh hst9;have HI:=zh (And.intro g1 (And.intro g2 g4));have nY:=zh hset;subst g3;clear hset hok hdo g1 g2 g4 g5 hst hst9;go_wp2_with fail;refine HST.out.mono ?_;rintro e7 w7 ⟨v7,rfl,gz,bF⟩;obtain⟨vc,vi,vo,fc,rfl,hrw,hI7⟩:=gz;obtain⟨Ac,cc,bK,-⟩:=zkg (hrw.row .all);obtain⟨Ai,ci,mJ,-⟩:=zkg (hrw.row .inp);obtain⟨Ao,co,sJ,-⟩:=zkg (hrw.row .out);change vc=.slice Ac S6.state.cells.length cc at bK;change vi=.slice Ai S6.state.tin.length ci at mJ;change vo=.slice Ao S6.state.tout.length co at sJ;have hcl:S6.state.cells.length=vs.length:=by rw[nX.out];simp[putC,(zl6 HF.out).2.1]
 rw[hcl] at bK;subst bK mJ sJ;have dm:=zkc (Below.refl w7.heap.size w7) (.cells #[.slice Ac vs.length cc,.slice Ai S6.state.tin.length ci,.slice Ao S6.state.tout.length co] 34);have gT:=heap_alloc_new w7 (.cells #[.slice Ac vs.length cc,.slice Ai S6.state.tin.length ci,.slice Ao S6.state.tout.length co] 34);obtain⟨w8,hw8⟩:∃ x,w7.alloc (.cells #[.slice Ac vs.length cc,.slice Ai S6.state.tin.length ci,.slice Ao S6.state.tout.length co] 34)=x:=⟨_,rfl⟩
 have pY:w8.heap.size=w7.heap.size+1:=by rw[<-hw8];simp
 rw[hw8] at dm gT;obtain⟨N8,uE⟩:∃ x,w7.heap.size=x:=⟨_,rfl⟩
 rw[uE] at gT pY;have HN8:=zh uE;have xK:=zh pY;have HB68:=zh (zka bF dm);have wI:=zh (show w6.heap.size<=N8 by rw[<-uE];exact bF.size);have oC:=zh gT;have HRW8:=zh (hrw.later dm);have oo:=zh (show ∀ j b,(zk3 (.slice Ac vs.length cc) (.slice Ai S6.state.tin.length ci) (.slice Ao S6.state.tout.length co) fc S6.state j).v.ownBlock=some b->b<N8 from fun j b h=>by rw[<-uE];exact(hrw.lt j b h).2);have iM:=zh hI7;clear bF dm gT pY hrw hI7 uE HST hcl;go_wp2_with fail;refine(zqe _ _ _ w8).mono ?_;rintro e9 w9 ⟨rfl,aQ⟩;have wW:=zlA w8 xK.out (.cells #[.slice A vs.length c] 25);have aH:=zkc (Below.refl w8.heap.size w8) (.cells #[.slice A vs.length c] 25);have kJ:w9.heap.size=N8+2:=by rw[aQ];simp[xK.out]
 rw[<-aQ] at wW aH;have fZ:=zh wW;have xJ:=zh kJ;have kG:=zh (zka HB68.out aH);have hsz68:w6.heap.size<=N8:=wI.out;have jJ:=zh (show N+1<N2/\N2<N4/\N4<w6.heap.size/\w6.heap.size<=N8/\N=W.heap.size from by
  have h1:=ku.out;have h2:=zkj HN64.out;have h3:=HN.out;exact⟨by omega,h1.2.2.2.1,h2,hsz68,h3.symm⟩)
 have hB6W:Kpt n0 kb W w9:=HKW.out.trans (Kpt.of_below kG.out);have ow:=zh hB6W;obtain⟨X,hX⟩:∃ X,S6.state=X:=⟨_,rfl⟩
 rw[hX] at HRW8 iM nX oC oo;have HX:=zh hX;have kv:=zh (hX▸(zoK kW.out.wf).2.1);have hsi:SetI N N2 N4 N8 w6.heap.size #[.int .u8 40,.int .i64 n,.string nm,.slice (some a) 2 c2] (a0:Int) xv (.slice Ac vs.length cc) (.slice Ai X.tin.length ci) (.slice Ao X.tout.length co) fc X (fun b=>b=N\/b=N+1\/b=N2\/b=N4\/b=N8\/∃ i,(zk3 (.slice Ac vs.length cc) (.slice Ai X.tin.length ci) (.slice Ao X.tout.length co) fc X i).v.ownBlock=some b) w9 :=
  ⟨fun _=>Iff.rfl,zkb fq.out kG.out,zkb oq.out kG.out,zkb HN62.out kG.out,zkb HN64.out kG.out,zkb oC.out aH,HRW8.out.later aH⟩
 have uU:=zh hsi;clear wW aH kJ hsz68 hB6W hX hsi aQ hw8;rw[xK.out];go_wp2_with fail;have HBG:=zh (zpJ (3-1) (N8+1) (by decide) vs A c (fun b=>(b<n0\/kb b)/\b<W.heap.size) w9 fZ.out (HR.out.keep (fun b h _=>h) fun b h hlt=>ow.out.kept b hlt h.1) (by have:=(zl6 HF.out).1;omega));have hls:=zon HI.out.1 (Nat.le_refl _);have hlast:∀ k,k<vs.length->i<k->∀ hk:k<vs.length,vs[k].s.toList≠us.toList:=fun k h1 h2 hk=>hls.2 k h2 h1 hk;have hname:∀ hk:i<vs.length,vs[i].s.toList=us.toList:=hls.1;have HLAST:=zh hlast;have HNAME:=zh hname;clear hlast hname hls;refine(wpIn_wide (n:=3)).1 ?_;rw[HN8.out,uZ.out];refine zq5 (k:=0) (n:=3) (gf:=115) (lb := #[.pointer (some ⟨N8+1,0,none⟩)]) rfl (zkC zxA) HBG.out rfl
  (fun pre C W'=>SetI N N2 N4 N8 w6.heap.size #[.int .u8 40,.int .i64 n,.string nm,.slice (some a) 2 c2] (a0:Int) xv (.slice Ac vs.length cc) (.slice Ai X.tin.length ci) (.slice Ao X.tout.length co) fc X C W'/\∀ k,vs.length-pre.length<=k->∀ hk:k<vs.length,vs[k].s.toList≠us.toList)
  (fun pre C W'=>SetI N N2 N4 N8 w6.heap.size #[.int .u8 40,.int .i64 n,.string nm,.slice (some a) 2 c2] (a0:Int) xv (.slice Ac vs.length cc) (.slice Ai X.tin.length ci) (.slice Ao X.tout.length co) fc (putC X i a0 xv) C W') (fun b=>b=N\/b=N+1\/b=N2\/b=N4\/b=N8\/∃ i,(zk3 (.slice Ac vs.length cc) (.slice Ai X.tin.length ci) (.slice Ao X.tout.length co) fc X i).v.ownBlock=some b)
  (fun pre C W W' h hc=>⟨h.1.chg hc fun b hb h=>h hb,h.2⟩) (fun pre C W W' h hc=>h.chg hc fun b hb h=>h hb) (fun pre C W h=>h.1.lt) (fun pre C W h=>h.lt)
  (fun b h1 h2=>by
   have hn:=jJ.out;have h3:b<N8+1:=by
    rcases h1 with h|h|h|h|h|⟨j,h⟩
    ·omega
    ·omega
    ·omega
    ·omega
    ·omega
    ·have:=oo.out j b h;omega
   have h4:W.heap.size<=b:=by
    rcases h1 with h|h|h|h|h|⟨j,h⟩
    ·omega
    ·omega
    ·omega
    ·omega
    ·omega
    ·have:=(uU.out.rws.lt j b h).1;omega
   rcases h2 with h2|h2
   ·omega
   ·have:=h2.1.2;omega) (fun b h=>by
   have:=xJ.out;rcases h with h|h
   ·omega
   ·exact h.2) ⟨uU.out,fun k h hk=>by simp at h;omega⟩ ?_ (fun a w h=>h) ?_
 ·rintro l pre x C W3 pv v ⟨hI,hpl⟩ mU hl uu hpre ⟨rfl,⟨hxv,rfl⟩,hkeep⟩;have hx:x=vs.length-1-pre.length/\pre.length+1<=vs.length:=by
   have h1:=hpre.length_le;simp at h1;obtain⟨ys,hys⟩:=hpre;have h2:=congrArg (fun L:List Nat=>L[pre.length]?) hys;simp only[List.append_assoc,List.singleton_append,List.getElem?_append_right (Nat.le_refl _),Nat.sub_self,List.getElem?_cons_zero] at h2;rw[List.getElem?_eq_getElem (by simp;omega)] at h2;simp at h2;exact⟨h2,h1⟩
  obtain⟨u9,oW⟩:∃ u9,vs[x]=u9:=⟨_,rfl⟩
  rw[oW];obtain⟨s9,k9,n9⟩:=u9;have ik:=zh (And.intro hx hpl);clear hx;have HU9:=zh (show ∃ h:x<vs.length,vs[x]=⟨s9,k9,n9⟩ from ⟨hxv,oW⟩);unfold vdV;simp only;change Code.wpIn (Fence.wide.inRound l) (3-1-1) Tryz.prog _ _ _ _
  gi_wp2
  refine⟨(Chg.refl _ _).alloc _,fun W4 gX=>?_⟩;have hbx:=gX.keep (heap_alloc_new W3 (.cells #[.string s9,.int .u8 k9,.int .i64 n9] 76)) (show ¬ W3.heap.size=l by omega);have mR:=(hI.chg (Chg.of_below (zkc (Below.refl W3.heap.size W3) (.cells #[.string s9,.int .u8 k9,.int .i64 n9] 76)) (C:=fun _=>False)) fun _ _=>id).chg gX fun b hb (e:b=l)=>mU (e▸hb);have HI4:=zh mR;have hkq:W4.heap[a.block]?=W.heap[a.block]?:=by
   have h1:=HA2.out.1;have h2:a.block<W.heap.size:=HROWL.out;have h9:=ow.out.size;have h3:=hkeep a.block ⟨h1,h2⟩ (Nat.lt_of_lt_of_le h2 h9);have h5:a.block<W3.heap.size:=by omega
   exact(((gX.block a.block (by rw[World.size_alloc];omega) (fun(e:a.block=l)=>by omega)).trans (Below.heap_alloc _ _ _ h5)).trans h3).trans (ow.out.kept a.block h2 h1)
  obtain⟨t0,t1,t2⟩:=zkr hbx;obtain⟨b9,aH⟩:∃ x,W3.heap.size=x:=⟨_,rfl⟩
  rw[aH] at t0 t1 t2 ⊢;have y3:W4.cell? ⟨N,3,none⟩=some (.slice (some a) 2 c2):=zc mR.n rfl;have ys:W4.cell? ⟨a.block,a.off+2,none⟩=some (.string us):=zkp pK.out hkq;have hSS:(fun w':World=>w'.cell? ⟨b9,0,none⟩=some (.string s9)/\w'.cell? ⟨N,3,none⟩=some (.slice (some a) 2 c2)/\w'.cell? ⟨a.block,a.off+2,none⟩=some (.string us)) W4.drew:=⟨t0,y3,ys⟩
  clear t0 t1 t2 y3 ys hkq hbx gX hI hpl mU hpre hkeep;obtain⟨bq,hbq⟩:∃ b,(s9.toList==us.toList)=b:=⟨_,rfl⟩
  have HBQ:=zh hbq
  gi_upto_region 11 with fail
  refine zl2 (ro:=some l) (fun w':World=>w'.cell? ⟨b9,0,none⟩=some (.string s9)/\w'.cell? ⟨N,3,none⟩=some (.slice (some a) 2 c2)/\w'.cell? ⟨a.block,a.off+2,none⟩=some (.string us)) (by kernel_rfl) ?_;refine zkF (i:=0) (v:=?_) rfl (by kernel_rfl) (by kernel_rfl) (by kernel_rfl) (by kernel_rfl) (fun _ _ _ h=>h) (Or.inl ⟨by rfl,?_⟩) hSS ?_;rotate_left 1
  ·(intro w hSw;(try dsimp only at hSw);(try simp only[zA,zB,zC]);go_simp;(try with_reducible rfl))
  (try simp only[zQ]);refine zkF (i:=1) (v:=?_) rfl (by kernel_rfl) (by kernel_rfl) (by kernel_rfl) (by kernel_rfl) (fun _ _ _ h=>h) (Or.inl ⟨by rfl,?_⟩) hSS ?_;rotate_left 1
  ·(intro w hSw;(try dsimp only at hSw);(try simp only[zA,zB,zC]);go_simp;(try with_reducible rfl))
  (try simp only[zQ]);refine zkF (i:=2) (v:=?_) rfl (by kernel_rfl) (by kernel_rfl) (by kernel_rfl) (by kernel_rfl) (fun _ _ _ h=>h) (Or.inl ⟨by rfl,?_⟩) hSS ?_;rotate_left 1
  ·(intro w hSw;(try dsimp only at hSw);(try simp only[zA,zB,zC]);go_simp;(try with_reducible rfl))
  (try simp only[zQ]);refine zkF (i:=3) (v:=?_) rfl (by kernel_rfl) (by kernel_rfl) (by kernel_rfl) (by kernel_rfl) (fun _ _ _ h=>h) (Or.inl ⟨by rfl,?_⟩) hSS ?_;rotate_left 1
  ·(intro w hSw;(try dsimp only at hSw);(try simp only[zA,zB,zC]);go_simp;(try with_reducible rfl))
  (try simp only[zQ]);refine zkF (i:=4) (v:=?_) rfl (by kernel_rfl) (by kernel_rfl) (by kernel_rfl) (by kernel_rfl) (fun _ _ _ h=>h) (Or.inl ⟨by rfl,?_⟩) hSS ?_;rotate_left 1
  ·(intro w hSw;(try dsimp only at hSw);(try simp only[zA,zB,zC]);go_simp;(try with_reducible rfl))
  (try simp only[zQ]);refine zkF (i:=5) (v:=?_) rfl (by kernel_rfl) (by kernel_rfl) (by kernel_rfl) (by kernel_rfl) (fun _ _ _ h=>h) (Or.inl ⟨by rfl,?_⟩) hSS ?_;rotate_left 1
  ·(intro w hSw;(try dsimp only at hSw);(try simp only[zA,zB,zC]);go_simp;(try with_reducible rfl))
  (try simp only[zQ]);refine zkF (i:=6) (v:=?_) rfl (by kernel_rfl) (by kernel_rfl) (by kernel_rfl) (by kernel_rfl) (fun _ _ _ h=>h) (Or.inl ⟨by rfl,?_⟩) hSS ?_;rotate_left 1
  ·(intro w hSw;(try dsimp only at hSw);(try simp only[zA,zB,zC]);go_simp;(try with_reducible rfl))
  (try simp only[zQ]);refine zkF (i:=7) (v:=?_) rfl (by kernel_rfl) (by kernel_rfl) (by kernel_rfl) (by kernel_rfl) (fun _ _ _ h=>h) (Or.inl ⟨by rfl,?_⟩) hSS ?_;rotate_left 1
  ·(intro w hSw;(try dsimp only at hSw);(try simp only[zA,zB,zC]);go_simp;(try with_reducible rfl))
  (try simp only[zQ]);refine zoG (by kernel_rfl) ?_;have yn:=zh (HI4.out.chg (Chg.of_below (Below.refl W4.heap.size W4).drew (C:=fun _=>False)) fun _ _=>id);obtain⟨W5,sS⟩:∃ x,W4.drew=x:=⟨_,rfl⟩
  have hc45:Chg C W4 W5:=by rw[<-sS];exact Chg.of_below (Below.refl _ _).drew
  rw[sS] at yn ⊢;have HC45:=zh hc45;clear sS hc45 hSS hbq
  cases bq
  ·gi_wp2
   refine⟨C,⟨yn.out,fun k h hk=>?_⟩,fun b h=>.inl h,HC45.out⟩;rw[List.length_append,List.length_singleton] at h;by_cases e:vs.length-pre.length<=k
   ·exact ik.out.2 k e hk
   ·have hk2:k=x:=by have:=ik.out.1;omega
    subst hk2;obtain⟨_,hu⟩:=HU9.out;rw[hu];have:=HBQ.out;simpa using this
  ·have hxi:x=i:=by
    obtain⟨hx1,hu⟩:=HU9.out;have hm:vs[x].s.toList=us.toList:=by rw[hu];have:=HBQ.out;simpa using this
    have h1:¬ i<x:=fun h=>HLAST.out x hx1 h hx1 hm;have h2:¬ vs.length-pre.length<=i:=fun h=>ik.out.2 i h HI.out.2.1 (HNAME.out HI.out.2.1);have:=ik.out.1;omega
   subst hxi;have hin:=HI.out.2.1;have xy:X.cells.length=vs.length:=by rw[nX.out];simp[putC,(zl6 HF.out).2.1]
   have wh:a0<(X.cells.getD x []).length:=by
    have h4:=HI.out.2.2;rw[nX.out];simp only[putC];rw[List.getD_eq_getElem?_getD,List.getElem?_set_self (by rw[(zl6 HF.out).2.1];exact hin)];simpa using h4
   have hxX:x<X.cells.length:=by rw[xy];exact hin
   have hput:=ztM (vc:=.slice Ac vs.length cc) (vi:=.slice Ai X.tin.length ci) (vo:=.slice Ao X.tout.length co) (fc:=fc) (a:=a0) (x:=xv) hxX;have hown:=fun j=>zqu (vc:=.slice Ac vs.length cc) (vi:=.slice Ai X.tin.length ci) (vo:=.slice Ao X.tout.length co) (fc:=fc) (X:=X) (i:=x) (a:=a0) (x:=xv) j;have gH:=zh (yn.out.chg (Chg.of_below (Below.refl W5.heap.size W5).drew (C:=fun _=>False)) fun _ _=>id);obtain⟨W6,qL⟩:∃ x,W5.drew=x:=⟨_,rfl⟩
   have hc56:Chg C W5 W6:=by rw[<-qL];exact Chg.of_below (Below.refl _ _).drew
   rw[qL] at gH;have hra:=gH.out.rws.row .all;have aS:=gH.out.rws.row (.el x);have uJ:zk3 (.slice Ac vs.length cc) (.slice Ai X.tin.length ci) (.slice Ao X.tout.length co) fc X (.el x)=⟨fc x,3,1,(X.cells.getD x []).length,zki (X.cells.getD x [])⟩:=by simp only[zk3,hxX,if_true]
   obtain⟨L,hL⟩:∃ L,(X.cells.getD x []).length=L:=⟨_,rfl⟩
   have hxl:(zk3 (.slice Ac vs.length cc) (.slice Ai X.tin.length ci) (.slice Ao X.tout.length co) fc X (.el x)).xs.length=L:=by rw[uJ];simp[zki,<-hL]
   rw[uJ,hL] at aS;simp only[zk3,xy] at hra;rw[hL] at wh;rcases hra.2 with⟨e1,e2⟩|⟨gc,cap,cur,e1,-⟩
   ·omega
   rcases aS.2 with⟨e3,e4⟩|⟨gi,cg,cur3,e3,-,hgi,-⟩
   ·simp only at e4;omega
   have hown':=hown;injection e1 with e1 e1b e1c;subst e1 e1c;simp only at e3;have y0:W6.cell? ⟨N8,0,none⟩=some (.slice (some ⟨gc,0,none⟩) vs.length cc):=zc gH.out.n8 rfl;have y1:W6.cell? ⟨gc,x,none⟩=some (.slice (some ⟨gi,0,none⟩) L cg):=by
    have:=gH.out.rws.cell .all (g:=gc) (u:=fc x) (o:=x) rfl (by simp only[zk3,xy];simp[hin]);rwa[e3] at this
   have y2:W6.cell? ⟨N2,0,none⟩=some (.int .i64 a0):=zc gH.out.n2 rfl;have y4:W6.cell? ⟨N4,0,none⟩=some (.int .i64 xv):=zc gH.out.n4 rfl;have hgo:(zk3 (.slice (some ⟨gc,0,none⟩) vs.length cc) (.slice Ai X.tin.length ci) (.slice Ao X.tout.length co) fc X (.el x)).v.ownBlock=some gi:=by rw[uJ,e3];rfl
   have hset:=gH.out.rws.set (.el x) (g:=gi) (o:=a0) hgo (by rw[hxl];exact wh) (.int .i64 xv);rw[hput] at hset;have hx0:(0:Int)<=(x:Int):=by omega
   have hx1:(x:Int)<(vs.length:Int):=by omega
   have ha0:(0:Int)<=(a0:Int):=by omega
   have ha1:(a0:Int)<(L:Int):=by omega
   have hgl:=gH.out.rws.lt (.el x) gi hgo;have fI:gi≠N/\gi≠N+1/\gi≠N2/\gi≠N4/\gi≠N8/\gi≠gc:=by
    have h:=jJ.out;refine⟨by omega,by omega,by omega,by omega,fun e=>?_,fun e=>?_⟩
    ·have:=oo.out (.el x) gi (by rw[uJ,e3];rfl);omega
    ·exact gH.out.rws.sep (.el x) .all gi (by simp) hgo (by rw[e];rfl)
   have y5:W6.cell? ⟨gi,a0,none⟩=some (.int .i64 ((X.cells.getD x []).getD a0 0)):=gH.out.rws.cell (.el x) hgo (by rw[uJ];simp only[zki];rw[List.getElem?_map,List.getElem?_eq_getElem (by rw[hL];exact wh)];rw[Option.map_some,List.getD_eq_getElem?_getD (l:=X.cells.getD x []),List.getElem?_eq_getElem (show a0<(X.cells.getD x []).length by rw[hL];exact wh)];rfl);have cfg:∀ o,W6.frozen? ⟨gi,o,none⟩=false:=fun o=>zf hgi;have hcs:Chg (fun q=>q=gi) W6 (W6.setCell ⟨gi,a0,none⟩ (.int .i64 xv)):=(Chg.refl (fun q=>q=gi) W6).setCell (p:=⟨gi,a0,none⟩) (.inl rfl) _;have hkq:∀ b,b≠gi->(W6.setCell ⟨gi,a0,none⟩ (.int .i64 xv)).heap[b]?=W6.heap[b]?:=fun b h=>Below.heap_setCell _ _ _ _ h
   have aC:=zh (show SetI N N2 N4 N8 w6.heap.size #[.int .u8 40,.int .i64 n,.string nm,.slice (some a) 2 c2] (a0:Int) xv (.slice (some ⟨gc,0,none⟩) vs.length cc) (.slice Ai X.tin.length ci) (.slice Ao X.tout.length co) fc (putC X x a0 xv) C (W6.setCell ⟨gi,a0,none⟩ (.int .i64 xv)) from
    ⟨fun b=>by rw[gH.out.c b];simp only[hown'],(hkq N (Ne.symm fI.1)).trans gH.out.n,(hkq (N+1) (Ne.symm fI.2.1)).trans gH.out.n1,(hkq N2 (Ne.symm fI.2.2.1)).trans gH.out.n2,(hkq N4 (Ne.symm fI.2.2.2.1)).trans gH.out.n4,(hkq N8 (Ne.symm fI.2.2.2.2.1)).trans gH.out.n8,hset⟩)
   have mV:C gi:=(gH.out.c gi).2 (.inr (.inr (.inr (.inr (.inr ⟨_,hgo⟩)))));have wS:=zh (show Chg C W4 (W6.setCell ⟨gi,a0,none⟩ (.int .i64 xv)) from (HC45.out.trans hc56).trans (hcs.mono fun b _ (e:b=gi)=>e▸mV))
   gi_upto_region 12 with fail
   have hSS:(fun w':World=>w'.cell? ⟨N8,0,none⟩=some (.slice (some ⟨gc,0,none⟩) vs.length cc)/\w'.cell? ⟨gc,x,none⟩=some (.slice (some ⟨gi,0,none⟩) L cg)/\w'.cell? ⟨N2,0,none⟩=some (.int .i64 a0)/\w'.cell? ⟨N4,0,none⟩=some (.int .i64 xv)) W6:=⟨y0,y1,y2,y4⟩
   have hS9:(fun w':World=>w'.cell? ⟨N8,0,none⟩=some (.slice (some ⟨gc,0,none⟩) vs.length cc)/\w'.cell? ⟨gc,x,none⟩=some (.slice (some ⟨gi,0,none⟩) L cg)/\w'.cell? ⟨N2,0,none⟩=some (.int .i64 a0)/\w'.cell? ⟨N4,0,none⟩=some (.int .i64 xv)) (W6.setCell ⟨gi,a0,none⟩ (.int .i64 xv)):=⟨zkp y0 (hkq N8 (Ne.symm fI.2.2.2.2.1)),zkp y1 (hkq gc (Ne.symm fI.2.2.2.2.2)),zkp y2 (hkq N2 (Ne.symm fI.2.2.1)),zkp y4 (hkq N4 (Ne.symm fI.2.2.2.1))⟩
   refine zl2 (ro:=some l) (fun w':World=>w'.cell? ⟨N8,0,none⟩=some (.slice (some ⟨gc,0,none⟩) vs.length cc)/\w'.cell? ⟨gc,x,none⟩=some (.slice (some ⟨gi,0,none⟩) L cg)/\w'.cell? ⟨N2,0,none⟩=some (.int .i64 a0)/\w'.cell? ⟨N4,0,none⟩=some (.int .i64 xv)) (by kernel_rfl) ?_;rw[qL];refine zkF (i:=0) (v:=?_) rfl (by kernel_rfl) (by kernel_rfl) (by kernel_rfl) (by kernel_rfl) (fun _ _ _ h=>h) (Or.inl ⟨by rfl,?_⟩) hSS ?_;rotate_left 1
   ·(intro w hSw;(try dsimp only at hSw);(try simp only[zA,zB,zC]);go_simp;(try with_reducible rfl))
   (try simp only[zQ]);refine zkF (i:=1) (v:=?_) rfl (by kernel_rfl) (by kernel_rfl) (by kernel_rfl) (by kernel_rfl) (fun _ _ _ h=>h) (Or.inl ⟨by rfl,?_⟩) hSS ?_;rotate_left 1
   ·(intro w hSw;(try dsimp only at hSw);(try simp only[zA,zB,zC]);go_simp;(try with_reducible rfl))
   (try simp only[zQ]);refine zkF (i:=2) (v:=?_) rfl (by kernel_rfl) (by kernel_rfl) (by kernel_rfl) (by kernel_rfl) (fun _ _ _ h=>h) (Or.inl ⟨by rfl,?_⟩) hSS ?_;rotate_left 1
   ·(intro w hSw;(try dsimp only at hSw);(try simp only[zA,zB,zC]);go_simp;(try with_reducible rfl))
   (try simp only[zQ]);refine zkF (i:=3) (v:=?_) rfl (by kernel_rfl) (by kernel_rfl) (by kernel_rfl) (by kernel_rfl) (fun _ _ _ h=>h) (Or.inl ⟨by rfl,?_⟩) hSS ?_;rotate_left 1
   ·(intro w hSw;(try dsimp only at hSw);(try simp only[zA,zB,zC]);go_simp;(try with_reducible rfl))
   (try simp only[zQ]);refine zkF (i:=4) (v:=?_) rfl (by kernel_rfl) (by kernel_rfl) (by kernel_rfl) (by kernel_rfl) (fun _ _ _ h=>h) (Or.inl ⟨by rfl,?_⟩) hSS ?_;rotate_left 1
   ·(intro w hSw;(try dsimp only at hSw);(try simp only[zA,zB,zC]);go_simp;(try with_reducible rfl))
   (try simp only[zQ]);refine zkF (i:=5) (v:=?_) rfl (by kernel_rfl) (by kernel_rfl) (by kernel_rfl) (by kernel_rfl) (fun _ _ _ h=>h) (Or.inl ⟨by rfl,?_⟩) hSS ?_;rotate_left 1
   ·(intro w hSw;(try dsimp only at hSw);(try simp only[zA,zB,zC]);go_simp;(try with_reducible rfl))
   (try simp only[zQ]);refine zkF (i:=6) (v:=?_) rfl (by kernel_rfl) (by kernel_rfl) (by kernel_rfl) (by kernel_rfl) (fun _ _ _ h=>h) (Or.inl ⟨by rfl,?_⟩) hSS ?_;rotate_left 1
   ·(intro w hSw;(try dsimp only at hSw);(try simp only[zA,zB,zC]);go_simp;(try with_reducible rfl))
   (try simp only[zQ]);refine zkF (i:=7) (v:=?_) rfl (by kernel_rfl) (by kernel_rfl) (by kernel_rfl) (by kernel_rfl) (fun _ _ _ h=>h) (Or.inl ⟨by rfl,?_⟩) hSS ?_;rotate_left 1
   ·(intro w hSw;(try dsimp only at hSw);(try simp only[zA,zB,zC]);go_simp;(try with_reducible rfl))
   (try simp only[zQ]);refine zrz (i:=8) (by kernel_rfl) rfl (by kernel_rfl) (by rfl) (fun K hK=>?_);(try simp only[zA,zB,zC]);go_simp;refine hK.out _ _ hS9 ?_;clear hK K;(try simp only[zQ]);refine zoG (by kernel_rfl) ?_
   gi_wp2
   exact⟨rfl,C,aC.out,fun b h=>.inl h,wS.out⟩
 ·intro D pre C W' hD hC hch hK;have hsi:SetI N N2 N4 N8 w6.heap.size #[.int .u8 40,.int .i64 n,.string nm,.slice (some a) 2 c2] (a0:Int) xv (.slice Ac vs.length cc) (.slice Ai X.tin.length ci) (.slice Ao X.tout.length co) fc (putC X i a0 xv) C W':=by
   rcases hC with⟨rfl,-,h2⟩|h
   ·exact absurd (HNAME.out HI.out.2.1) (h2 i (by simp) HI.out.2.1)
   ·exact h
  have HSI9:=zh hsi;have iq:=zh hK;have hkp:Kpt n0 kb W W':=ow.out.chgS hch fun b hb h=>by
   have hn:=jJ.out;rcases h with h|h|h|h|h|⟨j,h⟩
   ·omega
   ·omega
   ·omega
   ·omega
   ·omega
   ·have:=(uU.out.rws.lt j b h).1;omega
  have HKP9:=zh hkp;have hbw:=(kW.out.later kG.out).bl;have HBW9:=zh (hbw.trans (hch.below hbw.size fun b h=>by
   have hn:=jJ.out;have:=wE.out;rcases h with h|h|h|h|h|⟨j,h⟩
   ·omega
   ·omega
   ·omega
   ·omega
   ·omega
   ·have:=(uU.out.rws.lt j b h).1;omega))
  clear hbw;obtain⟨x0,x1,x2⟩:=zkr hsi.n8;obtain⟨q0,q1,q2⟩:=zkr hsi.n1;have cf:∀ o,W'.frozen? ⟨N+1,o,none⟩=false:=fun o=>zf hsi.n1;obtain⟨wz,hwz,hcz,hhz⟩:=st3 (.slice Ac vs.length cc) (.slice Ai X.tin.length ci) (.slice Ao X.tout.length co) hsi.n1;have HCZ:=zh hcz;have HHZ:=zh hhz;clear hC hch hK hsi hkp hcz hhz;go_wp2_with fail;have hDN:D≠N+1:=by have:=xJ.out;have:=jJ.out;omega
  have HKD:=zh (HCZ.out.keep iq.out hDN);have wR:=zh (show N8+2<=D by have:=xJ.out;omega);clear hDN x0 x1 x2 q0 q1 q2 cf;refine⟨by simp,.inl ⟨_,_,rfl,run_takeDeferred HKD.out,?_⟩⟩;have hcd:Chg (fun q=>q=N+1\/q=D) W' (wz.putObj D (.deferred none)):=(HCZ.out.mono fun b _ h=>.inl h).trans2 (Chg.putObj wz D (.deferred none)) fun b _ h=>.inr h;have hn1:=(Chg.putObj wz D (.deferred none)).keep HHZ.out (fun(e:N+1=D)=>by have:=wR.out;have:=jJ.out;omega);obtain⟨t0,t1,t2⟩:=zkr hn1;have hrw:=HSI9.out.rws.chg hcd fun j b hb h=>by
   rw[zqu] at hb;have h1:=oo.out j b hb;have h2:=(uU.out.rws.lt j b hb).1;have:=wR.out;have:=jJ.out;rcases h with h|h<;>omega
  refine⟨.tuple #[.agg #[.slice Ac vs.length cc,.slice Ai X.tin.length ci,.slice Ao X.tout.length co],.int .i64 0],by simp[results,Tryz.results40,go_sem,t0,t1,t2],HBW9.out.trans (hcd.below HBW9.out.size fun b h=>by
   have:=wR.out;have:=jJ.out;have:=wE.out;rcases h with h|h<;>omega),HKP9.out.chgS hcd fun b hb h=>by
   have:=wR.out;have:=jJ.out;rcases h with h|h<;>omega,.agg #[.slice Ac vs.length cc,.slice Ai X.tin.length ci,.slice Ao X.tout.length co],by rw[nY.out],?_⟩
  rw[nY.out];simp only[Int.toNat_natCast];rw[HX.out];refine⟨⟨_,_,_,fc,rfl,hrw.mono (by have:=jJ.out;omega),?_⟩,ztN kv.out _ _ _⟩;have h7:=iM.out;refine⟨fun l hl y hy=>?_,h7.2.1,h7.2.2⟩;rcases List.mem_or_eq_of_mem_set hl with hl|rfl
  ·exact h7.1 l hl y hy
  ·rcases List.mem_or_eq_of_mem_set hy with hy|rfl
   ·rw[List.getD_eq_getElem?_getD] at hy
    cases h9:X.cells[i]? with
    | none=>rw[h9] at hy;cases hy
    | some l0=>rw[h9] at hy;exact h7.1 l0 (List.mem_of_getElem? h9) y hy
   ·exact HXV.out
def AsP (R:Int×SS) (W:World) (e:Ending) (W':World):Prop:=Below W.heap.size W W'/\∃ v,e=.returned (.tuple #[v,.int .i64 R.1])/\OwnS W' W.heap.size R.2 v/\R.2.Lim
theorem al3 (W:World) (o0 o1 o2:Obj):Below W.heap.size W (((W.alloc o0).alloc o1).alloc o2)/\(((W.alloc o0).alloc o1).alloc o2).heap.size=W.heap.size+3/\(((W.alloc o0).alloc o1).alloc o2).heap[W.heap.size]?=some o0/\(((W.alloc o0).alloc o1).alloc o2).heap[W.heap.size+1]?=some o1/\(((W.alloc o0).alloc o1).alloc o2).heap[W.heap.size+2]?=some o2 :=
 ⟨zkc (zkc (zkc (Below.refl _ _) _) _) _,by simp,zkf (zkf (zlA _ rfl _) _) _,zkf (zlA _ (by simp) _) _,zlA _ (by simp) _⟩
theorem OwnS.parts {W:World} {n0:Nat} {s:SS} {v:Value} (h:OwnS W n0 s v):∃ A l c B m d D k e,v=.agg #[.slice A l c,.slice B m d,.slice D k e]:=by
 obtain⟨vc,vi,vo,fc,rfl,hr,-⟩:=h;obtain⟨A,c,h1,-⟩:=zkg (hr.row .all);obtain⟨B,d,h2,-⟩:=zkg (hr.row .inp);obtain⟨D,e,h3,-⟩:=zkg (hr.row .out);have h1:vc=_:=h1;have h2:vi=_:=h2;have h3:vo=_:=h3;rw[h1,h2,h3];exact⟨_,_,_,_,_,_,_,_,_,rfl⟩
theorem OwnS.chgN {W W':World} {n0 n1:Nat} {s:SS} {v:Value} {C:Nat->Prop} (h:OwnS W n0 s v) (hc:Chg C W W') (hC:∀ b,C b->b<n0) (hn:n1<=n0):OwnS W' n1 s v:=by
 obtain⟨vc,vi,vo,fc,rfl,hr,hI⟩:=h;exact⟨vc,vi,vo,fc,rfl,(hr.chg hc fun i b hb h=>by have:=(hr.lt i b hb).1;have:=hC b h;omega).mono hn,hI⟩
theorem zrw {W:World} {vs:List VD} {s:SS} {t:T} {v sv:Value} {A:Option Addr} {c:Nat} (hv:NV W Any t v) (hr:RowV W Any A vs) (hl:vs.length<=LV) (hs:SV W Any s sv) :
  Calls Tryz.prog 16 #[v,.slice A vs.length c,sv] W (AsP (asgE vs t s) W):=by
 have HV:=zh (hv.keep (S':=fun b=>b<W.heap.size) (fun _ _ h=>h) fun _ _ _=>rfl);have HR:=zh (hr.keep (S':=fun b=>b<W.heap.size) (fun _ _ h=>h) fun _ _ _=>rfl);have ku:=zh (fun w' (hb:Below W.heap.size W w')=>zs4 vs s A c sv w' (hr.later hb) hl (hs.later hb));have HIS:=zh (fun w' (hb:Below W.heap.size W w')=>zoF t v w' (hv.later hb));obtain⟨A1,c1,B1,d1,D1,e1,rfl,-⟩:=hs;obtain⟨A2,c2,rfl,-⟩:=hv.open_;obtain⟨k,n,nm,ks⟩:=t;simp only[T.k_nd,T.n_nd,T.s_nd,T.ks_nd] at HV HIS ⊢;obtain⟨N,hN⟩:∃ N,W.heap.size=N:=⟨_,rfl⟩
 have HN:=zh hN;obtain⟨hb1,hz1,k0,k1,k2⟩:=al3 W (.cells #[.int .u8 k,.int .i64 n,.string nm,.slice A2 ks.length c2] 24) (.cells #[.slice A1 s.cells.length c1,.slice B1 s.tin.length d1,.slice D1 s.tout.length e1] 34) (.cells #[.slice none 0 0,.slice none 0 0,.slice none 0 0] 34);obtain⟨w1,hw1⟩:∃ x,((W.alloc (.cells #[.int .u8 k,.int .i64 n,.string nm,.slice A2 ks.length c2] 24)).alloc (.cells #[.slice A1 s.cells.length c1,.slice B1 s.tin.length d1,.slice D1 s.tout.length e1] 34)).alloc (.cells #[.slice none 0 0,.slice none 0 0,.slice none 0 0] 34)=x:=⟨_,rfl⟩
 rw[hw1] at hb1 hz1 k0 k1 k2;rw[hN] at hz1 k0 k1 k2;have HB1:=zh hb1;have HZ1:=zh hz1;have aP:=zh k0;have aK:=zh k2;obtain⟨y0,y1,y2⟩:=zkr k1;clear hv hr hb1 hz1 k0 k1 k2;go_enter Tryz.func16,Tryz.ntmps16;go_wp2_with fail;refine(ku.out _ HB1.out).mono ?_;rintro e2 w2 ⟨hb2,⟨hf,rfl⟩|⟨hf,P,rfl,qh⟩⟩
 ·have HS:=zh (show asgE vs (.nd k n nm ks) s=(3,nilS) from if_pos (.inl hf));have gp:=zh (zkb aK.out hb2);have HB2:=zh (zka HB1.out hb2);obtain⟨q0,q1,q2⟩:=zkr gp.out;have cf:∀ o,w2.frozen? ⟨N+2,o,none⟩=false:=fun o=>zf gp.out;obtain⟨w9,aQ,aR,aY⟩:=st3 (.slice none 0 0) (.slice none 0 0) (.slice none 0 0) gp.out;obtain⟨t0,t1,t2⟩:=zkr aY;have mr:=zh aR;clear hb2 aR aY y0 y1 y2 hw1;go_wp2_with fail;refine bodyPost_ret (v:=.tuple #[.agg #[.slice none 0 0,.slice none 0 0,.slice none 0 0],.int .i64 3]) (by simp[results,Tryz.results16,go_sem,t0,t1,t2]) rfl ?_;rw[HS.out];exact⟨HB2.out.trans (mr.out.below HB2.out.size fun b (e:b=N+2)=>by have:=HN.out;omega),_,rfl,OwnS.nil _ _,zqy⟩
 ·have HB2:=zh (zka HB1.out hb2);have eT:=zh (zkb aP.out hb2);have gp:=zh (zkb aK.out hb2);have kW:=zh (KS.new (w:=W) HB1.out hb2 qh);obtain⟨z0,z1,z2,z3⟩:=box4 eT.out;obtain⟨bs,hbs⟩:∃ b,isS (.nd k n nm ks)=b:=⟨_,rfl⟩
  have iC:=zh hbs;rw[hbs] at HIS;have HF:=zh hf;have hks2:=KS.new (w:=W) HB1.out hb2 qh;clear hb2 y0 y1 y2 hw1 hbs qh hf hks2;go_wp2_with fail;refine(HIS.out _ HB2.out).mono ?_;rintro e3 w3 ⟨rfl,hb3⟩;have HB3:=zh (zka HB2.out hb3);have rQ:=zh (zkb eT.out hb3);have ky:=zh (zkb gp.out hb3);have rD:=zh (kW.out.later hb3);obtain⟨q0,q1,q2⟩:=zkr ky.out;have cf:∀ o,w3.frozen? ⟨N+2,o,none⟩=false:=fun o=>zf ky.out;obtain⟨x0,x1,x2,x3⟩:=box4 rQ.out;clear z0 z1 z2 z3 hb3 kW HIS
  cases bs
  ·have HS:=zh (show asgE vs (.nd k n nm ks) s=(3,nilS) from if_pos (.inr iC.out));obtain⟨w9,aQ,aR,aY⟩:=st3 (.slice none 0 0) (.slice none 0 0) (.slice none 0 0) ky.out;obtain⟨t0,t1,t2⟩:=zkr aY;have mr:=zh aR;clear aR aY;go_wp2_with fail;refine bodyPost_ret (v:=.tuple #[.agg #[.slice none 0 0,.slice none 0 0,.slice none 0 0],.int .i64 3]) (by simp[results,Tryz.results16,go_sem,t0,t1,t2]) rfl ?_;rw[HS.out];exact⟨HB3.out.trans (mr.out.below HB3.out.size fun b (e:b=N+2)=>by have:=HN.out;omega),_,rfl,OwnS.nil _ _,zqy⟩
  have jg:asgE vs (.nd k n nm ks) s=if k=56 then setE vs s (.nd k n nm ks) else if (doE (newS vs s) (.nd k n nm ks)).1≠0 then ((doE (newS vs s) (.nd k n nm ks)).1,nilS) else (0,(doE (newS vs s) (.nd k n nm ks)).2.state):=if_neg (by rw[HF.out,iC.out];simp)
  have kH:=zh jg;clear jg;by_cases eY:k=56
  ·subst eY;have hse:=zvC (c:=c) rD.out HF.out iC.out ((HV.out.later HB3.out).keep (S':=fun b=>b<w1.heap.size\/False) (fun b h _=>.inl (by have h:b<W.heap.size:=h;have:=HZ1.out;have:=HN.out;omega)) fun _ _ _=>rfl) ((HR.out.later HB3.out).keep (S':=fun b=>b<w1.heap.size\/False) (fun b h _=>.inl (by have h:b<W.heap.size:=h;have:=HZ1.out;have:=HN.out;omega)) fun _ _ _=>rfl);have HSE:=zh hse;clear hse;go_wp2_with fail;refine HSE.out.mono ?_;rintro e4 w4 ⟨hbw,hkp,v4,rfl,bU,hlim⟩;have kv:=zh hlim;clear hlim;have eB:=hkp.blk (b:=N+2) (.inl (by have:=HZ1.out;omega)) ky.out;have qf:N+3<=w3.heap.size:=by have:=HZ1.out;have:=zkj ky.out;have:=rD.out.n0le;omega
   obtain⟨A7,l7,c7,B7,m7,d7,D7,k7,e7,rfl⟩:=bU.parts;obtain⟨q0,q1,q2⟩:=zkr eB;have cf:∀ o,w4.frozen? ⟨N+2,o,none⟩=false:=fun o=>zf eB;obtain⟨w9,aQ,aR,aY⟩:=st3 (.slice A7 l7 c7) (.slice B7 m7 d7) (.slice D7 k7 e7) eB;obtain⟨t0,t1,t2⟩:=zkr aY;have aC:=zh (show Below W.heap.size W w9/\OwnS w9 W.heap.size (setE vs s (.nd 56 n nm ks)).2 (.agg #[.slice A7 l7 c7,.slice B7 m7 d7,.slice D7 k7 e7]) from ⟨hbw.trans (aR.below hbw.size fun b (e:b=N+2)=>by have:=HN.out;omega),bU.chgN aR (fun b (e:b=N+2)=>by have:=HZ1.out;have:=HN.out;omega) (by omega)⟩);clear eB aR aY hbw bU;obtain⟨R,hR⟩:∃ R,setE vs s (.nd 56 n nm ks)=R:=⟨_,rfl⟩
   have HS:=zh (show asgE vs (.nd 56 n nm ks) s=setE vs s (.nd 56 n nm ks) by have:=kH.out;simpa using this);rw[hR] at aC HS kv ⊢;clear hkp qf x0 x1 x2 x3 HSE;go_wp2_with fail;refine bodyPost_ret (v:=.tuple #[.agg #[.slice A7 l7 c7,.slice B7 m7 d7,.slice D7 k7 e7],.int .i64 R.1]) (by simp[results,Tryz.results16,go_sem,t0,t1,t2]) rfl ?_;rw[HS.out];exact⟨aC.out.1,_,rfl,aC.out.2,kv.out⟩
  ·have e56:(k==56)=false:=by simpa using eY
   have oN:=zh (rD.out.do_ (.nd k n nm ks) _ ((HV.out.later HB3.out).keep (S':=Any) (fun _ _ _=>trivial) fun _ _ _=>rfl));have jg:=kH.out.trans (if_neg eY);obtain⟨⟨er,S6⟩,hR⟩:∃ R,doE (newS vs s) (.nd k n nm ks)=R:=⟨_,rfl⟩
   rw[hR] at oN jg;simp only at jg;have HASG2:=zh jg;clear jg hR;go_wp2_with fail;refine oN.out.mono ?_;rintro e6 w6 ⟨rfl,gQ,dP⟩;have ll:=dP.blk (b:=N+2) (.inl (by have:=HZ1.out;omega)) ky.out;have fq:=zh ll;have mg:=zh gQ;have hst:=gQ.state;have HST:=zh hst;clear q0 q1 q2 cf x0 x1 x2 x3 oN dP gQ hst ll;by_cases h0:er=0
   ·subst h0;have HS:=zh (HASG2.out.trans (if_neg (by simp)));go_wp2_with fail;refine HST.out.mono ?_;rintro e7 w4 ⟨v4,rfl,bU,hb4⟩;have eB:=zkb fq.out hb4;have hbw:=zka mg.out.bl hb4;have qf:N+3<=w6.heap.size:=by have:=HZ1.out;have:=mg.out.n0le;omega
    obtain⟨A7,l7,c7,B7,m7,d7,D7,k7,e7,rfl⟩:=bU.parts;obtain⟨q0,q1,q2⟩:=zkr eB;have cf:∀ o,w4.frozen? ⟨N+2,o,none⟩=false:=fun o=>zf eB;obtain⟨w9,aQ,aR,aY⟩:=st3 (.slice A7 l7 c7) (.slice B7 m7 d7) (.slice D7 k7 e7) eB;obtain⟨t0,t1,t2⟩:=zkr aY;have aC:=zh (show Below W.heap.size W w9/\OwnS w9 W.heap.size S6.state (.agg #[.slice A7 l7 c7,.slice B7 m7 d7,.slice D7 k7 e7]) from ⟨hbw.trans (aR.below hbw.size fun b (e:b=N+2)=>by have:=HN.out;omega),bU.chgN aR (fun b (e:b=N+2)=>by have:=HZ1.out;have:=HN.out;omega) (by omega)⟩);clear eB aR aY hbw bU;clear hb4 qf;go_wp2_with fail;refine bodyPost_ret (v:=.tuple #[.agg #[.slice A7 l7 c7,.slice B7 m7 d7,.slice D7 k7 e7],.int .i64 0]) (by simp[results,Tryz.results16,go_sem,t0,t1,t2]) rfl ?_;rw[HS.out];exact⟨aC.out.1,_,rfl,aC.out.2,(zoK mg.out.wf).2.1⟩
   ·have hne:(er==0)=false:=by simpa using h0
    have HS:=zh (HASG2.out.trans (if_pos h0));obtain⟨q0,q1,q2⟩:=zkr fq.out;have cf:∀ o,w6.frozen? ⟨N+2,o,none⟩=false:=fun o=>zf fq.out;obtain⟨w9,aQ,aR,aY⟩:=st3 (.slice none 0 0) (.slice none 0 0) (.slice none 0 0) fq.out;obtain⟨t0,t1,t2⟩:=zkr aY;have mr:=zh aR;clear aR aY;go_wp2_with fail;refine bodyPost_ret (v:=.tuple #[.agg #[.slice none 0 0,.slice none 0 0,.slice none 0 0],.int .i64 er]) (by simp[results,Tryz.results16,go_sem,t0,t1,t2]) rfl ?_;rw[HS.out];exact⟨mg.out.bl.trans (mr.out.below mg.out.bl.size fun b (e:b=N+2)=>by have:=HN.out;omega),_,rfl,OwnS.nil _ _,zqy⟩
end Go.Proofs.YtghbhbdnkjjnnaaGreat
