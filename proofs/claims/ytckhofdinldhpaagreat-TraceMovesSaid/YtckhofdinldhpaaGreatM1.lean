/-
  Texts of the proof, put together without their remarks: RgI, Rf, Apl, Tcn, Lss, Rfg, Tbw, Tbp, Tbv, Tpv, Tcx, LiftY, Lmv.
-/
import Derived.Test.YtckhofdinldhpaaGreatE11
import Derived.RangeFuncNested
import Derived.RangeFuncBound
import Derived.RangeFuncCalls
import Derived.RangeFuncLeaves
import Derived.OwnWalkIn
import Derived.TacticsInMore
import Derived.LoopNIn
import Derived.LoopIn
import Derived.OrdersIn
import Derived.Maps.OwnIn
import Derived.Deep.CutBlock
import Derived.Deep.CutRange
set_option linter.unusedSimpArgs false
set_option linter.unusedVariables false
set_option maxHeartbeats 8000000
set_option maxRecDepth 100000
namespace Go.Proofs.YtckhofdinldhpaaGreat
open Go
abbrev Fw (ro:Option Nat):Fence:={ Fence.wide with round:=ro }
section
variable {ro:Option Nat} {n:Nat} {P:Program} {ops:Array Oper} {Q:Exit->Act->World->Prop} {md:Region.Mode}
variable {S:World->Prop}
end
end Go.Proofs.YtckhofdinldhpaaGreat
namespace Go.Proofs.YtckhofdinldhpaaGreat
open Go Go.RowKit
section
variable {C C':Nat->Prop} {w w' w'':World}
theorem Chg.putObj (w:World) (l:Nat) (o:Obj):Chg (· = l) w (w.putObj l o) :=
 ⟨rfl,rfl,rfl,by simp[World.putObj],fun b _ hc=>World.putObj_heap_other hc⟩
end
theorem zvN (l:List Int) (n i:Nat):(ext l n).getD i 0=l.getD i 0:=by
 unfold ext;simp only[List.getD_eq_getElem?_getD];rcases Nat.lt_or_ge i l.length with h|h
 ·rw[List.getElem?_append_left h]
 ·rw[List.getElem?_append_right h,List.getElem?_eq_none h];rcases Nat.lt_or_ge (i-l.length) (n-l.length) with h2|h2
  ·rw[List.getElem?_replicate,if_pos h2];rfl
  ·rw[List.getElem?_replicate,if_neg (by omega)]
theorem zv2 {l:List Int} {i:Nat} (hi:i<l.length) (x:Int) (j:Nat):(l.set i x).getD j 0=if j=i then x else l.getD j 0:=by
 simp only[List.getD_eq_getElem?_getD,List.getElem?_set];by_cases h:i=j
 ·subst h;simp[hi]
 ·rw[if_neg h,if_neg (by omega)]
theorem zwj {q:SQ} {y:List Int} (hl:q.len=y.length) (he:∀ j,q.el.getD j 0=y.getD j 0):lstQ q=some y:=by
 have hn:q.len.toNat=y.length:=by omega
 unfold lstQ;rw[hn];have hlen:=zoB q.el y.length;rw[if_pos]
 ·congr 1;refine List.ext_getElem? fun i=>?_;rw[List.getElem?_take]
  split
  ·rename_i hi;have h1:=zvN q.el y.length i;rw[he i] at h1;simp only[List.getD_eq_getElem?_getD] at h1;rw[List.getElem?_eq_getElem (by omega),List.getElem?_eq_getElem hi] at h1 ⊢;simpa using h1
  ·rename_i hi;rw[List.getElem?_eq_none (by omega)]
 ·rw[List.all_eq_true];intro x hx;obtain⟨i,hi,rfl⟩:=List.getElem_of_mem hx;rw[List.length_drop] at hi;rw[List.getElem_drop,decide_eq_true_eq];have h1:=zvN q.el y.length (y.length+i);rw[he] at h1;simp only[List.getD_eq_getElem?_getD] at h1;rw[List.getElem?_eq_getElem (by omega),List.getElem?_eq_none (by omega:y.length<=y.length+i)] at h1;simpa using h1
def QR (m:QM) (c:Int) (x:List Int):Prop:=∃ q:SQ,m c=some q/\q.len=(x.length:Int)/\∀ j,q.el.getD j 0=x.getD j 0
theorem zv7 {x:SS} {m:QM}:∀ cs:List Int,(∀ c∈cs,QR m c (part x c))->zqw m cs=some (cs.map (part x))
 | [],_=>rfl
 | c::cs,h=>by
  obtain⟨q,h1,h2,h3⟩:=h c (List.mem_cons_self ..);rw[zqw,h1];simp only;rw[zwj h2 h3];simp only;rw[zv7 cs fun d hd=>h d (List.mem_cons_of_mem _ hd)];rfl
theorem zwg (x:SS):(zkl x.cells.length).map (part x)=x.cells++[x.tin.reverse,x.tout]:=by
 unfold zkl;rw[List.map_append,List.map_map];congr 1;refine List.ext_getElem (by simp) fun i h1 h2=>?_;have hi:(Int.ofNat i:Int)=(i:Int):=rfl;simp only[List.getElem_map,List.getElem_range,Function.comp];unfold part;rw[hi,if_neg (by omega),if_neg (by omega),Int.toNat_natCast,List.getD_eq_getElem?_getD,List.getElem?_eq_getElem h2];rfl
theorem zwe {W:World} {n0 b:Nat} {s0 x:SS} {es:List (List CH)} {pos:Nat} (h:Cu W n0 b s0 x es pos) :
  Calls Tryz.prog 39 #[.pointer (some ⟨b,0,none⟩)] W (fun e W'=>W'=W/\e=.returned (.int .i64 pos)):=by
 obtain⟨⟨f1,f2,f3,g1,g2,g3,A,c,hbx,hf,hx,hr,hc⟩,hnb⟩:=h;have y:W.cell? ⟨b,7,none⟩=some (.int .i64 pos):=zc hbx rfl;clear hbx hf hx hr hc;go_enter Tryz.func39,Tryz.ntmps39;go_wp2_with fail;go_ret;exact⟨rfl,rfl⟩
theorem zwf:(Tryz.prog.info? 26).map (fun i=>(i.zero,i.size,i.bytes))=some (some (.agg #[.slice none 0 0,.slice none 0 0,.slice none 0 0]),3,72):=by kernel_rfl
theorem bSts (a0 a1 a2:Value) (w:World):(Instr.buildSlice 68 1 #[(0,.agg #[a0,a1,a2])]).run Tryz.prog w=.ok (.slice (some ⟨w.heap.size,0,none⟩) 1 1) (w.alloc (.cells #[a0,a1,a2] 26)):=by kernel_rfl
def zvL (vs:List (Value×Value×Value)):List Value:=vs.flatMap fun t=>[t.1,t.2.1,t.2.2]
theorem zvS:∀ (l:List (Value×Value×Value)) (i o:Nat) (hi:i<l.length),o<3->(zvL l)[i*3+o]?=[l[i].1,l[i].2.1,l[i].2.2][o]?
 | c::l,0,o,_,ho=>by
  rw[show zvL (c::l)=[c.1,c.2.1,c.2.2]++zvL l from rfl,List.getElem?_append_left (by simp;omega)];simp
 | c::l,i+1,o,hi,ho=>by
  rw[show zvL (c::l)=[c.1,c.2.1,c.2.2]++zvL l from rfl,List.getElem?_append_right (by simp;omega)];have:(i+1)*3+o-[c.1,c.2.1,c.2.2].length=i*3+o:=by simp;omega
  rw[this,zvS l i o (by simpa using hi) ho];simp
def RowT (W:World) (n0:Nat) (v:Value) (ss:List SS):Prop :=
 ∃ vs:List (Value×Value×Value),W.ownsRow n0 26 3 v ss.length (zvL vs)/\vs.length=ss.length/\∀ k (hk:k<ss.length) (hv:k<vs.length),SV W (fun q=>v.ownBlock≠some q) ss[k] (.agg #[vs[k].1,vs[k].2.1,vs[k].2.2])
theorem RowT.push {W W4 W5:World} {n0:Nat} {v v' y0 y1 y2:Value} {ss:List SS} {y:SS} {vs:List (Value×Value×Value)} (hl:vs.length=ss.length) (h1:W.ownsRow n0 26 3 v ss.length (zvL vs))
  (h2:∀ k (hk:k<ss.length) (hv:k<vs.length),SV W (fun q=>v.ownBlock≠some q) ss[k] (.agg #[vs[k].1,vs[k].2.1,vs[k].2.2]))
  (hb4:Below W.heap.size W W4) (hy:SV W4 (fun q=>v.ownBlock≠some q) y (.agg #[y0,y1,y2])) (ho:W5.ownsRow n0 26 3 v' (ss.length+1) (zvL vs++[y0,y1,y2])) (hg:W4.grownBy W5 v.ownBlock) (ak:v'.ownBlock=v.ownBlock\/v'.ownBlock=some W4.heap.size) :
  RowT W5 n0 v' (ss++[y]):=by
 have hS:∀ q,v.ownBlock≠some q->q<W4.heap.size->v'.ownBlock≠some q:=fun q h hq e=>by
  rcases ak with e1|e1
  ·exact h (e1▸e)
  ·rw[e1] at e;injection e with e;omega
 have hk:∀ q,v.ownBlock≠some q->q<W4.heap.size->W5.heap[q]?=W4.heap[q]?:=fun q h hq=>hg.block q hq fun e=>h e.symm;refine⟨vs++[(y0,y1,y2)],?_,by simp[hl],fun k hk1 hk2=>?_⟩
 ·have e1:zvL (vs++[(y0,y1,y2)])=zvL vs++[y0,y1,y2]:=by simp[zvL]
  rw[e1,List.length_append];exact ho
 ·by_cases hlt:k<ss.length
  ·have hlv:k<vs.length:=by omega
   rw[List.getElem_append_left hlt,List.getElem_append_left hlv];exact((h2 k hlt hlv).later hb4).keep (fun q h hq=>hS q h hq) fun q h hq=>hk q h hq
  ·obtain rfl:k=ss.length:=by simp at hk1;omega
   rw[List.getElem_append_right (Nat.le_refl _),List.getElem_append_right (by omega)];simp only[Nat.sub_self,hl,List.getElem_cons_zero];exact hy.keep (fun q h hq=>hS q h hq) fun q h hq=>hk q h hq
theorem RowT.nd {W:World} {n0:Nat} {v:Value} {ss:List SS} (h:RowT W n0 v ss) {k:Nat} (hk:k<ss.length) :
  ∃ g cap A c B d D e,v=.slice (some ⟨g,0,none⟩) ss.length cap/\n0<=g/\g<W.heap.size/\W.cell? ⟨g,k*3,none⟩=some (.slice A ss[k].cells.length c)/\W.cell? ⟨g,k*3+1,none⟩=some (.slice B ss[k].tin.length d)/\W.cell? ⟨g,k*3+2,none⟩=some (.slice D ss[k].tout.length e) /\
   SV W (fun q=>q≠g) ss[k] (.agg #[.slice A ss[k].cells.length c,.slice B ss[k].tin.length d,.slice D ss[k].tout.length e]):=by
 obtain⟨vs,h1,hl,h2⟩:=h;have hkv:k<vs.length:=by omega
 have hs:=h2 k hk hkv;rcases h1.2 with⟨e1,e2⟩|⟨g,cap,cur,rfl,hb,hg,-⟩
 ·omega
 ·have hx:∀ o u,o<3->[vs[k].1,vs[k].2.1,vs[k].2.2][o]?=some u->W.cell? ⟨g,k*3+o,none⟩=some u:=fun o u h4 hu=>by
   rw[h1.cellAt (k*3+o) (by omega),zvS vs k o hkv h4];exact hu
  have x0:=hx 0 _ (by omega) rfl;have x1:=hx 1 _ (by omega) rfl;have x2:=hx 2 _ (by omega) rfl;generalize vs[k]=t at *
  obtain⟨t0,t1,t2⟩:=t;simp only at hs x0 x1 x2;obtain⟨A,c,B,d,D,e,he⟩:=hs.slices;injection he with he;simp only[Array.mk.injEq,List.cons.injEq,and_true] at he;obtain⟨rfl,rfl,rfl⟩:=he;exact⟨g,cap,A,c,B,d,D,e,rfl,hb,zko hg,x0,x1,x2,hs.keep (fun q hq _ e=>hq (by rw[e];rfl)) fun _ _ _=>rfl⟩
theorem zvO {ops:Array Oper} {rest:List Oper} {o:Oper} {a:Act} {W:World} {Q:Exit->Act->World->Prop} (hgd:o.guard=none) (s x:Operand)
  (ho:o.op=.call { callee:=.builtin .append,args := #[s,x],argTypes := #[68,68] }) (base:Nat) (v:Value) (n:Nat) (xs:List Value) (hs:a.eval s=v) (hrow:W.ownsRow base 26 3 v n xs)
  (b:Nat) (y0 y1 y2:Value) (hy:y0.oneCell'=true/\y1.oneCell'=true/\y2.oneCell'=true) (hx:a.eval x=.slice (some ⟨b,0,none⟩) 1 1) (hc:W.heap[b]?=some (.cells #[y0,y1,y2] 26 (0,0))) (hl:n+1<=1000000) (hb:base<=W.heap.size)
  (h:∀ v' w',w'.ownsRow base 26 3 v' (n+1) (xs++[y0,y1,y2])->W.grownBy w' v.ownBlock->(v'.ownBlock=v.ownBlock\/v'.ownBlock=some W.heap.size)->wpList Tryz.prog ops Q rest (a.put o.dst v') w') :
  wpList Tryz.prog ops Q (o::rest) a W:=by
 obtain⟨i,hi,hz0,hz1,hz2⟩:=info_parts zwf;refine wpList_append_own_at (P:=Tryz.prog) _ hgd s x 68 ho base 26 i _ 3 72 Tryz.underlying68 hi hz0 hz1 hz2 rfl (by decide) v n xs hs hrow ⟨b,0,none⟩ 1 1 [y0,y1,y2] hx (by simp) (fun j u hj=>?_) (fun u hu=>?_) (by unfold maxLen;omega) (by omega) hb (fun v' w' h1 h2 _ h4=>h v' w' h1 h2 h4)
 ·rw[Addr.add_lit,Nat.zero_add];exact zc hc (by simpa using hj)
 ·simp only[List.mem_cons,List.not_mem_nil,or_false] at hu;rcases hu with rfl|rfl|rfl
  ·exact hy.1
  ·exact hy.2.1
  ·exact hy.2.2
def stsE (s:SS) (es:List (List CH)) (j:Nat):List SS:=(List.range (j+1)).map (cur s es)
theorem zvK (s:SS) (es:List (List CH)) (j:Nat):(stsE s es j).length=j+1:=by simp[stsE]
theorem zv1 (s:SS) (es:List (List CH)) (j:Nat):stsE s es (j+1)=stsE s es j++[cur s es (j+1)]:=by simp only[stsE];rw[List.range_succ,List.map_append];rfl
theorem zvW (s:SS) (es:List (List CH)) (j k:Nat) (hk:k<(stsE s es j).length):(stsE s es j)[k]=cur s es k:=by simp[stsE]
def StsP (W:World) (s:SS) (es:List (List CH)) (e:Ending) (W':World):Prop :=
 Below W.heap.size W W'/\(((atE s es).1=0/\∃ v,e=.returned (.tuple #[v,.bool true])/\RowT W' W.heap.size v (stsE s es es.length))\/((atE s es).1≠0/\e=.returned (.tuple #[.slice none 0 0,.bool false])))
theorem zvY {W:World} {s:SS} {es:List (List CH)} {v:Value} {A:Option Addr} {c:Nat} (hs:SV W Any s v) (he:RowE W Any A es) {n:Nat} (hg:zmr n s) (hn:n<=1000) (hes:EvOk es) (hel:es.length<=1000) :
  Calls Tryz.prog 36 #[v,.slice A es.length c] W (StsP W s es):=by
 obtain⟨A1,c1,B1,d1,D1,e1,rfl⟩:=hs.slices;have HS:=zh hs;have HE:=zh he;have HG:=zh hg;have HN:=zh hn;have dP:=zh hes;have kS:=zh hel;have k1:=heap_alloc_new W (.cells #[.slice A1 s.cells.length c1,.slice B1 s.tin.length d1,.slice D1 s.tout.length e1] 26);have hb1:=zkd (Below.refl W.heap.size W) (.cells #[.slice A1 s.cells.length c1,.slice B1 s.tin.length d1,.slice D1 s.tout.length e1] 26);have hbc:=bSts;clear hs he hg hn hes hel;go_enter Tryz.func36,Tryz.ntmps36;go_upto_region 1 with fail;obtain⟨w1,hw1⟩:∃ x,W.alloc (.cells #[.slice A1 s.cells.length c1,.slice B1 s.tin.length d1,.slice D1 s.tout.length e1] 26)=x:=⟨_,rfl⟩
 obtain⟨xb,hxb⟩:∃ x,W.heap.size=x:=⟨_,rfl⟩
 rw[hw1] at k1 hb1;rw[hw1];have HB1:=zh hb1;have HXB:=zh hxb;rw[hxb] at k1;rw[hxb];obtain⟨z0,z1,z2⟩:=zlp k1;have k2:=heap_alloc_new w1 (.cells #[.slice A1 s.cells.length c1,.slice B1 s.tin.length d1,.slice D1 s.tout.length e1] 26);have hb2:=zkd (Below.refl w1.heap.size w1) (.cells #[.slice A1 s.cells.length c1,.slice B1 s.tin.length d1,.slice D1 s.tout.length e1] 26);clear hw1 hxb k1 hb1;go_upto_region 2 with fail;obtain⟨w2,hw2⟩:∃ x,w1.alloc (.cells #[.slice A1 s.cells.length c1,.slice B1 s.tin.length d1,.slice D1 s.tout.length e1] 26)=x:=⟨_,rfl⟩
 obtain⟨ob,ak⟩:∃ x,w1.heap.size=x:=⟨_,rfl⟩
 rw[hw2] at k2 hb2;rw[hw2];rw[ak] at k2;rw[ak];have xu:=zh (show RowT w2 W.heap.size (.slice (some ⟨ob,0,none⟩) 1 1) (stsE s es 0) from by
  refine⟨[(.slice A1 s.cells.length c1,.slice B1 s.tin.length d1,.slice D1 s.tout.length e1)],⟨rfl,.inr ⟨ob,1,_,rfl,by rw[<-ak];exact HB1.out.size,k2,Nat.le_refl _,by unfold maxLen;omega,rfl,rfl⟩⟩,rfl,fun k hk hv=>?_⟩;obtain rfl:k=0:=by simp at hv;omega
  have h2:=zka HB1.out hb2;exact(HS.out.keep (S':=fun q=>(Value.slice (some ⟨ob,0,none⟩) 1 1).ownBlock≠some q) (fun q _ hlt e=>by simp[Value.ownBlock] at e;have:=HB1.out.size;omega) fun q _ hlt=>h2.block q hlt))
 have aR:=zh (zka HB1.out hb2);have uq:=zh (show(atE s (es.take 0)).1=0 from rfl);clear k2 hb2 hw2 ak z0 z1 z2;go_wp2_with fail
 go_loopw [6,7] (fun v i wr=>∃ j:Nat,j<=es.length/\i=.int .i64 j/\Hid (Below W.heap.size W wr)/\Hid ((atE s (es.take j)).1=0)/\Hid (RowT wr W.heap.size v (stsE s es j))) (fun _ i _=>es.length-(intOf i).toNat)
 case atStart=>exact⟨0,Nat.zero_le _,rfl,aR,uq,xu⟩
 case round =>
  clear aR uq xu;obtain⟨j,hj,rfl,aR,tX,xu⟩:=hrel;by_cases hlt:j<es.length
  ·have hj1:(j:Int)<(es.length:Int):=by omega
   have hj0:(0:Int)<=(j:Int):=by omega
   have hj2:(j:Int)<(j:Int)+1:=by omega
   have iC:IntKind.i64.wrap ((j:Int)+1)=(j:Int)+1:=IntWalk.i64_in _ (by have:=dP.out.1;omega);obtain⟨g,cap,Ax,cx,Bx,dx,Dx,ex,hgv,hg1,hg2,x0,x1,x2,hsx⟩:=xu.out.nd (k:=j) (by rw[zvK];omega);rw[zvW] at x0 x1 x2 hsx;rw[zvK] at hgv;obtain⟨a,Aj,cj,rfl,-,hce,hcl,hrc⟩:=(HE.out.later aR.out) j hlt;obtain⟨hci,fU⟩:=dP.out.2 _ (List.getElem_mem hlt);have hgx:=zng s (es.take j) HG.out (fun e he=>(dP.out.2 e (List.mem_of_mem_take he)).1) tX.out;have hsn:=znf s (es.take j) es[j] tX.out;rw[<-List.take_succ_eq_append_getElem hlt] at hsn;change zmr n (cur s es j) at hgx;change atE s (es.take (j+1))=if (zkw (cur s es j) es[j]).1≠0 then ((zkw (cur s es j) es[j]).1,⟨[],[],[]⟩) else (0,(zkw (cur s es j) es[j]).2) at hsn
   obtain⟨x,hx⟩:∃ x,cur s es j=x:=⟨_,rfl⟩
   obtain⟨E,hE⟩:∃ E,es[j]=E:=⟨_,rfl⟩
   rw[hx] at x0 x1 x2 hsx hgx hsn;rw[hE] at hce hcl hrc hci fU hsn;have fD:=fun(h0:(zkw x E).1=0)=>zlW (l:=E) hgx hci h0;have fB:=zmY x E;have dE:=zh (fun w' (hb:Below wr.heap.size wr w')=>zmC x E _ Aj cj w' ((hsx.keep (S':=Any) (fun _ _ _=>trivial) fun _ _ _=>rfl).later hb) (hgx.sm (by have:=HN.out;omega)) ((hrc.keep (S':=Any) (fun _ _ _=>trivial) fun _ _ _=>rfl).later hb) hci fU);obtain⟨R1,jN⟩:∃ R1,zkw x E=R1:=⟨_,rfl⟩
   have HST:=zh jN;rw[jN] at fD fB hsn;obtain⟨er,y⟩:=R1;simp only at fD fB hsn;have hyl:y.Lim:=by
    by_cases h0:er=0
    ·exact((fD h0).sm (by have:=HN.out;omega)).lim
    ·rw[fB h0];exact⟨Nat.zero_le _,fun l hl=>(by cases hl),Nat.zero_le _,Nat.zero_le _⟩
   have rJ:=zh hyl;have qF:=zh hsn;have aY:=zh hlt;have HGL:=zh (show W.heap.size<=g/\g<wr.heap.size from ⟨hg1,hg2⟩);subst hgv;clear hE hx hrc hci fU hcl jN fD fB hyl hsn hgx hsx hlt hg1 hg2;go_upto_region 5 with fail;have hSS:(fun w':World=>w'.cell? ⟨g,j*3,none⟩=some (.slice Ax x.cells.length cx)/\w'.cell? ⟨g,j*3+1,none⟩=some (.slice Bx x.tin.length dx)/\w'.cell? ⟨g,j*3+2,none⟩=some (.slice Dx x.tout.length ex)/\w'.cell? (a.add j)=some (.slice Aj E.length cj)) wr.drew/\(fun _:World=>True) wr.drew:=⟨⟨x0,x1,x2,hce⟩,trivial⟩
   have aB:=zh (show ∀ w',Below wr.heap.size wr w'->(fun w':World=>w'.cell? ⟨g,j*3,none⟩=some (.slice Ax x.cells.length cx)/\w'.cell? ⟨g,j*3+1,none⟩=some (.slice Bx x.tin.length dx)/\w'.cell? ⟨g,j*3+2,none⟩=some (.slice Dx x.tout.length ex)/\w'.cell? (a.add j)=some (.slice Aj E.length cj)) w' from fun w' h=>⟨zb h x0,zb h x1,zb h x2,zb h hce⟩);refine wp_region_noPanic ?_;refine zke (fun w':World=>w'.cell? ⟨g,j*3,none⟩=some (.slice Ax x.cells.length cx)/\w'.cell? ⟨g,j*3+1,none⟩=some (.slice Bx x.tin.length dx)/\w'.cell? ⟨g,j*3+2,none⟩=some (.slice Dx x.tout.length ex)/\w'.cell? (a.add j)=some (.slice Aj E.length cj)) (fun _:World=>True) 14 (by kernel_rfl) ?_;refine zT 0 hSS ?_;(try simp only[zQ]);refine zT 1 hSS ?_;(try simp only[zQ]);refine zT 2 hSS ?_;(try simp only[zQ]);refine zT 3 hSS ?_;(try simp only[zQ]);refine zT 4 hSS ?_;(try simp only[zQ]);refine zT 5 hSS ?_
   (try simp only[zQ]);refine zT 6 hSS ?_;(try simp only[zQ]);refine zT 7 hSS ?_;(try simp only[zQ]);clear hSS;refine zm7 (fun A f l a wx=>∃ (l5 l6 l7 l8 l9 l10:Bool) (v62 v56 v63 v64 v12:Value) (Ay By Dy:Option Addr) (cy dy ey bq:Nat),f=(!l5).toNat+(!l6).toNat+(!l7).toNat+(!l8).toNat+(!l9).toNat+(!l10).toNat+1/\l = #[true,true,true,true,true,true,true,true,l5,l6,l7,l8,l9,l10,false] /\
    a=((((A.put (some 27) v62).put (some 18) v56).put (some 28) v63).put (some 29) v64).put (some 8) v12/\Hid (Below wr.heap.size wr wx)/\Hid ((l6=true->l5=true)/\(l7=true->l6=true)/\(l8=true->l6=true)/\(l10=true->l7=true/\l9=true)) /\
    Hid ((l5=true->v62=.tuple #[.agg #[.slice Ay y.cells.length cy,.slice By y.tin.length dy,.slice Dy y.tout.length ey],.int .i64 er])/\(l6=true->v56=.tuple #[.agg #[.slice Ay y.cells.length cy,.slice By y.tin.length dy,.slice Dy y.tout.length ey],.int .i64 er])/\(l7=true->v63=.agg #[.slice Ay y.cells.length cy,.slice By y.tin.length dy,.slice Dy y.tout.length ey])/\(l8=true->v64=.int .i64 er)/\(l9=true->v12=.pointer (some ⟨bq,0,none⟩)))/\Hid (l5=true->OwnS wx wr.heap.size y (.agg #[.slice Ay y.cells.length cy,.slice By y.tin.length dy,.slice Dy y.tout.length ey])) /\
    Hid (l9=true->wr.heap.size<=bq/\(l10=false->wx.heap[bq]?=some (.cells #[.slice none 0 0,.slice none 0 0,.slice none 0 0] 26 (0,0)))/\(l10=true->wx.heap[bq]?=some (.cells #[.slice Ay y.cells.length cy,.slice By y.tin.length dy,.slice Dy y.tout.length ey] 26 (0,0))))) (fun A f l a wx h=>?_) ?_
    ⟨false,false,false,false,false,false,u27,u18,u28,u29,u8,none,none,none,0,0,0,0,rfl,rfl,(by simp only[Act.put,zD,zE,zF]),zh (Below.refl _ _).drew,zh ⟨fun h=>(by cases h),fun h=>(by cases h),fun h=>(by cases h),fun h=>(by cases h)⟩,zh ⟨fun h=>(by cases h),fun h=>(by cases h),fun h=>(by cases h),fun h=>(by cases h),fun h=>(by cases h)⟩,zh fun h=>(by cases h),zh fun h=>(by cases h)⟩
   ·obtain⟨_,_,_,_,_,_,_,_,_,_,_,_,_,_,_,_,_,_,_,_,_,hb,_⟩:=h;exact⟨aB.out _ hb.out,trivial⟩
   rintro A' hA f l a wx ⟨l5,l6,l7,l8,l9,l10,v62,v56,v63,v64,v12,Ay,By,Dy,cy,dy,ey,bq,hf,rfl,ha,ae,HC,bJ,kP,ax⟩;by_cases hall:(l5&&l6&&l7&&l8&&l9&&l10)=true
   ·left
    simp only[Bool.and_eq_true] at hall;obtain⟨⟨⟨⟨⟨rfl,rfl⟩,rfl⟩,rfl⟩,rfl⟩,rfl⟩:=hall;obtain⟨wS,wT,wR,wQ,g12⟩:=bJ.out;obtain rfl:=wS rfl;obtain rfl:=wT rfl;obtain rfl:=wR rfl;obtain rfl:=wQ rfl;obtain rfl:=g12 rfl;subst hf ha hA;have xB:=zh (kP.out rfl);obtain⟨hb1,-,hb3⟩:=ax.out rfl;have hbx:=hb3 rfl;have bE:=zh hbx;have qP:=zh hb1;clear wS wT wR wQ g12 hb3 hbx hb1 ax kP bJ HC;refine zp 14 fun K hK=>?_;(try simp only[zQ]);go_simp;refine hK.out _ _ (aB.out _ ae.out) ?_;clear hK K;(try simp only[zQ]);refine zd ?_;refine NoPanic.normal ?_;have ax:=zh (zka aR.out ae.out);obtain⟨y0,y1,y2⟩:=zlp bE.out;clear x0 x1 x2 hce;by_cases h0:er=0
    ·subst h0;obtain⟨vs,q1,q2,q3⟩:=xu.out;rw[zvK] at q1;have k4:=heap_alloc_new wx (.cells #[.slice Ay y.cells.length cy,.slice By y.tin.length dy,.slice Dy y.tout.length ey] 26);have hb4:=zkd (Below.refl wx.heap.size wx) (.cells #[.slice Ay y.cells.length cy,.slice By y.tin.length dy,.slice Dy y.tout.length ey] 26);have hrow:=zkt q1 (zka ae.out hb4);have hl4:j+1+1<=1000000:=by have:=aY.out;have:=kS.out;omega
     have xR:W.heap.size<=(wx.alloc (.cells #[.slice Ay y.cells.length cy,.slice By y.tin.length dy,.slice Dy y.tout.length ey] 26)).heap.size:=Nat.le_trans ax.out.size hb4.size;have hcur:cur s es (j+1)=y:=by unfold cur;rw[qF.out];simp
     have xg:=zh (show(atE s (es.take (j+1))).1=0 by rw[qF.out];simp);have HX:=zh (show ∀ v' w',w'.ownsRow W.heap.size 26 3 v' (j+1+1) (zvL vs++[.slice Ay y.cells.length cy,.slice By y.tin.length dy,.slice Dy y.tout.length ey])->(wx.alloc (.cells #[.slice Ay y.cells.length cy,.slice By y.tin.length dy,.slice Dy y.tout.length ey] 26)).grownBy w' (Value.slice (some ⟨g,0,none⟩) (j+1) cap).ownBlock->(v'.ownBlock=(Value.slice (some ⟨g,0,none⟩) (j+1) cap).ownBlock\/v'.ownBlock=some (wx.alloc (.cells #[.slice Ay y.cells.length cy,.slice By y.tin.length dy,.slice Dy y.tout.length ey] 26)).heap.size)->∃ A' c',v'=.slice A' (j+1+1) c'/\Hid (Below W.heap.size W w')/\Hid (RowT w' W.heap.size v' (stsE s es (j+1))) from fun v' w' ho hg ak=>by
      obtain⟨A',c',hv,-⟩:=zkb ho;have h1:=zka ax.out hb4;refine⟨A',c',hv,zh (h1.trans ((Chg.row hg).below h1.size fun q e=>by simp[Value.ownBlock] at e;have:=HGL.out.1;omega)),zh ?_⟩;rw[zv1,hcur];refine RowT.push q2 (by rw[zvK];exact q1) q3 (zka ae.out hb4) (((xB.out.svR rJ.out).later hb4).keep (fun q h1 _ e=>by simp[Value.ownBlock] at e;have h1:wr.heap.size<=q:=h1;have:=HGL.out.2;omega) fun _ _ _=>rfl) (by rw[zvK];exact ho) hg ak)
     clear q1 q2 q3 hb4 hcur HST qF dE;go_wp2_with (at_builtin;refine zvO rfl (.tmp 32) (.tmp 34) rfl W.heap.size (.slice (some ⟨g,0,none⟩) (j+1) cap) (j+1) (zvL vs) rfl hrow wx.heap.size _ _ _ ⟨rfl,rfl,rfl⟩ rfl k4 hl4 xR ?_;intro v' w' ho hg ak;obtain⟨A',c',rfl,bu,HRT9⟩:=HX.out _ _ ho hg ak;clear ho hg ak)
     exact⟨⟨j+1,by have:=aY.out;omega,by go_num,bu,xg,HRT9⟩,by have:=aY.out;simp[intOf];omega⟩
    ·have hne:(er==0)=false:=by simpa using h0
     have HER:=zh (show(atE s es).1≠0 by
      have h5:atE s (es.take (j+1))=(er,⟨[],[],[]⟩):=by rw[qF.out];simp[h0]
      have h6:=zoG s (es.take (j+1)) (es.drop (j+1)) (by rw[h5];exact h0);rw[List.take_append_drop] at h6;rw[h6,h5];exact h0)
     go_wp2_with fail;go_ret2;exact⟨ax.out,.inr ⟨HER.out,rfl⟩⟩
   ·right
    have au:=HC.out;refine⟨f-1,?_,?_,?_⟩
    ·clear HC au bJ kP ax ha ae;subst hf;revert hall;revert l5 l6 l7 l8 l9 l10
     decide
    ·clear HC bJ kP ax ha ae hf;revert hall au;revert l5 l6 l7 l8 l9 l10
     decide +kernel
    intro i hi;have hcase:(i=8/\l5=false)\/(i=9/\l6=false/\l5=true)\/(i=10/\l7=false/\l6=true)\/(i=11/\l8=false/\l6=true)\/(i=12/\l9=false)\/(i=13/\l10=false/\l7=true/\l9=true):=by
     refine of_decide_eq_true ((List.all_eq_true (p:=fun i=>decide ((i=8/\l5=false)\/(i=9/\l6=false/\l5=true)\/(i=10/\l7=false/\l6=true)\/(i=11/\l8=false/\l6=true)\/(i=12/\l9=false)\/(i=13/\l10=false/\l7=true/\l9=true)))).1 ?_ i hi);clear HC bJ kP ax ha ae hf hi;revert hall au;revert l5 l6 l7 l8 l9 l10
     decide +kernel
    clear hi hall;subst ha hA;rcases hcase with⟨rfl,rfl⟩|⟨rfl,rfl,rfl⟩|⟨rfl,rfl,rfl⟩|⟨rfl,rfl,rfl⟩|⟨rfl,rfl⟩|⟨rfl,rfl,rfl,rfl⟩
    ·refine wpOp_step rfl (fun K' aG=>?_);have hK:=zh aG;clear aG;obtain rfl:l6=false:=by
      rcases l6 with _|_
      ·rfl
      ·exact absurd (au.1 rfl) (by decide)
     obtain rfl:l7=false:=by
      rcases l7 with _|_
      ·rfl
      ·exact absurd (au.2.1 rfl) (by decide)
     obtain rfl:l8=false:=by
      rcases l8 with _|_
      ·rfl
      ·exact absurd (au.2.2.1 rfl) (by decide)
     obtain rfl:l10=false:=by
      rcases l10 with _|_
      ·rfl
      ·exact absurd (au.2.2.2 rfl).1 (by decide)
     have had:Calls Tryz.prog 26 [.agg #[.slice Ax x.cells.length cx,.slice Bx x.tin.length dx,.slice Dx x.tout.length ex],.slice Aj E.length cj].toArray wx fun e W'=>∃ u,e=.returned u/\(∃ (Ay By Dy:Option Addr) (cy dy ey:Nat),u=.tuple #[.agg #[.slice Ay y.cells.length cy,.slice By y.tin.length dy,.slice Dy y.tout.length ey],.int .i64 er]/\OwnS W' wr.heap.size y (.agg #[.slice Ay y.cells.length cy,.slice By y.tin.length dy,.slice Dy y.tout.length ey])/\Below wx.heap.size wx W') :=
      (dE.out wx ae.out).mono fun e W' ⟨v,h1,h2,h3⟩=>by
       rw[HST.out] at h1 h3;obtain⟨Ay,cy,By,dy,Dy,ey,rfl⟩:=h3.slices;exact⟨_,h1,Ay,By,Dy,cy,dy,ey,rfl,h3.mono ae.out.size,h2⟩
     refine zkg (by rfl) (.func 26) [.tmp 22,.tmp 26] _ (by rfl) 26 _ zn8 (by rfl) _ (by rfl) _ had ?_;rintro v w' ⟨xI,xH,xG,xA,xz,xy,rfl,ho,hb⟩;exact hK.out _ _ ⟨true,false,false,false,l9,false,_,v56,v63,v64,v12,xI,xH,xG,xA,xz,xy,bq,(by subst hf;simp only[Bool.not_false,Bool.not_true,Bool.toNat_true,Bool.toNat_false];omega),rfl,(by simp only[zQ]),zh (zka ae.out hb),zh ⟨fun h=>(by cases h),fun h=>(by cases h),fun h=>(by cases h),fun h=>(by cases h)⟩,zh ⟨fun _=>rfl,fun h=>(by cases h),fun h=>(by cases h),fun h=>(by cases h),bJ.out.2.2.2.2⟩,zh fun _=>ho,zh fun h9=>by
      obtain⟨g1,g2,-⟩:=ax.out h9;exact⟨g1,fun _=>zkc (g2 rfl) hb,fun h=>(by cases h)⟩⟩
    ·refine wpOp_step rfl (fun K' aG=>?_);have hK:=zh aG;clear aG;obtain rfl:=bJ.out.1 rfl;(try simp only[zQ]);go_simp;exact hK.out _ _ ⟨true,true,l7,l8,l9,l10,_,_,v63,v64,v12,Ay,By,Dy,cy,dy,ey,bq,(by subst hf;simp only[Bool.not_false,Bool.not_true,Bool.toNat_true,Bool.toNat_false];omega),rfl,(by simp only[Act.put,zD,zE,zF]),ae,zh ⟨fun _=>rfl,fun _=>rfl,fun _=>rfl,au.2.2.2⟩,zh ⟨fun _=>rfl,fun _=>rfl,bJ.out.2.2⟩,kP,ax⟩
    ·refine wpOp_step rfl (fun K' aG=>?_);have hK:=zh aG;clear aG;obtain rfl:=bJ.out.2.1 rfl;(try simp only[zQ]);go_simp;exact hK.out _ _ ⟨l5,true,true,l8,l9,l10,_,_,_,v64,v12,Ay,By,Dy,cy,dy,ey,bq,(by subst hf;simp only[Bool.not_false,Bool.not_true,Bool.toNat_true,Bool.toNat_false];omega),rfl,(by simp only[Act.put,zD,zE,zF]),ae,zh ⟨au.1,fun _=>rfl,fun _=>rfl,fun h=>⟨rfl,(au.2.2.2 h).2⟩⟩,zh ⟨bJ.out.1,fun _=>rfl,fun _=>rfl,bJ.out.2.2.2⟩,kP,ax⟩
    ·refine wpOp_step rfl (fun K' aG=>?_);have hK:=zh aG;clear aG;obtain rfl:=bJ.out.2.1 rfl;(try simp only[zQ]);go_simp;exact hK.out _ _ ⟨l5,true,l7,true,l9,l10,_,_,_,_,v12,Ay,By,Dy,cy,dy,ey,bq,(by subst hf;simp only[Bool.not_false,Bool.not_true,Bool.toNat_true,Bool.toNat_false];omega),rfl,(by simp only[Act.put,zD,zE,zF]),ae,zh ⟨au.1,fun _=>rfl,fun _=>rfl,au.2.2.2⟩,zh ⟨bJ.out.1,fun _=>rfl,bJ.out.2.2.1,fun _=>rfl,bJ.out.2.2.2.2⟩,kP,ax⟩
    ·refine wpOp_step rfl (fun K' aG=>?_);have hK:=zh aG;clear aG;obtain rfl:l10=false:=by
      rcases l10 with _|_
      ·rfl
      ·exact absurd (au.2.2.2 rfl).2 (by decide)
     (try simp only[zQ]);go_simp;exact hK.out _ _ ⟨l5,l6,l7,l8,true,false,v62,v56,v63,v64,_,Ay,By,Dy,cy,dy,ey,wx.heap.size,(by subst hf;simp only[Bool.not_false,Bool.not_true,Bool.toNat_true,Bool.toNat_false];omega),rfl,(by simp only[Act.put,zD,zE,zF]),zh (zkd ae.out _),zh ⟨au.1,au.2.1,au.2.2.1,fun h=>(by cases h)⟩,zh ⟨bJ.out.1,bJ.out.2.1,bJ.out.2.2.1,bJ.out.2.2.2.1,fun _=>rfl⟩,zh (fun h=>(kP.out h).later (zkd (Below.refl _ _) _)),zh fun _=>⟨ae.out.size,fun _=>heap_alloc_new wx _,fun h=>(by cases h)⟩⟩
    ·refine wpOp_step rfl (fun K' aG=>?_);have hK:=zh aG;clear aG;have h6:=au.2.1 rfl;have h5:=au.1 h6;subst h6 h5;obtain rfl:=bJ.out.2.2.1 rfl;obtain rfl:=bJ.out.2.2.2.2 rfl;have ho:=kP.out (Eq.refl true);have nY:=ax.out (Eq.refl true);have g1:=nY.1;have hbx:=nY.2.1 (Eq.refl false);clear nY;have q0:wx.cell? ⟨bq,0,none⟩=some (.slice none 0 0):=zc hbx rfl;have q1:wx.cell? ⟨bq,1,none⟩=some (.slice none 0 0):=zc hbx rfl;have q2:wx.cell? ⟨bq,2,none⟩=some (.slice none 0 0):=zc hbx rfl;have cf:∀ o,wx.frozen? ⟨bq,o,none⟩=false:=fun o=>zf hbx;(try simp only[zQ]);go_simp;have hch:Chg (fun q=>q=bq) wx (((wx.setCell ⟨bq,0,none⟩ (.slice Ay y.cells.length cy)).setCell ⟨bq,1,none⟩ (.slice By y.tin.length dy)).setCell ⟨bq,2,none⟩ (.slice Dy y.tout.length ey)) :=
      (((Chg.refl (fun q=>q=bq) wx).setCell (p:=⟨bq,0,none⟩) (.inl rfl) _).setCell (p:=⟨bq,1,none⟩) (.inl rfl) _).setCell (p:=⟨bq,2,none⟩) (.inl rfl) _
     have hh:=heap_setCell_same _ bq 2 _ _ (.slice Dy y.tout.length ey) (heap_setCell_same _ bq 1 _ _ (.slice By y.tin.length dy) (heap_setCell_same wx bq 0 _ _ (.slice Ay y.cells.length cy) hbx));have xw:=ho.chgV hch hbx;exact hK.out _ _ ⟨true,true,true,l8,true,true,_,_,_,v64,_,Ay,By,Dy,cy,dy,ey,bq,(by subst hf;simp only[Bool.not_false,Bool.not_true,Bool.toNat_true,Bool.toNat_false];omega),rfl,(by simp only[Act.put,zD,zE,zF]),zh (ae.out.trans (hch.below ae.out.size fun q e=>by omega)),zh ⟨fun _=>rfl,fun _=>rfl,fun _=>rfl,fun _=>⟨rfl,rfl⟩⟩,bJ,zh (fun _=>xw),zh fun _=>⟨g1,fun h=>(by cases h),fun _=>(by simpa using hh)⟩⟩
  ·obtain rfl:j=es.length:=by omega
   have hj1:¬ (es.length:Int)<(es.length:Int):=by omega
   have hok:=tX.out;rw[List.take_length] at hok;have xg:=zh hok;clear hok;go_wp2_with fail;go_ret2;exact⟨aR.out,.inl ⟨xg.out,_,rfl,xu.out⟩⟩
def zwq {α:Type} (Y:Nat->α->Value->Value->World->Prop) (n:Nat) (P:Program) (gf:FuncId) (lb:Array Value) (xs:List α) (R:Nat->Prop) (W:World):Prop :=
 ∀ (l:Nat) (J Jx:List α->(Nat->Prop)->World->Prop) (C:Nat->Prop) (W1:World),l<W1.heap.size->(∀ b,C b->¬ R b)->Chg C W W1 ->
  (∀ pre C W W',J pre C W->Chg (fun b=>¬ C b) W W'->J pre C W')->(∀ pre C W,J pre C W->∀ b,C b->b<W.heap.size) ->
  (∀ pre x C W pv v,J pre C W->(pre++[x]) <+: xs->Y l x pv v W ->
   YieldAt (Fw none) (n-1) P l #[pv,v] W fun e W' =>
    (e=.returned (.bool true)/\∃ C',J (pre++[x]) C' W'/\(∀ b,C' b->C b\/W.heap.size<=b)/\Chg C W W') \/
    (e=.returned (.bool false)/\∃ C',Jx (pre++[x]) C' W'/\Chg C W W')) ->
  J [] C W1 ->
  CallsIn (Fw none) n P gf (#[.func (.yield l) #[] #[]]++lb) W1 fun e W'=>(∃ v,e=.returned v)/\((∃ C',J xs C' W'/\Chg C W1 W')\/(∃ pre C',Jx pre C' W'/\Chg C W1 W'))
def zwo {α:Type} (I Ix:List α->(Nat->Prop)->World->Prop) (pre:List α) (C:Nat->Prop) (W:World):Exit->Act->World->Prop
 | .normal,_,W'=>∃ C',I pre C' W'/\(∀ b,C' b->C b\/W.heap.size<=b)/\Chg C W W'
 | .ret,_,W'=>∃ C',Ix pre C' W'/\(∀ b,C' b->C b\/W.heap.size<=b)/\Chg C W W'
 | _,_,_=>False
theorem zv4 {α:Type} {Y:Nat->α->Value->Value->World->Prop} {n:Nat} {P:Program} {g:Operand} {ps:Array Tmp} {assign body:Code} {Q:Exit->Act->World->Prop} {a:Act} {w:World} {gf:FuncId} {lb:Array Value} {xs:List α} {R:Nat->Prop}
  (hg:a.eval g=.func (.func gf) #[] lb) (eg:∀ args w,(callFunc gf args).run P w=.ok (.enter gf args) w) (hseq:zwq Y (n-1) P gf lb xs R w) (hps:ps.size=2)
  (I Ix:List α->(Nat->Prop)->World->Prop) (C0:Nat->Prop) (hI:∀ pre C W W',I pre C W->Chg (fun b=>¬ C b) W W'->I pre C W') (hIx:∀ pre C W W',Ix pre C W->Chg (fun b=>¬ C b) W W'->Ix pre C W')
  (hIlt:∀ pre C W,I pre C W->∀ b,C b->b<W.heap.size) (hIxlt:∀ pre C W,Ix pre C W->∀ b,C b->b<W.heap.size) (hC:∀ b,C0 b->¬ R b) (hRlt:∀ b,R b->b<w.heap.size) (h0:I [] C0 w)
  (hround:∀ l pre x C W pv v,I pre C W->¬ C l->w.heap.size<=l->l<W.heap.size->(pre++[x]) <+: xs->Y l x pv v W ->
   assign.wpIn (Fw (some l)) (n-1-1) P (Exit.then (fun a1 W1=>Chg C W W1/\∀ W2,Chg (· = l) W1 W2->body.wpIn (Fw (some l)) (n-1-1) P (zwo I Ix (pre++[x]) C W2) a1 W2) (fun _ _ _=>False))
    { tmps:=(ps.zip #[pv,v]).foldl (fun t (p,v)=>t.setIfInBounds p v) a.tmps,defers:=[] } W)
  (hdone:∀ D C W',w.heap.size<=D->I xs C W'->Chg C0 w W'->W'.heap[D]?=some (.deferred (some []))->Q .normal { a with defers:={ target:=.collected D,args := #[] }::a.defers } W')
  (hstop:∀ D pre C W',w.heap.size<=D->Ix pre C W'->Chg C0 w W'->W'.heap[D]?=some (.deferred (some []))->Code.ret.wpIn (Fw none) n P Q { a with defers:={ target:=.collected D,args := #[] }::a.defers } W') :
  (Code.rangeFunc g ps assign body).wpIn (Fw none) n P Q a w:=by
 refine wpIn_rangeFunc ?_;intro fn hfn;obtain⟨rec,hrec⟩:∃ rec:LoopState->Option Code->Loop,rec=fun st pe=>{ state:=st,pending:=pe,fn,tmps:=a.tmps,params:=ps,assign,body,defers:=w.heap.size }:=⟨_,rfl⟩
 obtain⟨W1,hW1⟩:∃ W1,(w.alloc (.deferred (some []))).alloc (.loop (rec .ready none))=W1:=⟨_,rfl⟩
 have hL1:W1.heap[w.heap.size+1]?=some (.loop (rec .ready none)):=by
  rw[<-hW1];have:=World.alloc_heap_new (w.alloc (.deferred (some []))) (.loop (rec .ready none));rwa[World.size_alloc] at this
 have hK1:W1.heap[w.heap.size]?=some (.deferred (some [])):=by
  rw[<-hW1];exact(Below.heap_alloc _ _ _ (by simp)).trans (World.alloc_heap_new w _)
 have hb1:Below w.heap.size w W1:=by rw[<-hW1];exact((Below.refl _ w).alloc (Nat.le_refl _) _).alloc (by simp) _
 have hI1:I [] C0 W1:=hI _ _ _ _ h0 (Chg.of_below hb1);have hC0lt:∀ b,C0 b->b<w.heap.size:=hIlt _ _ _ h0;refine⟨w.heap.size+1,[{ target:=.collected w.heap.size,args := #[] }],W1,{ target:=.fn (.func gf) lb,args := #[.func (.yield (w.heap.size+1)) #[] #[]] },W1,gf,
  #[.func (.yield (w.heap.size+1)) #[] #[]]++lb,W1,?_,?_,(fun _ _=>trivial),?_,(fun e=>by cases e),?_⟩
 ·rw[<-hW1,hrec];exact run_enterLoop_outer _ _ _ _ _
 ·simp only[resolve,hg];simp[go_sem]
 ·simp[invoke,go_sem,eg]
 ·refine(hseq (w.heap.size+1)
   (fun pre C' W=>∃ C,(∀ b,C' b↔C b\/b=w.heap.size+1\/b=w.heap.size)/\I pre C W/\¬ C (w.heap.size+1)/\¬ C w.heap.size/\(∀ b,C b->b<w.heap.size->C0 b)/\W.heap[w.heap.size+1]?=some (.loop (rec .ready none))/\W.heap[w.heap.size]?=some (.deferred (some [])))
   (fun pre C' W=>∃ C,Ix pre C W/\¬ C (w.heap.size+1)/\W.heap[w.heap.size+1]?=some (.loop (rec .done (some .ret)))/\W.heap[w.heap.size]?=some (.deferred (some [])))
   (fun b=>C0 b\/b=w.heap.size+1\/b=w.heap.size) W1 (Array.getElem?_eq_some_iff.1 hL1).1 ?_ (Chg.of_below hb1) ?_ ?_ ?_ ⟨C0,fun _=>Iff.rfl,hI1,(fun h=>by have:=hC0lt _ h;omega),(fun h=>by have:=hC0lt _ h;omega),(fun _ h _=>h),hL1,hK1⟩).mono ?_
  ·intro b hb hr;have:=hRlt b hr;rcases hb with hb|hb|hb
   ·exact hC b hb hr
   ·omega
   ·omega
  ·rintro pre C' W W' ⟨C,hC',hi,h1,h2,h3,hl,hk⟩ hch;refine⟨C,hC',hI _ _ _ _ hi (hch.mono fun b _ hb hc=>hb ((hC' b).2 (.inl hc))),h1,h2,h3,hch.keep hl (fun h=>h ((hC' _).2 (.inr (.inl rfl)))),hch.keep hk (fun h=>h ((hC' _).2 (.inr (.inr rfl))))⟩
  ·rintro pre C' W ⟨C,hC',hi,h1,h2,h3,hl,hk⟩ b hb;rcases(hC' b).1 hb with hb|rfl|rfl
   ·exact hIlt _ _ _ hi b hb
   ·exact(Array.getElem?_eq_some_iff.1 hl).1
   ·exact(Array.getElem?_eq_some_iff.1 hk).1
  ·rintro pre x C' W pv v ⟨C,hC',hi,h1,h2,h3,hl,hk⟩ hpre hpv;have hlt:w.heap.size+1<W.heap.size:=(Array.getElem?_eq_some_iff.1 hl).1;have hy:=run_yield (P:=P) (args := #[pv,v]) hl (by rw[hrec];exact hps.symm);rw[hrec] at hy;refine⟨fn,_,assign,body,hy,roundIn_of_wpIn hfn (wpIn_mono (hround (w.heap.size+1) pre x C W pv v hi h1 (by omega) hlt hpre hpv) ?_)⟩;rintro e a1 Wa xn
   cases e with
   | normal =>
    obtain⟨xS,hbody⟩:=xn;have hl1:=xS.keep hl h1;have hk1:=xS.keep hk h2;have hlt1:w.heap.size+1<Wa.heap.size:=(Array.getElem?_eq_some_iff.1 hl1).1;refine⟨_,run_beginRound hl1 (by rw[hrec]),?_⟩;have hl2:(Wa.putObj (w.heap.size+1) (.loop { rec .ready none with state:=.busy })).heap[w.heap.size+1]?=some (.loop { rec .ready none with state:=.busy }):=World.putObj_heap_same hlt1;have hk2:(Wa.putObj (w.heap.size+1) (.loop { rec .ready none with state:=.busy })).heap[w.heap.size]?=some (.deferred (some [])):=(World.putObj_heap_other (by omega)).trans hk1;have hc2:Chg (fun b=>C b\/b=w.heap.size+1) W (Wa.putObj (w.heap.size+1) (.loop { rec .ready none with state:=.busy })) :=
     (xS.mono fun _ _ h=>.inl h).trans2 (Chg.putObj Wa (w.heap.size+1) _) (fun b _ h=>.inr h)
    refine wpIn_mono (hbody _ (Chg.putObj _ _ _)) ?_;have fin:∀ (jump:Option Code) (W3:World),Chg C (Wa.putObj (w.heap.size+1) (.loop { rec .ready none with state:=.busy })) W3 ->
      (Instr.endRound (w.heap.size+1) jump).run P W3=.ok (.bool jump.isNone) (W3.putObj (w.heap.size+1) (.loop (rec (if jump.isNone then .ready else .done) jump))) /\
      (W3.putObj (w.heap.size+1) (.loop (rec (if jump.isNone then .ready else .done) jump))).heap[w.heap.size+1]?=some (.loop (rec (if jump.isNone then .ready else .done) jump)) /\
      (W3.putObj (w.heap.size+1) (.loop (rec (if jump.isNone then .ready else .done) jump))).heap[w.heap.size]?=some (.deferred (some [])) /\
      Chg C' W (W3.putObj (w.heap.size+1) (.loop (rec (if jump.isNone then .ready else .done) jump))):=fun jump W3 hk3=>by
     have hl3:=hk3.keep hl2 h1;have:=run_endRound (P:=P) jump hl3;rw[hrec] at this ⊢;refine⟨this,World.putObj_heap_same (Array.getElem?_eq_some_iff.1 hl3).1,(World.putObj_heap_other (by omega)).trans (hk3.keep hk2 h2),?_⟩;have hA:Chg (fun b=>C b\/b=w.heap.size+1) W W3:=by
      have:=hc2;rw[hrec] at this hk3;exact this.trans2 hk3 (fun b _ h=>.inl h)
     exact(hA.trans2 (Chg.putObj W3 (w.heap.size+1) _) (fun b _ h=>.inr h)).mono fun b _ hb=>(hC' b).2 (by rcases hb with hb|hb;exact .inl hb;exact .inr (.inl hb))
    rintro e3 a3 W3 hp;have hsz:W.heap.size<=(Wa.putObj (w.heap.size+1) (.loop { rec .ready none with state:=.busy })).heap.size:=hc2.size
    cases e3 with
    | normal =>
     obtain⟨C3,hi3,wZ,wG⟩:=hp;have xq:∀ b,C3 b->C b\/W.heap.size<=b:=fun b h=>(wZ b h).imp id fun h'=>Nat.le_trans hsz h';obtain⟨hr,hl4,hk4,nU⟩:=fin none W3 wG;have kY:¬ C3 (w.heap.size+1):=fun h=>by rcases xq _ h with h|h;exact h1 h;omega
     have xR:¬ C3 w.heap.size:=fun h=>by rcases xq _ h with h|h;exact h2 h;omega
     refine⟨_,_,hr,.inl ⟨rfl,fun b=>C3 b\/b=w.heap.size+1\/b=w.heap.size,⟨C3,fun _=>Iff.rfl,hI _ _ _ _ hi3 ((Chg.putObj _ _ _).mono fun b _ hb hc=>kY (hb▸hc)),kY,xR,?_,hl4,hk4⟩,?_,nU⟩⟩
     ·intro b hb hlt';rcases xq b hb with hb|hb
      ·exact h3 b hb hlt'
      ·omega
     ·intro b hb;rcases hb with hb|hb
      ·rcases xq b hb with hb|hb
       ·exact .inl ((hC' b).2 (.inl hb))
       ·exact .inr (by omega)
      ·exact .inl ((hC' b).2 (.inr hb))
    | ret =>
     obtain⟨C3,hi3,wZ,wG⟩:=hp;have xq:∀ b,C3 b->C b\/W.heap.size<=b:=fun b h=>(wZ b h).imp id fun h'=>Nat.le_trans hsz h';obtain⟨hr,hl4,hk4,nU⟩:=fin (some .ret) W3 wG;have kY:¬ C3 (w.heap.size+1):=fun h=>by rcases xq _ h with h|h;exact h1 h;omega
     exact⟨_,_,hr,.inr ⟨rfl,fun _=>True,⟨C3,hIx _ _ _ _ hi3 ((Chg.putObj _ _ _).mono fun b _ hb hc=>kY (hb▸hc)),kY,hl4,hk4⟩,nU⟩⟩
    | exit id=>exact hp.elim
    | goto t=>exact hp.elim
    | panic ch=>exact hp.elim
    | outgrown=>exact hp.elim
   | exit id=>exact xn.elim
   | goto t=>exact xn.elim
   | ret=>exact xn.elim
   | panic ch=>exact xn.elim
   | outgrown=>exact xn.elim
  ·rintro e W2 ⟨⟨v,rfl⟩,(⟨C',⟨C,hC',hi,h1,h2,h3,hl,hk⟩,hch⟩|⟨pre,C',⟨C,hi,h1,hl,hk⟩,hch⟩)⟩
   all_goals
    have hw2:Chg C0 w W2:=((Chg.of_below hb1).trans2 hch fun b hb hc=>by rcases hc with hc|hc|hc;exact hc;omega;omega)
    have hfin:∀ o,Chg C0 w (W2.putObj (w.heap.size+1) o):=fun o=>hw2.trans2 (Chg.putObj W2 (w.heap.size+1) o) fun b hb hc=>by omega
   ·exact⟨none,_,by have:=run_endLoop (P:=P) hl (by rw[hrec];simp);rw[hrec] at this;exact this,hdone _ C _ (Nat.le_refl _) (hI _ _ _ _ hi ((Chg.putObj W2 (w.heap.size+1) _).mono fun b _ (hb:b=w.heap.size+1) hc=>h1 (hb▸hc))) (hfin _) ((World.putObj_heap_other (by omega)).trans hk)⟩
   ·exact⟨some .ret,_,by have:=run_endLoop (P:=P) hl (by rw[hrec];simp);rw[hrec] at this;exact this,hstop _ pre C _ (Nat.le_refl _) (hIx _ _ _ _ hi ((Chg.putObj W2 (w.heap.size+1) _).mono fun b _ (hb:b=w.heap.size+1) hc=>h1 (hb▸hc))) (hfin _) ((World.putObj_heap_other (by omega)).trans hk)⟩
attribute [local go_sem] Oper.semAt_some
def chV (c:CH):Value:=.agg #[.int .i64 c.cell,.int .i64 c.at',.int .i64 c.old,.int .i64 c.new]
def YB (_:Nat) (x:CH) (pv v:Value) (_:World):Prop:=(∃ i:Int,pv=.int .i64 i)/\v=chV x
theorem zvQ (n bb:Nat) (hn:1<=n) (l:List CH) (A:Option Addr) (c:Nat) (S:Nat->Prop) (W:World) (hbb:W.heap[bb]?=some (.cells #[.slice A l.length c] 54 (0,0))) (hr:RowC W S A l) (hl:l.length<=4398046511103) :
  zwq YB n Tryz.prog 159 #[.pointer (some ⟨bb,0,none⟩)] l.reverse (fun b=>b=bb\/(S b/\b<W.heap.size)) W:=by
 intro lp J Jx C W1 hl0 xV hch hJ hJlt hY h0;have fI:=zh hbb;have HR:=zh hr;have cB:=zh hl;have HCR:=zh xV;have aJ:=zh hch;have HJ:=zh hJ;have HY:=zh hY;have H0:=zh h0;have hb1:=hch.keep hbb fun h=>xV _ h (.inl rfl);have y0:W1.cell? ⟨bb,0,none⟩=some (.slice A l.length c):=zc hb1 rfl;have hw0:IntKind.i64.wrap ((l.length:Int)-1)=(l.length:Int)-1:=IntWalk.i64_in _ (by omega);clear hbb hr hl xV hch hJ hJlt hY h0 hb1;refine callsIn_of_wp Tryz.func159 rfl trivial ?_ rfl;simp only[Tryz.ntmps159,List.size_toArray,List.length_cons,List.length_nil,Nat.reduceAdd,Nat.reduceSub,Array.replicate_succ,Array.replicate_zero,List.push_toArray,List.append_toArray,List.nil_append,List.cons_append]
 gi_wp2
 gi_loopw [3] (fun i wr=>∃ k:Nat,k<=l.length/\i=.int .i64 ((k:Int)-1)/\∃ C',Hid (J (l.reverse.take (l.length-k)) C' wr/\Chg C W1 wr/\∀ b,C' b->C b\/W1.heap.size<=b)) (fun i _=>(intOf i+1).toNat)
 case atStart=>exact⟨l.length,Nat.le_refl _,rfl,C,zh ⟨by rw[Nat.sub_self];exact H0.out,Chg.refl _ _,fun b h=>.inl h⟩⟩
 case round =>
  obtain⟨k,hk,rfl,C',HK⟩:=hrel;rcases k with _|j
  ·have h1:¬ (0:Int)<=((0:Nat):Int)-1:=by decide
   have HX:=zh HK.out.1
   gi_wp2
   go_end0;exact⟨⟨_,rfl⟩,.inl ⟨⟨C',by have:=HX.out;rwa[Nat.sub_zero,List.take_of_length_le (by simp)] at this⟩,HK.out.2.1⟩⟩
  ·have hj1:(((j+1:Nat):Int)-1)=(j:Int):=by omega
   rw[hj1];have hj0:(0:Int)<=(j:Int):=by omega
   have hjl:j<l.length:=by omega
   have hjl2:(j:Int)<(l.length:Int):=by omega
   have hwj:IntKind.i64.wrap ((j:Int)-1)=(j:Int)-1:=IntWalk.i64_in _ (by have:=cB.out;omega);have wH:Chg C W wr:=aJ.out.trans2 HK.out.2.1 fun _ _ h=>h;have hbw:=wH.keep fI.out fun h=>HCR.out _ h (.inl rfl);have y0:wr.cell? ⟨bb,0,none⟩=some (.slice A l.length c):=zc hbw rfl;obtain⟨a,rfl,-,m0,m1,m2,m3⟩:=(HR.out.keep (S':=Any) (fun _ _ _=>trivial) fun b hb hlt=>wH.block b hlt fun h=>HCR.out _ h (.inr ⟨hb,hlt⟩)) j hjl;have htk:l.reverse.take (l.length-(j+1))++[l[j]]=l.reverse.take (l.length-j):=by
    rw[show l.length-j=l.length-(j+1)+1 by omega,List.take_succ_eq_append_getElem (by simp;omega),List.getElem_reverse];congr 3;omega
   obtain⟨x,hx⟩:∃ x,l[j]=x:=⟨_,rfl⟩
   rw[hx] at m0 m1 m2 m3 htk;have lN:=zh htk;obtain⟨fn,tmps,assign,body,hy,tC⟩:=HY.out (l.reverse.take (l.length-(j+1))) x C' wr (.int .i64 j) (chV x) HK.out.1 (by rw[htk];exact List.take_prefix _ _) ⟨⟨_,rfl⟩,rfl⟩;have kN:=zh tC;unfold chV at hy;clear wH hbw htk tC hx
   gi_wp2
   refine kN.out.mono ?_;rintro e W3 (⟨rfl,C3,wY,hc3,wG⟩|⟨rfl,C3,wY,wG⟩)
   ·have xP:=zh (show J (l.reverse.take (l.length-j)) C3 W3/\Chg C W1 W3/\∀ b,C3 b->C b\/W1.heap.size<=b from ⟨by rw[<-lN.out];exact wY,HK.out.2.1.trans2 wG fun b hb h=>(HK.out.2.2 b h).elim id fun h=>by omega,fun b h=>by
     rcases hc3 b h with h|h
     ·exact HK.out.2.2 b h
     ·exact .inr (by have:=HK.out.2.1.size;omega)⟩)
    clear wY hc3 wG hy
    gi_wp2
    exact⟨⟨j,by omega,by go_num,C3,xP⟩,by simp[intOf]⟩
   ·have xP:=zh (show Jx (l.reverse.take (l.length-(j+1))++[x]) C3 W3/\Chg C W1 W3 from ⟨wY,HK.out.2.1.trans2 wG fun b hb h=>(HK.out.2.2 b h).elim id fun h=>by omega⟩);clear wY wG hy
    gi_wp2
    refine bodyPost_ret (results_none rfl _ _ _) rfl ?_;exact⟨⟨_,rfl⟩,.inr ⟨_,C3,xP.out.1,xP.out.2⟩⟩
def CH.rev (c:CH):CH:=⟨c.cell,c.at',c.new,c.old⟩
def revE (l:List CH):List CH:=l.reverse.map CH.rev
theorem zv3 (c:CH) (l:List CH):revE (c::l)=revE l++[c.rev]:=by
 unfold revE;rw[List.reverse_cons,List.map_append];rfl
theorem zwd (l:List CH):(revE l).length=l.length:=by
 unfold revE;rw[List.length_map,List.length_reverse]
theorem zwn {l:List CH} (h:∀ c∈l,c.I):∀ c∈revE l,c.I:=fun c hc=>by
 obtain⟨d,hd,rfl⟩:=List.mem_map.1 hc;obtain⟨h1,h2,h3,h4⟩:=h d (List.mem_reverse.1 hd);exact⟨h1,h2,h4,h3⟩
def SQe (q q':SQ):Prop:=q.len=q'.len/\∀ j,q.el.getD j 0=q'.el.getD j 0
def QMe (m m':QM):Prop:=∀ c,(m c=none/\m' c=none)\/∃ q q',m c=some q/\m' c=some q'/\SQe q q'
theorem zvX {q r:SQ} {c:CH} (h:chgQ q c=(0,r)) (ha:c.at' = -1):c.old=q.len/\r.len=c.new/\r.el=q.el:=by
 unfold chgQ at h
 split at h
 ·simp at h
 ·split at h
  ·simp at h
  ·split at h
   ·simp at h
   ·rename_i g3;injection h with _ h;subst h;exact⟨Classical.byContradiction fun h=>g3 ⟨ha,h⟩,rfl,rfl⟩
theorem zwa {q r:SQ} {c:CH} (h:chgQ q c=(0,r)) (ha:c.at' ≠ -1):0<=c.at'/\c.old=q.el.getD c.at'.toNat 0/\r.len=q.len/\∀ j,r.el.getD j 0=if j=c.at'.toNat then c.new else q.el.getD j 0:=by
 unfold chgQ at h
 split at h
 ·simp at h
 ·rename_i g1;rw[if_neg fun h=>ha h.1,if_neg fun h=>ha h.1] at h
  split at h
  ·simp at h
  ·rename_i g5;injection h with _ h;subst h;refine⟨by omega,Classical.byContradiction fun h=>g5 h,rfl,fun j=>?_⟩;have hl:=zoB q.el (c.at'.toNat+1);simp only;rw[zv2 (by omega),zvN]
theorem zv9 {q r r' q':SQ} {c:CH} (h:chgQ q c=(0,r)) (he:SQe r' r) (h2:chgQ r' c.rev=(0,q')):SQe q' q:=by
 by_cases ha:c.at' = -1
 ·obtain⟨g1,g2,g3⟩:=zvX h ha;obtain⟨k1,k2,k3⟩:=zvX h2 ha;exact⟨k2.trans g1,fun j=>by rw[k3,he.2 j,g3]⟩
 ·obtain⟨g0,g1,g2,g3⟩:=zwa h ha;obtain⟨k0,k1,k2,k3⟩:=zwa h2 ha;refine⟨k2.trans (he.1.trans g2),fun j=>?_⟩;have k4:=k3 j;rw[he.2 j,g3 j] at k4;rw[k4]
  show(if j=c.at'.toNat then c.old else _)=_
  split
  ·rename_i e;rw[e,g1]
  ·rfl
theorem zvM:∀ (m:QM) (l r:List CH) {x:QM},zlh m (l++r)=(0,x)->∃ m',zlh m l=(0,m')/\zlh m' r=(0,x)
 | m,[],r,x,h=>⟨m,rfl,h⟩
 | m,c::l,r,x,h=>by
  rw[List.cons_append,zlh] at h;rw[zlh]
  split at h
  ·simp at h
  ·rename_i q hq
   split at h
   ·rename_i h0;simp only[Prod.mk.injEq] at h;exact absurd h.1 h0
   ·rename_i h0;simp only[hq,if_neg h0];exact zvM _ l r h
theorem zvR {m x:QM} {c:CH} (h:zlh m [c]=(0,x)):∃ q r,m c.cell=some q/\chgQ q c=(0,r)/\x=m.put c.cell r:=by
 rw[zlh] at h
 split at h
 ·simp at h
 ·rename_i q hq
  split at h
  ·rename_i h0;simp only[Prod.mk.injEq] at h;exact absurd h.1 h0
  ·rename_i h0;obtain⟨R,hR⟩:∃ R,chgQ q c=R:=⟨_,rfl⟩
   obtain⟨e,r⟩:=R;rw[hR] at h0 h;have h0:e=0:=by simpa using h0
   subst h0;rw[zlh] at h;injection h with _ h;exact⟨q,r,hq,hR,h.symm⟩
theorem zvP:∀ (l:List CH) {m m1 m1' m2:QM},zlh m l=(0,m1)->QMe m1' m1->zlh m1' (revE l)=(0,m2)->QMe m2 m
 | [],m,m1,m1',m2,h,he,h2=>by
  rw[zlh] at h;injection h with _ h;have h2:zlh m1' []=(0,m2):=h2;rw[zlh] at h2;injection h2 with _ h2;subst h h2;exact he
 | c::l,m,m1,m1',m2,h,he,h2=>by
  rw[zv3] at h2;obtain⟨m3,h3,h4⟩:=zvM _ _ _ h2;have h':zlh m ([c]++l)=(0,m1):=h;obtain⟨m0,h5,h6⟩:=zvM _ _ _ h';obtain⟨q,r,g1,g2,rfl⟩:=zvR h5;have ih:=zvP l h6 he h3;obtain⟨q3,r3,k1,k2,rfl⟩:=zvR h4;have k1:m3 c.cell=some q3:=k1;have xJ:SQe q3 r:=by
   rcases ih c.cell with⟨e,-⟩|⟨a,a',e1,e2,e3⟩
   ·rw[k1] at e;cases e
   ·rw[k1] at e1;rw[QM.put_same] at e2;injection e1 with e1;injection e2 with e2;subst e1 e2;exact e3
  have hu:=zv9 g2 xJ k2;intro d;by_cases e:d=c.cell
  ·subst e;exact .inr ⟨r3,q,if_pos rfl,g1,hu⟩
  ·have e1:(m3.put c.rev.cell r3) d=m3 d:=if_neg e;have e2:(m.put c.cell r) d=m d:=if_neg e;have:=ih d;rw[e2] at this;rw[e1];exact this
theorem zwi {q:SQ} {y:List Int} (h:lstQ q=some y) (h0:0<=q.len):SQe q ⟨y.length,y⟩:=by
 unfold lstQ at h
 split at h
 ·rename_i ha;injection h with h;subst h;have hl:=zoB q.el q.len.toNat
  rw[List.all_eq_true] at ha;refine⟨by simp only[List.length_take];omega,fun j=>?_⟩;rw[<-zvN q.el q.len.toNat j];simp only[List.getD_eq_getElem?_getD];by_cases hj:j<q.len.toNat
  ·rw[List.getElem?_take,if_pos hj]
  ·rw[List.getElem?_take,if_neg hj];by_cases hj2:j<(ext q.el q.len.toNat).length
   ·have:=ha (ext q.el q.len.toNat)[j] (by
     rw[List.mem_iff_getElem];refine⟨j-q.len.toNat,by rw[List.length_drop];omega,?_⟩;rw[List.getElem_drop];congr 1;omega)
    rw[List.getElem?_eq_getElem hj2];simpa using this
   ·rw[List.getElem?_eq_none (by omega)]
 ·cases h
theorem zvU {n:Nat} {x y z:SS} {e:List CH} (hg:zmr n x) (hl:∀ c∈e,c.I) (h:zkw x e=(0,y)) (h2:zkw y (revE e)=(0,z)):z=x:=by
 obtain⟨R,hR⟩:∃ R,zlh (QM.of x) e=R:=⟨_,rfl⟩
 obtain⟨er,m1⟩:=R;by_cases he:er=0;rotate_left 1
 ·unfold zkw at h;rw[hR,if_pos he] at h;simp only[Prod.mk.injEq] at h;exact absurd h.1 he
 subst he;have hb:=zo9 e _ (QB.of hg) hl (by rw[hR]);rw[hR] at hb;simp only at hb;have hall:∀ c∈zkl n,∃ y,lq m1 c=some y:=fun c hc=>by
  cases hq:lq m1 c with
  | none =>
   rw[zoi hg.n hR hc hq] at h;simp at h
  | some y=>exact⟨y,rfl⟩
 rw[zoj hg.n hR hall] at h;injection h with _ h;have hyn:y.cells.length=n:=by rw[<-h];simp
 have hpt:∀ c∈zkl n,part y c=lqD m1 c:=fun c hc=>by
  rw[<-h];unfold part;unfold zkl at hc;rcases List.mem_append.1 hc with hc|hc
  ·obtain⟨i,hi,rfl⟩:=List.mem_map.1 hc;have hi:i<n:=by simpa using hi
   have hi':(Int.ofNat i:Int)=(i:Int):=rfl;rw[hi',if_neg (by omega),if_neg (by omega),Int.toNat_natCast,List.getD_eq_getElem?_getD,List.getElem?_map,List.getElem?_range hi];rfl
  ·simp at hc;rcases hc with rfl|rfl
   ·rw[if_pos rfl,List.reverse_reverse]
   ·rw[if_neg (by decide),if_pos rfl]
 have hme:QMe (QM.of y) m1:=fun c=>by
  by_cases hc:c∈zkl n
  ·obtain⟨l,hl⟩:=hall c hc;obtain⟨q,hq⟩:=Option.isSome_iff_exists.1 ((hb.dom c).2 hc);have hlq:lstQ q=some l:=by unfold lq at hl;rw[hq] at hl;exact hl
   have hd:lqD m1 c=l:=by unfold lqD;rw[hl];rfl
   have hr:=zwi hlq (hb.len c q hq).1;refine .inr ⟨⟨(part y c).length,part y c⟩,q,by unfold QM.of;rw[hyn,if_pos hc],hq,?_⟩;rw[hpt c hc,hd];exact⟨hr.1.symm,fun j=>(hr.2 j).symm⟩
  ·refine .inl ⟨by unfold QM.of;rw[hyn,if_neg hc],?_⟩
   cases hq:m1 c with
   | none=>rfl
   | some q=>exact absurd ((hb.dom c).1 (by rw[hq];rfl)) hc
 obtain⟨R,hR2⟩:∃ R,zlh (QM.of y) (revE e)=R:=⟨_,rfl⟩
 obtain⟨er,m2⟩:=R;by_cases he:er=0;rotate_left 1
 ·unfold zkw at h2;rw[hR2,if_pos he] at h2;simp only[Prod.mk.injEq] at h2;exact absurd h2.1 he
 subst he;have hu:=zvP e hR hme hR2;have hq:∀ c∈zkl x.cells.length,QR m2 c (part x c):=fun c hc=>by
  have ho:QM.of x c=some ⟨(part x c).length,part x c⟩:=if_pos hc;rcases hu c with⟨-,e1⟩|⟨q,q',e1,e2,e3⟩
  ·rw[ho] at e1;cases e1
  ·rw[ho] at e2;injection e2 with e2;subst e2;exact⟨q,e1,e3.1,e3.2⟩
 unfold zkw at h2;rw[hR2,if_neg (by simp),hyn,<-hg.n,zv7 _ hq,zwg] at h2;simp only[Prod.mk.injEq,true_and] at h2;rw[<-h2];simp
attribute [local go_sem] Oper.semAt_some
theorem DiR.chg {n0:Nat} {w w':World} {v:Value} {l:List CH} {C:Nat->Prop} (h:DiR n0 w v l) (hc:Chg C w w') (hC:∀ b,v.ownBlock=some b->¬ C b):DiR n0 w' v l:=by
 obtain⟨⟨e1,h2⟩,h3⟩:=h;refine⟨⟨e1,?_⟩,h3⟩;rcases h2 with h2|⟨g,cap,cur,rfl,hb,hg,h4⟩
 ·exact .inl h2
 ·exact .inr ⟨g,cap,cur,rfl,hb,hc.keep hg (hC _ rfl),h4⟩
theorem DiR.ndef {n0 D:Nat} {w:World} {v:Value} {l:List CH} {x:Option (List Deferred)} (h:DiR n0 w v l) (hK:w.heap[D]?=some (.deferred x)):v.ownBlock≠some D:=fun e=>by
 rcases h.1.2 with⟨rfl,-⟩|⟨g,cap,cur,rfl,hb,hg,h4⟩
 ·simp[Value.ownBlock] at e
 ·injection e with e;subst e;rw[hK] at hg
  cases hg
theorem zvZ (A:Option Addr) (n c:Nat) (w:World):Calls Tryz.prog 126 #[.slice A n c] w fun e w'=>e=.returned (.func (.func 159) #[] #[.pointer (some ⟨w.heap.size,0,none⟩)])/\w'=w.alloc (.cells #[.slice A n c] 54):=by
 go_enter Tryz.func126,Tryz.ntmps126;go_wp2_with fail;go_ret;exact⟨rfl,rfl⟩
theorem fnB1:IsFn Tryz.prog 159 Tryz.f159:=⟨Tryz.func159,by kernel_rfl,by kernel_rfl⟩
def RvI (tb n1:Nat) (pre:List CH) (C:Nat->Prop) (W:World):Prop :=
 ∃ v,(∀ b,C b↔b=tb\/v.ownBlock=some b)/\W.heap[tb]?=some (.cells #[v] 54 (0,0))/\DiR n1 W v (pre.map CH.rev)
theorem zwb (L:List CH) (A:Option Addr) (c:Nat) (W:World) (hr:RowC W Any A L) (hI:∀ c∈L,c.I) (hl:L.length<=4398046511103) :
  Calls Tryz.prog 82 #[.slice A L.length c] W fun e W'=>∃ v,e=.returned v/\DiR W.heap.size W' v (revE L)/\Below W.heap.size W W':=by
 have HR:=zh hr;have HI:=zh hI;have HL:=zh hl;obtain⟨tb,htb⟩:∃ n,W.heap.size=n:=⟨_,rfl⟩
 have xc:=zh htb;have k1:=heap_alloc_new W (.cells #[.slice none 0 0] 54);have hb1:=zkd (Below.refl W.heap.size W) (.cells #[.slice none 0 0] 54);obtain⟨w1,hw1⟩:∃ x,W.alloc (.cells #[.slice none 0 0] 54)=x:=⟨_,rfl⟩
 have hz1:w1.heap.size=tb+1:=by rw[<-hw1,<-htb];simp
 rw[hw1] at k1 hb1;rw[htb] at k1;have aN:=zh k1;have HB1:=zh hb1;have HZ1:=zh hz1;have HW1:=zh hw1;clear hr hI hl hb1 k1 hz1;refine(callsIn_wide (n:=3)).1 (callsIn_of_wp_marks Tryz.func82 rfl trivial ((wpIn_wide (n:=3)).2 ?_));simp only[Tryz.ntmps82,List.size_toArray,List.length_cons,List.length_nil,Nat.reduceAdd,Nat.reduceSub,Array.replicate_succ,Array.replicate_zero,List.push_toArray,List.append_toArray,List.nil_append,List.cons_append];go_wp2_with fail;refine(zvZ _ _ _ w1).mono ?_;rintro e2 w2 ⟨rfl,hw2⟩;have k2:=zkr aN.out (.cells #[.slice A L.length c] 54);have kb:=heap_alloc_new w1 (.cells #[.slice A L.length c] 54);have hb2:=zka HB1.out (zkd (Below.refl w1.heap.size w1) (.cells #[.slice A L.length c] 54));have hz2:w2.heap.size=tb+2:=by rw[hw2];simp[HZ1.out]
 rw[<-hw2] at k2 kb hb2;rw[HZ1.out] at kb;have hrow:=HR.out.later hb2;have bG:=zh k2;have iA:=zh kb;have HB2:=zh hb2;have HZ2:=zh hz2;have ag:=zh hrow;rw[HZ1.out];clear k2 kb hb2 hz2 hrow hw2 hw1;go_wp2_with fail;refine(wpIn_wide (n:=3)).1 ?_;refine zv4 (n:=3) (gf:=159) (lb := #[.pointer (some ⟨tb+1,0,none⟩)]) rfl (zkH fnB1) (zvQ (3-1) (tb+1) (by decide) L A c (fun b=>b<tb) w2 iA.out (HR.out.keep (fun b _ h=>by have:=xc.out;omega) fun b _ h=>HB2.out.block b h) HL.out) rfl
  (RvI tb (tb+2)) (fun _ _ _=>False) (fun b=>b=tb)
  (fun pre C W W' ⟨rv,h1,h2,h3⟩ hc=>⟨rv,h1,hc.keep h2 (fun h=>h ((h1 _).2 (.inl rfl))),h3.chg hc (fun b hb h=>h ((h1 _).2 (.inr hb)))⟩)
  (fun _ _ _ _ h _=>h)
  (fun pre C W ⟨rv,h1,h2,h3⟩ b hb=>by rcases(h1 b).1 hb with rfl|h;exact zko h2;exact(h3.1.lt b h).2)
  (fun _ _ _ h=>h.elim)
  (fun b hb hr=>by rcases hr with hr|hr<;>omega) ?_
  ⟨.slice none 0 0,fun b=>by simp[Value.ownBlock],bG.out,DiR.nil _ _⟩ ?_ ?_ ?_
 ·rintro b (rfl|hb)
  ·have:=HZ2.out;omega
  ·exact hb.2
 ·rintro l pre x C W3 pv v ⟨rv,hC,htb3,hdr⟩ hCl hl hlW hpre ⟨⟨i,rfl⟩,hv⟩;have hv2:v=.agg #[.int .i64 x.cell,.int .i64 x.at',.int .i64 x.old,.int .i64 x.new]:=hv;subst hv2;clear hv;have hxm:x∈L.reverse:=by
   obtain⟨ys,hys⟩:=hpre;rw[<-hys];simp
  have vw:=zh (HI.out x (List.mem_reverse.1 hxm));have xM:=zh (show(pre.map CH.rev).length+1<=4398046511103 from by
   have h3:=hpre.length_le;simp at h3;have:=HL.out;simp;omega)
  have HMP:=zh (show(pre++[x]).map CH.rev=pre.map CH.rev++[⟨x.cell,x.at',x.new,x.old⟩] by simp[CH.rev]);change Code.wpIn (Fence.wide.inRound l) (3-1-1) Tryz.prog _ _ _ _
  gi_wp2
  refine⟨(Chg.refl _ _).alloc _,fun W4 wP=>?_⟩;have hbx:=wP.keep (heap_alloc_new W3 (.cells #[.int .i64 x.cell,.int .i64 x.at',.int .i64 x.old,.int .i64 x.new] 64)) (show ¬ W3.heap.size=l by omega);have wV:=wP.keep (zkr htb3 (.cells #[.int .i64 x.cell,.int .i64 x.at',.int .i64 x.old,.int .i64 x.new] 64)) (fun h=>hCl ((hC _).2 (.inl h.symm)));have wL:=(hdr.later (zkd (Below.refl _ _) (.cells #[.int .i64 x.cell,.int .i64 x.at',.int .i64 x.old,.int .i64 x.new] 64))).chg wP (fun b hb h=>hCl ((hC _).2 (.inr (h▸hb))));obtain⟨m0,m1,m2,m3⟩:=box4 hbx;obtain⟨LL,dA⟩:∃ l,pre.map CH.rev=l:=⟨_,rfl⟩
  rw[dA] at wL xM HMP;obtain⟨Aq,cq,rfl,-⟩:=zkb wL.1;have HTB4:=zh wV;have HDR4:=zh wL;have bD:=zh hC;have wW:tb+2<=W4.heap.size:=by have h1:=HZ2.out;have h2:=wP.size;simp at h2;omega
  have HSZ4:=zh wW;have hpush:=wL.push (c:=⟨x.cell,x.at',x.new,x.old⟩) ⟨vw.out.1,vw.out.2.1,vw.out.2.2.2,vw.out.2.2.1⟩ xM.out wW;obtain⟨hrow,hln,hsz,hnw,HPU0⟩:=hpush;have mQ:=zh HPU0;have y3:W4.cell? ⟨tb,0,none⟩=some (.slice Aq LL.length cq):=zc wV rfl;have hc1:=bCh;have hc2:=bChs;obtain⟨ix,hix,hz0,hz1,hz2⟩:=info_parts zo6;clear HPU0 wP hbx wV htb3 hdr wL hxm hpre hC wW dA;change Code.wpIn (Fence.wide.inRound l) (3-1-1) Tryz.prog _ _ _ _
  gi_wp2_with (gi_at_builtin;refine wpListIn_append_own_at (P:=Tryz.prog) _ rfl (.tmp 10) (.tmp 20) 54 rfl (tb+2) 64 ix _ 4 32 Tryz.underlying54 hix hz0 hz1 hz2 rfl (by decide) (.slice Aq LL.length cq) LL.length (zk3 LL) rfl hrow ⟨W4.heap.size,0,none⟩ 1 1 (CH.nums ⟨x.cell,x.at',x.new,x.old⟩) rfl rfl hnw (zpA _) hln.1 hln.2 hsz ?_;intro v' w' ho hg hh ak;obtain⟨ho2,wH,wJ⟩:=mQ.out _ _ ho hg ak;have hbx:=(wH.keep HTB4.out (fun e=>by have:=(HDR4.out.1.lt _ e).1;omega));have z0:w'.cell? ⟨tb,0,none⟩=some (.slice Aq LL.length cq):=zc hbx rfl;have z1:w'.frozen? ⟨tb,0,none⟩=false:=zf hbx;have HX:=zh hbx;have rV:=zh ho2;have HCH2:=zh wH;have HOB2:=zh wJ;obtain⟨A',c',rfl,-⟩:=zkb ho;clear ho hg hh ak ho2 wH wJ hbx)
  have hbx':=heap_setCell_same _ tb 0 _ _ (.slice A' (LL.length+1) c') HX.out;refine⟨fun b=>b=tb\/(Value.slice A' (LL.length+1) c').ownBlock=some b,⟨_,fun _=>Iff.rfl,by simpa using hbx',?_⟩,fun b hb=>?_,?_⟩
  ·rw[HMP.out];exact rV.out.chg ((Chg.refl (fun b=>b=tb) _).setCell (.inl rfl) _) fun b hb e=>by have:=(rV.out.1.lt _ hb).1;omega
  ·rcases hb with hb|hb
   ·exact .inl ((bD.out _).2 (.inl hb))
   ·rcases HOB2.out with e|⟨b',e,h'⟩
    ·exact .inl ((bD.out _).2 (.inr (e▸hb)))
    ·rw[e] at hb;injection hb with hb;exact .inr (hb▸h')
  ·exact(HCH2.out.mono fun b _ h=>(bD.out b).2 (.inr h)).setCell (.inl ((bD.out _).2 (.inl rfl))) _
 ·intro D C W' hD hC hch hK;obtain⟨rv,dm,htb7,hd7⟩:=hC;have hnd:=hd7.ndef hK;obtain⟨Aq,cq,rfl,-⟩:=zkb hd7.1;have r0:W'.cell? ⟨tb,0,none⟩=some (.slice Aq (L.reverse.map CH.rev).length cq):=zc htb7 rfl;have gL:=zh (show Below W.heap.size W W' from HB2.out.trans (hch.below HB2.out.size (fun b h=>by have:=xc.out;omega)));have HK:=zh hK;have HD7:=zh hd7;have HND:=zh hnd;clear hch hK hd7 dm htb7 hnd;go_wp2_with fail;refine⟨by simp,.inl ⟨_,_,rfl,run_takeDeferred HK.out,?_⟩⟩;have bI:=gL.out.trans ((Chg.putObj W' D (.deferred none)).below (B:=W.heap.size) gL.out.size (fun b hb=>by have:b=D:=hb;have:=HZ2.out;have:=xc.out;omega));have hd9:=HD7.out.chg (Chg.putObj W' D (.deferred none)) fun b hb e=>HND.out (e▸hb);exact⟨_,by simp[results,Tryz.results82,go_sem],_,rfl,⟨zlO hd9.1 (by have:=xc.out;omega),hd9.2⟩,bI⟩
 ·intro D pre C W' hD hC;exact hC.elim
theorem zwk:IsFn Tryz.prog 82 Tryz.f82:=⟨Tryz.func82,by kernel_rfl,by kernel_rfl⟩
set_option synthInstance.maxHeartbeats 2000000 in
set_option synthInstance.maxSize 100000 in
theorem zvT {n0 b:Nat} {s0:SS} {es:List (List CH)} {n:Nat} (ha:AllX n s0 es):zvF n0 b s0 es:=by
 intro W pos hlt h;have xY:=zh ha;have hgx:=ha.good (pos+1);obtain⟨x,hx0⟩:∃ x,cur s0 es (pos+1)=x:=⟨_,rfl⟩
 rw[hx0] at h hgx;have dQ:=zh h;obtain⟨⟨f1,f2,f3,g1,g2,g3,A,c,hbx,hf,hx,hr,hc⟩,hnb⟩:=h;obtain⟨Ax,cx,Bx,dx,Dx,ex,he1⟩:=hx.slices;injection he1 with he1;simp only[Array.mk.injEq,List.cons.injEq,and_true] at he1;obtain⟨rfl,rfl,rfl⟩:=he1;obtain⟨P,hP⟩:∃ P:Int,((pos+1:Nat):Int)=P:=⟨_,rfl⟩
 rw[hP] at hbx;have y0:W.cell? ⟨b,3,none⟩=some (.slice Ax x.cells.length cx):=zc hbx rfl;have y1:W.cell? ⟨b,4,none⟩=some (.slice Bx x.tin.length dx):=zc hbx rfl;have y2:W.cell? ⟨b,5,none⟩=some (.slice Dx x.tout.length ex):=zc hbx rfl;have y6:W.cell? ⟨b,6,none⟩=some (.slice A es.length c):=zc hbx rfl;have y7:W.cell? ⟨b,7,none⟩=some (.int .i64 P):=zc hbx rfl;have hge:¬ P<=0:=by omega
 have hp0:(0:Int)<=(pos:Int):=by omega
 have hp1:(pos:Int)<(es.length:Int):=by omega
 have iC:IntKind.i64.wrap (P-1)=(pos:Int):=by
  rw[show P-1=(pos:Int) by omega];exact IntWalk.i64_in _ (by have:=ha.es.1;omega)
 obtain⟨a,Aj,cj,rfl,has,hce,hcl,hrc⟩:=hr pos hlt;obtain⟨hci,fU⟩:=ha.es.2 _ (List.getElem_mem hlt);have hst:=ha.step hlt;rw[hx0] at hst;obtain⟨E,hE⟩:∃ E,es[pos]=E:=⟨_,rfl⟩
 rw[hE] at hce hcl hrc hci fU hst;obtain⟨yy,xQ⟩:∃ y,cur s0 es pos=y:=⟨_,rfl⟩
 have fD:=ha.good pos;rw[xQ] at hst fD ⊢;have hat:(atE s0 (es.take pos))=(0,yy):=by
  have h1:=ha.at pos;rw[<-xQ];unfold cur;rw[<-h1]
 have HAT:=zh hat
 have ax:=zh hbx;have HF:=zh hf;have HX:=zh hx;have HR:=zh hr;have HC:=zh hc;have HG:=zh hgx;have su:=zh fD;have HN:=zh ha.n;have dP:=zh ha.es;have hblt:b<W.heap.size:=zko hbx;have wO:=zh hblt;obtain⟨RE,xL⟩:∃ l,revE E=l:=⟨_,rfl⟩
 have aL:=zwn hci;have hrl:=zwd E;rw[xL] at aL hrl;have hcle2:RE.length<=4398046511103:=by omega
 have bO:=zh xL;have hun:=fun z (hz:zkw x RE=(0,z))=>zvU (z:=z) fD hci hst (by rw[xL];exact hz);have tQ:=zh (fun w' (hb:Below W.heap.size W w')=>zwb E Aj cj w' ((hrc.keep (S':=Any) (fun _ _ _=>trivial) fun _ _ _=>rfl).later hb) hci fU);have dE:=zh (fun w' (AL:Option Addr) (cL:Nat) (hb:Below W.heap.size W w') (hl:RowC w' Any AL RE) (hl2:RE.length<=cL)=>zmC x RE _ AL cL w' ((HX.out.keep (S':=Any) (fun _ _ _=>trivial) fun _ _ _=>rfl).later hb) (HG.out.sm (by have:=HN.out;omega)) hl aL hcle2);have fB:=zmY x RE;obtain⟨R1,jN⟩:∃ R1,zkw x RE=R1:=⟨_,rfl⟩
 have HST:=zh jN;rw[jN] at fB hun;obtain⟨er,y⟩:=R1;simp only at fB;have hyl:y.Lim:=by
  by_cases h0:er=0
  ·subst h0;rw[hun y rfl];exact(fD.sm (by have:=HN.out;omega)).lim
  ·rw[fB h0];exact⟨Nat.zero_le _,fun l hl=>(by cases hl),Nat.zero_le _,Nat.zero_le _⟩
 have rJ:=zh hyl;have vD:=zh (show er=0->y=yy from fun h0=>hun y (by rw[h0]));have aY:=zh hlt;clear hE hrc hci fU hcl jN fB hyl hlt hbx hf hx hr hc hgx fD hat hst xQ hx0 xL aL hrl hcle2 hun ha hP hblt;go_enter Tryz.func38,Tryz.ntmps38;go_upto_region 3 with fail;have hSS:(fun w':World=>w'.cell? ⟨b,3,none⟩=some (.slice Ax x.cells.length cx)/\w'.cell? ⟨b,4,none⟩=some (.slice Bx x.tin.length dx)/\w'.cell? ⟨b,5,none⟩=some (.slice Dx x.tout.length ex)/\w'.cell? ⟨b,6,none⟩=some (.slice (some a) es.length c)/\w'.cell? ⟨b,7,none⟩=some (.int .i64 P)/\w'.cell? (a.add pos)=some (.slice Aj E.length cj)) W.drew/\(fun _:World=>True) W.drew:=⟨⟨y0,y1,y2,y6,y7,hce⟩,trivial⟩
 refine wp_region_noPanic ?_;refine zke (fun w':World=>w'.cell? ⟨b,3,none⟩=some (.slice Ax x.cells.length cx)/\w'.cell? ⟨b,4,none⟩=some (.slice Bx x.tin.length dx)/\w'.cell? ⟨b,5,none⟩=some (.slice Dx x.tout.length ex)/\w'.cell? ⟨b,6,none⟩=some (.slice (some a) es.length c)/\w'.cell? ⟨b,7,none⟩=some (.int .i64 P)/\w'.cell? (a.add pos)=some (.slice Aj E.length cj)) (fun _:World=>True) 22 (by kernel_rfl) ?_;refine zT 0 hSS ?_;(try simp only[zQ]);refine zT 1 hSS ?_;(try simp only[zQ]);refine zT 2 hSS ?_;(try simp only[zQ]);refine zT 3 hSS ?_;(try simp only[zQ]);refine zT 4 hSS ?_;(try simp only[zQ]);refine zT 5 hSS ?_;(try simp only[zQ]);refine zT 6 hSS ?_;(try simp only[zQ]);refine zT 7 hSS ?_;(try simp only[zQ]);refine zT 8 hSS ?_;(try simp only[zQ]);refine zT 9 hSS ?_;(try simp only[zQ]);refine zT 10 hSS ?_;(try simp only[zQ]);refine zT 11 hSS ?_;(try simp only[zQ])
 refine zT 12 hSS ?_;(try simp only[zQ]);refine zT 13 hSS ?_;(try simp only[zQ]);refine zT 14 hSS ?_;(try simp only[zQ]);have aB:=zh (show ∀ w',Below W.heap.size W w'->(fun w':World=>w'.cell? ⟨b,3,none⟩=some (.slice Ax x.cells.length cx)/\w'.cell? ⟨b,4,none⟩=some (.slice Bx x.tin.length dx)/\w'.cell? ⟨b,5,none⟩=some (.slice Dx x.tout.length ex)/\w'.cell? ⟨b,6,none⟩=some (.slice (some a) es.length c)/\w'.cell? ⟨b,7,none⟩=some (.int .i64 P)/\w'.cell? (a.add pos)=some (.slice Aj E.length cj)) w' from fun w' h=>⟨zb h y0,zb h y1,zb h y2,zb h y6,zb h y7,zb h hce⟩);clear hSS
 refine zm7 (fun A f l a wx=>∃ (l4 l5 l6 l7 l8 l9 l10:Bool) (v30 v62 v56 v63 v64 v12:Value) (Ar Ay By Dy:Option Addr) (cr cy dy ey bq:Nat),f=(!l4).toNat+(!l5).toNat+(!l6).toNat+(!l7).toNat+(!l8).toNat+(!l9).toNat+(!l10).toNat+1/\l = #[true,true,true,true,true,true,true,true,true,true,true,true,true,true,true,l4,l5,l6,l7,l8,l9,l10,false] /\
  a=(((((A.put (some 30) v30).put (some 31) v62).put (some 14) v56).put (some 32) v63).put (some 33) v64).put (some 3) v12/\Hid (Below W.heap.size W wx)/\Hid ((l5=true->l4=true)/\(l6=true->l5=true)/\(l7=true->l6=true)/\(l8=true->l6=true)/\(l10=true->l7=true/\l9=true)) /\
  Hid ((l4=true->v30=.slice Ar RE.length cr)/\(l5=true->v62=.tuple #[.agg #[.slice Ay y.cells.length cy,.slice By y.tin.length dy,.slice Dy y.tout.length ey],.int .i64 er])/\(l6=true->v56=.tuple #[.agg #[.slice Ay y.cells.length cy,.slice By y.tin.length dy,.slice Dy y.tout.length ey],.int .i64 er])/\(l7=true->v63=.agg #[.slice Ay y.cells.length cy,.slice By y.tin.length dy,.slice Dy y.tout.length ey])/\(l8=true->v64=.int .i64 er)/\(l9=true->v12=.pointer (some ⟨bq,0,none⟩)))/\Hid (l5=true->OwnS wx W.heap.size y (.agg #[.slice Ay y.cells.length cy,.slice By y.tin.length dy,.slice Dy y.tout.length ey])) /\
  Hid (l9=true->W.heap.size<=bq/\(l10=false->wx.heap[bq]?=some (.cells #[.slice none 0 0,.slice none 0 0,.slice none 0 0] 26 (0,0)))/\(l10=true->wx.heap[bq]?=some (.cells #[.slice Ay y.cells.length cy,.slice By y.tin.length dy,.slice Dy y.tout.length ey] 26 (0,0))))/\Hid (l4=true->l5=false->RowC wx Any Ar RE/\RE.length<=cr)) (fun A f l a wx h=>?_) ?_
  ⟨false,false,false,false,false,false,false,undef,undef,undef,undef,undef,undef,none,none,none,none,0,0,0,0,0,rfl,rfl,(by simp only[Act.put,zD,zE,zF]),zh (Below.refl _ _).drew,zh ⟨fun h=>(by cases h),fun h=>(by cases h),fun h=>(by cases h),fun h=>(by cases h),fun h=>(by cases h)⟩,zh ⟨fun h=>(by cases h),fun h=>(by cases h),fun h=>(by cases h),fun h=>(by cases h),fun h=>(by cases h),fun h=>(by cases h)⟩,zh fun h=>(by cases h),zh fun h=>(by cases h),zh fun h=>(by cases h)⟩
 ·obtain⟨_,_,_,_,_,_,_,_,_,_,_,_,_,_,_,_,_,_,_,_,_,_,_,_,_,hb,_⟩:=h;exact⟨aB.out _ hb.out,trivial⟩
 rintro A' hA f l a wx ⟨l4,l5,l6,l7,l8,l9,l10,v30,v62,v56,v63,v64,v12,Ar,Ay,By,Dy,cr,cy,dy,ey,bq,hf,rfl,ha,ae,HC,bJ,kP,ax,iw⟩;by_cases hall:(l4&&l5&&l6&&l7&&l8&&l9&&l10)=true
 ·left
  simp only[Bool.and_eq_true] at hall;obtain⟨⟨⟨⟨⟨⟨rfl,rfl⟩,rfl⟩,rfl⟩,rfl⟩,rfl⟩,rfl⟩:=hall;obtain⟨g30,wS,wT,wR,wQ,g12⟩:=bJ.out;obtain rfl:=g30 rfl;obtain rfl:=wS rfl;obtain rfl:=wT rfl;obtain rfl:=wR rfl;obtain rfl:=wQ rfl;obtain rfl:=g12 rfl;subst hf ha hA;have xB:=zh (kP.out rfl);obtain⟨hb1,-,hb3⟩:=ax.out rfl;have hbx:=hb3 rfl;have bE:=zh hbx;have qP:=zh hb1;clear g30 wS wT wR wQ g12 hb3 hbx hb1 ax kP bJ HC iw;refine zp 22 fun K hK=>?_;(try simp only[zQ]);go_simp;refine hK.out _ _ (aB.out _ ae.out) ?_;clear hK K;(try simp only[zQ]);refine zd ?_;refine NoPanic.normal ?_;have aR:=zh ae.out;have fI:=zh (zkc ax.out aR.out);have xe:=zh ((xB.out.svR rJ.out).keep (S':=Cb n0 b) (fun q h1 h2=>by have h1:W.heap.size<=q:=h1;have:=wO.out;have:=hnb;exact⟨by omega,by omega⟩) fun _ _ _=>rfl);have hxk:=fI.out;obtain⟨z0,z1,z2⟩:=zlp bE.out
  clear y0 y1 y2 y6 y7 hce;by_cases h0:er=0
  ·have xC:=xe;obtain rfl:=vD.out h0;subst h0;clear xe;have y7:wx.cell? ⟨b,7,none⟩=some (.int .i64 P):=zc hxk rfl;have x3:wx.cell? ⟨b,3,none⟩=some (.slice Ax x.cells.length cx):=zc hxk rfl;have x4:wx.cell? ⟨b,4,none⟩=some (.slice Bx x.tin.length dx):=zc hxk rfl;have x5:wx.cell? ⟨b,5,none⟩=some (.slice Dx x.tout.length ex):=zc hxk rfl;have cf:∀ o,wx.frozen? ⟨b,o,none⟩=false:=fun o=>zf hxk;obtain⟨w9,aZ,hch,hh⟩:=setC (.slice Ay y.cells.length cy) (.slice By y.tin.length dy) (.slice Dy y.tout.length ey) (.int .i64 (pos:Int)) hxk;have bQ:=zh hch;have gH:=zh hh;have lM:=zh aZ;clear hch hh aZ hxk;go_wp2_with fail;rw[lM.out];go_ret;have wU:=zh ((Chg.of_below (C:=fun q=>q=b) aR.out).trans2 bQ.out fun _ _ h=>h);have hkp:∀ q,Cb n0 b q->q<W.heap.size->w9.heap[q]?=W.heap[q]?:=fun q h1 h2=>wU.out.block q h2 h1.2
   exact⟨rfl,wU.out,⟨f1,f2,f3,_,_,_,_,_,gH.out,HF.out.keep (fun _ h _=>h) hkp,xC.out.keep (fun _ h _=>h) fun q h1 h2=>bQ.out.block q h2 h1.2,HR.out.keep (fun _ h _=>h) hkp,HC.out⟩,hnb⟩
  ·have hne:(er==0)=false:=by simpa using h0
   have hne2:(er != 0)=true:=by simpa using h0
   have HERR:=zh h0;have y7:wx.cell? ⟨b,7,none⟩=some (.int .i64 P):=zc hxk rfl;have hat:=zu6 (dQ.out.later aR.out) pos (Nat.le_of_lt aY.out) xY.out.g HN.out dP.out;rw[HAT.out] at hat
   have HATC:=zh hat
   clear h0 hxk hat xe vD;go_wp2_with fail;refine HATC.out.mono ?_;rintro e6 w6 ⟨hb6,v6,rfl,hv6⟩;obtain⟨A6,c6,B6,d6,D6,e6,rfl⟩:=hv6.slices;have dD:=zh hb6;have HV6:=zh hv6;have xK:=zkc bE.out hb6;have cf6:∀ o,w6.frozen? ⟨bq,o,none⟩=false:=fun o=>zf xK;obtain⟨u0,u1,u2⟩:=zlp xK;obtain⟨w8,hw8,nV,xx⟩:=set3 (.slice A6 yy.cells.length c6) (.slice B6 yy.tin.length d6) (.slice D6 yy.tout.length e6) xK;have HW8:=zh hw8;have fu:=zh nV;have xX:=zh xx;clear hb6 hv6 xK hw8 nV xx HATC z0 z1 z2 y7;go_upto_region 6 with fail;rw[HW8.out];have xk:=zh (show Below W.heap.size W w8 from (zka aR.out dD.out).trans (fu.out.below (zka aR.out dD.out).size fun q e=>by have e:q=bq:=e;have:=qP.out;omega));have hxk:=zkc ax.out xk.out;obtain⟨z0,z1,z2⟩:=zlp xX.out
   have xC:=zh (HV6.out.keep (S':=Cb n0 b) (fun q h1 h2=>by have h1:wx.heap.size<=q:=h1;have:=wO.out;have:=aR.out.size;have:=hnb;exact⟨by omega,by omega⟩) fun q h1 h2=>fu.out.block q h2 (by have h1:wx.heap.size<=q:=h1;have:=zko bE.out;show ¬ (q=bq);omega));clear aR cf6 u0 u1 u2 HW8 fu;have aR:=xk;clear xk;have y7:w8.cell? ⟨b,7,none⟩=some (.int .i64 P):=zc hxk rfl;have x3:w8.cell? ⟨b,3,none⟩=some (.slice Ax x.cells.length cx):=zc hxk rfl;have x4:w8.cell? ⟨b,4,none⟩=some (.slice Bx x.tin.length dx):=zc hxk rfl;have x5:w8.cell? ⟨b,5,none⟩=some (.slice Dx x.tout.length ex):=zc hxk rfl;have cf:∀ o,w8.frozen? ⟨b,o,none⟩=false:=fun o=>zf hxk;obtain⟨w9,aZ,hch,hh⟩:=setC (.slice A6 yy.cells.length c6) (.slice B6 yy.tin.length d6) (.slice D6 yy.tout.length e6) (.int .i64 (pos:Int)) hxk;have bQ:=zh hch;have gH:=zh hh;have lM:=zh aZ;clear hch hh aZ hxk;go_wp2_with fail
   rw[lM.out];go_ret;have wU:=zh ((Chg.of_below (C:=fun q=>q=b) aR.out).trans2 bQ.out fun _ _ h=>h);have hkp:∀ q,Cb n0 b q->q<W.heap.size->w9.heap[q]?=W.heap[q]?:=fun q h1 h2=>wU.out.block q h2 h1.2;exact⟨rfl,wU.out,⟨f1,f2,f3,_,_,_,_,_,gH.out,HF.out.keep (fun _ h _=>h) hkp,xC.out.keep (fun _ h _=>h) fun q h1 h2=>bQ.out.block q h2 h1.2,HR.out.keep (fun _ h _=>h) hkp,HC.out⟩,hnb⟩
 ·right
  have au:=HC.out;refine⟨f-1,?_,?_,?_⟩
  ·clear HC au bJ kP ax iw ha ae;subst hf;revert hall;revert l4 l5 l6 l7 l8 l9 l10
   decide
  ·clear HC bJ kP ax iw ha ae hf;revert hall au;revert l4 l5 l6 l7 l8 l9 l10
   decide +kernel
  intro i hi;have hcase:(i=15/\l4=false)\/(i=16/\l5=false/\l4=true)\/(i=17/\l6=false/\l5=true)\/(i=18/\l7=false/\l6=true)\/(i=19/\l8=false/\l6=true)\/(i=20/\l9=false)\/(i=21/\l10=false/\l7=true/\l9=true):=by
   refine of_decide_eq_true ((List.all_eq_true (p:=fun i=>decide ((i=15/\l4=false)\/(i=16/\l5=false/\l4=true)\/(i=17/\l6=false/\l5=true)\/(i=18/\l7=false/\l6=true)\/(i=19/\l8=false/\l6=true)\/(i=20/\l9=false)\/(i=21/\l10=false/\l7=true/\l9=true)))).1 ?_ i hi);clear HC bJ kP ax iw ha ae hf hi;revert hall au;revert l4 l5 l6 l7 l8 l9 l10
   decide +kernel
  clear hi hall;subst ha hA;obtain⟨c1,c2,c3,c4,c5⟩:=au;rcases hcase with⟨rfl,rfl⟩|⟨rfl,rfl,rfl⟩|⟨rfl,rfl,rfl⟩|⟨rfl,rfl,rfl⟩|⟨rfl,rfl,rfl⟩|⟨rfl,rfl⟩|⟨rfl,rfl,rfl,rfl⟩
  ·refine wpOp_step rfl (fun K' aG=>?_);have hK:=zh aG;clear aG;obtain rfl:l5=false:=by
    rcases l5 with _|_
    ·rfl
    ·exact absurd (c1 rfl) (by decide)
   obtain rfl:l6=false:=by
    rcases l6 with _|_
    ·rfl
    ·exact absurd (c2 rfl) (by decide)
   obtain rfl:l7=false:=by
    rcases l7 with _|_
    ·rfl
    ·exact absurd (c3 rfl) (by decide)
   obtain rfl:l8=false:=by
    rcases l8 with _|_
    ·rfl
    ·exact absurd (c4 rfl) (by decide)
   obtain rfl:l10=false:=by
    rcases l10 with _|_
    ·rfl
    ·exact absurd (c5 rfl).1 (by decide)
   have had:Calls Tryz.prog 82 [.slice Aj E.length cj].toArray wx fun e W'=>∃ u,e=.returned u/\(∃ (Ar:Option Addr) (cr:Nat),u=.slice Ar RE.length cr/\RowC W' Any Ar RE/\RE.length<=cr/\Below wx.heap.size wx W') :=
    (tQ.out wx ae.out).mono fun e W' ⟨v,h1,h2,h3⟩=>by
     rw[bO.out] at h2;obtain⟨Ar,cr,rfl,h4,h5⟩:=h2.rowC;exact⟨_,h1,Ar,cr,rfl,h5.keep (fun _ _ _=>trivial) (fun _ _ _=>rfl),h4,h3⟩
   refine zkg (by rfl) (.func 82) [.tmp 29] _ (by rfl) 82 _ zwk (by rfl) _ (by rfl) _ had ?_;rintro v w' ⟨Ar',cr',rfl,hr1,hr2,hb⟩;exact hK.out _ _ ⟨true,false,false,false,false,l9,false,_,v62,v56,v63,v64,v12,Ar',Ay,By,Dy,cr',cy,dy,ey,bq,(by subst hf;simp only[Bool.not_false,Bool.not_true,Bool.toNat_true,Bool.toNat_false];omega),rfl,(by simp only[zQ]),zh (zka ae.out hb),zh ⟨fun _=>rfl,fun h=>(by cases h),fun h=>(by cases h),fun h=>(by cases h),fun h=>(by cases h)⟩,zh ⟨fun _=>rfl,fun h=>(by cases h),fun h=>(by cases h),fun h=>(by cases h),fun h=>(by cases h),bJ.out.2.2.2.2.2⟩,zh (fun h=>(by cases h)),zh fun h9=>by
    obtain⟨g1,g2,-⟩:=ax.out h9;exact⟨g1,fun _=>zkc (g2 rfl) hb,fun h=>(by cases h)⟩
    ,zh fun _ _=>⟨hr1,hr2⟩⟩
  ·refine wpOp_step rfl (fun K' aG=>?_);have hK:=zh aG;clear aG;obtain rfl:=bJ.out.1 rfl;obtain⟨hr1,hr2⟩:=iw.out rfl rfl;obtain rfl:l6=false:=by
    rcases l6 with _|_
    ·rfl
    ·exact absurd (c2 rfl) (by decide)
   obtain rfl:l7=false:=by
    rcases l7 with _|_
    ·rfl
    ·exact absurd (c3 rfl) (by decide)
   obtain rfl:l8=false:=by
    rcases l8 with _|_
    ·rfl
    ·exact absurd (c4 rfl) (by decide)
   obtain rfl:l10=false:=by
    rcases l10 with _|_
    ·rfl
    ·exact absurd (c5 rfl).1 (by decide)
   have had:Calls Tryz.prog 26 [.agg #[.slice Ax x.cells.length cx,.slice Bx x.tin.length dx,.slice Dx x.tout.length ex],.slice Ar RE.length cr].toArray wx fun e W'=>∃ u,e=.returned u/\(∃ (Ay By Dy:Option Addr) (cy dy ey:Nat),u=.tuple #[.agg #[.slice Ay y.cells.length cy,.slice By y.tin.length dy,.slice Dy y.tout.length ey],.int .i64 er]/\OwnS W' W.heap.size y (.agg #[.slice Ay y.cells.length cy,.slice By y.tin.length dy,.slice Dy y.tout.length ey])/\Below wx.heap.size wx W') :=
    (dE.out wx _ _ ae.out hr1 hr2).mono fun e W' ⟨v,h1,h2,h3⟩=>by
     rw[HST.out] at h1 h3;obtain⟨Ay,cy,By,dy,Dy,ey,rfl⟩:=h3.slices;exact⟨_,h1,Ay,By,Dy,cy,dy,ey,rfl,h3.mono ae.out.size,h2⟩
   refine zkg (by rfl) (.func 26) [.tmp 18,.tmp 30] _ (by rfl) 26 _ zn8 (by rfl) _ (by rfl) _ had ?_;rintro v w' ⟨xI,xH,xG,xA,xz,xy,rfl,ho,hb⟩;exact hK.out _ _ ⟨true,true,false,false,false,l9,false,_,_,v56,v63,v64,v12,Ar,xI,xH,xG,cr,xA,xz,xy,bq,(by subst hf;simp only[Bool.not_false,Bool.not_true,Bool.toNat_true,Bool.toNat_false];omega),rfl,(by simp only[zQ]),zh (zka ae.out hb),zh ⟨fun _=>rfl,fun h=>(by cases h),fun h=>(by cases h),fun h=>(by cases h),fun h=>(by cases h)⟩,zh ⟨fun _=>rfl,fun _=>rfl,fun h=>(by cases h),fun h=>(by cases h),fun h=>(by cases h),bJ.out.2.2.2.2.2⟩,zh fun _=>ho,zh fun h9=>by
    obtain⟨g1,g2,-⟩:=ax.out h9;exact⟨g1,fun _=>zkc (g2 rfl) hb,fun h=>(by cases h)⟩
    ,zh fun _ h=>(by cases h)⟩
  ·refine wpOp_step rfl (fun K' aG=>?_);have hK:=zh aG;clear aG;obtain rfl:=bJ.out.2.1 rfl;(try simp only[zQ]);go_simp;exact hK.out _ _ ⟨l4,true,true,l7,l8,l9,l10,_,_,_,v63,v64,v12,Ar,Ay,By,Dy,cr,cy,dy,ey,bq,(by subst hf;simp only[Bool.not_false,Bool.not_true,Bool.toNat_true,Bool.toNat_false];omega),rfl,(by simp only[zQ]),ae,zh ⟨c1,fun _=>rfl,fun _=>rfl,fun _=>rfl,c5⟩,zh ⟨bJ.out.1,fun _=>rfl,fun _=>rfl,bJ.out.2.2.2⟩,kP,ax,iw⟩
  ·refine wpOp_step rfl (fun K' aG=>?_);have hK:=zh aG;clear aG;obtain rfl:=bJ.out.2.2.1 rfl;(try simp only[zQ]);go_simp;exact hK.out _ _ ⟨l4,l5,true,true,l8,l9,l10,_,_,_,_,v64,v12,Ar,Ay,By,Dy,cr,cy,dy,ey,bq,(by subst hf;simp only[Bool.not_false,Bool.not_true,Bool.toNat_true,Bool.toNat_false];omega),rfl,(by simp only[zQ]),ae,zh ⟨c1,c2,fun _=>rfl,fun _=>rfl,fun h=>⟨rfl,(c5 h).2⟩⟩,zh ⟨bJ.out.1,bJ.out.2.1,fun _=>rfl,fun _=>rfl,bJ.out.2.2.2.2⟩,kP,ax,iw⟩
  ·refine wpOp_step rfl (fun K' aG=>?_);have hK:=zh aG;clear aG;obtain rfl:=bJ.out.2.2.1 rfl;(try simp only[zQ]);go_simp;exact hK.out _ _ ⟨l4,l5,true,l7,true,l9,l10,_,_,_,_,_,v12,Ar,Ay,By,Dy,cr,cy,dy,ey,bq,(by subst hf;simp only[Bool.not_false,Bool.not_true,Bool.toNat_true,Bool.toNat_false];omega),rfl,(by simp only[zQ]),ae,zh ⟨c1,c2,fun _=>rfl,fun _=>rfl,c5⟩,zh ⟨bJ.out.1,bJ.out.2.1,fun _=>rfl,bJ.out.2.2.2.1,fun _=>rfl,bJ.out.2.2.2.2.2⟩,kP,ax,iw⟩
  ·refine wpOp_step rfl (fun K' aG=>?_);have hK:=zh aG;clear aG;obtain rfl:l10=false:=by
    rcases l10 with _|_
    ·rfl
    ·exact absurd (c5 rfl).2 (by decide)
   (try simp only[zQ]);go_simp;exact hK.out _ _ ⟨l4,l5,l6,l7,l8,true,false,v30,v62,v56,v63,v64,_,Ar,Ay,By,Dy,cr,cy,dy,ey,wx.heap.size,(by subst hf;simp only[Bool.not_false,Bool.not_true,Bool.toNat_true,Bool.toNat_false];omega),rfl,(by simp only[zQ]),zh (zkd ae.out _),zh ⟨c1,c2,c3,c4,fun h=>(by cases h)⟩,zh ⟨bJ.out.1,bJ.out.2.1,bJ.out.2.2.1,bJ.out.2.2.2.1,bJ.out.2.2.2.2.1,fun _=>rfl⟩,zh (fun h=>(kP.out h).later (zkd (Below.refl _ _) _)),zh fun _=>⟨ae.out.size,fun _=>heap_alloc_new wx _,fun h=>(by cases h)⟩,zh (fun h h'=>⟨(iw.out h h').1.later (zkd (Below.refl _ _) _),(iw.out h h').2⟩)⟩
  ·refine wpOp_step rfl (fun K' aG=>?_);have hK:=zh aG;clear aG;have h6:=c3 rfl;have h5:=c2 h6;have h4:=c1 h5;subst h6 h5 h4;obtain rfl:=bJ.out.2.2.2.1 rfl;obtain rfl:=bJ.out.2.2.2.2.2 rfl;have ho:=kP.out (Eq.refl true);have nY:=ax.out (Eq.refl true);have g1:=nY.1;have hbx:=nY.2.1 (Eq.refl false);clear nY;have q0:wx.cell? ⟨bq,0,none⟩=some (.slice none 0 0):=zc hbx rfl;have q1:wx.cell? ⟨bq,1,none⟩=some (.slice none 0 0):=zc hbx rfl;have q2:wx.cell? ⟨bq,2,none⟩=some (.slice none 0 0):=zc hbx rfl;have cf:∀ o,wx.frozen? ⟨bq,o,none⟩=false:=fun o=>zf hbx;(try simp only[zQ]);go_simp;have hch:Chg (fun q=>q=bq) wx (((wx.setCell ⟨bq,0,none⟩ (.slice Ay y.cells.length cy)).setCell ⟨bq,1,none⟩ (.slice By y.tin.length dy)).setCell ⟨bq,2,none⟩ (.slice Dy y.tout.length ey)) :=
    (((Chg.refl (fun q=>q=bq) wx).setCell (p:=⟨bq,0,none⟩) (.inl rfl) _).setCell (p:=⟨bq,1,none⟩) (.inl rfl) _).setCell (p:=⟨bq,2,none⟩) (.inl rfl) _
   have hh:=heap_setCell_same _ bq 2 _ _ (.slice Dy y.tout.length ey) (heap_setCell_same _ bq 1 _ _ (.slice By y.tin.length dy) (heap_setCell_same wx bq 0 _ _ (.slice Ay y.cells.length cy) hbx));have xw:=ho.chgV hch hbx;exact hK.out _ _ ⟨true,true,true,true,l8,true,true,_,_,_,_,v64,_,Ar,Ay,By,Dy,cr,cy,dy,ey,bq,(by subst hf;simp only[Bool.not_false,Bool.not_true,Bool.toNat_true,Bool.toNat_false];omega),rfl,(by simp only[zQ]),zh (ae.out.trans (hch.below ae.out.size fun q e=>by omega)),zh ⟨fun _=>rfl,fun _=>rfl,fun _=>rfl,fun _=>rfl,fun _=>⟨rfl,rfl⟩⟩,bJ,zh (fun _=>xw),zh fun _=>⟨g1,fun h=>(by cases h),fun _=>(by simpa using hh)⟩,zh fun _ h=>(by cases h)⟩
theorem zv6 (x:SS) (es:List (List CH)):zqu x es es.length=(false,x,es.length):=by
 unfold zqu;exact if_neg fun h=>absurd h.1 (Nat.lt_irrefl _)
theorem zwc {W:World} {n0 b:Nat} {s0 x:SS} {es:List (List CH)} {pos:Nat} (h:Cu W n0 b s0 x es pos) (t:Int) (ht:t<0\/(es.length:Int)<t) :
  Calls Tryz.prog 35 #[.pointer (some ⟨b,0,none⟩),.int .i64 t] W (fun e W'=>W'=W/\e=.returned (.int .i64 2)):=by
 have y6:∃ A c,W.cell? ⟨b,6,none⟩=some (.slice A es.length c):=by
  obtain⟨⟨f1,f2,f3,g1,g2,g3,A,c,hbx,hf,hx,hr,hc⟩,hnb⟩:=h;exact⟨A,c,zc hbx rfl⟩
 obtain⟨A,c,y6⟩:=y6;clear h;by_cases h0:t<0
 ·clear ht;go_enter Tryz.func35,Tryz.ntmps35;go_wp2_with fail;go_ret;exact⟨rfl,rfl⟩
 ·have h1:(es.length:Int)<t:=by omega
  clear ht;go_enter Tryz.func35,Tryz.ntmps35;go_wp2_with fail;go_ret;exact⟨rfl,rfl⟩
theorem zv0 {W:World} {n0 b:Nat} {s0 x:SS} {es:List (List CH)} (h:Cu W n0 b s0 x es 0) :
  Calls Tryz.prog 38 #[.pointer (some ⟨b,0,none⟩)] W (fun e W'=>W'=W/\e=.returned (.bool false)):=by
 obtain⟨⟨f1,f2,f3,g1,g2,g3,A,c,hbx,hf,hx,hr,hc⟩,hnb⟩:=h;have y:W.cell? ⟨b,7,none⟩=some (.int .i64 ((0:Nat):Int)):=zc hbx rfl;have h0:((0:Nat):Int)<=0:=by decide
 clear hbx hf hx hr hc;go_enter Tryz.func38,Tryz.ntmps38;go_wp2_with fail;go_ret;exact⟨rfl,rfl⟩
end Go.Proofs.YtckhofdinldhpaaGreat
namespace Go.Proofs.YtckhofdinldhpaaGreat
open Go.RowKit Go.ChangeShapes Go.WideShapes Go.ChangeAt Go.Deep
theorem zwl:Tryz.prog.cellsOf 71=1:=by kernel_rfl
theorem zwm:Tryz.prog.bytesOf 71=1:=by kernel_rfl
def RowY (w:World) (A:Option Addr) (xs:List Int):Prop :=
 ∀ i (hi:i<xs.length),∃ a,A=some a/\w.cell? (a.add i)=some (.int .i8 xs[i]) /\ -128<=xs[i]/\xs[i]<=127
theorem RowY.keep {w w':World} {A:Option Addr} {xs:List Int} (h:RowY w A xs) (hk:∀ b,b<w.heap.size->w'.heap[b]?=w.heap[b]?):RowY w' A xs:=fun i hi=>by
 obtain⟨a,e,h1,h2⟩:=h i hi;have hlt:(a.add i).block<w.heap.size:=World.block_lt_of_cell? w _ h1;exact⟨a,e,zkG h1 (hk _ hlt),h2⟩
theorem RowY.later {w w':World} {A:Option Addr} {xs:List Int} (h:RowY w A xs) (hb:Below w.heap.size w w'):RowY w' A xs:=h.keep fun b hlt=>hb.block b hlt
theorem zv5 {H:Type} {enc:TypeId×Value->H} {w:World} {held:Bool} {fuel:Nat} {cs:List Value} {x:DataW H×List MemPlace} (h:DataW.trod enc Tryz.prog w 0 (fun _=>true) held fuel 67 cs=some x) (hw:∀ q∈x.1.weights Tryz.prog 67,q<=reachBytes) :
  ∃ (A:Option Addr) (l:List Int) (c:Nat),cs=[.slice A l.length c]/\RowY w A l/\l.length<=reachBytes/\l.length<=c:=by
 rcases zna Tryz.underlying67 zwl zwm h hw with rfl|⟨a,len,cap,rfl,hl,hcap,hat⟩
 ·exact⟨none,[],0,rfl,fun i hi=>absurd hi (by simp),Nat.zero_le _,Nat.zero_le _⟩
 ·obtain⟨l,hvl,hvs⟩:=zlV (n:=len) (P:=fun i (x:Int)=>w.cells? 0 (a.add (i*1)) 1=some [.int .i8 x] /\ -128<=x/\x<=127) fun i hi=>by
   obtain⟨cs',y,n',hcs,ht,_⟩:=hat i hi;obtain⟨m,e1,e1',wm⟩:=DataW.trod_int Tryz.underlying71 ht;refine⟨m,by rw[hcs,e1],?_⟩;have:=wm;simp[Lit.wf,IntKind.min,IntKind.max,IntKind.signed,IntKind.bits] at this
   constructor<;>omega
  refine⟨some a,l,cap,by rw[hvl],fun i hi=>?_,by omega,by omega⟩;obtain⟨hc,hf⟩:=hvs i hi;rw[Nat.mul_one] at hc;exact⟨a,rfl,zut hc,hf⟩
theorem zwp {H:Type} {enc:TypeId×Value->H} {W:World} {base:Nat} {v:Value} {d:DataW H} {p:List MemPlace} (hok:Value.okWide Tryz.prog W .any base 67 v)
  (h:DataW.Trod enc Tryz.prog W 0 (fun _=>true) true 67 v d p) (hw:∀ n∈d.weights Tryz.prog 67,n<=reachBytes):∃ (A:Option Addr) (xs:List Int) (c:Nat),v=.slice A xs.length c/\RowY W A xs/\xs.length<=reachBytes:=by
 obtain⟨a,len,cap,rfl⟩:=okWide_slice Tryz.underlying67 hok;obtain⟨fuel,hf⟩:=h;obtain⟨A,xs,c,e,hr,h1,h2⟩:=zv5 hf hw;refine⟨A,xs,c,?_,hr,h1⟩;simpa[Value.cells] using e
end Go.Proofs.YtckhofdinldhpaaGreat
namespace Go.Proofs.YtckhofdinldhpaaGreat
open Go Go.RowKit
structure MvI (w6 wr:World) (n0 b:Nat) (s:SS) (es:List (List CH)) (p:Nat):Prop where
 le:p<=es.length
 cu:Cu wr n0 b s (cur s es p) es p
 chg:Chg (fun q=>q=b) w6 wr
theorem MvI.move {w6 wr w':World} {n0 b:Nat} {s:SS} {es:List (List CH)} {p p':Nat} (h:MvI w6 wr n0 b s es p) (hc:Chg (fun q=>q=b) wr w') (hu:Cu w' n0 b s (cur s es p') es p') (hle:p'<=es.length):MvI w6 w' n0 b s es p':=⟨hle,hu,h.chg.trans2 hc fun _ _ h=>h⟩
theorem MvI.later {w6 wr w':World} {n0 b:Nat} {s:SS} {es:List (List CH)} {p:Nat} (h:MvI w6 wr n0 b s es p) (hb:Below wr.heap.size wr w'):MvI w6 w' n0 b s es p:=h.move (Chg.of_below hb) (h.cu.later hb) h.le
theorem zwh {n:Nat} {s:SS} {es:List (List CH)} (ha:AllX n s es) {p:Nat} (hp:p<=es.length) :
  zqu (cur s es p) es p=(decide ((p:Int)<(es.length:Int)),cur s es (if p<es.length then p+1 else p),if p<es.length then p+1 else p):=by
 by_cases h:p<es.length
 ·rw[ha.next h,if_pos h];have:(p:Int)<(es.length:Int):=by omega
  simp[this]
 ·obtain rfl:p=es.length:=by omega
  rw[zv6];simp
theorem zwr:IsFn Tryz.prog 39 Tryz.f39:=⟨Tryz.func39,by kernel_rfl,by kernel_rfl⟩
theorem zv8:IsFn Tryz.prog 34 Tryz.f34:=⟨Tryz.func34,by kernel_rfl,by kernel_rfl⟩
theorem zvV (s:SS) (es:List (List CH)) (xs:List Int) (A0:Option Addr) (c0:Nat) (Am:Option Addr) (cm:Nat) (sv:Value) (W:World) (hs:SV W Any s sv) (he:RowE W Any A0 es) (hel:es.length<=4398046511103*2) (hee:∀ e∈es,e.length<=4398046511103/\∀ q∈e,q.I) (hm:RowY W Am xs) (rq:xs.length<=4398046511103*32) :
  Calls Tryz.prog 9 #[sv,.slice A0 es.length c0,.slice Am xs.length cm] W fun e W'=>e=.returned (.bool true)/\Below W.heap.size W W':=by
 have HM:=zh hm;have HML:=zh rq;clear hm rq;obtain⟨A,c,B,d,D,e,rfl⟩:=hs.slices;have HI:=zh (zom hs);have HE:=zh he;have kS:=zh hel;have sG:=zh hee;obtain⟨n,hn⟩:∃ n,s.cells.length=n:=⟨_,rfl⟩
 have HN:=zh hn;rw[hn] at hs;rw[hn];have HS:=zh hs;have k1:=heap_alloc_new W (.cells #[.slice A n c,.slice B s.tin.length d,.slice D s.tout.length e] 26);have hb1:=zkd (Below.refl W.heap.size W) (.cells #[.slice A n c,.slice B s.tin.length d,.slice D s.tout.length e] 26);obtain⟨w1,hw1⟩:∃ x,W.alloc (.cells #[.slice A n c,.slice B s.tin.length d,.slice D s.tout.length e] 26)=x:=⟨_,rfl⟩
 rw[hw1] at k1 hb1;have HB1:=zh hb1;have aN:=zh k1;have HW1:=zh hw1;have xE:=zh (zqO w1);clear hs he hel hee hn k1 hb1;go_enter Tryz.func9,Tryz.ntmps9;go_wp2_with fail;refine xE.out.mono ?_;rintro e2 w2 ⟨rfl,hb2⟩;clear hw1 xE;obtain⟨s0,s1,s2⟩:=zlp (zkc aN.out hb2);have HB2:=zh (zka HB1.out hb2);have bE:=zh hb2;have hev:=zqI (c0:=c0) (HS.out.later HB2.out) (HE.out.later HB2.out) kS.out (fun e he=>(sG.out e he).1) (v:=.agg #[.slice A n c,.slice B s.tin.length d,.slice D s.tout.length e]);have um:=zh hev;clear hev hb2;go_wp2_with fail;refine um.out.mono ?_;rintro e3 w4 ⟨r,rfl,hr,hb4⟩;have aM:=zh hb4;have az:=zh (zka HB2.out hb4)
 replace s0:=zb hb4 s0
 replace s1:=zb hb4 s1
 replace s2:=zb hb4 s2
 clear hb4 um;rcases hr with rfl|⟨rfl,hr⟩
 ·go_wp2_with fail;go_ret;exact⟨rfl,az.out⟩
 have dU:=zh hr;have HG:=zh (show zmr n s from ⟨HN.out,fun l hl=>by have:=hr.row l hl;omega,by have:=hr.tin;omega,by have:=hr.tout;omega,HI.out⟩);have aX:=zh (show n<=1000 by have:=hr.cells;have:=HN.out;omega);have dP:=zh (show EvOk es from ⟨by have:=hr.n;omega,fun e he=>⟨(sG.out e he).2,(sG.out e he).1⟩⟩);clear hr;by_cases hm40:(40:Int)<(xs.length:Int)
 ·go_wp2_with fail;go_ret;exact⟨rfl,az.out⟩
 have hst:=zvY (c:=c0) (HS.out.later az.out) (HE.out.later az.out) HG.out aX.out dP.out (by have:=dU.out.n;omega);have HST:=zh hst;clear hst;go_wp2_with fail;refine HST.out.mono ?_;rintro e5 w5 ⟨hb5,qi⟩
 replace s0:=zb hb5 s0
 replace s1:=zb hb5 s1
 replace s2:=zb hb5 s2
 have kC:=zh hb5;have aW:=zh (zka az.out hb5);have hcn:=ztB (c:=c0) (HS.out.later aW.out) (HE.out.later aW.out) HG.out aX.out dP.out (fun e he=>by have:=dU.out.ev e he;omega);have xD:=zh hcn;clear hb5 hcn HST;obtain⟨hat,v5,rfl,hrow⟩|⟨hat,rfl⟩:=qi;rotate_left 1
 ·go_wp2_with fail;refine xD.out.mono ?_;rintro e6 w6 ⟨hb6,iW⟩;obtain⟨hok,-⟩|⟨hne,rfl⟩:=iW
  ·exact absurd hok hat
  ·obtain⟨er,her⟩:∃ q,(atE s es).1=q:=⟨_,rfl⟩
   rw[her] at hne ⊢;have hnb:(er==0)=false:=by simpa using hne
   have hnb2:(er != 0)=true:=by simpa using hne
   have dD:=zh (zka aW.out hb6);clear hat her hb6;go_wp2_with fail;go_ret;exact⟨rfl,dD.out⟩
 have dN:=zh (show AllX n s es from ⟨hat,HG.out,aX.out,dP.out⟩);have ag:=zh hrow;obtain⟨g,cap,hv5⟩:∃ g cap,v5=.slice (some ⟨g,0,none⟩) (stsE s es es.length).length cap:=by
  obtain⟨g,cap,_,_,_,_,_,_,h1,-⟩:=hrow.nd (k:=0) (by rw[zvK];omega);exact⟨g,cap,h1⟩
 subst hv5;obtain⟨NL,xU⟩:∃ q,(stsE s es es.length).length=q:=⟨_,rfl⟩
 have xW:=zh xU;rw[xU];clear hrow xU;go_wp2_with fail;refine xD.out.mono ?_;rintro e6 w6 ⟨hb6,iW⟩;obtain⟨-,b,rfl,jD⟩|⟨hne,-⟩:=iW;rotate_left 1
 ·exact absurd hat hne
 have xm:=zh hb6;have dD:=zh (zka aW.out hb6);have dQ:=zh jD;have o6:=zh jD.nb;clear hat hb6 jD xD s0 s1 s2;go_wp2_with fail
 go_loopw [11,12,13,14,15] (fun pv i kv tv fv wr=>∃ p j:Nat,j<=xs.length/\pv=.int .i64 p/\i=.int .i64 j/\Hid (MvI w6 wr w5.heap.size b s es p)) (fun _ i _ _ _ _=>xs.length-(intOf i).toNat)
 case atStart=>exact⟨0,0,Nat.zero_le _,rfl,rfl,zh ⟨Nat.zero_le _,dQ.out,Chg.refl _ _⟩⟩
 case round =>
  obtain⟨p,j,hj,rfl,rfl,wF⟩:=hrel;by_cases hlt:j<xs.length
  ·have hj1:(j:Int)<(xs.length:Int):=by omega
   have hj0:(0:Int)<=(j:Int):=by omega
   have iC:IntKind.i64.wrap ((j:Int)+1)=(j:Int)+1:=IntWalk.i64_in _ (by have:=HML.out;omega);have iB:=zh (dD.out.trans (wF.out.chg.below dD.out.size fun q e=>by have e:q=b:=e;have:=o6.out;have:=aW.out.size;omega));obtain⟨am,rfl,hmc,hk1,hk2⟩:=(HM.out.later iB.out) j hlt;obtain⟨K,hK⟩:∃ k,xs[j]=k:=⟨_,rfl⟩
   rw[hK] at hmc hk1 hk2;have aY:=zh hlt;obtain⟨M,hMM⟩:∃ m,K.tmod 3=m:=⟨_,rfl⟩
   obtain⟨T,hTT⟩:∃ m,K.tdiv 3=m:=⟨_,rfl⟩
   have hM1 : -3<M/\M<3:=by
    rw[<-hMM];exact⟨by have:=Int.lt_tmod_of_pos K (show(0:Int)<3 by decide);omega,Int.tmod_lt_of_pos K (by decide)⟩
   have hT1 : -128<=T/\T<=127:=by
    have h1:=Int.mul_tdiv_add_tmod K 3;rw[hMM,hTT] at h1;omega
   have hwk:IntKind.i64.wrap K=K:=IntWalk.i64_in _ (by omega);have hwm:IntKind.i64.wrap M=M:=IntWalk.i64_in _ (by omega);have hwt:IntKind.i64.wrap T=T:=IntWalk.i64_in _ (by omega);have HT:=zh hT1;have hpl:=wF.out.le;have HEL2:=zh dP.out.1;clear hK hlt hk1 hk2 hM1 hT1
   go_upto_block 2 with fail
   go_cut [11,14,15] from 64 to 123 (fun pv tv fv wx=>∃ p':Nat,pv=.int .i64 p'/\Hid (MvI w6 wx w5.heap.size b s es p'))
   case first =>
    have hel1:es.length<=1000000:=HEL2.out;by_cases hM0:M=0
    ·subst hM0;have hnx:=zso wF.out.cu (dN.out.good p) aX.out dP.out wF.out.le;rw[zwh dN.out wF.out.le] at hnx;have hwp:IntKind.i64.wrap ((p:Int)+1)=(p:Int)+1:=IntWalk.i64_in _ (by omega);by_cases hp1:p<es.length
     ·rw[if_pos hp1] at hnx;have hp2:(p:Int)<(es.length:Int):=by omega
      have hp3:((p:Int)+1<=(es.length:Int)):=by omega
      have tY:=zh hnx;have xN:=zh hp1;clear hnx hp1;go_wp2_with fail;refine tY.out.mono ?_;rintro e7 w7 ⟨rfl,jE,jB⟩;have xh:=zh (wF.out.move jE jB (by have:=xN.out;omega));clear jE jB tY;go_wp2_with fail
      go_meet
      exact⟨p+1,by go_num,xh⟩
     ·rw[if_neg hp1] at hnx;obtain rfl:p=es.length:=by omega
      have hp2:¬ (es.length:Int)<(es.length:Int):=by omega
      have hp3:¬ ((es.length:Int)+1<=(es.length:Int)):=by omega
      have tY:=zh hnx;clear hnx hp1;go_wp2_with fail;refine tY.out.mono ?_;rintro e7 w7 ⟨rfl,jE,jB⟩;have xh:=zh (wF.out.move jE jB (Nat.le_refl _));clear jE jB tY;go_wp2_with fail
      go_meet
      exact⟨es.length,by go_num,xh⟩
    ·by_cases hM1:M=1
     ·subst hM1;rcases p with _|p
      ·have hp2:¬ ((0:Nat):Int)>0:=by decide
       have tY:=zh (zv0 wF.out.cu);go_wp2_with fail;refine tY.out.mono ?_;rintro e7 w7 ⟨rfl,rfl⟩;clear tY;go_wp2_with fail
       go_meet
       exact⟨0,by go_num,wF⟩
      ·have hp2:((p+1:Nat):Int)>0:=by omega
       have hp0:(p:Int)≥0:=by omega
       have hwp:IntKind.i64.wrap (((p+1:Nat):Int)-1)=(p:Int):=by
        rw[show((p+1:Nat):Int)-1=(p:Int) by omega];exact IntWalk.i64_in _ (by omega)
       have hwp0:IntKind.i64.wrap (p:Int)=(p:Int):=IntWalk.i64_in _ (by omega);have tY:=zh (zvT dN.out wr p (by omega) wF.out.cu);have xM:=zh hpl;clear hpl;go_wp2_with fail;refine tY.out.mono ?_;rintro e7 w7 ⟨rfl,jE,jB⟩;have xh:=zh (wF.out.move jE jB (by have:=xM.out;omega));clear jE jB tY;go_wp2_with fail
       go_meet
       exact⟨p,by go_num,xh⟩
     ·by_cases hT:T<0\/(es.length:Int)<T
      ·have tY:=zh (zwc wF.out.cu T hT);by_cases hT0:T<0
       ·clear hT;go_wp2_with fail;refine tY.out.mono ?_;rintro e7 w7 ⟨rfl,rfl⟩;clear tY;go_wp2_with fail
        go_meet
        exact⟨p,rfl,wF⟩
       ·have hT2:T>(es.length:Int):=by omega
        clear hT;go_wp2_with fail;refine tY.out.mono ?_;rintro e7 w7 ⟨rfl,rfl⟩;clear tY;go_wp2_with fail
        go_meet
        exact⟨p,rfl,wF⟩
      ·obtain⟨t,rfl⟩:∃ t:Nat,T=(t:Int):=⟨T.toNat,by omega⟩
       have ht0:¬ (t:Int)<0:=by omega
       have ht1:¬ (t:Int)>(es.length:Int):=by omega
       have htl:t<=es.length:=by omega
       have tY:=zh (zsn wF.out.cu dN.out wF.out.le t htl fun _=>zvT dN.out);have HTL:=zh htl;clear hT htl;go_wp2_with fail;refine tY.out.mono ?_;rintro e7 w7 ⟨rfl,jE,jB⟩;have xh:=zh (wF.out.move jE jB HTL.out);clear jE jB tY;go_wp2_with fail
       go_meet
       exact⟨t,rfl,xh⟩
   case rest =>
    obtain⟨p',rfl,wN⟩:=hcut;have hple:=wN.out.le;have hlt2:p'<(stsE s es es.length).length:=by rw[zvK];omega
    have wI:Below w5.heap.size w5 wc:=xm.out.trans (wN.out.chg.below xm.out.size fun q e=>by have e:q=b:=e;have:=o6.out;omega);obtain⟨g',cap',Aa,ca,Ba,da,Da,ea,hge,hg0,hg1,t0,t1,t2,hsv⟩:=ag.out.nd hlt2;simp only[Value.slice.injEq,Option.some.injEq,Addr.mk.injEq,and_true,true_and] at hge;obtain⟨rfl,rfl⟩:=hge;rw[zvW] at t0 t1 t2 hsv
    replace t0:=zb wI t0
    replace t1:=zb wI t1
    replace t2:=zb wI t2
    have wX:=(hsv.later wI).keep (S':=Any) (fun _ _ _=>trivial) fun _ _ _=>rfl;have jD:=wN.out.cu;have hgd:=dN.out.good p';obtain⟨y,hy⟩:∃ y,cur s es p'=y:=⟨_,rfl⟩
    rw[hy] at t0 t1 t2 wX jD hgd;rw[xW.out] at hlt2;have hp0:(0:Int)<=(p':Int):=by omega
    have hp1:(p':Int)<(NL:Int):=by omega
    have HSVC:=zh wX;have HCUC:=zh jD;have xO:=zh hgd;have HB5C:=zh wI;clear hsv wX jD hgd wI hlt2 hy hple hg0 hg1;go_upto_region 32 with fail;have hSS:(fun w':World=>w'.cell? ⟨g,p'*3,none⟩=some (.slice Aa y.cells.length ca)/\w'.cell? ⟨g,p'*3+1,none⟩=some (.slice Ba y.tin.length da)/\w'.cell? ⟨g,p'*3+2,none⟩=some (.slice Da y.tout.length ea)) wc.drew/\(fun _:World=>True) wc.drew:=⟨⟨t0,t1,t2⟩,trivial⟩
    refine wp_region_noPanic ?_;refine zke (fun w':World=>w'.cell? ⟨g,p'*3,none⟩=some (.slice Aa y.cells.length ca)/\w'.cell? ⟨g,p'*3+1,none⟩=some (.slice Ba y.tin.length da)/\w'.cell? ⟨g,p'*3+2,none⟩=some (.slice Da y.tout.length ea)) (fun _:World=>True) 13 (by kernel_rfl) ?_;refine zT 0 hSS ?_;(try simp only[zQ]);refine zT 2 hSS ?_;(try simp only[zQ]);have had:Calls Tryz.prog 39 [.pointer (some ⟨b,0,none⟩)].toArray wc.drew fun e W'=>∃ u,e=.returned u/\u=.int .i64 (p':Int)/\W'=wc.drew :=
     (zwe (HCUC.out.later ((Below.refl wc.heap.size wc).drew))).mono fun e W' ⟨h1,h2⟩=>⟨_,h2,rfl,h1⟩
    refine zo 1 fun K hK=>?_;refine zkg (by rfl) (.func 39) [.tmp 110] _ (by rfl) 39 _ zwr (by rfl) _ (by rfl) _ had ?_;rintro u iV ⟨rfl,rfl⟩;refine hK.out _ _ hSS ?_;clear hK K had;(try simp only[zQ]);refine zT 3 hSS ?_;(try simp only[zQ]);refine zT 4 hSS ?_;(try simp only[zQ]);refine zT 5 hSS ?_;(try simp only[zQ]);refine zT 7 hSS ?_;(try simp only[zQ]);refine zT 8 hSS ?_;(try simp only[zQ]);refine zT 9 hSS ?_;(try simp only[zQ]);refine zT 10 hSS ?_;(try simp only[zQ]);have had:Calls Tryz.prog 34 [.pointer (some ⟨b,0,none⟩)].toArray wc.drew fun e W'=>∃ u,e=.returned u/\OwnS W' wc.drew.heap.size y u/\Below wc.drew.heap.size wc.drew W' :=
     (zol (HCUC.out.later ((Below.refl wc.heap.size wc).drew)) xO.out aX.out).mono fun e W' ⟨h1,v,h2,h3⟩=>⟨v,h2,h3,h1⟩
    refine zo 6 fun K hK=>?_;refine zkQ (by rfl) (.func 34) [.tmp 115] _ (by rfl) 34 _ zv8 (by rfl) _ (by rfl) _ had ?_;rintro u ny ⟨wK,dI⟩;have jL:(fun w':World=>w'.cell? ⟨g,p'*3,none⟩=some (.slice Aa y.cells.length ca)/\w'.cell? ⟨g,p'*3+1,none⟩=some (.slice Ba y.tin.length da)/\w'.cell? ⟨g,p'*3+2,none⟩=some (.slice Da y.tout.length ea)) ny/\(fun _:World=>True) ny:=⟨⟨zb dI hSS.1.1,zb dI hSS.1.2.1,zb dI hSS.1.2.2⟩,trivial⟩
    refine hK.out _ _ jL ?_;clear hK K had;(try simp only[zQ]);have wM:Below wc.heap.size wc ny:=zka ((Below.refl wc.heap.size wc).drew) dI;have had:Calls Tryz.prog 21 [u,.agg #[.slice Aa y.cells.length ca,.slice Ba y.tin.length da,.slice Da y.tout.length ea]].toArray ny fun e W'=>∃ z,e=.returned z/\z=.bool true/\Below ny.heap.size ny W' :=
     (zpE y y _ _ ny (wK.sv (xO.out.sm (by have:=aX.out;omega)).lim) (HSVC.out.later wM) (xO.out.sm (by have:=aX.out;omega)) (xO.out.sm (by have:=aX.out;omega))).mono fun e W' ⟨h1,h2⟩=>⟨_,h1,by rw[show eqS y y=true by simp[eqS]],h2⟩
    refine zo 11 fun K hK=>?_;refine zkQ (by rfl) (.func 21) [.tmp 116,.tmp 120] _ (by rfl) 21 _ zrC (by rfl) _ (by rfl) _ had ?_;rintro z uB ⟨rfl,jI⟩;have lG:(fun w':World=>w'.cell? ⟨g,p'*3,none⟩=some (.slice Aa y.cells.length ca)/\w'.cell? ⟨g,p'*3+1,none⟩=some (.slice Ba y.tin.length da)/\w'.cell? ⟨g,p'*3+2,none⟩=some (.slice Da y.tout.length ea)) uB/\(fun _:World=>True) uB:=⟨⟨zb jI jL.1.1,zb jI jL.1.2.1,zb jI jL.1.2.2⟩,trivial⟩
    refine hK.out _ _ lG ?_;clear hK K had;(try simp only[zQ]);refine zT 12 lG ?_;(try simp only[zQ]);refine zp 13 fun K hK=>?_;(try simp only[zQ]);go_simp;refine hK.out _ _ lG.1 ?_;clear hK K;(try simp only[zQ]);have pY:=zh (zka wM jI);clear wM jI dI lG jL hSS t0 t1 t2 wK;refine zd ?_;refine NoPanic.normal ?_;go_wp2_with fail;exact⟨⟨p',j+1,by have:=aY.out;omega,rfl,by go_num,zh (wN.out.later pY.out)⟩,by have:=aY.out;simp[intOf];omega⟩
  ·obtain rfl:j=xs.length:=by omega
   have hj1:¬ (xs.length:Int)<(xs.length:Int):=by omega
   have uk:=zh (dD.out.trans (wF.out.chg.below dD.out.size fun q e=>by have e:q=b:=e;have:=o6.out;have:=aW.out.size;omega));go_wp2_with fail;go_ret;exact⟨rfl,uk.out⟩
end Go.Proofs.YtckhofdinldhpaaGreat
