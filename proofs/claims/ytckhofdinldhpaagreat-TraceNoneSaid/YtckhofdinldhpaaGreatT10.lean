/-
  Texts of the proof, put together without their remarks: Tdf, Tdn, Ten, Tbk, Tbr.
-/
import Derived.Test.YtckhofdinldhpaaGreatT9
set_option linter.unusedSimpArgs false
set_option linter.unusedVariables false
set_option maxHeartbeats 8000000
set_option maxRecDepth 100000
namespace Go.Proofs.YtckhofdinldhpaaGreat
open Go Go.RowKit
theorem chInfo:(Tryz.prog.info? 64).map (fun i=>(i.zero,i.size,i.bytes))=some (some (.agg #[.int .i64 0,.int .i64 0,.int .i64 0,.int .i64 0]),4,32):=by kernel_rfl
theorem bCh (x y z u:Int) (w:World):(Instr.build 64 #[(0,.int .i64 x),(1,.int .i64 y),(2,.int .i64 z),(3,.int .i64 u)]).run Tryz.prog w=.ok (.agg #[.int .i64 x,.int .i64 y,.int .i64 z,.int .i64 u]) w:=by kernel_rfl
theorem bChs (x y z u:Int) (w:World):(Instr.buildSlice 54 1 #[(0,.agg #[.int .i64 x,.int .i64 y,.int .i64 z,.int .i64 u])]).run Tryz.prog w=.ok (.slice (some ⟨w.heap.size,0,none⟩) 1 1) (w.alloc (.cells #[.int .i64 x,.int .i64 y,.int .i64 z,.int .i64 u] 64)):=by kernel_rfl
theorem chg_one (c:CH):∀ u∈CH.nums c,u.oneCell'=true:=by
 intro u hu
 simp only [CH.nums,List.mem_cons,List.not_mem_nil,or_false] at hu
 rcases hu with rfl|rfl|rfl|rfl<;>rfl
theorem flatC_snoc (l:List CH) (c:CH):flatC (l++[c])=flatC l++CH.nums c:=by simp [flatC]
def DiR (n0:Nat) (w:World) (v:Value) (l:List CH):Prop:=w.ownsRow n0 64 4 v l.length (flatC l)/\∀ c∈l,c.I
theorem DiR.nil (n0:Nat) (w:World):DiR n0 w (.slice none 0 0) []:=⟨World.ownsRow_nil w _ _ _,by simp⟩
theorem own_lower {W:World} {n0 n1:Nat} {E:TypeId} {sz n:Nat} {v:Value} {xs:List Value} (h:W.ownsRow n1 E sz v n xs) (hn:n0<=n1):W.ownsRow n0 E sz v n xs:=by
 obtain ⟨e1,h2⟩:=h
 refine ⟨e1,?_⟩
 rcases h2 with h2|⟨g,cap,cur,e2,h3,h4⟩
 ·exact .inl h2
 ·exact .inr ⟨g,cap,cur,e2,Nat.le_trans hn h3,h4⟩
theorem DiR.later {n0:Nat} {w w':World} {v:Value} {l:List CH} (h:DiR n0 w v l) (hb:Below w.heap.size w w'):DiR n0 w' v l:=⟨own_later h.1 hb,h.2⟩
theorem DiR.push {n0:Nat} {w:World} {v:Value} {l:List CH} {c:CH} (h:DiR n0 w v l) (hc:c.I) (hl:l.length+1<=4398046511103) (hn:n0<=w.heap.size) :
  (w.alloc (.cells (CH.nums c).toArray 64)).ownsRow n0 64 4 v l.length (flatC l)/\(l.length+1<=maxLen/\(l.length+1)*32<=140737488355328)/\n0<=(w.alloc (.cells (CH.nums c).toArray 64)).heap.size /\
  (∀ j u,(CH.nums c)[j]?=some u->(w.alloc (.cells (CH.nums c).toArray 64)).cell? ((⟨w.heap.size,0,none⟩:Addr).add j)=some u) /\
  ∀ v' w',w'.ownsRow n0 64 4 v' (l.length+1) (flatC l++CH.nums c)->(w.alloc (.cells (CH.nums c).toArray 64)).grownBy w' v.ownBlock->(v'.ownBlock=v.ownBlock\/v'.ownBlock=some (w.alloc (.cells (CH.nums c).toArray 64)).heap.size)->DiR n0 w' v' (l++[c])/\Chg (fun b=>v.ownBlock=some b) w w'/\(v'.ownBlock=v.ownBlock\/∃ b,v'.ownBlock=some b/\w.heap.size<=b):=by
 have hb:=bl_al (Below.refl w.heap.size w) (.cells (CH.nums c).toArray 64)
 have hs:n0<=(w.alloc (.cells (CH.nums c).toArray 64)).heap.size:=Nat.le_trans hn hb.size
 refine ⟨own_later h.1 hb,⟨by unfold maxLen; omega,by omega⟩,hs,fun j u hj=>?_,fun v' w' ho hg hob=>⟨⟨?_,?_⟩,?_,?_⟩⟩
 ·have hk:=heap_alloc_new w (.cells (CH.nums c).toArray 64)
  rw [Addr.add_lit,Nat.zero_add]
  exact zc hk (by simpa using hj)
 ·rw [flatC_snoc,List.length_append]; exact ho
 ·intro d hd
  rcases List.mem_append.1 hd with h1|h1
  ·exact h.2 d h1
  ·simp at h1; subst h1; exact hc
 ·have h1:=Chg.row hg
  exact ⟨h1.os.trans hb.os,h1.tape.trans hb.tape,h1.output.trans hb.output,Nat.le_trans hb.size h1.size,fun b hlt hne=>(h1.block b (Nat.lt_of_lt_of_le hlt hb.size) hne).trans (hb.block b hlt)⟩
 ·rcases hob with e|e
  ·exact .inl e
  ·exact .inr ⟨_,e,hb.size⟩
def DF (lo mid:Nat) (W7:World) (v:Value) (wi:World):Prop:=Chg (fun b=>lo<=b/\b<mid) W7 wi/\∀ b,v.ownBlock=some b->b<mid\/W7.heap.size<=b
theorem DF.push {lo mid:Nat} {W7 wi w':World} {v v':Value} {l:List CH} (h:DF lo mid W7 v wi) (hd:DiR lo wi v l) (hc:Chg (fun b=>v.ownBlock=some b) wi w') (hob:v'.ownBlock=v.ownBlock\/∃ b,v'.ownBlock=some b/\wi.heap.size<=b):DF lo mid W7 v' w':=by
 refine ⟨⟨hc.os.trans h.1.os,hc.tape.trans h.1.tape,hc.output.trans h.1.output,Nat.le_trans h.1.size hc.size,fun b hlt hne=>?_⟩,fun b hb=>?_⟩
 ·have h2:=h.1.size
  refine (hc.block b (by omega) fun hv=>hne ?_).trans (h.1.block b hlt hne)
  have:=(hd.1.lt b hv).1
  rcases h.2 b hv with h3|h3
  ·exact ⟨this,h3⟩
  ·omega
 ·rcases hob with e|⟨b',e,hb'⟩
  ·exact h.2 b (e▸hb)
  ·rw [e] at hb
   injection hb with hb
   have:=h.1.size
   exact .inr (by omega)
def difs (a b:SS) (n j:Nat):List CH:=((comps n).take j).flatMap fun c=>dif1 c (part a c) (part b c)
theorem difs_succ (a b:SS) {n j:Nat} (h:j<(comps n).length):difs a b n (j+1)=difs a b n j++dif1 (comps n)[j] (part a (comps n)[j]) (part b (comps n)[j]):=by
 unfold difs
 rw [List.take_succ_eq_append_getElem h,List.flatMap_append]
 simp
theorem chg1_le (c:Int) (x y:List Int) (i:Nat):(chg1 c x y i).length<=1:=by unfold chg1; split<;>simp
theorem chg1_len (c:Int) (x y:List Int):∀ q,((List.range q).flatMap (chg1 c x y)).length<=q
 | 0=>by simp
 | q+1=>by
  rw [List.range_succ,List.flatMap_append,List.length_append]
  have:=chg1_len c x y q
  have:=chg1_le c x y q
  simp only [List.flatMap_cons,List.flatMap_nil,List.append_nil]
  omega
theorem chgL_le (c:Int) (x y:List Int):(chgL c x y).length<=1:=by unfold chgL; split<;>simp
theorem part_sm {s:SS} (h:s.Sm) (c:Int):(part s c).length<=1000000:=by
 unfold part
 split
 ·rw [List.length_reverse]; exact h.2.2.1
 ·split
  ·exact h.2.2.2
  ·rw [List.getD_eq_getElem?_getD]
   rcases hk:s.cells[c.toNat]? with _|l
   ·simp
   ·exact h.2.1 l (List.mem_of_getElem? hk)
theorem difs_len {a b:SS} (ha:a.Sm) (hb:b.Sm) (n:Nat):∀ j,(difs a b n j).length<=j*1000001
 | 0=>by simp [difs]
 | j+1=>by
  by_cases h:j<(comps n).length
  ·rw [difs_succ a b h,List.length_append]
   have h1:=difs_len ha hb n j
   have h2:=part_sm ha (comps n)[j]
   have h3:=part_sm hb (comps n)[j]
   have h4:=chgL_le (comps n)[j] (part a (comps n)[j]) (part b (comps n)[j])
   have h5:=chg1_len (comps n)[j] (part a (comps n)[j]) (part b (comps n)[j]) (max (part a (comps n)[j]).length (part b (comps n)[j]).length)
   unfold dif1
   rw [List.length_append]
   omega
  ·have e:difs a b n (j+1)=difs a b n j:=by
    unfold difs
    rw [List.take_of_length_le (by omega),List.take_of_length_le (by omega)]
   rw [e]
   have h1:=difs_len ha hb n j
   exact Nat.le_trans h1 (Nat.mul_le_mul_right _ (Nat.le_succ j))
theorem dif_none {c:Int} {x y:List Int} {q:Nat} (h:x.getD q 0=y.getD q 0) {l:List CH}:l++(List.range (q+1)).flatMap (chg1 c x y)=l++(List.range q).flatMap (chg1 c x y):=by
 rw [List.range_succ,List.flatMap_append]
 simp only [List.flatMap_cons,List.flatMap_nil,List.append_nil]
 rw [show chg1 c x y q=[] by unfold chg1; rw [if_neg (fun hh=>hh h)],List.append_nil]
theorem dif_some {c:Int} {x y:List Int} {q:Nat} {u v:Int} (hu:x.getD q 0=u) (hv:y.getD q 0=v) (h:¬ u=v) {l:List CH}:l++(List.range (q+1)).flatMap (chg1 c x y)=l++(List.range q).flatMap (chg1 c x y)++[⟨c,q,u,v⟩]:=by
 rw [List.range_succ,List.flatMap_append,List.append_assoc]
 simp only [List.flatMap_cons,List.flatMap_nil,List.append_nil]
 rw [show chg1 c x y q=[⟨c,q,u,v⟩] by unfold chg1; rw [hu,hv,if_pos h]]
theorem sv_nums {s:SS} {w:World} {S:Nat->Prop} {v:Value} (h:SV w S s v):s.I:=by
 obtain ⟨A,c,B,d,D,e,-,hr,hi,ho,-⟩:=h
 refine ⟨fun l hl=>?_,hi.fits,ho.fits⟩
 obtain ⟨i,hi,rfl⟩:=List.getElem_of_mem hl
 obtain ⟨_,_,_,_,_,_,_,h⟩:=hr i hi
 exact h.fits
theorem comps_I {n:Nat} (hn:n<=1000000) {c:Int} (h:c∈comps n):I64 c:=by
 unfold comps at h
 rcases List.mem_append.1 h with h|h
 ·obtain ⟨i,hi,rfl⟩:=List.mem_map.1 h
  have:=List.mem_range.1 hi
  exact ⟨by show -9223372036854775808<=(i:Int); omega,by show (i:Int)<=9223372036854775807; omega⟩
 ·have:c = -1\/c = -2:=by simpa using h
  exact ⟨by omega,by omega⟩
theorem part_I {s:SS} (h:s.I) (c:Int):∀ x∈part s c,I64 x:=by
 unfold part
 split
 ·exact fun x hx=>h.2.1 x (List.mem_reverse.1 hx)
 ·split
  ·exact h.2.2
  ·rw [List.getD_eq_getElem?_getD]
   rcases hk:s.cells[c.toNat]? with _|l
   ·exact fun x hx=>by simp at hx
   ·exact h.1 l (List.mem_of_getElem? hk)
theorem getD_I {l:List Int} (h:∀ x∈l,I64 x) (q:Nat):I64 (l.getD q 0):=by
 rw [List.getD_eq_getElem?_getD]
 rcases hk:l[q]? with _|x
 ·exact zero_I64
 ·exact h x (List.mem_of_getElem? hk)
theorem difs_all {a b:SS} (h:a.cells.length=b.cells.length):difs a b a.cells.length (a.cells.length+2)=diffE a b:=by
 unfold difs diffE
 rw [if_neg (fun hh=>hh h),List.take_of_length_le (by simp [comps])]
def DiffP (a b:SS) (w:World) (e:Ending) (w':World):Prop:=∃ v,e=.returned v/\DiR w.heap.size w' v (diffE a b)/\Below w.heap.size w w'
theorem fnElems:IsFn Tryz.prog 67 Tryz.f67:=⟨Tryz.func67,by kernel_rfl,by kernel_rfl⟩
theorem Diff_any (a b:SS) (va vb:Value) (w:World) (ha:SV w Any a va) (hb:SV w Any b vb) (sa:a.Sm) (sb:b.Sm):Calls Tryz.prog 189 #[va,vb] w (DiffP a b w):=by
 have HA:=zh ha
 have HB:=zh hb
 have h1:=bCh
 have h2:=bChs
 obtain ⟨A,c,B,d,D,e,rfl,-⟩:=ha
 obtain ⟨A2,c2,B2,d2,D2,e2,rfl,-⟩:=hb
 have k0:=blk_al (heap_alloc_new w (.cells #[.slice A a.cells.length c,.slice B a.tin.length d,.slice D a.tout.length e] 26)) (.cells #[.slice A2 b.cells.length c2,.slice B2 b.tin.length d2,.slice D2 b.tout.length e2] 26)
 have k1:=heap_alloc_new (w.alloc (.cells #[.slice A a.cells.length c,.slice B a.tin.length d,.slice D a.tout.length e] 26)) (.cells #[.slice A2 b.cells.length c2,.slice B2 b.tin.length d2,.slice D2 b.tout.length e2] 26)
 rw [World.size_alloc] at k1
 have hb0:=bl_al (bl_al (Below.refl w.heap.size w) (.cells #[.slice A a.cells.length c,.slice B a.tin.length d,.slice D a.tout.length e] 26)) (.cells #[.slice A2 b.cells.length c2,.slice B2 b.tin.length d2,.slice D2 b.tout.length e2] 26)
 obtain ⟨w0,hw0⟩:∃ x,(w.alloc (.cells #[.slice A a.cells.length c,.slice B a.tin.length d,.slice D a.tout.length e] 26)).alloc (.cells #[.slice A2 b.cells.length c2,.slice B2 b.tin.length d2,.slice D2 b.tout.length e2] 26)=x:=⟨_,rfl⟩
 rw [hw0] at k0 k1 hb0
 have HK0:=zh k0
 have HK1:=zh k1
 have HB0:=zh hb0
 have HSA:=zh sa
 have HSB:=zh sb
 obtain ⟨x0,x1,x2⟩:=box3o k0
 obtain ⟨y0,y1,y2⟩:=box3o k1
 clear k0 k1 hb0 sa sb
 by_cases hne:a.cells.length=b.cells.length
 ·have hn1:((a.cells.length:Int) != (b.cells.length:Int))=false:=by simp [hne]
  have HNE:=zh hne
  clear hne
  go_enter Tryz.func189,Tryz.ntmps189
  go_upto_region 4 with fail
  have HSS:=zh (show ∀ w',Below w0.heap.size w0 w'->(fun w':World=>w'.cell? ⟨w.heap.size,0,none⟩=some (.slice A a.cells.length c)/\w'.cell? ⟨w.heap.size,1,none⟩=some (.slice B a.tin.length d)/\w'.cell? ⟨w.heap.size,2,none⟩=some (.slice D a.tout.length e)/\w'.cell? ⟨w.heap.size+1,0,none⟩=some (.slice A2 b.cells.length c2)/\w'.cell? ⟨w.heap.size+1,1,none⟩=some (.slice B2 b.tin.length d2)/\w'.cell? ⟨w.heap.size+1,2,none⟩=some (.slice D2 b.tout.length e2)) w' from fun w' hb=>⟨zb hb (zc HK0.out rfl),zb hb (zc HK0.out rfl),zb hb (zc HK0.out rfl),zb hb (zc HK1.out rfl),zb hb (zc HK1.out rfl),zb hb (zc HK1.out rfl)⟩)
  have hSS:(fun w':World=>w'.cell? ⟨w.heap.size,0,none⟩=some (.slice A a.cells.length c)/\w'.cell? ⟨w.heap.size,1,none⟩=some (.slice B a.tin.length d)/\w'.cell? ⟨w.heap.size,2,none⟩=some (.slice D a.tout.length e)/\w'.cell? ⟨w.heap.size+1,0,none⟩=some (.slice A2 b.cells.length c2)/\w'.cell? ⟨w.heap.size+1,1,none⟩=some (.slice B2 b.tin.length d2)/\w'.cell? ⟨w.heap.size+1,2,none⟩=some (.slice D2 b.tout.length e2)) w0.drew/\(fun _:World=>True) w0.drew:=⟨HSS.out _ (Below.refl _ _).drew,trivial⟩
  clear x0 x1 x2 y0 y1 y2 hn1
  refine wp_region_noPanic ?_
  refine wp_region_G (fun w':World=>w'.cell? ⟨w.heap.size,0,none⟩=some (.slice A a.cells.length c)/\w'.cell? ⟨w.heap.size,1,none⟩=some (.slice B a.tin.length d)/\w'.cell? ⟨w.heap.size,2,none⟩=some (.slice D a.tout.length e)/\w'.cell? ⟨w.heap.size+1,0,none⟩=some (.slice A2 b.cells.length c2)/\w'.cell? ⟨w.heap.size+1,1,none⟩=some (.slice B2 b.tin.length d2)/\w'.cell? ⟨w.heap.size+1,2,none⟩=some (.slice D2 b.tout.length e2)) (fun _:World=>True) 3 (by kernel_rfl) ?_
  refine zT 0 hSS ?_
  (try simp only [Act.put,zP])
  refine zT 2 hSS ?_
  (try simp only [Act.put,zP])
  have had:Calls Tryz.prog 67 [.agg #[.slice A a.cells.length c,.slice B a.tin.length d,.slice D a.tout.length e]].toArray w0.drew fun e1 W'=>∃ u,e1=.returned u/\(u=.func (.func 119) #[] #[.pointer (some ⟨w0.heap.size,0,none⟩)]/\W'=w0.drew.alloc (.cells #[.slice A a.cells.length c,.slice B a.tin.length d,.slice D a.tout.length e] 26)) :=
   (elements_any A B D a.cells.length c a.tin.length d a.tout.length e w0.drew).mono fun e1 W' ⟨h1,h2⟩=>⟨_,h1,rfl,h2⟩
  refine wpG_one (i:=1) (by kernel_rfl) rfl (fun K hK=>?_)
  refine step_callL (by rfl) (.func 67) [.tmp 22] _ (by rfl) 67 _ fnElems (by rfl) _ (by rfl) _ had ?_
  rintro v3 w3 ⟨rfl,rfl⟩
  have kb1:=heap_alloc_new w0.drew (.cells #[.slice A a.cells.length c,.slice B a.tin.length d,.slice D a.tout.length e] 26)
  have hb03:=bl_al (Below.refl w0.heap.size w0).drew (.cells #[.slice A a.cells.length c,.slice B a.tin.length d,.slice D a.tout.length e] 26)
  obtain ⟨w3,hw3⟩:∃ x,w0.drew.alloc (.cells #[.slice A a.cells.length c,.slice B a.tin.length d,.slice D a.tout.length e] 26)=x:=⟨_,rfl⟩
  rw [hw3] at kb1 hb03
  rw [hw3]
  have kb1:w3.heap[w0.heap.size]?=_:=kb1
  obtain ⟨ba,hba⟩:∃ x,w0.heap.size=x:=⟨_,rfl⟩
  refine hK.out _ _ ⟨HSS.out _ hb03,trivial⟩ ?_
  clear hK K had hSS
  (try simp only [Act.put,zP])
  have had:Calls Tryz.prog 67 [.agg #[.slice A2 b.cells.length c2,.slice B2 b.tin.length d2,.slice D2 b.tout.length e2]].toArray w3 fun e1 W'=>∃ u,e1=.returned u/\(u=.func (.func 119) #[] #[.pointer (some ⟨w3.heap.size,0,none⟩)]/\W'=w3.alloc (.cells #[.slice A2 b.cells.length c2,.slice B2 b.tin.length d2,.slice D2 b.tout.length e2] 26)) :=
   (elements_any A2 B2 D2 b.cells.length c2 b.tin.length d2 b.tout.length e2 w3).mono fun e1 W' ⟨h1,h2⟩=>⟨_,h1,rfl,h2⟩
  refine wpG_past (i:=3) (by kernel_rfl) rfl (by kernel_rfl) (fun K hK=>?_)
  refine step_callL (by rfl) (.func 67) [.tmp 24] _ (by rfl) 67 _ fnElems (by rfl) _ (by rfl) _ had ?_
  rintro v4 w4 ⟨rfl,rfl⟩
  have kb2:=heap_alloc_new w3 (.cells #[.slice A2 b.cells.length c2,.slice B2 b.tin.length d2,.slice D2 b.tout.length e2] 26)
  have hb34:=bl_al (Below.refl w3.heap.size w3) (.cells #[.slice A2 b.cells.length c2,.slice B2 b.tin.length d2,.slice D2 b.tout.length e2] 26)
  obtain ⟨w4,hw4⟩:∃ x,w3.alloc (.cells #[.slice A2 b.cells.length c2,.slice B2 b.tin.length d2,.slice D2 b.tout.length e2] 26)=x:=⟨_,rfl⟩
  rw [hw4] at kb2 hb34
  rw [hw4]
  obtain ⟨bb,hbb⟩:∃ x,w3.heap.size=x:=⟨_,rfl⟩
  have hb04:=hb03.trans (hb34.mono hb03.size)
  have hS4:=HSS.out _ hb04
  refine hK.out _ _ hS4 ?_
  clear hK K had
  (try simp only [Act.put,zP])
  refine wpG_past (i:=4) (by kernel_rfl) rfl (by kernel_rfl) (fun K hK=>?_)
  (try simp only [zA,zB,zC])
  go_simp
  refine hK.out _ _ hS4 ?_
  clear hK K
  (try simp only [Act.put,zP])
  refine wpG_past (i:=5) (by kernel_rfl) rfl (by kernel_rfl) (fun K hK=>?_)
  (try simp only [zA,zB,zC])
  go_simp
  refine hK.out _ _ hS4 ?_
  clear hK K
  (try simp only [Act.put,zP])
  refine wpG_done (by kernel_rfl) ?_
  refine NoPanic.normal ?_
  have HN6:=zh (show a.cells.length<=1000000 from HSA.out.1)
  have HCO:=zh (components_any a.cells.length (by have:=HN6.out; omega) w4)
  have HKA:=zh (blk_bl kb1 hb34)
  have HKB:=zh kb2
  have HB4:=zh (HB0.out.trans (hb04.mono HB0.out.size))
  have HAI:=zh (sv_nums HA.out)
  have HBI0:=zh (sv_nums HB.out)
  obtain ⟨y0,y1,y2,-,-,-⟩:=hS4
  clear kb1 kb2 hb03 hb34 hb04 hw3 hw4 HSS HK0 HK1 y1 y2
  rw [hba] at HKA
  rw [hbb] at HKB
  (try rw [hba])
  (try rw [hbb])
  clear hba hbb
  obtain ⟨n,hn⟩:∃ n,a.cells.length=n:=⟨_,rfl⟩
  have HNN:=zh hn
  rw [hn] at HCO
  go_wp2_with fail
  refine HCO.out.mono ?_
  rintro e5 w5 ⟨v5,rfl,ho5,hb5⟩
  clear y0 HCO
  obtain ⟨Ac,c5,rfl,-⟩:=row_slice ho5
  have hcl:(comps n).length=n+2:=by simp [comps]
  have HCL:=zh hcl
  obtain ⟨g,rfl⟩:∃ g,Ac=some ⟨g,0,none⟩:=by
   rcases ho5.2 with ⟨e1,e2⟩|⟨g,cap,cur,e1,-⟩
   ·omega
   ·injection e1 with e1; exact ⟨g,e1⟩
  have HO5:=zh (oneI_rws ho5)
  have HKA5:=zh (blk_bl HKA.out hb5)
  have HKB5:=zh (blk_bl HKB.out hb5)
  have HB5:=zh (bl_tt HB4.out hb5)
  rw [hcl]
  clear ho5 hb5 hcl HKA HKB hn
  go_wp2_with fail
  go_loopw [5,31] (fun v i wo=>∃ j:Nat,j<=n+2/\i=.int .i64 j/\Hid (DiR w5.heap.size wo v (difs a b n j))/\Hid (Below w5.heap.size w5 wo)) (fun _ i _=>n+2-(intOf i).toNat)
  case atStart=>exact ⟨0,Nat.zero_le _,rfl,zh (by simpa [difs] using DiR.nil w5.heap.size w5),zh (Below.refl _ _)⟩
  case round =>
   obtain ⟨wo,rfl⟩:∃ x,x=wr:=⟨_,rfl⟩
   obtain ⟨j,hj,rfl,HDJ,HBJ⟩:=hrel
   by_cases hlt2:j<n+2
   ·have hlt:j<(comps n).length:=by rw [HCL.out]; exact hlt2
    have hj1:(j:Int)<((n:Nat):Int)+2:=by omega
    have hj2:(j:Int)<((n+2:Nat):Int):=by omega
    have hj0:(0:Int)<=(j:Int):=by omega
    obtain ⟨z0,-⟩:=oneI_cell (HO5.out.later HBJ.out) rfl hlt
    obtain ⟨cc,hcc⟩:∃ cc,(comps n)[j]=cc:=⟨_,rfl⟩
    have hgd:(comps n).getD j 0=cc:=by rw [List.getD_eq_getElem?_getD,List.getElem?_eq_getElem hlt,Option.getD_some,hcc]
    rw [hgd] at z0
    have hmem:cc∈comps n:=by rw [<-hcc]; exact List.getElem_mem hlt
    have HCI:=zh (show I64 cc from comps_I (by have:=HN6.out; have:=HNN.out; omega) hmem)
    have HCC:=zh hcc
    have HPA:=zh (fun w' (hb:Below wo.heap.size wo w')=>elements1_any a A B D c d e ba cc w' (blk_bl HKA5.out (bl_tt HBJ.out hb)) (HA.out.later (bl_tt (bl_tt HB5.out HBJ.out) hb)) (by rw [HNN.out]; exact hmem))
    have HPB:=zh (fun w' (hb:Below wo.heap.size wo w')=>elements1_any b A2 B2 D2 c2 d2 e2 bb cc w' (blk_bl HKB5.out (bl_tt HBJ.out hb)) (HB.out.later (bl_tt (bl_tt HB5.out HBJ.out) hb)) (by rw [<-HNE.out,HNN.out]; exact hmem))
    obtain ⟨Aj,cj,hvj,-⟩:=row_slice HDJ.out.1
    subst hvj
    have HOL:=zh (fun b h=>(HDJ.out.1.lt b h).2)
    have HJL:=zh hlt2
    clear hgd hmem hcc
    go_wp2_with fail
    refine (HPA.out wo (Below.refl _ _)).mono ?_
    rintro e6 w6 ⟨vx,rfl,hox,hbx⟩
    clear z0 hj1 hj2
    go_wp2_with fail
    refine (HPB.out w6 hbx).mono ?_
    rintro e7 w7 ⟨vy,rfl,hoy,hby⟩
    have hnx:∀ q,I64 ((part a cc).getD q 0)/\True:=fun q=>⟨getD_I (part_I HAI.out cc) q,trivial⟩
    have hny:∀ q,I64 ((part b cc).getD q 0)/\True:=fun q=>⟨getD_I (part_I HBI0.out cc) q,trivial⟩
    obtain ⟨Ax,cx,rfl,-,hrx⟩:=row_IR hox (part_I HAI.out cc)
    obtain ⟨Ay,cy,rfl,-,hry⟩:=row_IR hoy (part_I HBI0.out cc)
    have HRX0:=zh (hrx.later hby)
    have HRY0:=zh (hry.mono (S':=fun b=>wo.heap.size<=b) fun b hb=>Nat.le_trans hbx.size hb)
    have HJC:=zh hlt
    have HNX:=zh hnx
    have HNY:=zh hny
    have hpa:=part_sm HSA.out cc
    have hpb:=part_sm HSB.out cc
    have HLX:=zh (show (part a cc).length<=LI by unfold LI; omega)
    have HLY:=zh (show (part b cc).length<=LI by unfold LI; omega)
    have HB67:=zh (bl_tt hbx hby)
    have HD7:=zh (HDJ.out.later HB67.out)
    have hdl:=difs_len HSA.out HSB.out n j
    have hjb:j*1000001<=1000001*1000001:=Nat.mul_le_mul_right _ (by have:=HN6.out; have:=HNN.out; omega)
    have HDL:=zh (show (difs a b n j).length+1000002<=4398046511103 by omega)
    have HMM:=zh (show (part a cc).length<=1000000/\(part b cc).length<=1000000 from ⟨hpa,hpb⟩)
    clear hox hoy hbx hby hnx hny hrx hry HPA HPB HDJ hdl hjb hpa hpb
    have hi63:((part a cc).length:Int)<=9223372036854775807/\((part b cc).length:Int)<=9223372036854775807:=by have:=HMM.out; omega
    by_cases hll:(part a cc).length=(part b cc).length
    ·have hl1:(((part a cc).length:Int) != ((part b cc).length:Int))=false:=by simp [hll]
     obtain ⟨LQ,hLQ⟩:∃ l,difs a b n j=l:=⟨_,rfl⟩
     have HLE:=zh (show LQ=difs a b n j++chgL cc (part a cc) (part b cc) by unfold chgL; rw [if_neg (fun h=>h hll),List.append_nil,hLQ])
     have HDQ:=HD7
     have HLQ:=zh (show LQ.length+1000001<=4398046511103 by have:=HDL.out; rw [hLQ] at this; omega)
     rw [hLQ] at HDQ
     have HSW:=zh (show w5.heap.size<=w7.heap.size from (bl_tt HBJ.out HB67.out).size)
     have HFQ:=zh (show DF w5.heap.size wo.heap.size w7 (.slice Aj LQ.length cj) w7 from ⟨Chg.refl _ _,fun b hb=>.inl (HOL.out b (by rw [hLQ]; exact hb))⟩)
     rw [hLQ]
     clear hLQ HD7 hll HDL
     obtain ⟨mx,hmx⟩:∃ m:Nat,max (part a cc).length (part b cc).length=m:=⟨_,rfl⟩
     have hmxI:max ((part a cc).length:Int) ((part b cc).length:Int)=(mx:Int):=by omega
     have HMX:=zh hmx
     have HMB:=zh (show mx<=1000000 by have:=HMM.out; omega)
     go_wp2_with fail
     go_loopw [5,60] (fun v i wi=>∃ q:Nat,q<=mx/\i=.int .i64 q/\Hid (DiR w5.heap.size wi v (LQ++(List.range q).flatMap (chg1 cc (part a cc) (part b cc))))/\Hid (DF w5.heap.size wo.heap.size w7 v wi)) (fun _ i _=>mx-(intOf i).toNat)
     case atStart=>exact ⟨0,Nat.zero_le _,rfl,by simpa using HDQ,HFQ⟩
     case round =>
      obtain ⟨wi,rfl⟩:∃ x,x=wr:=⟨_,rfl⟩
      obtain ⟨q,hq,rfl,HDI,HFI⟩:=hrel
      by_cases hq2:q<mx
      ·have hq1:(q:Int)<(mx:Int):=by omega
       obtain ⟨LL,hLL⟩:∃ l,LQ++(List.range q).flatMap (chg1 cc (part a cc) (part b cc))=l:=⟨_,rfl⟩
       have HLL:=zh hLL
       have HLB:=zh (show LL.length+1<=4398046511103 by have:=HLQ.out; have:=HMB.out; have:=(chg1_len cc (part a cc) (part b cc) q); rw [<-hLL,List.length_append]; omega)
       rw [hLL] at HDI
       obtain ⟨xv,hxv⟩:∃ x,(part a cc).getD q 0=x:=⟨_,rfl⟩
       obtain ⟨yv,hyv⟩:∃ x,(part b cc).getD q 0=x:=⟨_,rfl⟩
       have HXV:=zh hxv
       have HYV:=zh hyv
       have HE1:=zh (element_any (part a cc) Ax cx q wi (HRX0.out.keep (fun _ _ _=>trivial) (fun b hb hlt=>HFI.out.1.block b hlt (by omega))) HLX.out)
       have HE2:=zh (element_any (part b cc) Ay cy q wi (HRY0.out.keep (fun _ _ _=>trivial) (fun b hb hlt=>HFI.out.1.block b hlt (by omega))) HLY.out)
       rw [hxv] at HE1
       rw [hyv] at HE2
       clear hxv hyv hLL
       obtain ⟨Aq,cq,rfl,-⟩:=row_slice HDI.out.1
       go_wp2_with fail
       refine HE1.out.mono ?_
       rintro e8 w8 ⟨rfl,h8⟩
       rw [h8]
       clear h8
       go_wp2_with fail
       refine HE2.out.mono ?_
       rintro e9 w9 ⟨rfl,h9⟩
       rw [h9]
       clear h9
       clear HE1 HE2
       by_cases hxy:xv=yv
       ·subst hxy
        have HDN:=zh (show DiR w5.heap.size wi (.slice Aq LL.length cq) (LQ++(List.range (q+1)).flatMap (chg1 cc (part a cc) (part b cc))) from by
         rw [dif_none (by rw [HXV.out,HYV.out]),HLL.out]; exact HDI.out)
        go_wp2_with fail
        exact ⟨⟨q+1,by omega,by go_num,HDN,HFI⟩,by simp [intOf]; omega⟩
       ·have hxy1:(xv != yv)=true:=by simp [hxy]
        have hI:=(HNX.out q).1
        have hI2:=(HNY.out q).1
        rw [HXV.out] at hI
        rw [HYV.out] at hI2
        have hpush:=HDI.out.push (c:=⟨cc,q,xv,yv⟩) ⟨HCI.out,⟨(by omega : -9223372036854775808<=(q:Int)),(by have:=HMB.out; omega:(q:Int)<=9223372036854775807)⟩,hI,hI2⟩ HLB.out (Nat.le_trans HSW.out HFI.out.1.size)
        obtain ⟨hrow,hln,hsz,hnw,HPU⟩:=hpush
        have HPX:=zh (show ∀ v' w',w'.ownsRow w5.heap.size 64 4 v' (LL.length+1) (flatC LL++CH.nums ⟨cc,q,xv,yv⟩)->(wi.alloc (.cells (CH.nums ⟨cc,q,xv,yv⟩).toArray 64)).grownBy w' (Value.slice Aq LL.length cq).ownBlock->(v'.ownBlock=(Value.slice Aq LL.length cq).ownBlock\/v'.ownBlock=some (wi.alloc (.cells (CH.nums ⟨cc,q,xv,yv⟩).toArray 64)).heap.size)->DiR w5.heap.size w' v' (LQ++(List.range (q+1)).flatMap (chg1 cc (part a cc) (part b cc)))/\DF w5.heap.size wo.heap.size w7 v' w' from fun v' w' ho hg hob=>by
         obtain ⟨h1,h2,h3⟩:=HPU v' w' ho hg hob
         rw [dif_some HXV.out HYV.out hxy,HLL.out]
         exact ⟨h1,HFI.out.push HDI.out h2 h3⟩)
        clear HPU hI hI2
        obtain ⟨ix,hix,hz0,hz1,hz2⟩:=info_parts chInfo
        go_wp2_with (at_builtin; refine wpList_append_own_at (P:=Tryz.prog) _ rfl (.tmp 72) (.tmp 78) 54 rfl w5.heap.size 64 ix _ 4 32 Tryz.underlying54 hix hz0 hz1 hz2 rfl (by decide) (.slice Aq LL.length cq) LL.length (flatC LL) rfl hrow ⟨wi.heap.size,0,none⟩ 1 1 (CH.nums ⟨cc,q,xv,yv⟩) rfl rfl hnw (chg_one _) hln.1 hln.2 hsz ?_; intro v' w' ho hg hh hob; obtain ⟨ho2,hb2⟩:=HPX.out _ _ ho hg hob; obtain ⟨A',c',rfl,-⟩:=row_slice ho; clear ho hg hh hob)
        exact ⟨⟨q+1,by omega,by go_num,zh ho2,zh hb2⟩,by simp [intOf]; omega⟩
      ·obtain rfl:q=mx:=by omega
       have hq1:¬ (q:Int)<(q:Int):=by omega
       have HDZ:=zh (show DiR w5.heap.size wi _ (difs a b n (j+1)) from by
        rw [difs_succ a b HJC.out,HCC.out,dif1,HMX.out,<-List.append_assoc,<-HLE.out]; exact HDI.out)
       have HBF:=zh (show Below w5.heap.size w5 wi from (bl_tt HBJ.out HB67.out).trans (HFI.out.1.below (bl_tt HBJ.out HB67.out).size fun b h=>h.1))
       have hjb2:(j:Int)+1<=9223372036854775807:=by have:=HJL.out; have:=HN6.out; have:=HNN.out; omega
       go_wp2_with fail
       exact ⟨⟨j+1,HJL.out,by go_num,HDZ,HBF⟩,by have:=HJL.out; simp [intOf]; omega⟩
    ·have hl1:(((part a cc).length:Int) != ((part b cc).length:Int))=true:=bne_iff_ne.2 (by omega)
     have hcl0:chgL cc (part a cc) (part b cc)=[⟨cc,-1,(part a cc).length,(part b cc).length⟩]:=by unfold chgL; rw [if_pos hll]
     obtain ⟨L0,hL0⟩:∃ l,difs a b n j=l:=⟨_,rfl⟩
     have HDL2:=zh (show L0.length+1000002<=4398046511103 by rw [<-hL0]; exact HDL.out)
     rw [hL0] at HD7
     rw [hL0]
     have hpush:=HD7.out.push (c:=⟨cc,-1,(part a cc).length,(part b cc).length⟩) ⟨HCI.out,⟨(by decide : -9223372036854775808<=(-1:Int)),(by decide:(-1:Int)<=9223372036854775807)⟩,⟨(by omega : -9223372036854775808<=((part a cc).length:Int)),hi63.1⟩,⟨(by omega : -9223372036854775808<=((part b cc).length:Int)),hi63.2⟩⟩ (by have:=HDL2.out; omega) ((bl_tt HBJ.out HB67.out).size)
     obtain ⟨hrow,hln,hsz,hnw,HPU⟩:=hpush
     have HPX:=zh HPU
     have HD70:=HD7
     obtain ⟨lx,hlx⟩:∃ x,(part a cc).length=x:=⟨_,rfl⟩
     obtain ⟨ly,hly⟩:∃ x,(part b cc).length=x:=⟨_,rfl⟩
     rw [hlx,hly] at hrow hsz hnw HPX
     obtain ⟨ix,hix,hz0,hz1,hz2⟩:=info_parts chInfo
     rw [hlx] at hl1
     rw [hly] at hl1
     rw [hlx,hly]
     clear HPU HD7
     go_upto_region 11 with (at_builtin; refine wpList_append_own_at (P:=Tryz.prog) _ rfl (.tmp 46) (.tmp 53) 54 rfl w5.heap.size 64 ix _ 4 32 Tryz.underlying54 hix hz0 hz1 hz2 rfl (by decide) (.slice Aj L0.length cj) L0.length (flatC L0) rfl hrow ⟨w7.heap.size,0,none⟩ 1 1 (CH.nums ⟨cc,-1,lx,ly⟩) rfl rfl hnw (chg_one _) hln.1 hln.2 hsz ?_; intro v8 w8 ho hg hh hob; obtain ⟨ho2,hb2,hob2⟩:=HPX.out _ _ ho hg hob; obtain ⟨A8,c8,rfl,-⟩:=row_slice ho; clear ho hg hh hob)
     subst hlx hly
     obtain ⟨LQ,hLQ⟩:∃ l,L0++[(⟨cc,-1,(part a cc).length,(part b cc).length⟩:CH)]=l:=⟨_,rfl⟩
     have HLE:=zh (show LQ=difs a b n j++chgL cc (part a cc) (part b cc) by rw [hcl0,hL0,hLQ])
     have HLQ:=zh (show LQ.length+1000001<=4398046511103 by have:=HDL2.out; rw [<-hLQ,List.length_append]; simp only [List.length_cons,List.length_nil]; omega)
     rw [hLQ] at ho2
     have HDQ:=zh ho2
     have HSW:=zh (show w5.heap.size<=w7.heap.size from (bl_tt HBJ.out HB67.out).size)
     have HFQ:=zh (show DF w5.heap.size wo.heap.size w7 (.slice A8 (L0.length+1) c8) w8 from DF.push (v:=.slice Aj L0.length cj) (l:=L0) ⟨Chg.refl _ _,fun b hb=>.inl (HOL.out b (by rw [hL0]; exact hb))⟩ HD70.out hb2 hob2)
     clear hLQ hL0 hll HDL HDL2 hcl0 ho2 hb2 hob2 hrow hln hsz hnw hix hz0 hz1 hz2 HPX
     obtain ⟨mx,hmx⟩:∃ m:Nat,max (part a cc).length (part b cc).length=m:=⟨_,rfl⟩
     have hmxI:max ((part a cc).length:Int) ((part b cc).length:Int)=(mx:Int):=by omega
     have HMX:=zh hmx
     have HMB:=zh (show mx<=1000000 by have:=HMM.out; omega)
     go_wp2_with fail
     go_loopw [5,60] (fun v i wi=>∃ q:Nat,q<=mx/\i=.int .i64 q/\Hid (DiR w5.heap.size wi v (LQ++(List.range q).flatMap (chg1 cc (part a cc) (part b cc))))/\Hid (DF w5.heap.size wo.heap.size w7 v wi)) (fun _ i _=>mx-(intOf i).toNat)
     case atStart=>exact ⟨0,Nat.zero_le _,rfl,by simpa using HDQ,HFQ⟩
     case round =>
      obtain ⟨wi,rfl⟩:∃ x,x=wr:=⟨_,rfl⟩
      obtain ⟨q,hq,rfl,HDI,HFI⟩:=hrel
      by_cases hq2:q<mx
      ·have hq1:(q:Int)<(mx:Int):=by omega
       obtain ⟨LL,hLL⟩:∃ l,LQ++(List.range q).flatMap (chg1 cc (part a cc) (part b cc))=l:=⟨_,rfl⟩
       have HLL:=zh hLL
       have HLB:=zh (show LL.length+1<=4398046511103 by have:=HLQ.out; have:=HMB.out; have:=(chg1_len cc (part a cc) (part b cc) q); rw [<-hLL,List.length_append]; omega)
       rw [hLL] at HDI
       obtain ⟨xv,hxv⟩:∃ x,(part a cc).getD q 0=x:=⟨_,rfl⟩
       obtain ⟨yv,hyv⟩:∃ x,(part b cc).getD q 0=x:=⟨_,rfl⟩
       have HXV:=zh hxv
       have HYV:=zh hyv
       have HE1:=zh (element_any (part a cc) Ax cx q wi (HRX0.out.keep (fun _ _ _=>trivial) (fun b hb hlt=>HFI.out.1.block b hlt (by omega))) HLX.out)
       have HE2:=zh (element_any (part b cc) Ay cy q wi (HRY0.out.keep (fun _ _ _=>trivial) (fun b hb hlt=>HFI.out.1.block b hlt (by omega))) HLY.out)
       rw [hxv] at HE1
       rw [hyv] at HE2
       clear hxv hyv hLL
       obtain ⟨Aq,cq,rfl,-⟩:=row_slice HDI.out.1
       go_wp2_with fail
       refine HE1.out.mono ?_
       rintro e8 w8 ⟨rfl,h8⟩
       rw [h8]
       clear h8
       go_wp2_with fail
       refine HE2.out.mono ?_
       rintro e9 w9 ⟨rfl,h9⟩
       rw [h9]
       clear h9
       clear HE1 HE2
       by_cases hxy:xv=yv
       ·subst hxy
        have HDN:=zh (show DiR w5.heap.size wi (.slice Aq LL.length cq) (LQ++(List.range (q+1)).flatMap (chg1 cc (part a cc) (part b cc))) from by
         rw [dif_none (by rw [HXV.out,HYV.out]),HLL.out]; exact HDI.out)
        go_wp2_with fail
        exact ⟨⟨q+1,by omega,by go_num,HDN,HFI⟩,by simp [intOf]; omega⟩
       ·have hxy1:(xv != yv)=true:=by simp [hxy]
        have hI:=(HNX.out q).1
        have hI2:=(HNY.out q).1
        rw [HXV.out] at hI
        rw [HYV.out] at hI2
        have hpush:=HDI.out.push (c:=⟨cc,q,xv,yv⟩) ⟨HCI.out,⟨(by omega : -9223372036854775808<=(q:Int)),(by have:=HMB.out; omega:(q:Int)<=9223372036854775807)⟩,hI,hI2⟩ HLB.out (Nat.le_trans HSW.out HFI.out.1.size)
        obtain ⟨hrow,hln,hsz,hnw,HPU⟩:=hpush
        have HPX:=zh (show ∀ v' w',w'.ownsRow w5.heap.size 64 4 v' (LL.length+1) (flatC LL++CH.nums ⟨cc,q,xv,yv⟩)->(wi.alloc (.cells (CH.nums ⟨cc,q,xv,yv⟩).toArray 64)).grownBy w' (Value.slice Aq LL.length cq).ownBlock->(v'.ownBlock=(Value.slice Aq LL.length cq).ownBlock\/v'.ownBlock=some (wi.alloc (.cells (CH.nums ⟨cc,q,xv,yv⟩).toArray 64)).heap.size)->DiR w5.heap.size w' v' (LQ++(List.range (q+1)).flatMap (chg1 cc (part a cc) (part b cc)))/\DF w5.heap.size wo.heap.size w7 v' w' from fun v' w' ho hg hob=>by
         obtain ⟨h1,h2,h3⟩:=HPU v' w' ho hg hob
         rw [dif_some HXV.out HYV.out hxy,HLL.out]
         exact ⟨h1,HFI.out.push HDI.out h2 h3⟩)
        clear HPU hI hI2
        obtain ⟨ix,hix,hz0,hz1,hz2⟩:=info_parts chInfo
        go_wp2_with (at_builtin; refine wpList_append_own_at (P:=Tryz.prog) _ rfl (.tmp 72) (.tmp 78) 54 rfl w5.heap.size 64 ix _ 4 32 Tryz.underlying54 hix hz0 hz1 hz2 rfl (by decide) (.slice Aq LL.length cq) LL.length (flatC LL) rfl hrow ⟨wi.heap.size,0,none⟩ 1 1 (CH.nums ⟨cc,q,xv,yv⟩) rfl rfl hnw (chg_one _) hln.1 hln.2 hsz ?_; intro v' w' ho hg hh hob; obtain ⟨ho2,hb2⟩:=HPX.out _ _ ho hg hob; obtain ⟨A',c',rfl,-⟩:=row_slice ho; clear ho hg hh hob)
        exact ⟨⟨q+1,by omega,by go_num,zh ho2,zh hb2⟩,by simp [intOf]; omega⟩
      ·obtain rfl:q=mx:=by omega
       have hq1:¬ (q:Int)<(q:Int):=by omega
       have HDZ:=zh (show DiR w5.heap.size wi _ (difs a b n (j+1)) from by
        rw [difs_succ a b HJC.out,HCC.out,dif1,HMX.out,<-List.append_assoc,<-HLE.out]; exact HDI.out)
       have HBF:=zh (show Below w5.heap.size w5 wi from (bl_tt HBJ.out HB67.out).trans (HFI.out.1.below (bl_tt HBJ.out HB67.out).size fun b h=>h.1))
       have hjb2:(j:Int)+1<=9223372036854775807:=by have:=HJL.out; have:=HN6.out; have:=HNN.out; omega
       go_wp2_with fail
       exact ⟨⟨j+1,HJL.out,by go_num,HDZ,HBF⟩,by have:=HJL.out; simp [intOf]; omega⟩
   ·obtain rfl:j=n+2:=by omega
    have hj1:¬ ((n:Int)+2<(n:Int)+2):=by omega
    have hj2:¬ (((n+2:Nat):Int)<((n+2:Nat):Int)):=by omega
    have HFN:=zh (show difs a b n (n+2)=diffE a b from HNN.out▸difs_all HNE.out)
    go_wp2_with fail
    go_ret
    refine ⟨_,rfl,?_,bl_tt HB5.out HBJ.out⟩
    rw [<-HFN.out]
    exact ⟨own_lower HDJ.out.1 HB5.out.size,HDJ.out.2⟩
 ·have hn1:((a.cells.length:Int) != (b.cells.length:Int))=true:=bne_iff_ne.2 (by omega)
  have hd:diffE a b=[]:=by unfold diffE; rw [if_pos hne]
  unfold DiffP
  rw [hd]
  go_enter Tryz.func189,Tryz.ntmps189
  go_wp2_with fail
  go_ret
  exact ⟨_,rfl,DiR.nil _ _,HB0.out⟩
theorem evInfo:(Tryz.prog.info? 55).map (fun i=>(i.zero,i.size,i.bytes))=some (some (.slice none 0 0),1,24):=by kernel_rfl
theorem bEv (A:Option Addr) (l c:Nat) (w:World):(Instr.buildSlice 45 1 #[(0,.slice A l c)]).run Tryz.prog w=.ok (.slice (some ⟨w.heap.size,0,none⟩) 1 1) (w.alloc (.cells #[.slice A l c] 55)):=by kernel_rfl
theorem fnDiff:IsFn Tryz.prog 189 Tryz.f189:=⟨Tryz.func189,by kernel_rfl,by kernel_rfl⟩
theorem flatC_get:∀ (l:List CH) (i o:Nat) (hi:i<l.length),o<4->(flatC l)[i*4+o]?=(CH.nums l[i])[o]?
 | c::l,0,o,_,ho=>by
  rw [show flatC (c::l)=CH.nums c++flatC l from rfl,List.getElem?_append_left (by simp [CH.nums]; omega)]
  simp
 | c::l,i+1,o,hi,ho=>by
  rw [show flatC (c::l)=CH.nums c++flatC l from rfl,List.getElem?_append_right (by simp [CH.nums]; omega)]
  have:(i+1)*4+o-(CH.nums c).length=i*4+o:=by simp [CH.nums]; omega
  rw [this,flatC_get l i o (by simpa using hi) ho]
  simp
theorem DiR.rowC {n0:Nat} {w:World} {v:Value} {l:List CH} (h:DiR n0 w v l):∃ A c,v=.slice A l.length c/\l.length<=c/\RowC w (fun b=>n0<=b/\b<w.heap.size) A l:=by
 obtain ⟨A,c,rfl,hc,-⟩:=row_slice h.1
 refine ⟨A,c,rfl,hc,fun i hi=>?_⟩
 rcases h.1.2 with ⟨e1,e2⟩|⟨g,cap,cur,e1,h3,hg,-⟩
 ·omega
 ·injection e1 with e1
  subst e1
  have hx:∀ o u,o<4->(CH.nums l[i])[o]?=some u->w.cell? ⟨g,i*4+o,none⟩=some u:=fun o u h4 hu=>by
   rw [h.1.cellAt (i*4+o) (by omega),flatC_get l i o hi h4]
   exact hu
  refine ⟨⟨g,0,none⟩,rfl,⟨h3,(Array.getElem?_eq_some_iff.1 hg).1⟩,?_⟩
  rw [Addr.add_lit,Nat.zero_add]
  exact ⟨hx 0 _ (by omega) rfl,hx 1 _ (by omega) rfl,hx 2 _ (by omega) rfl,hx 3 _ (by omega) rfl⟩
theorem set11_10 {W:World} {b:Nat} {u0 u1 u2 u3 u4 u5 u6 u7 u8 u9 u10 x:Value} {E:TypeId} (h:W.heap[b]?=some (.cells #[u0,u1,u2,u3,u4,u5,u6,u7,u8,u9,u10] E (0,0))):(W.setCell ⟨b,10,none⟩ x).heap[b]?=some (.cells #[u0,u1,u2,u3,u4,u5,u6,u7,u8,u9,x] E (0,0)):=by
 rw [heap_setCell_same W b 10 _ _ x h]
 simp
theorem set11_789 {W:World} {b:Nat} {u0 u1 u2 u3 u4 u5 u6 u7 u8 u9 u10 x y z:Value} {E:TypeId} (h:W.heap[b]?=some (.cells #[u0,u1,u2,u3,u4,u5,u6,u7,u8,u9,u10] E (0,0))):(((W.setCell ⟨b,7,none⟩ x).setCell ⟨b,8,none⟩ y).setCell ⟨b,9,none⟩ z).heap[b]?=some (.cells #[u0,u1,u2,u3,u4,u5,u6,x,y,z,u10] E (0,0)):=by
 rw [heap_setCell_same _ b 9 _ _ z (heap_setCell_same _ b 8 _ _ y (heap_setCell_same W b 7 _ _ x h))]
 simp
theorem KS.chg2 {w W W':World} {n0 sb:Nat} {kb C:Nat->Prop} {S:ST} (h:KS w n0 sb kb W S) (hc:Chg C W W') (hC:∀ b,b<W.heap.size->C b->w.heap.size<=b/\(b<n0\/kb b)):KS w n0 sb (fun b=>kb b\/(W.heap.size<=b/\b<W'.heap.size)) W' S:=by
 obtain ⟨P,hs,e,hk⟩:=h.sr
 have h0:=h.chg hc hC
 have hno:∀ b,OwnB (rows P S) b->¬ C b:=fun b ho hcb=>by
  obtain ⟨-,h2⟩:=hC b (hs.own_lt ho).2 hcb
  rcases h2 with h2|h2
  ·have:=(hs.own_lt ho).1; omega
  ·exact (hk b h2).2 ho
 refine ⟨h0.bl,h0.hn,P,⟨hs.rws.chg hc fun i b hb=>hno b ⟨i,hb⟩,hs.wf⟩,e,fun b hb=>?_⟩
 rcases hb with hb|hb
 ·exact ⟨Nat.lt_of_lt_of_le (hk b hb).1 hc.size,(hk b hb).2⟩
 ·exact ⟨hb.2,fun ho=>by have:=(hs.own_lt ho).2; omega⟩
theorem TX.step {C:TC} {W W1 W4 W5 W7:World} {S:ST} {L:List SS} {O:Nat->Prop} {v1 v2 v3 ev x1 x2 x3 ev' dv:Value} {xs:List Value} (hC:C.Ok)
  (h1:KS C.w C.n0 C.sb (fun b=>C.kb b\/b=C.tb\/O b) W S) (h2:∀ b,O b->C.n0<=b/\¬ C.kb b/\b≠C.tb) (h3:W.heap[C.tb]?=some (.cells (C.cells v1 v2 v3 ev) 119 (0,0)))
  (g1:W.ownsRow C.n0 55 1 ev (evsE C.s0 L).length xs) (g2:∀ b,ev.ownBlock=some b->O b) (g3:∀ i (hi:i<(evsE C.s0 L).length),∃ A c,xs[i]?=some (.slice A (evsE C.s0 L)[i].length c)/\(evsE C.s0 L)[i].length<=c/\RowC W (fun b=>O b/\ev.ownBlock≠some b) A (evsE C.s0 L)[i])
  (hl:L.length+1<=1000000) (hsm:S.state.Sm) (hb1:Below W.heap.size W W1) (hb4:Below W1.heap.size W1 W4) (hx:OwnS W1 W.heap.size S.state (.agg #[x1,x2,x3])) {n2:Nat} (hn2:W.heap.size<=n2) (hd:DiR n2 W4 dv (diffE (lastS C.s0 L) S.state))
  (ho:W5.ownsRow C.n0 55 1 ev' ((evsE C.s0 L).length+1) (xs++[dv])) (hg:W4.grownBy W5 ev.ownBlock) (hob:ev'.ownBlock=ev.ownBlock\/ev'.ownBlock=some W4.heap.size)
  (hc7:Chg (fun b=>b=C.tb) W5 W7) (hk7:W7.heap[C.tb]?=some (.cells (C.cells x1 x2 x3 ev') 119 (0,0))) :
  TX C W7 S (L++[S.state])/\Kpt C.n0 C.kb W W7/\Below C.w.heap.size C.w W7:=by
 obtain ⟨P,-,-,hkb⟩:=h1.sr
 have hOlt:∀ b,O b->b<W.heap.size:=fun b hb=>(hkb b (.inr (.inr hb))).1
 have htlt:C.tb<W.heap.size:=(hkb _ (.inr (.inl rfl))).1
 have hb14:=bl_tt hb1 hb4
 have hs1:=hb1.size
 have hs4:=hb4.size
 have hs5:=hg.size
 have hs7:=hc7.size
 have hn0:=h1.hn
 -- the blocks between W and W7
 have hkeep:∀ b,b<W4.heap.size->ev.ownBlock≠some b->b≠C.tb->W7.heap[b]?=W4.heap[b]?:=fun b hb h1 h2=>(hc7.block b (Nat.lt_of_lt_of_le hb hs5) h2).trans (hg.block b hb (fun e=>h1 e.symm))
 have hkeepW:∀ b,b<W.heap.size->ev.ownBlock≠some b->b≠C.tb->W7.heap[b]?=W.heap[b]?:=fun b hb h1 h2=>(hkeep b (Nat.lt_of_lt_of_le hb hb14.size) h1 h2).trans (hb14.block b hb)
 have hch:Chg (fun b=>ev.ownBlock=some b\/b=C.tb) W4 W7:=⟨hc7.os.trans hg.os,hc7.tape.trans hg.tape,hc7.output.trans hg.output,Nat.le_trans hs5 hs7,fun b hb hn=>hkeep b hb (fun e=>hn (.inl e)) (fun e=>hn (.inr e))⟩
 have hks4:=h1.also hb14 (kb':=fun b=>(C.kb b\/b=C.tb\/O b)\/(W.heap.size<=b/\b<W4.heap.size)) fun b hb=>hb
 have hks7:=hks4.chg2 hch fun b _ hb=>by
  rcases hb with hb|hb
  ·have:=(h2 b (g2 b hb)).1
   exact ⟨by omega,.inr (.inl (.inr (.inr (g2 b hb))))⟩
  ·have:=hC.tb.1
   exact ⟨by omega,.inr (.inl (.inr (.inl hb)))⟩
 have hevn:∀ b,ev'.ownBlock=some b->O b\/W4.heap.size<=b:=fun b hb=>by
  rcases hob with e|e
  ·exact .inl (g2 b (e▸hb))
  ·rw [e] at hb; injection hb with hb; exact .inr (by omega)
 have hevlt:∀ b,ev'.ownBlock=some b->b<W7.heap.size:=fun b hb=>Nat.lt_of_lt_of_le (ho.lt b hb).2 hs7
 have hn0W:=h1.n0le
 have hevO:∀ b,ev.ownBlock=some b->b<W.heap.size:=fun b hb=>hOlt b (g2 b hb)
 have hnew:∀ b,W.heap.size<=b->b<W4.heap.size->(O b\/(W.heap.size<=b/\b<W7.heap.size))/\ev'.ownBlock≠some b:=fun b h4 h5=>⟨.inr ⟨h4,by omega⟩,fun e=>by
  rcases hevn b e with h6|h6
  ·have:=hOlt b h6; omega
  ·omega⟩
 have hkp4:∀ b,W.heap.size<=b->b<W4.heap.size->W7.heap[b]?=W4.heap[b]?:=fun b h4 h5=>hkeep b h5 (fun e=>by have:=hevO b e; omega) (fun e=>by omega)
 refine ⟨⟨fun b=>O b\/(W.heap.size<=b/\b<W7.heap.size),x1,x2,x3,ev',hks7.less fun b hb=>?_,fun b hb=>?_,hk7,?_,?_,by rw [lastS_snoc]; exact hsm,by simpa using hl⟩,⟨by omega,fun b hb hh=>?_⟩,hks7.bl⟩
 ·rcases hb with hb|hb|hb|hb
  ·exact .inl (.inl (.inl hb))
  ·exact .inl (.inl (.inr (.inl hb)))
  ·exact .inl (.inl (.inr (.inr hb)))
  ·rcases Nat.lt_or_ge b W4.heap.size with h4|h4
   ·exact .inl (.inr ⟨hb.1,h4⟩)
   ·exact .inr ⟨h4,hb.2⟩
 ·rcases hb with hb|hb
  ·exact h2 b hb
  ·exact ⟨by omega,fun hk=>by have:=(hkb b (.inl hk)).1; omega,by omega⟩
 ·rw [lastS_snoc]
  exact (hx.svR hsm.lim).keep (fun b hb hlt=>hnew b hb (Nat.lt_of_lt_of_le hlt hs4)) fun b hb hlt=>(hkp4 b hb (Nat.lt_of_lt_of_le hlt hs4)).trans (hb4.block b hlt)
 ·rw [evsE_snoc]
  refine ⟨xs++[dv],?_,fun b hb=>?_,fun i hi=>?_⟩
  ·rw [List.length_append]
   refine own_kept ho fun b hb=>hc7.block b (ho.lt b hb).2 fun e=>?_
   have e:b=C.tb:=e
   rcases hevn b hb with h6|h6
   ·exact (h2 b h6).2.2 e
   ·omega
  ·rcases hevn b hb with h6|h6
   ·exact .inl h6
   ·exact .inr ⟨by omega,hevlt b hb⟩
  ·rw [List.length_append] at hi
   by_cases hi2:i<(evsE C.s0 L).length
   ·obtain ⟨A,c,f1,f2,f3⟩:=g3 i hi2
    rw [List.getElem_append_left hi2]
    refine ⟨A,c,?_,f2,f3.keep (fun b hb hlt=>⟨.inl hb.1,fun e=>?_⟩) fun b hb hlt=>hkeepW b hlt hb.2 (h2 b hb.1).2.2⟩
    ·rw [List.getElem?_append_left (by have:=(List.getElem?_eq_some_iff.1 f1).1; exact this)]; exact f1
    ·rcases hob with e1|e1
     ·exact hb.2 (e1▸e)
     ·rw [e1] at e; injection e with e; omega
   ·obtain rfl:i=(evsE C.s0 L).length:=by simp at hi; omega
    obtain ⟨A,c,rfl,f2,f3⟩:=hd.rowC
    have hxl:xs.length=(evsE C.s0 L).length:=by have:=g1.1; simpa using this
    rw [List.getElem_append_right (Nat.le_refl _)]
    simp only [Nat.sub_self,List.getElem_cons_zero]
    refine ⟨A,c,by rw [List.getElem?_append_right (by omega),hxl,Nat.sub_self]; rfl,f2,f3.keep (fun b hb hlt=>hnew b (Nat.le_trans hn2 hb.1) hb.2) fun b hb hlt=>hkp4 b (Nat.le_trans hn2 hb.1) hb.2⟩
 ·refine hkeepW b hb (fun e=>?_) (fun e=>?_)
  ·have:=h2 b (g2 b e)
   rcases hh with hh|hh
   ·omega
   ·exact this.2.1 hh
  ·rcases hh with hh|hh
   ·have:=hC.tb.1; omega
   ·exact hC.tb.2 (e▸hh)
theorem done_any {C:TC} (hC:C.Ok) {W:World} {S:ST} {L:List SS} (h:TX C W S L) (hsm:S.state.Sm) (hl:L.length+1<=1000000) :
  Calls Tryz.prog 153 #[.pointer (some ⟨C.tb,0,none⟩),.int .i64 0] W fun e W'=>e=.returned (.int .i64 0)/\Kpt C.n0 C.kb W W'/\Below C.w.heap.size C.w W'/\TX C W' S (L++[S.state]):=by
 obtain ⟨O,v1,v2,v3,ev,h1,h2,h3,h4,⟨xs,g1,g2,g3⟩,h6,h7⟩:=h
 obtain ⟨A,c,B,d,D,e,hv,-⟩:=id h4
 injection hv with hv
 simp only [Array.mk.injEq,List.cons.injEq,and_true] at hv
 obtain ⟨rfl,rfl,rfl⟩:=hv
 obtain ⟨Ae,ce,rfl,-⟩:=row_slice g1
 have HST:=zh h1.state
 have hOlt:∀ b,O b->b<W.heap.size:=fun b hb=>by
  obtain ⟨P,-,-,hkb⟩:=h1.sr
  exact (hkb b (.inr (.inr hb))).1
 have HO:=zh hOlt
 have H1:=zh h1
 have H2:=zh h2
 have H3:=zh h3
 have H4:=zh h4.any
 have G1:=zh g1
 have G2:=zh g2
 have G3:=zh g3
 have H6:=zh h6
 have HSM:=zh hsm
 have HE:=zh (evsE_len C.s0 L)
 have t6:W.cell? ⟨C.tb,6,none⟩=some (.pointer (some ⟨C.sb,0,none⟩)):=zc h3 rfl
 clear h1 h2 h3 h4 g1 g2 g3 h6 hsm hOlt
 go_enter Tryz.func153,Tryz.ntmps153
 go_wp2_with fail
 refine HST.out.mono ?_
 rintro e1 w1 ⟨vx,rfl,hox,hb1⟩
 obtain ⟨AX,cX,BX,dX,DX,eX,rfl,-⟩:=hox.svR HSM.out.lim
 have HOX:=zh hox
 have HB1:=zh hb1
 clear t6 hox hb1 HST
 go_upto_region 3 with fail
 have kn:=heap_alloc_new w1 (.cells #[.slice AX S.state.cells.length cX,.slice BX S.state.tin.length dX,.slice DX S.state.tout.length eX] 26)
 have hbn:=bl_al (Below.refl w1.heap.size w1) (.cells #[.slice AX S.state.cells.length cX,.slice BX S.state.tin.length dX,.slice DX S.state.tout.length eX] 26)
 obtain ⟨w2,hw2⟩:∃ x,w1.alloc (.cells #[.slice AX S.state.cells.length cX,.slice BX S.state.tin.length dX,.slice DX S.state.tout.length eX] 26)=x:=⟨_,rfl⟩
 obtain ⟨nb,hnb⟩:∃ x,w1.heap.size=x:=⟨_,rfl⟩
 rw [hw2] at kn hbn ⊢
 rw [hnb] at kn ⊢
 have HNB:=zh hnb
 have HKN:=zh kn
 have HBN:=zh hbn
 have HT2:=zh (blk_bl H3.out (bl_tt HB1.out hbn))
 clear kn hbn hw2 hnb
 obtain ⟨le,hle⟩:∃ x,(evsE C.s0 L).length=x:=⟨_,rfl⟩
 have HLE:=zh hle
 have hbe:=bEv
 rw [hle] at HT2
 have HSS:=zh (show ∀ w',Below w2.heap.size w2 w'->(fun w':World=>w'.cell? ⟨C.tb,7,none⟩=some (.slice A (lastS C.s0 L).cells.length c)/\w'.cell? ⟨C.tb,8,none⟩=some (.slice B (lastS C.s0 L).tin.length d)/\w'.cell? ⟨C.tb,9,none⟩=some (.slice D (lastS C.s0 L).tout.length e)/\w'.cell? ⟨nb,0,none⟩=some (.slice AX S.state.cells.length cX)/\w'.cell? ⟨nb,1,none⟩=some (.slice BX S.state.tin.length dX)/\w'.cell? ⟨nb,2,none⟩=some (.slice DX S.state.tout.length eX)) w'/\(fun w':World=>w'.cell? ⟨C.tb,10,none⟩=some (.slice Ae le ce)) w' from fun w' hb=>⟨⟨zb hb (zc HT2.out rfl),zb hb (zc HT2.out rfl),zb hb (zc HT2.out rfl),zb hb (zc HKN.out rfl),zb hb (zc HKN.out rfl),zb hb (zc HKN.out rfl)⟩,zb hb (zc HT2.out rfl)⟩)
 have hSS:(fun w':World=>w'.cell? ⟨C.tb,7,none⟩=some (.slice A (lastS C.s0 L).cells.length c)/\w'.cell? ⟨C.tb,8,none⟩=some (.slice B (lastS C.s0 L).tin.length d)/\w'.cell? ⟨C.tb,9,none⟩=some (.slice D (lastS C.s0 L).tout.length e)/\w'.cell? ⟨nb,0,none⟩=some (.slice AX S.state.cells.length cX)/\w'.cell? ⟨nb,1,none⟩=some (.slice BX S.state.tin.length dX)/\w'.cell? ⟨nb,2,none⟩=some (.slice DX S.state.tout.length eX)) w2.drew/\(fun w':World=>w'.cell? ⟨C.tb,10,none⟩=some (.slice Ae le ce)) w2.drew:=HSS.out _ (Below.refl _ _).drew
 refine wp_region_noPanic ?_
 refine wp_region_G (fun w':World=>w'.cell? ⟨C.tb,7,none⟩=some (.slice A (lastS C.s0 L).cells.length c)/\w'.cell? ⟨C.tb,8,none⟩=some (.slice B (lastS C.s0 L).tin.length d)/\w'.cell? ⟨C.tb,9,none⟩=some (.slice D (lastS C.s0 L).tout.length e)/\w'.cell? ⟨nb,0,none⟩=some (.slice AX S.state.cells.length cX)/\w'.cell? ⟨nb,1,none⟩=some (.slice BX S.state.tin.length dX)/\w'.cell? ⟨nb,2,none⟩=some (.slice DX S.state.tout.length eX)) (fun w':World=>w'.cell? ⟨C.tb,10,none⟩=some (.slice Ae le ce)) 15 (by kernel_rfl) ?_
 refine zT 0 hSS ?_
 (try simp only [Act.put,zP])
 refine zT 1 hSS ?_
 (try simp only [Act.put,zP])
 refine zT 2 hSS ?_
 (try simp only [Act.put,zP])
 refine zT 3 hSS ?_
 (try simp only [Act.put,zP])
 refine wpG_take2 (i:=4) (v:=?_) rfl (by kernel_rfl) (by kernel_rfl) (by kernel_rfl) (by decide) rfl (by kernel_rfl) (by kernel_rfl) (fun _ _ _ h=>h) (Or.inl ⟨by rfl,?_⟩) hSS ?_
 rotate_left 1
 ·(intro w hSw; (try dsimp only at hSw); (try simp only [zA,zB,zC]); go_simp; (try with_reducible rfl))
 (try simp only [Act.put,zP])
 refine zT 5 hSS ?_
 (try simp only [Act.put,zP])
 refine zT 6 hSS ?_
 (try simp only [Act.put,zP])
 refine zT 7 hSS ?_
 (try simp only [Act.put,zP])
 refine zT 8 hSS ?_
 (try simp only [Act.put,zP])
 refine zT 9 hSS ?_
 (try simp only [Act.put,zP])
 have HW12:=zh (bl_tt HB1.out HBN.out)
 have hdw:Below w2.heap.size w2 w2.drew:=(Below.refl _ _).drew
 have had:Calls Tryz.prog 189 [.agg #[.slice A (lastS C.s0 L).cells.length c,.slice B (lastS C.s0 L).tin.length d,.slice D (lastS C.s0 L).tout.length e],.agg #[.slice AX S.state.cells.length cX,.slice BX S.state.tin.length dX,.slice DX S.state.tout.length eX]].toArray w2.drew fun e1 W'=>∃ u,e1=.returned u/\DiR w2.heap.size W' u (diffE (lastS C.s0 L) S.state)/\Below w2.heap.size w2 W' :=
  (Diff_any (lastS C.s0 L) S.state _ _ w2.drew (H4.out.later (bl_tt HW12.out hdw)) ((HOX.out.sv HSM.out.lim).later (bl_tt HBN.out hdw)) H6.out HSM.out).mono fun e1 W' ⟨v,q1,q2,q3⟩=>⟨v,q1,q2,hdw.trans q3⟩
 refine wpG_one (i:=10) (by kernel_rfl) rfl (fun K hK=>?_)
 refine step_callL (by rfl) (.func 189) [.tmp 21,.tmp 22] _ (by rfl) 189 _ fnDiff (by rfl) _ (by rfl) _ had ?_
 rintro dv w3 ⟨hd3,hb3⟩
 obtain ⟨Ad,cd,rfl,-⟩:=row_slice hd3.1
 have HD3:=zh hd3
 have HB3:=zh hb3
 refine hK.out _ _ (HSS.out _ hb3) ?_
 clear hK K had hd3 hb3 hSS hdw
 (try simp only [Act.put,zP])
 obtain ⟨ln,hln⟩:∃ x,(diffE (lastS C.s0 L) S.state).length=x:=⟨_,rfl⟩
 have HLN:=zh hln
 rw [hln]
 clear hln
 refine wpG_one (i:=11) (by kernel_rfl) rfl (fun K hK=>?_)
 (try simp only [zA,zB,zC])
 go_simp
 have k4:=heap_alloc_new w3 (.cells #[.slice Ad ln cd] 55)
 have hb34:=bl_al (Below.refl w3.heap.size w3) (.cells #[.slice Ad ln cd] 55)
 obtain ⟨w4,hw4⟩:∃ x,w3.alloc (.cells #[.slice Ad ln cd] 55)=x:=⟨_,rfl⟩
 obtain ⟨b4,hb4⟩:∃ x,w3.heap.size=x:=⟨_,rfl⟩
 have HB34:=zh hb34
 simp only [hw4,hb4] at k4 HB34 ⊢
 have HB34':=zh (show Below w3.heap.size w3 w4 by rw [hb4]; exact HB34.out)
 have HB24:=zh (bl_tt HB3.out HB34'.out)
 refine hK.out _ _ (HSS.out _ HB24.out) ?_
 clear hK K hw4 hb34 hb4
 (try simp only [Act.put,zP])
 have hrow:=own_later G1.out (bl_tt HW12.out HB24.out)
 rw [hle] at hrow
 obtain ⟨ix,hix,hz0,hz1,hz2⟩:=info_parts evInfo
 refine wpG_one (i:=12) (by kernel_rfl) rfl (fun K hK=>?_)
 have hlen6:le+1<=1000001:=by rw [<-hle,HE.out]; omega
 have hns:C.n0<=w4.heap.size:=Nat.le_trans H1.out.n0le (bl_tt HW12.out HB24.out).size
 refine step_append_own (by rfl) (.tmp 17) (.tmp 24) 45 (by rfl) C.n0 55 ix _ 1 24 Tryz.underlying45 hix hz0 hz1 hz2 rfl (by decide) (.slice Ae le ce) le xs (by rfl) hrow ⟨b4,0,none⟩ 1 1 [.slice Ad ln cd] (by rfl) rfl (fun j u hj=>by
  rw [Addr.add_lit,Nat.zero_add]
  exact zc k4 (by simpa using hj)) (by intro u hu; simp at hu; subst hu; rfl) (by unfold maxLen; omega) (by omega) hns ?_
 intro v5 w5 ho5 hg5 hob5
 obtain ⟨A5,c5,rfl,-⟩:=row_slice ho5
 have hO2:∀ b,(Value.slice Ae le ce).ownBlock=some b->O b:=fun b hb=>G2.out b (by rw [hle]; exact hb)
 have ht5:w5.heap[C.tb]?=_:=(Chg.row hg5).keep (blk_bl HT2.out HB24.out) (fun e=>(H2.out _ (hO2 _ e)).2.2 rfl)
 have hn5:w5.heap[nb]?=_:=(Chg.row hg5).keep (blk_bl HKN.out HB24.out) (fun e=>by have:=HO.out _ (hO2 _ e); have:=HB1.out.size; have:=HNB.out; omega)
 have hS5:(fun w':World=>w'.cell? ⟨C.tb,7,none⟩=some (.slice A (lastS C.s0 L).cells.length c)/\w'.cell? ⟨C.tb,8,none⟩=some (.slice B (lastS C.s0 L).tin.length d)/\w'.cell? ⟨C.tb,9,none⟩=some (.slice D (lastS C.s0 L).tout.length e)/\w'.cell? ⟨nb,0,none⟩=some (.slice AX S.state.cells.length cX)/\w'.cell? ⟨nb,1,none⟩=some (.slice BX S.state.tin.length dX)/\w'.cell? ⟨nb,2,none⟩=some (.slice DX S.state.tout.length eX)) w5/\(fun w':World=>w'.cell? ⟨C.tb,10,none⟩=some (.slice Ae le ce)) w5:=⟨⟨zc ht5 rfl,zc ht5 rfl,zc ht5 rfl,zc hn5 rfl,zc hn5 rfl,zc hn5 rfl⟩,zc ht5 rfl⟩
 refine hK.out _ _ hS5 ?_
 have HO5:=zh ho5
 have HG5:=zh hg5
 have HOB5:=zh hob5
 have HT5:=zh ht5
 have HN5:=zh hn5
 have hSS:=hS5
 have xf:∀ o,w5.frozen? ⟨C.tb,o,none⟩=false:=fun _=>zf ht5
 have x10:w5.cell? ⟨C.tb,10,none⟩=some (.slice Ae le ce):=zc ht5 rfl
 clear hK K ho5 hg5 hob5 ht5 hn5 hrow hix hz0 hz1 hz2 k4 hS5 hns
 (try simp only [Act.put,zP])
 refine zT 13 hSS ?_
 (try simp only [Act.put,zP])
 refine zT 14 hSS ?_
 (try simp only [Act.put,zP])
 refine wpG_past (i:=15) (by kernel_rfl) rfl (by kernel_rfl) (fun K hK=>?_)
 (try simp only [zA,zB,zC])
 go_simp
 have hk6:=set11_10 (x:=.slice A5 (le+1) c5) HT5.out
 have hc6:=(Chg.refl (fun b=>b=C.tb) w5).setCell (p:=⟨C.tb,10,none⟩) (.inl rfl) (.slice A5 (le+1) c5)
 obtain ⟨w6,hw6⟩:∃ x,w5.setCell ⟨C.tb,10,none⟩ (.slice A5 (le+1) c5)=x:=⟨_,rfl⟩
 rw [hw6] at hk6 hc6 ⊢
 refine hK.out _ _ ⟨zc hk6 rfl,zc hk6 rfl,zc hk6 rfl,zc (hc6.keep HN5.out (by show ¬ (nb=C.tb); have:=(H1.out.bl).size; have:=HNB.out; have:=blk_lt H3.out; have:=HB1.out.size; omega)) rfl,zc (hc6.keep HN5.out (by show ¬ (nb=C.tb); have:=HNB.out; have:=blk_lt H3.out; have:=HB1.out.size; omega)) rfl,zc (hc6.keep HN5.out (by show ¬ (nb=C.tb); have:=HNB.out; have:=blk_lt H3.out; have:=HB1.out.size; omega)) rfl⟩ ?_
 have hn6:=hc6.keep HN5.out (by show ¬ (nb=C.tb); have:=HNB.out; have:=blk_lt H3.out; have:=HB1.out.size; omega)
 have HC6:=zh hc6
 have HK6:=zh hk6
 clear hK K hw6 xf x10 hc6 hSS
 (try simp only [Act.put,zP])
 refine wpG_done (by kernel_rfl) ?_
 refine NoPanic.normal ?_
 have xf:∀ o,w6.frozen? ⟨C.tb,o,none⟩=false:=fun _=>zf hk6
 have x7:w6.cell? ⟨C.tb,7,none⟩=some (.slice A (lastS C.s0 L).cells.length c):=zc hk6 rfl
 have x8:w6.cell? ⟨C.tb,8,none⟩=some (.slice B (lastS C.s0 L).tin.length d):=zc hk6 rfl
 have x9:w6.cell? ⟨C.tb,9,none⟩=some (.slice D (lastS C.s0 L).tout.length e):=zc hk6 rfl
 have y0:w6.cell? ⟨nb,0,none⟩=some (.slice AX S.state.cells.length cX):=zc hn6 rfl
 have y1:w6.cell? ⟨nb,1,none⟩=some (.slice BX S.state.tin.length dX):=zc hn6 rfl
 have y2:w6.cell? ⟨nb,2,none⟩=some (.slice DX S.state.tout.length eX):=zc hn6 rfl
 have hk7:=set11_789 (x:=.slice AX S.state.cells.length cX) (y:=.slice BX S.state.tin.length dX) (z:=.slice DX S.state.tout.length eX) hk6
 have hc7:=((HC6.out.setCell (p:=⟨C.tb,7,none⟩) (.inl rfl) (.slice AX S.state.cells.length cX)).setCell (p:=⟨C.tb,8,none⟩) (.inl rfl) (.slice BX S.state.tin.length dX)).setCell (p:=⟨C.tb,9,none⟩) (.inl rfl) (.slice DX S.state.tout.length eX)
 have HFIN:=zh (TX.step (O:=O) (xs:=xs) hC H1.out H2.out H3.out G1.out G2.out G3.out hl HSM.out HB1.out (bl_tt HBN.out HB24.out) HOX.out (bl_tt HB1.out HBN.out).size (HD3.out.later HB34'.out) (by rw [hle,HLN.out]; exact HO5.out) (by rw [hle]; exact HG5.out) (by rw [hle]; exact HOB5.out) hc7 hk7)
 clear hk6 hn6 hk7 hc7
 go_wp2_with fail
 go_ret
 obtain ⟨q1,q2,q3⟩:=HFIN.out
 exact ⟨rfl,q2,q3,q1⟩
theorem fnTestT:IsFn Tryz.prog 207 Tryz.f207:=⟨Tryz.func207,by kernel_rfl,by kernel_rfl⟩
theorem test_any {C:TC} (hC:C.Ok) {W:World} {S:ST} {L:List SS} (h:TX C W S L) (hsm:S.state.Sm) (hl:L.length+1<=1000000) (t:T) (v:Value) (hv:NV C.w Any t v) (h0:(exprE S.look t).2=0) :
  Calls Tryz.prog 181 #[.pointer (some ⟨C.tb,0,none⟩),v] W fun e W'=>e=.returned (.tuple #[.bool (decide ((exprE S.look t).1≠0)),.int .i64 0])/\Kpt C.n0 C.kb W W'/\Below C.w.heap.size C.w W'/\TX C W' S (L++[S.state]):=by
 have HV:=zh hv
 obtain ⟨A,c,rfl,-⟩:=hv.open_
 obtain ⟨b,hb⟩:∃ b,decide ((exprE S.look t).1≠0)=b:=⟨_,rfl⟩
 have hb0:=bl_al (Below.refl W.heap.size W) (.cells #[.int .u8 t.k,.int .i64 t.n,.string t.s,.slice A t.ks.length c] 29)
 have kb:=heap_alloc_new W (.cells #[.int .u8 t.k,.int .i64 t.n,.string t.s,.slice A t.ks.length c] 29)
 obtain ⟨w1,hw1⟩:∃ x,W.alloc (.cells #[.int .u8 t.k,.int .i64 t.n,.string t.s,.slice A t.ks.length c] 29)=x:=⟨_,rfl⟩
 rw [hw1] at hb0 kb
 have HX:=zh (h.later hb0)
 have HBL:=zh h.ks.bl
 have HTE:=zh (fun w' (hb:Below w1.heap.size w1 w')=>Test_any (cellC C.w C.n0 C.sb _ S h.ks.wf) t _ w' (hv.later (bl_tt (bl_tt h.ks.bl hb0) hb)) ((h.later hb0).ks.later hb))
 rw [hb,h0] at HTE
 rw [hb]
 have HKB:=zh kb
 have HB0:=zh hb0
 have HSM:=zh hsm
 have hmf:∀ (fn:Fn) (first cap:Array Value) (w:World),(Instr.makeFunc fn first cap).run Tryz.prog w=.ok (.func fn first cap) w:=fun _ _ _ _=>rfl
 clear h hv hb h0 hb0 kb hsm
 go_enter Tryz.func181,Tryz.ntmps181
 go_upto_region 1 with fail
 (try rw [hw1])
 clear hw1
 have HSS:=zh (show ∀ w',Below w1.heap.size w1 w'->(fun w':World=>w'.cell? ⟨W.heap.size,0,none⟩=some (.int .u8 t.k)/\w'.cell? ⟨W.heap.size,1,none⟩=some (.int .i64 t.n)/\w'.cell? ⟨W.heap.size,2,none⟩=some (.string t.s)/\w'.cell? ⟨W.heap.size,3,none⟩=some (.slice A t.ks.length c)/\w'.cell? ⟨C.tb,6,none⟩=some (.pointer (some ⟨C.sb,0,none⟩))) w' from fun w' hb=>⟨zb hb (zc HKB.out rfl),zb hb (zc HKB.out rfl),zb hb (zc HKB.out rfl),zb hb (zc HKB.out rfl),zb hb HX.out.cells.1⟩)
 have hSS:(fun w':World=>w'.cell? ⟨W.heap.size,0,none⟩=some (.int .u8 t.k)/\w'.cell? ⟨W.heap.size,1,none⟩=some (.int .i64 t.n)/\w'.cell? ⟨W.heap.size,2,none⟩=some (.string t.s)/\w'.cell? ⟨W.heap.size,3,none⟩=some (.slice A t.ks.length c)/\w'.cell? ⟨C.tb,6,none⟩=some (.pointer (some ⟨C.sb,0,none⟩))) w1.drew/\(fun _:World=>True) w1.drew:=⟨HSS.out _ (Below.refl _ _).drew,trivial⟩
 refine wp_region_noPanic ?_
 refine wp_region_G (fun w':World=>w'.cell? ⟨W.heap.size,0,none⟩=some (.int .u8 t.k)/\w'.cell? ⟨W.heap.size,1,none⟩=some (.int .i64 t.n)/\w'.cell? ⟨W.heap.size,2,none⟩=some (.string t.s)/\w'.cell? ⟨W.heap.size,3,none⟩=some (.slice A t.ks.length c)/\w'.cell? ⟨C.tb,6,none⟩=some (.pointer (some ⟨C.sb,0,none⟩))) (fun _:World=>True) 6 (by kernel_rfl) ?_
 refine zT 0 hSS ?_
 (try simp only [Act.put,zP])
 refine zT 1 hSS ?_
 (try simp only [Act.put,zP])
 refine zT 2 hSS ?_
 (try simp only [Act.put,zP])
 refine zT 3 hSS ?_
 (try simp only [Act.put,zP])
 refine zT 4 hSS ?_
 (try simp only [Act.put,zP])
 refine zT 5 hSS ?_
 (try simp only [Act.put,zP])
 have had:Calls Tryz.prog 207 [.agg #[.int .u8 t.k,.int .i64 t.n,.string t.s,.slice A t.ks.length c],.func (.func 184) #[.pointer (some ⟨C.sb,0,none⟩)] #[]].toArray w1.drew fun e1 W'=>∃ u,e1=.returned u/\u=.tuple #[.bool b,.int .i64 0]/\Below w1.heap.size w1 W' :=
  (HTE.out _ (Below.refl _ _).drew).mono fun e1 W' ⟨q1,q2⟩=>⟨_,q1,rfl,(Below.refl _ _).drew.trans q2⟩
 refine wpG_past (i:=6) (by kernel_rfl) rfl (by kernel_rfl) (fun K hK=>?_)
 refine step_callL (by rfl) (.func 207) [.tmp 9,.tmp 14] _ (by rfl) 207 _ fnTestT (by rfl) _ (by rfl) _ had ?_
 rintro v3 w3 ⟨rfl,hb3⟩
 have hS3:=HSS.out _ hb3
 have HB3:=zh hb3
 refine hK.out _ _ hS3 ?_
 clear hK K had hSS hb3
 (try simp only [Act.put,zP])
 refine wpG_past (i:=7) (by kernel_rfl) rfl (by kernel_rfl) (fun K hK=>?_)
 (try simp only [zA,zB,zC])
 go_simp
 refine hK.out _ _ hS3 ?_
 clear hK K
 (try simp only [Act.put,zP])
 refine wpG_takeP (i:=8) (v:=?_) rfl (by kernel_rfl) (by kernel_rfl) (by kernel_rfl) (by decide) (by kernel_rfl) (fun _ _ _ h=>h) (Or.inl ⟨by rfl,?_⟩) hS3 ?_
 rotate_left 1
 ·(intro w hSw; (try dsimp only at hSw); (try simp only [zA,zB,zC]); go_simp; (try with_reducible rfl))
 (try simp only [Act.put,zP])
 refine wpG_takeP (i:=9) (v:=?_) rfl (by kernel_rfl) (by kernel_rfl) (by kernel_rfl) (by decide) (by kernel_rfl) (fun _ _ _ h=>h) (Or.inl ⟨by rfl,?_⟩) hS3 ?_
 rotate_left 1
 ·(intro w hSw; (try dsimp only at hSw); (try simp only [zA,zB,zC]); go_simp; (try with_reducible rfl))
 (try simp only [Act.put,zP])
 refine wpG_past (i:=10) (by kernel_rfl) rfl (by kernel_rfl) (fun K hK=>?_)
 (try simp only [zA,zB,zC])
 go_simp
 refine hK.out _ _ hS3 ?_
 clear hK K
 (try simp only [Act.put,zP])
 refine wpG_past (i:=11) (by kernel_rfl) rfl (by kernel_rfl) (fun K hK=>?_)
 (try simp only [zA,zB,zC])
 go_simp
 refine hK.out _ _ hS3 ?_
 clear hK K
 (try simp only [Act.put,zP])
 refine wpG_done (by kernel_rfl) ?_
 refine NoPanic.normal ?_
 have HDN:=zh (done_any hC (HX.out.later HB3.out) HSM.out hl)
 have HK3:=zh (Kpt.of_below (n0:=C.n0) (kb:=C.kb) (bl_tt HB0.out HB3.out))
 clear hS3
 go_wp2_with fail
 refine HDN.out.mono ?_
 rintro e4 w4 ⟨rfl,q1,q2,q3⟩
 have HQ1:=zh q1
 have HQ2:=zh q2
 have HQ3:=zh q3
 clear q1 q2 q3 HDN
 go_wp2_with fail
 go_ret2
 exact ⟨rfl,HK3.out.trans HQ1.out,HQ2.out,HQ3.out⟩
theorem tends_any (t:T) (v:Value) (back:Bool) (w0 w:World) (hB0:Below w0.heap.size w0 w) (hv:NV w0 Any t v) (hk:0<t.ks.length):Calls Tryz.prog 180 #[v,.bool back] w fun e W'=>∃ v1 v2,e=.returned (.tuple #[v1,v2])/\NV w0 Any (fstT back t) v1/\NV w0 Any (lstT back t) v2/\Below w.heap.size w W':=by
 have HV:=zh hv
 obtain ⟨A,c,rfl,hf,hlk,hlc,hrow⟩:=hv.open_
 obtain ⟨m,hm⟩:∃ m,t.ks.length=m+1:=⟨t.ks.length-1,by omega⟩
 obtain ⟨a,a0,a1,a2,a3,rfl,-,ha,hna⟩:=hrow 0 (by omega)
 obtain ⟨a',b0,b1,b2,b3,e',-,hb,hnb⟩:=hrow m (by omega)
 injection e' with e'
 subst e'
 obtain ⟨t6,ht6⟩:∃ x,t.ks[0]'(by omega)=x:=⟨_,rfl⟩
 obtain ⟨t7,ht7⟩:∃ x,t.ks[m]'(by omega)=x:=⟨_,rfl⟩
 rw [ht6] at hna
 rw [ht7] at hnb
 have HN6:=zh hna
 have HN7:=zh hnb
 have HT6:=zh (show kid t 0=t6 by simp [kid,show 0<t.ks.length by omega,ht6])
 have HT7:=zh (show kid t (t.ks.length-1)=t7 by simp [kid,hm,show m<t.ks.length by omega,ht7])
 obtain ⟨A6,c6,e6,-⟩:=hna.open_
 obtain ⟨A7,c7,e7,-⟩:=hnb.open_
 simp only [nv,Value.agg.injEq,Array.mk.injEq,List.cons.injEq,and_true] at e6 e7
 obtain ⟨rfl,rfl,rfl,rfl⟩:=e6
 obtain ⟨rfl,rfl,rfl,rfl⟩:=e7
 clear hna hnb ht6 ht7
 obtain ⟨ha0,ha1,ha2,ha3⟩:=ha
 obtain ⟨hb0,hb1,hb2,hb3⟩:=hb
 simp only [Nat.zero_mul,Addr.add_zero'] at ha0 ha1 ha2 ha3
 replace ha0:=zb hB0 ha0
 replace ha1:=zb hB0 ha1
 replace ha2:=zb hB0 ha2
 replace ha3:=zb hB0 ha3
 replace hb0:=zb hB0 hb0
 replace hb1:=zb hB0 hb1
 replace hb2:=zb hB0 hb2
 replace hb3:=zb hB0 hb3
 clear hB0
 have hwm:IntKind.i64.wrap (m:Int)=(m:Int):=IntWalk.i64_in _ (by unfold LK at hlk; omega)
 have hm0:(0:Int)<=(m:Int):=by omega
 have hm1:(m:Int)<((m:Int)+1):=by omega
 have hbl:Below w.heap.size w (((w.alloc (.cells #[.int .u8 t.k,.int .i64 t.n,.string t.s,.slice (some a) (m+1) c] 29)).alloc (.cells #[.int .u8 0,.int .i64 0,.string ⟨#[]⟩,.slice none 0 0] 29)).alloc (.cells #[.int .u8 0,.int .i64 0,.string ⟨#[]⟩,.slice none 0 0] 29)):=bl_al (bl_al (bl_al (Below.refl _ _) _) _) _
 have hk0:=blk_al (blk_al (heap_alloc_new w (.cells #[.int .u8 t.k,.int .i64 t.n,.string t.s,.slice (some a) (m+1) c] 29)) (.cells #[.int .u8 0,.int .i64 0,.string ⟨#[]⟩,.slice none 0 0] 29)) (.cells #[.int .u8 0,.int .i64 0,.string ⟨#[]⟩,.slice none 0 0] 29)
 have hk4:=blk_al (heap_alloc_new (w.alloc (.cells #[.int .u8 t.k,.int .i64 t.n,.string t.s,.slice (some a) (m+1) c] 29)) (.cells #[.int .u8 0,.int .i64 0,.string ⟨#[]⟩,.slice none 0 0] 29)) (.cells #[.int .u8 0,.int .i64 0,.string ⟨#[]⟩,.slice none 0 0] 29)
 have hk5:=heap_alloc_new ((w.alloc (.cells #[.int .u8 t.k,.int .i64 t.n,.string t.s,.slice (some a) (m+1) c] 29)).alloc (.cells #[.int .u8 0,.int .i64 0,.string ⟨#[]⟩,.slice none 0 0] 29)) (.cells #[.int .u8 0,.int .i64 0,.string ⟨#[]⟩,.slice none 0 0] 29)
 simp only [World.size_alloc] at hk4 hk5
 go_enter Tryz.func180,Tryz.ntmps180
 go_upto_region 1 with fail
 obtain ⟨w1,hw1⟩:∃ x,((w.alloc (.cells #[.int .u8 t.k,.int .i64 t.n,.string t.s,.slice (some a) (m+1) c] 29)).alloc (.cells #[.int .u8 0,.int .i64 0,.string ⟨#[]⟩,.slice none 0 0] 29)).alloc (.cells #[.int .u8 0,.int .i64 0,.string ⟨#[]⟩,.slice none 0 0] 29)=x:=⟨_,rfl⟩
 rw [hw1] at hbl hk0 hk4 hk5 ⊢
 have hSS:(fun w':World=>w'.cell? ⟨w.heap.size,3,none⟩=some (.slice (some a) (m+1) c)/\(w'.cell? a=some (.int .u8 t6.k)/\w'.cell? ⟨a.block,a.off+1,none⟩=some (.int .i64 t6.n)/\w'.cell? ⟨a.block,a.off+2,none⟩=some (.string t6.s)/\w'.cell? ⟨a.block,a.off+3,none⟩=some (.slice A6 t6.ks.length c6))/\(w'.cell? (a.add (m*4))=some (.int .u8 t7.k)/\w'.cell? ⟨(a.add (m*4)).block,(a.add (m*4)).off+1,none⟩=some (.int .i64 t7.n)/\w'.cell? ⟨(a.add (m*4)).block,(a.add (m*4)).off+2,none⟩=some (.string t7.s)/\w'.cell? ⟨(a.add (m*4)).block,(a.add (m*4)).off+3,none⟩=some (.slice A7 t7.ks.length c7))) w1.drew/\(fun _:World=>True) w1.drew:=⟨⟨zc hk0 rfl,⟨zb hbl.drew ha0,zb hbl.drew ha1,zb hbl.drew ha2,zb hbl.drew ha3⟩,⟨zb hbl.drew hb0,zb hbl.drew hb1,zb hbl.drew hb2,zb hbl.drew hb3⟩⟩,trivial⟩
 have HK4:=zh (show w1.heap[w.heap.size+1]?=some (.cells #[.int .u8 0,.int .i64 0,.string ⟨#[]⟩,.slice none 0 0] 29 (0,0)) from hk4)
 have HK5:=zh (show w1.heap[w.heap.size+1+1]?=some (.cells #[.int .u8 0,.int .i64 0,.string ⟨#[]⟩,.slice none 0 0] 29 (0,0)) from hk5)
 have HBL:=zh hbl
 clear hw1 hbl hk0 hk4 hk5 ha0 ha1 ha2 ha3 hb0 hb1 hb2 hb3 hrow HV
 refine wp_region_noPanic ?_
 refine wp_region_G (fun w':World=>w'.cell? ⟨w.heap.size,3,none⟩=some (.slice (some a) (m+1) c)/\(w'.cell? a=some (.int .u8 t6.k)/\w'.cell? ⟨a.block,a.off+1,none⟩=some (.int .i64 t6.n)/\w'.cell? ⟨a.block,a.off+2,none⟩=some (.string t6.s)/\w'.cell? ⟨a.block,a.off+3,none⟩=some (.slice A6 t6.ks.length c6))/\(w'.cell? (a.add (m*4))=some (.int .u8 t7.k)/\w'.cell? ⟨(a.add (m*4)).block,(a.add (m*4)).off+1,none⟩=some (.int .i64 t7.n)/\w'.cell? ⟨(a.add (m*4)).block,(a.add (m*4)).off+2,none⟩=some (.string t7.s)/\w'.cell? ⟨(a.add (m*4)).block,(a.add (m*4)).off+3,none⟩=some (.slice A7 t7.ks.length c7))) (fun _:World=>True) 15 (by kernel_rfl) ?_
 refine zT 0 hSS ?_
 (try simp only [Act.put,zP])
 refine zT 1 hSS ?_
 (try simp only [Act.put,zP])
 refine zT 2 hSS ?_
 (try simp only [Act.put,zP])
 refine zT 3 hSS ?_
 (try simp only [Act.put,zP])
 refine zT 4 hSS ?_
 (try simp only [Act.put,zP])
 refine zT 5 hSS ?_
 (try simp only [Act.put,zP])
 refine zT 6 hSS ?_
 (try simp only [Act.put,zP])
 refine zT 7 hSS ?_
 (try simp only [Act.put,zP])
 refine zT 8 hSS ?_
 (try simp only [Act.put,zP])
 refine zT 9 hSS ?_
 (try simp only [Act.put,zP])
 refine zT 10 hSS ?_
 (try simp only [Act.put,zP])
 refine zT 11 hSS ?_
 (try simp only [Act.put,zP])
 have HSK:=zh (show ∀ w',Below w1.heap.size w1 w'->(fun w':World=>w'.cell? ⟨w.heap.size,3,none⟩=some (.slice (some a) (m+1) c)/\(w'.cell? a=some (.int .u8 t6.k)/\w'.cell? ⟨a.block,a.off+1,none⟩=some (.int .i64 t6.n)/\w'.cell? ⟨a.block,a.off+2,none⟩=some (.string t6.s)/\w'.cell? ⟨a.block,a.off+3,none⟩=some (.slice A6 t6.ks.length c6))/\(w'.cell? (a.add (m*4))=some (.int .u8 t7.k)/\w'.cell? ⟨(a.add (m*4)).block,(a.add (m*4)).off+1,none⟩=some (.int .i64 t7.n)/\w'.cell? ⟨(a.add (m*4)).block,(a.add (m*4)).off+2,none⟩=some (.string t7.s)/\w'.cell? ⟨(a.add (m*4)).block,(a.add (m*4)).off+3,none⟩=some (.slice A7 t7.ks.length c7))) w' from fun w' hb=>by
  obtain ⟨⟨q0,⟨q1,q2,q3,q4⟩,q5,q6,q7,q8⟩,-⟩:=hSS
  exact ⟨zb hb q0,⟨zb hb q1,zb hb q2,zb hb q3,zb hb q4⟩,zb hb q5,zb hb q6,zb hb q7,zb hb q8⟩)
 clear hSS
 refine wpG_both (i:=12) (j:=13) (by kernel_rfl) rfl rfl (fun K hK=>?_) (fun K hK=>?_)
 ·skip
  (try simp only [zA,zB,zC])
  go_simp
  have hb2:=bl_al (Below.refl w1.heap.size w1) (.cells #[.int .u8 0,.int .i64 0,.string ⟨#[]⟩,.slice none 0 0] 29)
  refine hK.out _ _ ⟨HSK.out _ hb2.drew,trivial⟩ ?_
  clear hK K
  (try simp only [Act.put,zP])
  refine wpG_one (i:=13) (by kernel_rfl) rfl (fun K hK=>?_)
  (try simp only [zA,zB,zC])
  go_simp
  have hb3:Below w1.heap.size w1 ((w1.alloc (.cells #[.int .u8 0,.int .i64 0,.string ⟨#[]⟩,.slice none 0 0] 29)).alloc (.cells #[.int .u8 0,.int .i64 0,.string ⟨#[]⟩,.slice none 0 0] 29)):=bl_al hb2 (.cells #[.int .u8 0,.int .i64 0,.string ⟨#[]⟩,.slice none 0 0] 29)
  have hz6:=blk_al (heap_alloc_new w1 (.cells #[.int .u8 0,.int .i64 0,.string ⟨#[]⟩,.slice none 0 0] 29)) (.cells #[.int .u8 0,.int .i64 0,.string ⟨#[]⟩,.slice none 0 0] 29)
  have hz7:=heap_alloc_new (w1.alloc (.cells #[.int .u8 0,.int .i64 0,.string ⟨#[]⟩,.slice none 0 0] 29)) (.cells #[.int .u8 0,.int .i64 0,.string ⟨#[]⟩,.slice none 0 0] 29)
  rw [World.size_alloc] at hz7
  refine hK.out _ _ ⟨HSK.out _ hb3.drew,trivial⟩ ?_
  clear hK K
  (try simp only [Act.put,zP])
  obtain ⟨w3,hw3⟩:∃ x,(w1.alloc (.cells #[.int .u8 0,.int .i64 0,.string ⟨#[]⟩,.slice none 0 0] 29)).alloc (.cells #[.int .u8 0,.int .i64 0,.string ⟨#[]⟩,.slice none 0 0] 29)=x:=⟨_,rfl⟩
  rw [hw3] at hb3 hz6 hz7 ⊢
  clear hw3 hb2
  have HB3:=zh hb3
  have c0:w3.cell? ⟨w1.heap.size,0,none⟩=some (.int .u8 0):=zc hz6 rfl
  have c1:w3.cell? ⟨w1.heap.size,1,none⟩=some (.int .i64 0):=zc hz6 rfl
  have c2:w3.cell? ⟨w1.heap.size,2,none⟩=some (.string ⟨#[]⟩):=zc hz6 rfl
  have c3:w3.cell? ⟨w1.heap.size,3,none⟩=some (.slice none 0 0):=zc hz6 rfl
  have cf:∀ o,w3.frozen? ⟨w1.heap.size,o,none⟩=false:=fun _=>zf hz6
  refine wpG_one (i:=14) (by kernel_rfl) rfl (fun K hK=>?_)
  (try simp only [zA,zB,zC])
  go_simp
  obtain ⟨hh,hch⟩:=set4 (u0:=(.int .u8 t6.k)) (u1:=(.int .i64 t6.n)) (u2:=(.string t6.s)) (u3:=(.slice A6 t6.ks.length c6)) hz6
  obtain ⟨w4,hwn⟩:∃ x,(((w3.setCell ⟨w1.heap.size,0,none⟩ (.int .u8 t6.k)).setCell ⟨w1.heap.size,1,none⟩ (.int .i64 t6.n)).setCell ⟨w1.heap.size,2,none⟩ (.string t6.s)).setCell ⟨w1.heap.size,3,none⟩ (.slice A6 t6.ks.length c6)=x:=⟨_,rfl⟩
  rw [hwn] at hh hch ⊢
  have hb4:Below w1.heap.size w1 w4:=HB3.out.trans (hch.below HB3.out.size fun b e=>by omega)
  refine hK.out _ _ ⟨HSK.out _ hb4.drew,trivial⟩ ?_
  clear hK K c0 c1 c2 c3 cf hwn
  (try simp only [Act.put,zP])
  have HB4:=zh hb4
  have hz7':=hch.keep hz7 (by omega)
  have c0:w4.cell? ⟨(w1.heap.size+1),0,none⟩=some (.int .u8 0):=zc hz7' rfl
  have c1:w4.cell? ⟨(w1.heap.size+1),1,none⟩=some (.int .i64 0):=zc hz7' rfl
  have c2:w4.cell? ⟨(w1.heap.size+1),2,none⟩=some (.string ⟨#[]⟩):=zc hz7' rfl
  have c3:w4.cell? ⟨(w1.heap.size+1),3,none⟩=some (.slice none 0 0):=zc hz7' rfl
  have cf:∀ o,w4.frozen? ⟨(w1.heap.size+1),o,none⟩=false:=fun _=>zf hz7'
  refine wpG_past (i:=15) (by kernel_rfl) rfl (by kernel_rfl) (fun K hK=>?_)
  (try simp only [zA,zB,zC])
  go_simp
  obtain ⟨hh2,hch2⟩:=set4 (u0:=(.int .u8 t7.k)) (u1:=(.int .i64 t7.n)) (u2:=(.string t7.s)) (u3:=(.slice A7 t7.ks.length c7)) hz7'
  obtain ⟨w5,hwn⟩:∃ x,(((w4.setCell ⟨(w1.heap.size+1),0,none⟩ (.int .u8 t7.k)).setCell ⟨(w1.heap.size+1),1,none⟩ (.int .i64 t7.n)).setCell ⟨(w1.heap.size+1),2,none⟩ (.string t7.s)).setCell ⟨(w1.heap.size+1),3,none⟩ (.slice A7 t7.ks.length c7)=x:=⟨_,rfl⟩
  rw [hwn] at hh2 hch2 ⊢
  have hb5:Below w1.heap.size w1 w5:=HB4.out.trans (hch2.below HB4.out.size fun b e=>by omega)
  refine hK.out _ _ (HSK.out _ hb5.drew) ?_
  clear hK K c0 c1 c2 c3 cf hwn
  (try simp only [Act.put,zP])
  have HH6:=zh (hch2.keep hh (by omega))
  have HH7:=zh hh2
  have HB5:=zh (show Below w1.heap.size w1 w5 from hb5)
  clear hb3 hz6 hz7 hz7' hh hh2 hch hch2 hb4 hb5 HB4 HB3 HSK
  refine wpG_done (by kernel_rfl) ?_
  refine NoPanic.normal ?_
  have HZ4:=zh (blk_bl HK4.out HB5.out)
  have HZ5:=zh (blk_bl HK5.out HB5.out)
  cases back
  ·go_upto_region 4 with fail
   have hS5:(fun w':World=>(w'.cell? ⟨w1.heap.size,0,none⟩=some (.int .u8 t6.k)/\w'.cell? ⟨w1.heap.size,1,none⟩=some (.int .i64 t6.n)/\w'.cell? ⟨w1.heap.size,2,none⟩=some (.string t6.s)/\w'.cell? ⟨w1.heap.size,3,none⟩=some (.slice A6 t6.ks.length c6))/\(w'.cell? ⟨(w1.heap.size+1),0,none⟩=some (.int .u8 t7.k)/\w'.cell? ⟨(w1.heap.size+1),1,none⟩=some (.int .i64 t7.n)/\w'.cell? ⟨(w1.heap.size+1),2,none⟩=some (.string t7.s)/\w'.cell? ⟨(w1.heap.size+1),3,none⟩=some (.slice A7 t7.ks.length c7))) w5.drew:=⟨⟨zc HH6.out rfl,zc HH6.out rfl,zc HH6.out rfl,zc HH6.out rfl⟩,⟨zc HH7.out rfl,zc HH7.out rfl,zc HH7.out rfl,zc HH7.out rfl⟩⟩
   refine wp_region_noPanic ?_
   refine wp_region_G (fun w':World=>(w'.cell? ⟨w1.heap.size,0,none⟩=some (.int .u8 t6.k)/\w'.cell? ⟨w1.heap.size,1,none⟩=some (.int .i64 t6.n)/\w'.cell? ⟨w1.heap.size,2,none⟩=some (.string t6.s)/\w'.cell? ⟨w1.heap.size,3,none⟩=some (.slice A6 t6.ks.length c6))/\(w'.cell? ⟨(w1.heap.size+1),0,none⟩=some (.int .u8 t7.k)/\w'.cell? ⟨(w1.heap.size+1),1,none⟩=some (.int .i64 t7.n)/\w'.cell? ⟨(w1.heap.size+1),2,none⟩=some (.string t7.s)/\w'.cell? ⟨(w1.heap.size+1),3,none⟩=some (.slice A7 t7.ks.length c7))) (fun _:World=>True) 3 (by kernel_rfl) ?_
   refine wpG_take1 (i:=0) (v:=?_) rfl (by kernel_rfl) (by kernel_rfl) (by kernel_rfl) (by decide) (fun _ _ _ h=>h) (Or.inl ⟨by rfl,?_⟩) ⟨hS5,trivial⟩ ?_
   rotate_left 1
   ·(intro w hSw; (try dsimp only at hSw); (try simp only [zA,zC]); go_simp; (try with_reducible rfl))
   (try simp only [Act.put,zP])
   refine wpG_take1 (i:=1) (v:=?_) rfl (by kernel_rfl) (by kernel_rfl) (by kernel_rfl) (by decide) (fun _ _ _ h=>h) (Or.inl ⟨by rfl,?_⟩) ⟨hS5,trivial⟩ ?_
   rotate_left 1
   ·(intro w hSw; (try dsimp only at hSw); (try simp only [zA,zB,zC]); go_simp; (try with_reducible rfl))
   (try simp only [Act.put,zP])
   have hsz:w.heap.size+1+1<w1.heap.size:=(Array.getElem?_eq_some_iff.mp HK5.out).1
   have HBW:=zh (HBL.out.trans (HB5.out.mono (by omega)))
   have HC:=zh (show ∀ W':World,W'.heap[w1.heap.size]?=w5.heap[w1.heap.size]?->W'.heap[(w1.heap.size+1)]?=w5.heap[(w1.heap.size+1)]?->(fun w':World=>((w'.cell? ⟨w1.heap.size,0,none⟩=some (.int .u8 t6.k)/\w'.cell? ⟨w1.heap.size,1,none⟩=some (.int .i64 t6.n)/\w'.cell? ⟨w1.heap.size,2,none⟩=some (.string t6.s)/\w'.cell? ⟨w1.heap.size,3,none⟩=some (.slice A6 t6.ks.length c6))/\(w'.cell? ⟨(w1.heap.size+1),0,none⟩=some (.int .u8 t7.k)/\w'.cell? ⟨(w1.heap.size+1),1,none⟩=some (.int .i64 t7.n)/\w'.cell? ⟨(w1.heap.size+1),2,none⟩=some (.string t7.s)/\w'.cell? ⟨(w1.heap.size+1),3,none⟩=some (.slice A7 t7.ks.length c7)))) W'.drew from fun W' h6 h7=>⟨⟨zc (h6.trans HH6.out) rfl,zc (h6.trans HH6.out) rfl,zc (h6.trans HH6.out) rfl,zc (h6.trans HH6.out) rfl⟩,⟨zc (h7.trans HH7.out) rfl,zc (h7.trans HH7.out) rfl,zc (h7.trans HH7.out) rfl,zc (h7.trans HH7.out) rfl⟩⟩)
   have HZQ:=zh HZ4.out
   have HZ4K:=HZ4.out
   have HZ5K:=HZ5.out
   have c0:w5.cell? ⟨(w.heap.size+1),0,none⟩=some (.int .u8 0):=zc HZ4K rfl
   have c1:w5.cell? ⟨(w.heap.size+1),1,none⟩=some (.int .i64 0):=zc HZ4K rfl
   have c2:w5.cell? ⟨(w.heap.size+1),2,none⟩=some (.string ⟨#[]⟩):=zc HZ4K rfl
   have c3:w5.cell? ⟨(w.heap.size+1),3,none⟩=some (.slice none 0 0):=zc HZ4K rfl
   have cf:∀ o,w5.frozen? ⟨(w.heap.size+1),o,none⟩=false:=fun _=>zf HZ4K
   refine wpG_one (i:=2) (by kernel_rfl) rfl (fun K hK=>?_)
   (try simp only [zA,zB,zC])
   go_simp
   obtain ⟨hh,hch⟩:=set4 (u0:=(.int .u8 t6.k)) (u1:=(.int .i64 t6.n)) (u2:=(.string t6.s)) (u3:=(.slice A6 t6.ks.length c6)) HZ4K
   obtain ⟨w6,hwn⟩:∃ x,(((w5.setCell ⟨(w.heap.size+1),0,none⟩ (.int .u8 t6.k)).setCell ⟨(w.heap.size+1),1,none⟩ (.int .i64 t6.n)).setCell ⟨(w.heap.size+1),2,none⟩ (.string t6.s)).setCell ⟨(w.heap.size+1),3,none⟩ (.slice A6 t6.ks.length c6)=x:=⟨_,rfl⟩
   rw [hwn] at hh hch ⊢
   clear c0 c1 c2 c3 cf hwn
   have HBW6:=zh (HBW.out.trans (hch.below HBW.out.size fun b e=>by omega))
   have k6:=hch.block (w1.heap.size) (Array.getElem?_eq_some_iff.mp HH6.out).1 (by omega)
   have k7:=hch.block ((w1.heap.size+1)) (Array.getElem?_eq_some_iff.mp HH7.out).1 (by omega)
   have HZ5L:=hch.keep HZ5K (by omega)
   refine hK.out _ _ ⟨HC.out _ k6 k7,trivial⟩ ?_
   have HF4:=zh hh
   have K6:=zh k6
   have K7:=zh k7
   have HCH:=zh hch
   clear hK K k6 k7 hh hch
   (try simp only [Act.put,zP])
   have c0:w6.cell? ⟨(w.heap.size+1+1),0,none⟩=some (.int .u8 0):=zc HZ5L rfl
   have c1:w6.cell? ⟨(w.heap.size+1+1),1,none⟩=some (.int .i64 0):=zc HZ5L rfl
   have c2:w6.cell? ⟨(w.heap.size+1+1),2,none⟩=some (.string ⟨#[]⟩):=zc HZ5L rfl
   have c3:w6.cell? ⟨(w.heap.size+1+1),3,none⟩=some (.slice none 0 0):=zc HZ5L rfl
   have cf:∀ o,w6.frozen? ⟨(w.heap.size+1+1),o,none⟩=false:=fun _=>zf HZ5L
   refine wpG_past (i:=3) (by kernel_rfl) rfl (by kernel_rfl) (fun K hK=>?_)
   (try simp only [zA,zB,zC])
   go_simp
   obtain ⟨hh,hch⟩:=set4 (u0:=(.int .u8 t7.k)) (u1:=(.int .i64 t7.n)) (u2:=(.string t7.s)) (u3:=(.slice A7 t7.ks.length c7)) HZ5L
   obtain ⟨w7,hwn⟩:∃ x,(((w6.setCell ⟨(w.heap.size+1+1),0,none⟩ (.int .u8 t7.k)).setCell ⟨(w.heap.size+1+1),1,none⟩ (.int .i64 t7.n)).setCell ⟨(w.heap.size+1+1),2,none⟩ (.string t7.s)).setCell ⟨(w.heap.size+1+1),3,none⟩ (.slice A7 t7.ks.length c7)=x:=⟨_,rfl⟩
   rw [hwn] at hh hch ⊢
   clear c0 c1 c2 c3 cf hwn
   have HBW7:=zh (HBW6.out.trans (hch.below HBW6.out.size fun b e=>by omega))
   have k6:=hch.block (w1.heap.size) (by have:=(Array.getElem?_eq_some_iff.mp HH6.out).1; have:=HCH.out.size; omega) (by omega)
   have k7:=hch.block ((w1.heap.size+1)) (by have:=(Array.getElem?_eq_some_iff.mp HH7.out).1; have:=HCH.out.size; omega) (by omega)
   have HF4':=zh (hch.keep HF4.out (by omega))
   refine hK.out _ _ (HC.out _ (k6.trans K6.out) (k7.trans K7.out)) ?_
   have HF5:=zh hh
   clear hK K k6 k7 hh hch
   (try simp only [Act.put,zP])
   refine wpG_done (by kernel_rfl) ?_
   refine NoPanic.normal ?_
   have d4:=HF4'.out
   have d5:=HF5.out
   have g0:w7.drew.cell? ⟨w.heap.size+1,0,none⟩=some (.int .u8 t6.k):=zc d4 rfl
   have g1:w7.drew.cell? ⟨w.heap.size+1,1,none⟩=some (.int .i64 t6.n):=zc d4 rfl
   have g2:w7.drew.cell? ⟨w.heap.size+1,2,none⟩=some (.string t6.s):=zc d4 rfl
   have g3:w7.drew.cell? ⟨w.heap.size+1,3,none⟩=some (.slice A6 t6.ks.length c6):=zc d4 rfl
   have g4:w7.drew.cell? ⟨w.heap.size+1+1,0,none⟩=some (.int .u8 t7.k):=zc d5 rfl
   have g5:w7.drew.cell? ⟨w.heap.size+1+1,1,none⟩=some (.int .i64 t7.n):=zc d5 rfl
   have g6:w7.drew.cell? ⟨w.heap.size+1+1,2,none⟩=some (.string t7.s):=zc d5 rfl
   have g7:w7.drew.cell? ⟨w.heap.size+1+1,3,none⟩=some (.slice A7 t7.ks.length c7):=zc d5 rfl
   go_wp2_with fail
   refine bodyPost_ret (v:=.tuple #[.agg #[.int .u8 t6.k,.int .i64 t6.n,.string t6.s,.slice A6 t6.ks.length c6],.agg #[.int .u8 t7.k,.int .i64 t7.n,.string t7.s,.slice A7 t7.ks.length c7]]) (by simp [results,Tryz.results180,go_sem,g0,g1,g2,g3,g4,g5,g6,g7]) rfl ⟨_,_,rfl,?_,?_,HBW7.out.drew.drew⟩
   ·simp only [fstT,lstT,if_true,if_false,Bool.false_eq_true,HT6.out,HT7.out]
    exact HN6.out
   ·simp only [fstT,lstT,if_true,if_false,Bool.false_eq_true,HT6.out,HT7.out]
    exact HN7.out
  ·go_upto_region 3 with fail
   have hS5:(fun w':World=>(w'.cell? ⟨w1.heap.size,0,none⟩=some (.int .u8 t6.k)/\w'.cell? ⟨w1.heap.size,1,none⟩=some (.int .i64 t6.n)/\w'.cell? ⟨w1.heap.size,2,none⟩=some (.string t6.s)/\w'.cell? ⟨w1.heap.size,3,none⟩=some (.slice A6 t6.ks.length c6))/\(w'.cell? ⟨(w1.heap.size+1),0,none⟩=some (.int .u8 t7.k)/\w'.cell? ⟨(w1.heap.size+1),1,none⟩=some (.int .i64 t7.n)/\w'.cell? ⟨(w1.heap.size+1),2,none⟩=some (.string t7.s)/\w'.cell? ⟨(w1.heap.size+1),3,none⟩=some (.slice A7 t7.ks.length c7))) w5.drew:=⟨⟨zc HH6.out rfl,zc HH6.out rfl,zc HH6.out rfl,zc HH6.out rfl⟩,⟨zc HH7.out rfl,zc HH7.out rfl,zc HH7.out rfl,zc HH7.out rfl⟩⟩
   refine wp_region_noPanic ?_
   refine wp_region_G (fun w':World=>(w'.cell? ⟨w1.heap.size,0,none⟩=some (.int .u8 t6.k)/\w'.cell? ⟨w1.heap.size,1,none⟩=some (.int .i64 t6.n)/\w'.cell? ⟨w1.heap.size,2,none⟩=some (.string t6.s)/\w'.cell? ⟨w1.heap.size,3,none⟩=some (.slice A6 t6.ks.length c6))/\(w'.cell? ⟨(w1.heap.size+1),0,none⟩=some (.int .u8 t7.k)/\w'.cell? ⟨(w1.heap.size+1),1,none⟩=some (.int .i64 t7.n)/\w'.cell? ⟨(w1.heap.size+1),2,none⟩=some (.string t7.s)/\w'.cell? ⟨(w1.heap.size+1),3,none⟩=some (.slice A7 t7.ks.length c7))) (fun _:World=>True) 3 (by kernel_rfl) ?_
   refine wpG_take1 (i:=0) (v:=?_) rfl (by kernel_rfl) (by kernel_rfl) (by kernel_rfl) (by decide) (fun _ _ _ h=>h) (Or.inl ⟨by rfl,?_⟩) ⟨hS5,trivial⟩ ?_
   rotate_left 1
   ·(intro w hSw; (try dsimp only at hSw); (try simp only [zA,zC]); go_simp; (try with_reducible rfl))
   (try simp only [Act.put,zP])
   refine wpG_take1 (i:=1) (v:=?_) rfl (by kernel_rfl) (by kernel_rfl) (by kernel_rfl) (by decide) (fun _ _ _ h=>h) (Or.inl ⟨by rfl,?_⟩) ⟨hS5,trivial⟩ ?_
   rotate_left 1
   ·(intro w hSw; (try dsimp only at hSw); (try simp only [zA,zB,zC]); go_simp; (try with_reducible rfl))
   (try simp only [Act.put,zP])
   have hsz:w.heap.size+1+1<w1.heap.size:=(Array.getElem?_eq_some_iff.mp HK5.out).1
   have HBW:=zh (HBL.out.trans (HB5.out.mono (by omega)))
   have HC:=zh (show ∀ W':World,W'.heap[w1.heap.size]?=w5.heap[w1.heap.size]?->W'.heap[(w1.heap.size+1)]?=w5.heap[(w1.heap.size+1)]?->(fun w':World=>((w'.cell? ⟨w1.heap.size,0,none⟩=some (.int .u8 t6.k)/\w'.cell? ⟨w1.heap.size,1,none⟩=some (.int .i64 t6.n)/\w'.cell? ⟨w1.heap.size,2,none⟩=some (.string t6.s)/\w'.cell? ⟨w1.heap.size,3,none⟩=some (.slice A6 t6.ks.length c6))/\(w'.cell? ⟨(w1.heap.size+1),0,none⟩=some (.int .u8 t7.k)/\w'.cell? ⟨(w1.heap.size+1),1,none⟩=some (.int .i64 t7.n)/\w'.cell? ⟨(w1.heap.size+1),2,none⟩=some (.string t7.s)/\w'.cell? ⟨(w1.heap.size+1),3,none⟩=some (.slice A7 t7.ks.length c7)))) W'.drew from fun W' h6 h7=>⟨⟨zc (h6.trans HH6.out) rfl,zc (h6.trans HH6.out) rfl,zc (h6.trans HH6.out) rfl,zc (h6.trans HH6.out) rfl⟩,⟨zc (h7.trans HH7.out) rfl,zc (h7.trans HH7.out) rfl,zc (h7.trans HH7.out) rfl,zc (h7.trans HH7.out) rfl⟩⟩)
   have HZQ:=zh HZ4.out
   have HZ4K:=HZ4.out
   have HZ5K:=HZ5.out
   have c0:w5.cell? ⟨(w.heap.size+1),0,none⟩=some (.int .u8 0):=zc HZ4K rfl
   have c1:w5.cell? ⟨(w.heap.size+1),1,none⟩=some (.int .i64 0):=zc HZ4K rfl
   have c2:w5.cell? ⟨(w.heap.size+1),2,none⟩=some (.string ⟨#[]⟩):=zc HZ4K rfl
   have c3:w5.cell? ⟨(w.heap.size+1),3,none⟩=some (.slice none 0 0):=zc HZ4K rfl
   have cf:∀ o,w5.frozen? ⟨(w.heap.size+1),o,none⟩=false:=fun _=>zf HZ4K
   refine wpG_one (i:=2) (by kernel_rfl) rfl (fun K hK=>?_)
   (try simp only [zA,zB,zC])
   go_simp
   obtain ⟨hh,hch⟩:=set4 (u0:=(.int .u8 t7.k)) (u1:=(.int .i64 t7.n)) (u2:=(.string t7.s)) (u3:=(.slice A7 t7.ks.length c7)) HZ4K
   obtain ⟨w6,hwn⟩:∃ x,(((w5.setCell ⟨(w.heap.size+1),0,none⟩ (.int .u8 t7.k)).setCell ⟨(w.heap.size+1),1,none⟩ (.int .i64 t7.n)).setCell ⟨(w.heap.size+1),2,none⟩ (.string t7.s)).setCell ⟨(w.heap.size+1),3,none⟩ (.slice A7 t7.ks.length c7)=x:=⟨_,rfl⟩
   rw [hwn] at hh hch ⊢
   clear c0 c1 c2 c3 cf hwn
   have HBW6:=zh (HBW.out.trans (hch.below HBW.out.size fun b e=>by omega))
   have k6:=hch.block (w1.heap.size) (Array.getElem?_eq_some_iff.mp HH6.out).1 (by omega)
   have k7:=hch.block ((w1.heap.size+1)) (Array.getElem?_eq_some_iff.mp HH7.out).1 (by omega)
   have HZ5L:=hch.keep HZ5K (by omega)
   refine hK.out _ _ ⟨HC.out _ k6 k7,trivial⟩ ?_
   have HF4:=zh hh
   have K6:=zh k6
   have K7:=zh k7
   have HCH:=zh hch
   clear hK K k6 k7 hh hch
   (try simp only [Act.put,zP])
   have c0:w6.cell? ⟨(w.heap.size+1+1),0,none⟩=some (.int .u8 0):=zc HZ5L rfl
   have c1:w6.cell? ⟨(w.heap.size+1+1),1,none⟩=some (.int .i64 0):=zc HZ5L rfl
   have c2:w6.cell? ⟨(w.heap.size+1+1),2,none⟩=some (.string ⟨#[]⟩):=zc HZ5L rfl
   have c3:w6.cell? ⟨(w.heap.size+1+1),3,none⟩=some (.slice none 0 0):=zc HZ5L rfl
   have cf:∀ o,w6.frozen? ⟨(w.heap.size+1+1),o,none⟩=false:=fun _=>zf HZ5L
   refine wpG_past (i:=3) (by kernel_rfl) rfl (by kernel_rfl) (fun K hK=>?_)
   (try simp only [zA,zB,zC])
   go_simp
   obtain ⟨hh,hch⟩:=set4 (u0:=(.int .u8 t6.k)) (u1:=(.int .i64 t6.n)) (u2:=(.string t6.s)) (u3:=(.slice A6 t6.ks.length c6)) HZ5L
   obtain ⟨w7,hwn⟩:∃ x,(((w6.setCell ⟨(w.heap.size+1+1),0,none⟩ (.int .u8 t6.k)).setCell ⟨(w.heap.size+1+1),1,none⟩ (.int .i64 t6.n)).setCell ⟨(w.heap.size+1+1),2,none⟩ (.string t6.s)).setCell ⟨(w.heap.size+1+1),3,none⟩ (.slice A6 t6.ks.length c6)=x:=⟨_,rfl⟩
   rw [hwn] at hh hch ⊢
   clear c0 c1 c2 c3 cf hwn
   have HBW7:=zh (HBW6.out.trans (hch.below HBW6.out.size fun b e=>by omega))
   have k6:=hch.block (w1.heap.size) (by have:=(Array.getElem?_eq_some_iff.mp HH6.out).1; have:=HCH.out.size; omega) (by omega)
   have k7:=hch.block ((w1.heap.size+1)) (by have:=(Array.getElem?_eq_some_iff.mp HH7.out).1; have:=HCH.out.size; omega) (by omega)
   have HF4':=zh (hch.keep HF4.out (by omega))
   refine hK.out _ _ (HC.out _ (k6.trans K6.out) (k7.trans K7.out)) ?_
   have HF5:=zh hh
   clear hK K k6 k7 hh hch
   (try simp only [Act.put,zP])
   refine wpG_done (by kernel_rfl) ?_
   refine NoPanic.normal ?_
   have d4:=HF4'.out
   have d5:=HF5.out
   have g0:w7.drew.cell? ⟨w.heap.size+1,0,none⟩=some (.int .u8 t7.k):=zc d4 rfl
   have g1:w7.drew.cell? ⟨w.heap.size+1,1,none⟩=some (.int .i64 t7.n):=zc d4 rfl
   have g2:w7.drew.cell? ⟨w.heap.size+1,2,none⟩=some (.string t7.s):=zc d4 rfl
   have g3:w7.drew.cell? ⟨w.heap.size+1,3,none⟩=some (.slice A7 t7.ks.length c7):=zc d4 rfl
   have g4:w7.drew.cell? ⟨w.heap.size+1+1,0,none⟩=some (.int .u8 t6.k):=zc d5 rfl
   have g5:w7.drew.cell? ⟨w.heap.size+1+1,1,none⟩=some (.int .i64 t6.n):=zc d5 rfl
   have g6:w7.drew.cell? ⟨w.heap.size+1+1,2,none⟩=some (.string t6.s):=zc d5 rfl
   have g7:w7.drew.cell? ⟨w.heap.size+1+1,3,none⟩=some (.slice A6 t6.ks.length c6):=zc d5 rfl
   go_wp2_with fail
   refine bodyPost_ret (v:=.tuple #[.agg #[.int .u8 t7.k,.int .i64 t7.n,.string t7.s,.slice A7 t7.ks.length c7],.agg #[.int .u8 t6.k,.int .i64 t6.n,.string t6.s,.slice A6 t6.ks.length c6]]) (by simp [results,Tryz.results180,go_sem,g0,g1,g2,g3,g4,g5,g6,g7]) rfl ⟨_,_,rfl,?_,?_,HBW7.out.drew.drew⟩
   ·simp only [fstT,lstT,if_true,if_false,Bool.false_eq_true,HT7.out,HT6.out]
    exact HN7.out
   ·simp only [fstT,lstT,if_true,if_false,Bool.false_eq_true,HT7.out,HT6.out]
    exact HN6.out
 ·skip
  (try simp only [zA,zB,zC])
  go_simp
  have hb2:=bl_al (Below.refl w1.heap.size w1) (.cells #[.int .u8 0,.int .i64 0,.string ⟨#[]⟩,.slice none 0 0] 29)
  refine hK.out _ _ ⟨HSK.out _ hb2.drew,trivial⟩ ?_
  clear hK K
  (try simp only [Act.put,zP])
  refine wpG_one (i:=12) (by kernel_rfl) rfl (fun K hK=>?_)
  (try simp only [zA,zB,zC])
  go_simp
  have hb3:Below w1.heap.size w1 ((w1.alloc (.cells #[.int .u8 0,.int .i64 0,.string ⟨#[]⟩,.slice none 0 0] 29)).alloc (.cells #[.int .u8 0,.int .i64 0,.string ⟨#[]⟩,.slice none 0 0] 29)):=bl_al hb2 (.cells #[.int .u8 0,.int .i64 0,.string ⟨#[]⟩,.slice none 0 0] 29)
  have hz6:=blk_al (heap_alloc_new w1 (.cells #[.int .u8 0,.int .i64 0,.string ⟨#[]⟩,.slice none 0 0] 29)) (.cells #[.int .u8 0,.int .i64 0,.string ⟨#[]⟩,.slice none 0 0] 29)
  have hz7:=heap_alloc_new (w1.alloc (.cells #[.int .u8 0,.int .i64 0,.string ⟨#[]⟩,.slice none 0 0] 29)) (.cells #[.int .u8 0,.int .i64 0,.string ⟨#[]⟩,.slice none 0 0] 29)
  rw [World.size_alloc] at hz7
  refine hK.out _ _ ⟨HSK.out _ hb3.drew,trivial⟩ ?_
  clear hK K
  (try simp only [Act.put,zP])
  obtain ⟨w3,hw3⟩:∃ x,(w1.alloc (.cells #[.int .u8 0,.int .i64 0,.string ⟨#[]⟩,.slice none 0 0] 29)).alloc (.cells #[.int .u8 0,.int .i64 0,.string ⟨#[]⟩,.slice none 0 0] 29)=x:=⟨_,rfl⟩
  rw [hw3] at hb3 hz6 hz7 ⊢
  clear hw3 hb2
  have HB3:=zh hb3
  have c0:w3.cell? ⟨(w1.heap.size+1),0,none⟩=some (.int .u8 0):=zc hz7 rfl
  have c1:w3.cell? ⟨(w1.heap.size+1),1,none⟩=some (.int .i64 0):=zc hz7 rfl
  have c2:w3.cell? ⟨(w1.heap.size+1),2,none⟩=some (.string ⟨#[]⟩):=zc hz7 rfl
  have c3:w3.cell? ⟨(w1.heap.size+1),3,none⟩=some (.slice none 0 0):=zc hz7 rfl
  have cf:∀ o,w3.frozen? ⟨(w1.heap.size+1),o,none⟩=false:=fun _=>zf hz7
  refine wpG_one (i:=14) (by kernel_rfl) rfl (fun K hK=>?_)
  (try simp only [zA,zB,zC])
  go_simp
  obtain ⟨hh,hch⟩:=set4 (u0:=(.int .u8 t6.k)) (u1:=(.int .i64 t6.n)) (u2:=(.string t6.s)) (u3:=(.slice A6 t6.ks.length c6)) hz7
  obtain ⟨w4,hwn⟩:∃ x,(((w3.setCell ⟨(w1.heap.size+1),0,none⟩ (.int .u8 t6.k)).setCell ⟨(w1.heap.size+1),1,none⟩ (.int .i64 t6.n)).setCell ⟨(w1.heap.size+1),2,none⟩ (.string t6.s)).setCell ⟨(w1.heap.size+1),3,none⟩ (.slice A6 t6.ks.length c6)=x:=⟨_,rfl⟩
  rw [hwn] at hh hch ⊢
  have hb4:Below w1.heap.size w1 w4:=HB3.out.trans (hch.below HB3.out.size fun b e=>by omega)
  refine hK.out _ _ ⟨HSK.out _ hb4.drew,trivial⟩ ?_
  clear hK K c0 c1 c2 c3 cf hwn
  (try simp only [Act.put,zP])
  have HB4:=zh hb4
  have hz7':=hch.keep hz6 (by omega)
  have c0:w4.cell? ⟨w1.heap.size,0,none⟩=some (.int .u8 0):=zc hz7' rfl
  have c1:w4.cell? ⟨w1.heap.size,1,none⟩=some (.int .i64 0):=zc hz7' rfl
  have c2:w4.cell? ⟨w1.heap.size,2,none⟩=some (.string ⟨#[]⟩):=zc hz7' rfl
  have c3:w4.cell? ⟨w1.heap.size,3,none⟩=some (.slice none 0 0):=zc hz7' rfl
  have cf:∀ o,w4.frozen? ⟨w1.heap.size,o,none⟩=false:=fun _=>zf hz7'
  refine wpG_past (i:=15) (by kernel_rfl) rfl (by kernel_rfl) (fun K hK=>?_)
  (try simp only [zA,zB,zC])
  go_simp
  obtain ⟨hh2,hch2⟩:=set4 (u0:=(.int .u8 t7.k)) (u1:=(.int .i64 t7.n)) (u2:=(.string t7.s)) (u3:=(.slice A7 t7.ks.length c7)) hz7'
  obtain ⟨w5,hwn⟩:∃ x,(((w4.setCell ⟨w1.heap.size,0,none⟩ (.int .u8 t7.k)).setCell ⟨w1.heap.size,1,none⟩ (.int .i64 t7.n)).setCell ⟨w1.heap.size,2,none⟩ (.string t7.s)).setCell ⟨w1.heap.size,3,none⟩ (.slice A7 t7.ks.length c7)=x:=⟨_,rfl⟩
  rw [hwn] at hh2 hch2 ⊢
  have hb5:Below w1.heap.size w1 w5:=HB4.out.trans (hch2.below HB4.out.size fun b e=>by omega)
  refine hK.out _ _ (HSK.out _ hb5.drew) ?_
  clear hK K c0 c1 c2 c3 cf hwn
  (try simp only [Act.put,zP])
  have HH6:=zh (hch2.keep hh (by omega))
  have HH7:=zh hh2
  have HB5:=zh (show Below w1.heap.size w1 w5 from hb5)
  clear hb3 hz6 hz7 hz7' hh hh2 hch hch2 hb4 hb5 HB4 HB3 HSK
  refine wpG_done (by kernel_rfl) ?_
  refine NoPanic.normal ?_
  have HZ4:=zh (blk_bl HK4.out HB5.out)
  have HZ5:=zh (blk_bl HK5.out HB5.out)
  cases back
  ·go_upto_region 4 with fail
   have hS5:(fun w':World=>(w'.cell? ⟨(w1.heap.size+1),0,none⟩=some (.int .u8 t6.k)/\w'.cell? ⟨(w1.heap.size+1),1,none⟩=some (.int .i64 t6.n)/\w'.cell? ⟨(w1.heap.size+1),2,none⟩=some (.string t6.s)/\w'.cell? ⟨(w1.heap.size+1),3,none⟩=some (.slice A6 t6.ks.length c6))/\(w'.cell? ⟨w1.heap.size,0,none⟩=some (.int .u8 t7.k)/\w'.cell? ⟨w1.heap.size,1,none⟩=some (.int .i64 t7.n)/\w'.cell? ⟨w1.heap.size,2,none⟩=some (.string t7.s)/\w'.cell? ⟨w1.heap.size,3,none⟩=some (.slice A7 t7.ks.length c7))) w5.drew:=⟨⟨zc HH6.out rfl,zc HH6.out rfl,zc HH6.out rfl,zc HH6.out rfl⟩,⟨zc HH7.out rfl,zc HH7.out rfl,zc HH7.out rfl,zc HH7.out rfl⟩⟩
   refine wp_region_noPanic ?_
   refine wp_region_G (fun w':World=>(w'.cell? ⟨(w1.heap.size+1),0,none⟩=some (.int .u8 t6.k)/\w'.cell? ⟨(w1.heap.size+1),1,none⟩=some (.int .i64 t6.n)/\w'.cell? ⟨(w1.heap.size+1),2,none⟩=some (.string t6.s)/\w'.cell? ⟨(w1.heap.size+1),3,none⟩=some (.slice A6 t6.ks.length c6))/\(w'.cell? ⟨w1.heap.size,0,none⟩=some (.int .u8 t7.k)/\w'.cell? ⟨w1.heap.size,1,none⟩=some (.int .i64 t7.n)/\w'.cell? ⟨w1.heap.size,2,none⟩=some (.string t7.s)/\w'.cell? ⟨w1.heap.size,3,none⟩=some (.slice A7 t7.ks.length c7))) (fun _:World=>True) 3 (by kernel_rfl) ?_
   refine wpG_take1 (i:=0) (v:=?_) rfl (by kernel_rfl) (by kernel_rfl) (by kernel_rfl) (by decide) (fun _ _ _ h=>h) (Or.inl ⟨by rfl,?_⟩) ⟨hS5,trivial⟩ ?_
   rotate_left 1
   ·(intro w hSw; (try dsimp only at hSw); (try simp only [zA,zC]); go_simp; (try with_reducible rfl))
   (try simp only [Act.put,zP])
   refine wpG_take1 (i:=1) (v:=?_) rfl (by kernel_rfl) (by kernel_rfl) (by kernel_rfl) (by decide) (fun _ _ _ h=>h) (Or.inl ⟨by rfl,?_⟩) ⟨hS5,trivial⟩ ?_
   rotate_left 1
   ·(intro w hSw; (try dsimp only at hSw); (try simp only [zA,zB,zC]); go_simp; (try with_reducible rfl))
   (try simp only [Act.put,zP])
   have hsz:w.heap.size+1+1<w1.heap.size:=(Array.getElem?_eq_some_iff.mp HK5.out).1
   have HBW:=zh (HBL.out.trans (HB5.out.mono (by omega)))
   have HC:=zh (show ∀ W':World,W'.heap[(w1.heap.size+1)]?=w5.heap[(w1.heap.size+1)]?->W'.heap[w1.heap.size]?=w5.heap[w1.heap.size]?->(fun w':World=>((w'.cell? ⟨(w1.heap.size+1),0,none⟩=some (.int .u8 t6.k)/\w'.cell? ⟨(w1.heap.size+1),1,none⟩=some (.int .i64 t6.n)/\w'.cell? ⟨(w1.heap.size+1),2,none⟩=some (.string t6.s)/\w'.cell? ⟨(w1.heap.size+1),3,none⟩=some (.slice A6 t6.ks.length c6))/\(w'.cell? ⟨w1.heap.size,0,none⟩=some (.int .u8 t7.k)/\w'.cell? ⟨w1.heap.size,1,none⟩=some (.int .i64 t7.n)/\w'.cell? ⟨w1.heap.size,2,none⟩=some (.string t7.s)/\w'.cell? ⟨w1.heap.size,3,none⟩=some (.slice A7 t7.ks.length c7)))) W'.drew from fun W' h6 h7=>⟨⟨zc (h6.trans HH6.out) rfl,zc (h6.trans HH6.out) rfl,zc (h6.trans HH6.out) rfl,zc (h6.trans HH6.out) rfl⟩,⟨zc (h7.trans HH7.out) rfl,zc (h7.trans HH7.out) rfl,zc (h7.trans HH7.out) rfl,zc (h7.trans HH7.out) rfl⟩⟩)
   have HZQ:=zh HZ4.out
   have HZ4K:=HZ4.out
   have HZ5K:=HZ5.out
   have c0:w5.cell? ⟨(w.heap.size+1),0,none⟩=some (.int .u8 0):=zc HZ4K rfl
   have c1:w5.cell? ⟨(w.heap.size+1),1,none⟩=some (.int .i64 0):=zc HZ4K rfl
   have c2:w5.cell? ⟨(w.heap.size+1),2,none⟩=some (.string ⟨#[]⟩):=zc HZ4K rfl
   have c3:w5.cell? ⟨(w.heap.size+1),3,none⟩=some (.slice none 0 0):=zc HZ4K rfl
   have cf:∀ o,w5.frozen? ⟨(w.heap.size+1),o,none⟩=false:=fun _=>zf HZ4K
   refine wpG_one (i:=2) (by kernel_rfl) rfl (fun K hK=>?_)
   (try simp only [zA,zB,zC])
   go_simp
   obtain ⟨hh,hch⟩:=set4 (u0:=(.int .u8 t6.k)) (u1:=(.int .i64 t6.n)) (u2:=(.string t6.s)) (u3:=(.slice A6 t6.ks.length c6)) HZ4K
   obtain ⟨w6,hwn⟩:∃ x,(((w5.setCell ⟨(w.heap.size+1),0,none⟩ (.int .u8 t6.k)).setCell ⟨(w.heap.size+1),1,none⟩ (.int .i64 t6.n)).setCell ⟨(w.heap.size+1),2,none⟩ (.string t6.s)).setCell ⟨(w.heap.size+1),3,none⟩ (.slice A6 t6.ks.length c6)=x:=⟨_,rfl⟩
   rw [hwn] at hh hch ⊢
   clear c0 c1 c2 c3 cf hwn
   have HBW6:=zh (HBW.out.trans (hch.below HBW.out.size fun b e=>by omega))
   have k6:=hch.block ((w1.heap.size+1)) (Array.getElem?_eq_some_iff.mp HH6.out).1 (by omega)
   have k7:=hch.block (w1.heap.size) (Array.getElem?_eq_some_iff.mp HH7.out).1 (by omega)
   have HZ5L:=hch.keep HZ5K (by omega)
   refine hK.out _ _ ⟨HC.out _ k6 k7,trivial⟩ ?_
   have HF4:=zh hh
   have K6:=zh k6
   have K7:=zh k7
   have HCH:=zh hch
   clear hK K k6 k7 hh hch
   (try simp only [Act.put,zP])
   have c0:w6.cell? ⟨(w.heap.size+1+1),0,none⟩=some (.int .u8 0):=zc HZ5L rfl
   have c1:w6.cell? ⟨(w.heap.size+1+1),1,none⟩=some (.int .i64 0):=zc HZ5L rfl
   have c2:w6.cell? ⟨(w.heap.size+1+1),2,none⟩=some (.string ⟨#[]⟩):=zc HZ5L rfl
   have c3:w6.cell? ⟨(w.heap.size+1+1),3,none⟩=some (.slice none 0 0):=zc HZ5L rfl
   have cf:∀ o,w6.frozen? ⟨(w.heap.size+1+1),o,none⟩=false:=fun _=>zf HZ5L
   refine wpG_past (i:=3) (by kernel_rfl) rfl (by kernel_rfl) (fun K hK=>?_)
   (try simp only [zA,zB,zC])
   go_simp
   obtain ⟨hh,hch⟩:=set4 (u0:=(.int .u8 t7.k)) (u1:=(.int .i64 t7.n)) (u2:=(.string t7.s)) (u3:=(.slice A7 t7.ks.length c7)) HZ5L
   obtain ⟨w7,hwn⟩:∃ x,(((w6.setCell ⟨(w.heap.size+1+1),0,none⟩ (.int .u8 t7.k)).setCell ⟨(w.heap.size+1+1),1,none⟩ (.int .i64 t7.n)).setCell ⟨(w.heap.size+1+1),2,none⟩ (.string t7.s)).setCell ⟨(w.heap.size+1+1),3,none⟩ (.slice A7 t7.ks.length c7)=x:=⟨_,rfl⟩
   rw [hwn] at hh hch ⊢
   clear c0 c1 c2 c3 cf hwn
   have HBW7:=zh (HBW6.out.trans (hch.below HBW6.out.size fun b e=>by omega))
   have k6:=hch.block ((w1.heap.size+1)) (by have:=(Array.getElem?_eq_some_iff.mp HH6.out).1; have:=HCH.out.size; omega) (by omega)
   have k7:=hch.block (w1.heap.size) (by have:=(Array.getElem?_eq_some_iff.mp HH7.out).1; have:=HCH.out.size; omega) (by omega)
   have HF4':=zh (hch.keep HF4.out (by omega))
   refine hK.out _ _ (HC.out _ (k6.trans K6.out) (k7.trans K7.out)) ?_
   have HF5:=zh hh
   clear hK K k6 k7 hh hch
   (try simp only [Act.put,zP])
   refine wpG_done (by kernel_rfl) ?_
   refine NoPanic.normal ?_
   have d4:=HF4'.out
   have d5:=HF5.out
   have g0:w7.drew.cell? ⟨w.heap.size+1,0,none⟩=some (.int .u8 t6.k):=zc d4 rfl
   have g1:w7.drew.cell? ⟨w.heap.size+1,1,none⟩=some (.int .i64 t6.n):=zc d4 rfl
   have g2:w7.drew.cell? ⟨w.heap.size+1,2,none⟩=some (.string t6.s):=zc d4 rfl
   have g3:w7.drew.cell? ⟨w.heap.size+1,3,none⟩=some (.slice A6 t6.ks.length c6):=zc d4 rfl
   have g4:w7.drew.cell? ⟨w.heap.size+1+1,0,none⟩=some (.int .u8 t7.k):=zc d5 rfl
   have g5:w7.drew.cell? ⟨w.heap.size+1+1,1,none⟩=some (.int .i64 t7.n):=zc d5 rfl
   have g6:w7.drew.cell? ⟨w.heap.size+1+1,2,none⟩=some (.string t7.s):=zc d5 rfl
   have g7:w7.drew.cell? ⟨w.heap.size+1+1,3,none⟩=some (.slice A7 t7.ks.length c7):=zc d5 rfl
   go_wp2_with fail
   refine bodyPost_ret (v:=.tuple #[.agg #[.int .u8 t6.k,.int .i64 t6.n,.string t6.s,.slice A6 t6.ks.length c6],.agg #[.int .u8 t7.k,.int .i64 t7.n,.string t7.s,.slice A7 t7.ks.length c7]]) (by simp [results,Tryz.results180,go_sem,g0,g1,g2,g3,g4,g5,g6,g7]) rfl ⟨_,_,rfl,?_,?_,HBW7.out.drew.drew⟩
   ·simp only [fstT,lstT,if_true,if_false,Bool.false_eq_true,HT6.out,HT7.out]
    exact HN6.out
   ·simp only [fstT,lstT,if_true,if_false,Bool.false_eq_true,HT6.out,HT7.out]
    exact HN7.out
  ·go_upto_region 3 with fail
   have hS5:(fun w':World=>(w'.cell? ⟨(w1.heap.size+1),0,none⟩=some (.int .u8 t6.k)/\w'.cell? ⟨(w1.heap.size+1),1,none⟩=some (.int .i64 t6.n)/\w'.cell? ⟨(w1.heap.size+1),2,none⟩=some (.string t6.s)/\w'.cell? ⟨(w1.heap.size+1),3,none⟩=some (.slice A6 t6.ks.length c6))/\(w'.cell? ⟨w1.heap.size,0,none⟩=some (.int .u8 t7.k)/\w'.cell? ⟨w1.heap.size,1,none⟩=some (.int .i64 t7.n)/\w'.cell? ⟨w1.heap.size,2,none⟩=some (.string t7.s)/\w'.cell? ⟨w1.heap.size,3,none⟩=some (.slice A7 t7.ks.length c7))) w5.drew:=⟨⟨zc HH6.out rfl,zc HH6.out rfl,zc HH6.out rfl,zc HH6.out rfl⟩,⟨zc HH7.out rfl,zc HH7.out rfl,zc HH7.out rfl,zc HH7.out rfl⟩⟩
   refine wp_region_noPanic ?_
   refine wp_region_G (fun w':World=>(w'.cell? ⟨(w1.heap.size+1),0,none⟩=some (.int .u8 t6.k)/\w'.cell? ⟨(w1.heap.size+1),1,none⟩=some (.int .i64 t6.n)/\w'.cell? ⟨(w1.heap.size+1),2,none⟩=some (.string t6.s)/\w'.cell? ⟨(w1.heap.size+1),3,none⟩=some (.slice A6 t6.ks.length c6))/\(w'.cell? ⟨w1.heap.size,0,none⟩=some (.int .u8 t7.k)/\w'.cell? ⟨w1.heap.size,1,none⟩=some (.int .i64 t7.n)/\w'.cell? ⟨w1.heap.size,2,none⟩=some (.string t7.s)/\w'.cell? ⟨w1.heap.size,3,none⟩=some (.slice A7 t7.ks.length c7))) (fun _:World=>True) 3 (by kernel_rfl) ?_
   refine wpG_take1 (i:=0) (v:=?_) rfl (by kernel_rfl) (by kernel_rfl) (by kernel_rfl) (by decide) (fun _ _ _ h=>h) (Or.inl ⟨by rfl,?_⟩) ⟨hS5,trivial⟩ ?_
   rotate_left 1
   ·(intro w hSw; (try dsimp only at hSw); (try simp only [zA,zC]); go_simp; (try with_reducible rfl))
   (try simp only [Act.put,zP])
   refine wpG_take1 (i:=1) (v:=?_) rfl (by kernel_rfl) (by kernel_rfl) (by kernel_rfl) (by decide) (fun _ _ _ h=>h) (Or.inl ⟨by rfl,?_⟩) ⟨hS5,trivial⟩ ?_
   rotate_left 1
   ·(intro w hSw; (try dsimp only at hSw); (try simp only [zA,zB,zC]); go_simp; (try with_reducible rfl))
   (try simp only [Act.put,zP])
   have hsz:w.heap.size+1+1<w1.heap.size:=(Array.getElem?_eq_some_iff.mp HK5.out).1
   have HBW:=zh (HBL.out.trans (HB5.out.mono (by omega)))
   have HC:=zh (show ∀ W':World,W'.heap[(w1.heap.size+1)]?=w5.heap[(w1.heap.size+1)]?->W'.heap[w1.heap.size]?=w5.heap[w1.heap.size]?->(fun w':World=>((w'.cell? ⟨(w1.heap.size+1),0,none⟩=some (.int .u8 t6.k)/\w'.cell? ⟨(w1.heap.size+1),1,none⟩=some (.int .i64 t6.n)/\w'.cell? ⟨(w1.heap.size+1),2,none⟩=some (.string t6.s)/\w'.cell? ⟨(w1.heap.size+1),3,none⟩=some (.slice A6 t6.ks.length c6))/\(w'.cell? ⟨w1.heap.size,0,none⟩=some (.int .u8 t7.k)/\w'.cell? ⟨w1.heap.size,1,none⟩=some (.int .i64 t7.n)/\w'.cell? ⟨w1.heap.size,2,none⟩=some (.string t7.s)/\w'.cell? ⟨w1.heap.size,3,none⟩=some (.slice A7 t7.ks.length c7)))) W'.drew from fun W' h6 h7=>⟨⟨zc (h6.trans HH6.out) rfl,zc (h6.trans HH6.out) rfl,zc (h6.trans HH6.out) rfl,zc (h6.trans HH6.out) rfl⟩,⟨zc (h7.trans HH7.out) rfl,zc (h7.trans HH7.out) rfl,zc (h7.trans HH7.out) rfl,zc (h7.trans HH7.out) rfl⟩⟩)
   have HZQ:=zh HZ4.out
   have HZ4K:=HZ4.out
   have HZ5K:=HZ5.out
   have c0:w5.cell? ⟨(w.heap.size+1),0,none⟩=some (.int .u8 0):=zc HZ4K rfl
   have c1:w5.cell? ⟨(w.heap.size+1),1,none⟩=some (.int .i64 0):=zc HZ4K rfl
   have c2:w5.cell? ⟨(w.heap.size+1),2,none⟩=some (.string ⟨#[]⟩):=zc HZ4K rfl
   have c3:w5.cell? ⟨(w.heap.size+1),3,none⟩=some (.slice none 0 0):=zc HZ4K rfl
   have cf:∀ o,w5.frozen? ⟨(w.heap.size+1),o,none⟩=false:=fun _=>zf HZ4K
   refine wpG_one (i:=2) (by kernel_rfl) rfl (fun K hK=>?_)
   (try simp only [zA,zB,zC])
   go_simp
   obtain ⟨hh,hch⟩:=set4 (u0:=(.int .u8 t7.k)) (u1:=(.int .i64 t7.n)) (u2:=(.string t7.s)) (u3:=(.slice A7 t7.ks.length c7)) HZ4K
   obtain ⟨w6,hwn⟩:∃ x,(((w5.setCell ⟨(w.heap.size+1),0,none⟩ (.int .u8 t7.k)).setCell ⟨(w.heap.size+1),1,none⟩ (.int .i64 t7.n)).setCell ⟨(w.heap.size+1),2,none⟩ (.string t7.s)).setCell ⟨(w.heap.size+1),3,none⟩ (.slice A7 t7.ks.length c7)=x:=⟨_,rfl⟩
   rw [hwn] at hh hch ⊢
   clear c0 c1 c2 c3 cf hwn
   have HBW6:=zh (HBW.out.trans (hch.below HBW.out.size fun b e=>by omega))
   have k6:=hch.block ((w1.heap.size+1)) (Array.getElem?_eq_some_iff.mp HH6.out).1 (by omega)
   have k7:=hch.block (w1.heap.size) (Array.getElem?_eq_some_iff.mp HH7.out).1 (by omega)
   have HZ5L:=hch.keep HZ5K (by omega)
   refine hK.out _ _ ⟨HC.out _ k6 k7,trivial⟩ ?_
   have HF4:=zh hh
   have K6:=zh k6
   have K7:=zh k7
   have HCH:=zh hch
   clear hK K k6 k7 hh hch
   (try simp only [Act.put,zP])
   have c0:w6.cell? ⟨(w.heap.size+1+1),0,none⟩=some (.int .u8 0):=zc HZ5L rfl
   have c1:w6.cell? ⟨(w.heap.size+1+1),1,none⟩=some (.int .i64 0):=zc HZ5L rfl
   have c2:w6.cell? ⟨(w.heap.size+1+1),2,none⟩=some (.string ⟨#[]⟩):=zc HZ5L rfl
   have c3:w6.cell? ⟨(w.heap.size+1+1),3,none⟩=some (.slice none 0 0):=zc HZ5L rfl
   have cf:∀ o,w6.frozen? ⟨(w.heap.size+1+1),o,none⟩=false:=fun _=>zf HZ5L
   refine wpG_past (i:=3) (by kernel_rfl) rfl (by kernel_rfl) (fun K hK=>?_)
   (try simp only [zA,zB,zC])
   go_simp
   obtain ⟨hh,hch⟩:=set4 (u0:=(.int .u8 t6.k)) (u1:=(.int .i64 t6.n)) (u2:=(.string t6.s)) (u3:=(.slice A6 t6.ks.length c6)) HZ5L
   obtain ⟨w7,hwn⟩:∃ x,(((w6.setCell ⟨(w.heap.size+1+1),0,none⟩ (.int .u8 t6.k)).setCell ⟨(w.heap.size+1+1),1,none⟩ (.int .i64 t6.n)).setCell ⟨(w.heap.size+1+1),2,none⟩ (.string t6.s)).setCell ⟨(w.heap.size+1+1),3,none⟩ (.slice A6 t6.ks.length c6)=x:=⟨_,rfl⟩
   rw [hwn] at hh hch ⊢
   clear c0 c1 c2 c3 cf hwn
   have HBW7:=zh (HBW6.out.trans (hch.below HBW6.out.size fun b e=>by omega))
   have k6:=hch.block ((w1.heap.size+1)) (by have:=(Array.getElem?_eq_some_iff.mp HH6.out).1; have:=HCH.out.size; omega) (by omega)
   have k7:=hch.block (w1.heap.size) (by have:=(Array.getElem?_eq_some_iff.mp HH7.out).1; have:=HCH.out.size; omega) (by omega)
   have HF4':=zh (hch.keep HF4.out (by omega))
   refine hK.out _ _ (HC.out _ (k6.trans K6.out) (k7.trans K7.out)) ?_
   have HF5:=zh hh
   clear hK K k6 k7 hh hch
   (try simp only [Act.put,zP])
   refine wpG_done (by kernel_rfl) ?_
   refine NoPanic.normal ?_
   have d4:=HF4'.out
   have d5:=HF5.out
   have g0:w7.drew.cell? ⟨w.heap.size+1,0,none⟩=some (.int .u8 t7.k):=zc d4 rfl
   have g1:w7.drew.cell? ⟨w.heap.size+1,1,none⟩=some (.int .i64 t7.n):=zc d4 rfl
   have g2:w7.drew.cell? ⟨w.heap.size+1,2,none⟩=some (.string t7.s):=zc d4 rfl
   have g3:w7.drew.cell? ⟨w.heap.size+1,3,none⟩=some (.slice A7 t7.ks.length c7):=zc d4 rfl
   have g4:w7.drew.cell? ⟨w.heap.size+1+1,0,none⟩=some (.int .u8 t6.k):=zc d5 rfl
   have g5:w7.drew.cell? ⟨w.heap.size+1+1,1,none⟩=some (.int .i64 t6.n):=zc d5 rfl
   have g6:w7.drew.cell? ⟨w.heap.size+1+1,2,none⟩=some (.string t6.s):=zc d5 rfl
   have g7:w7.drew.cell? ⟨w.heap.size+1+1,3,none⟩=some (.slice A6 t6.ks.length c6):=zc d5 rfl
   go_wp2_with fail
   refine bodyPost_ret (v:=.tuple #[.agg #[.int .u8 t7.k,.int .i64 t7.n,.string t7.s,.slice A7 t7.ks.length c7],.agg #[.int .u8 t6.k,.int .i64 t6.n,.string t6.s,.slice A6 t6.ks.length c6]]) (by simp [results,Tryz.results180,go_sem,g0,g1,g2,g3,g4,g5,g6,g7]) rfl ⟨_,_,rfl,?_,?_,HBW7.out.drew.drew⟩
   ·simp only [fstT,lstT,if_true,if_false,Bool.false_eq_true,HT7.out,HT6.out]
    exact HN7.out
   ·simp only [fstT,lstT,if_true,if_false,Bool.false_eq_true,HT7.out,HT6.out]
    exact HN6.out
theorem TI.sm {C:TC} {W:World} {S:ST} {L:List SS} (h:TI C W S L) (hl:L.length<=900000):S.state.Sm:=by
 obtain ⟨kd,h1,_,_⟩:=h.wf.ex
 obtain ⟨_,_,h2⟩:=state_I h.wf
 have:=h.wf.tin.1
 have:=h.wf.tout.1
 have:=h.fb.1
 have:=h1.len
 refine ⟨?_,fun l hl=>by have:=h2 l hl; omega,by show S.tin.length<=_; omega,by show S.tout.length<=_; omega⟩
 simp only [ST.state,List.length_map,List.length_take]
 omega
def StmC (G:List PR->T->Prop) (back:Bool) (t:T) (S:ST) (L:List SS) (S':ST):Prop :=
 ∀ C:TC,C.Ok->G C.p.prs t->∀ (W:World) (L0:List SS),TI C W S L0->L0.length+L.length<=900000->∀ v,NV C.w Any t v ->
  Calls Tryz.prog 115 #[.pointer (some ⟨C.tb,0,none⟩),v,.bool back] W fun e W'=>e=.returned (.int .i64 0)/\TrP C W S' (L0++L) W'
def BlkC (G:List PR->T->Prop) (back:Bool):List T->ST->List SS->ST->Prop
 | [],S,L,S'=>L=[]/\S'=S
 | t::ts,S,L,S'=>∃ S1 L1 L2,L=L1++L2/\StmC G back t S L1 S1/\BlkC G back ts S1 L2 S'
theorem tblock_any {G:List PR->T->Prop} {C:TC} (hC:C.Ok) {W:World} {S S':ST} {L0 L:List SS} (h:TI C W S L0) (t:T) (v:Value) (back:Bool) (hB:BlkC G back (blkL back t) S L S') (hln:L0.length+L.length<=900000) (hv:NV C.w Any t v) (hG:∀ u∈t.ks,G C.p.prs u) :
  Calls Tryz.prog 65 #[.pointer (some ⟨C.tb,0,none⟩),v,.bool back] W fun e W'=>e=.returned (.int .i64 0)/\TrP C W S' (L0++L) W':=by
 obtain ⟨A,c,rfl,-,hlk,hlc,hrow⟩:=hv.open_
 have HROW:=zh hrow
 have HG:=zh hG
 have hb0:=bl_al (Below.refl W.heap.size W) (.cells #[.int .u8 t.k,.int .i64 t.n,.string t.s,.slice A t.ks.length c] 29)
 obtain ⟨hC1,h1⟩:=h.plus hC hb0
 have hz1:(W.alloc (.cells #[.int .u8 t.k,.int .i64 t.n,.string t.s,.slice A t.ks.length c] 29)).heap.size=W.heap.size+1:=by simp
 have hbx:=box4 (heap_alloc_new W (.cells #[.int .u8 t.k,.int .i64 t.n,.string t.s,.slice A t.ks.length c] 29))
 have HK0:=zh (Kpt.of_below (n0:=C.n0) (kb:=C.kb) hb0)
 obtain ⟨W1,hW1⟩:∃ x,W.alloc (.cells #[.int .u8 t.k,.int .i64 t.n,.string t.s,.slice A t.ks.length c] 29)=x:=⟨_,rfl⟩
 rw [hW1] at hC1 h1 hz1 hbx HK0
 obtain ⟨hi,hhi⟩:∃ x,W1.heap.size=x:=⟨_,rfl⟩
 rw [hhi] at hC1 h1 hz1
 have HC1:=zh hC1
 have H1:=zh h1
 have HBX:=zh hbx
 have hz2:W.heap.size<hi:=by omega
 have hwn:IntKind.i64.wrap ((t.ks.length:Int)-1)=(t.ks.length:Int)-1:=IntWalk.i64_in _ (by unfold LK at hlk; omega)
 have hwq:∀ j:Nat,j<t.ks.length->IntKind.i64.wrap ((t.ks.length:Int)-1-(j:Int))=((t.ks.length-1-j:Nat):Int):=fun j hj=>by rw [IntWalk.i64_in _ (by unfold LK at hlk; omega)]; omega
 have HLN:=zh hln
 have HBB:=zh (show BlkC G back ((blkL back t).drop 0) S L S' by rw [List.drop_zero]; exact hB)
 have hLL:(blkL back t).length=t.ks.length:=by unfold blkL; split<;>simp
 have HLL:=zh hLL
 have hlk2:t.ks.length<=17592186044416:=by unfold LK at hlk; omega
 clear hLL hlk hB hln
 clear hv hC1 h1 hbx hb0 h hz1 hG hrow
 obtain ⟨x0,x1,x2,x3⟩:=HBX.out
 go_enter Tryz.func65,Tryz.ntmps65
 go_wp2_with fail
 clear x0 x1 x2 x3 hW1
 go_loopw [17] (fun i wr=>∃ (j:Nat) (S1:ST) (L1 L2:List SS),j<=t.ks.length/\i=.int .i64 j/\Hid (TI (C.plus W.heap.size hi) wr S1 (L0++L1))/\Hid (Kpt C.n0 (C.plus W.heap.size hi).kb W1 wr)/\Hid (BlkC G back ((blkL back t).drop j) S1 L2 S')/\Hid (L=L1++L2)) (fun i _=>t.ks.length-(intOf i).toNat)
 case atStart=>exact ⟨0,S,[],L,Nat.zero_le _,rfl,by simpa using H1,zh (Kpt.refl _ _ _),HBB,zh rfl⟩
 case round =>
  obtain ⟨j,S1,L1,L2,hj,rfl,HR,HK,HBC,HLE⟩:=hrel
  by_cases hlt:j<t.ks.length
  ·cases back
   ·skip
    have hj1:(j:Int)<(t.ks.length:Int):=by omega
    have hj0:(0:Int)<=(j:Int):=by omega
    have hqs:j<t.ks.length:=by omega
    have hqs1:(j:Int)<(t.ks.length:Int):=by omega
    have hqs0:(0:Int)<=(j:Int):=by omega
    have hblr:=HR.out.below
    obtain ⟨a,u,A1,c1,rfl,-,hu,⟨p0,p1,p2,p3⟩,hnu⟩:=HROW.out.nd hqs
    have hgu:=HG.out u (by rw [<-hu.out]; exact List.getElem_mem _)
    have hdr:(blkL false t).drop j=u::(blkL false t).drop (j+1):=by
     rw [List.drop_eq_getElem_cons (by rw [HLL.out]; exact hlt),<-hu.out]; congr 1; all_goals simp [blkL,hlt]
    have hblk:=HBC.out
    rw [hdr] at hblk
    obtain ⟨S2,La,Lb,hlb,hstm,hblk2⟩:=hblk
    have HSU:=zh (hstm (C.plus W.heap.size hi) HC1.out hgu wr (L0++L1) HR.out (by have:=HLN.out; have h5:=HLE.out; rw [hlb] at h5; rw [h5] at this; simp only [List.length_append] at this ⊢; omega) _ hnu)
    have HBK2:=zh hblk2
    have HLE2:=zh (show L=(L1++La)++Lb by rw [HLE.out,hlb,List.append_assoc])
    have q0:=zb hblr p0
    have q1:=zb hblr p1
    have q2:=zb hblr p2
    have q3:=zb hblr p3
    have x3:wr.cell? ⟨W.heap.size,3,none⟩=some (.slice (some a) t.ks.length c):=HK.out.cell (.inr (.inr ⟨Nat.le_refl _,hz2⟩)) HBX.out.2.2.2
    clear hblr hnu hgu p0 p1 p2 p3 hu hdr hblk2 hstm hlb
    go_wp2_with fail
    refine HSU.out.mono ?_
    rintro e w2 ⟨rfl,hk2,hb2,hr2⟩
    have HK2:=zh (HK.out.trans hk2)
    have HR2:=zh (show TI (C.plus W.heap.size hi) w2 S2 (L0++(L1++La)) by rw [<-List.append_assoc]; exact hr2)
    clear hk2 hb2 hr2 HSU q0 q1 q2 q3 x3
    go_wp2_with fail
    go_roundw
    case rel=>exact ⟨j+1,S2,L1++La,Lb,by omega,by go_num,HR2,HK2,HBK2,HLE2⟩
    case measure=>simp [intOf]; omega
   ·skip
    have hwq1:=hwq j hlt
    obtain ⟨q,hq⟩:∃ q,t.ks.length-1-j=q:=⟨_,rfl⟩
    rw [hq] at hwq1
    have hj1:(j:Int)<(t.ks.length:Int):=by omega
    have hj0:(0:Int)<=(j:Int):=by omega
    have hqs:q<t.ks.length:=by omega
    have hqs1:(q:Int)<(t.ks.length:Int):=by omega
    have hqs0:(0:Int)<=(q:Int):=by omega
    have hblr:=HR.out.below
    obtain ⟨a,u,A1,c1,rfl,-,hu,⟨p0,p1,p2,p3⟩,hnu⟩:=HROW.out.nd hqs
    have hgu:=HG.out u (by rw [<-hu.out]; exact List.getElem_mem _)
    have hdr:(blkL true t).drop j=u::(blkL true t).drop (j+1):=by
     rw [List.drop_eq_getElem_cons (by rw [HLL.out]; exact hlt),<-hu.out]; congr 1; all_goals simp [blkL,hq]
    have hblk:=HBC.out
    rw [hdr] at hblk
    obtain ⟨S2,La,Lb,hlb,hstm,hblk2⟩:=hblk
    have HSU:=zh (hstm (C.plus W.heap.size hi) HC1.out hgu wr (L0++L1) HR.out (by have:=HLN.out; have h5:=HLE.out; rw [hlb] at h5; rw [h5] at this; simp only [List.length_append] at this ⊢; omega) _ hnu)
    have HBK2:=zh hblk2
    have HLE2:=zh (show L=(L1++La)++Lb by rw [HLE.out,hlb,List.append_assoc])
    have q0:=zb hblr p0
    have q1:=zb hblr p1
    have q2:=zb hblr p2
    have q3:=zb hblr p3
    have x3:wr.cell? ⟨W.heap.size,3,none⟩=some (.slice (some a) t.ks.length c):=HK.out.cell (.inr (.inr ⟨Nat.le_refl _,hz2⟩)) HBX.out.2.2.2
    clear hblr hnu hgu p0 p1 p2 p3 hu hdr hblk2 hstm hlb
    go_wp2_with fail
    refine HSU.out.mono ?_
    rintro e w2 ⟨rfl,hk2,hb2,hr2⟩
    have HK2:=zh (HK.out.trans hk2)
    have HR2:=zh (show TI (C.plus W.heap.size hi) w2 S2 (L0++(L1++La)) by rw [<-List.append_assoc]; exact hr2)
    clear hk2 hb2 hr2 HSU q0 q1 q2 q3 x3
    go_wp2_with fail
    go_roundw
    case rel=>exact ⟨j+1,S2,L1++La,Lb,by omega,by go_num,HR2,HK2,HBK2,HLE2⟩
    case measure=>simp [intOf]; omega
  ·obtain rfl:j=t.ks.length:=by omega
   have hj1:¬ (t.ks.length:Int)<(t.ks.length:Int):=by omega
   have hbc:=HBC.out
   rw [List.drop_of_length_le (by rw [HLL.out]; exact Nat.le_refl _)] at hbc
   obtain ⟨rfl,rfl⟩:=hbc
   have hll:L=L1:=by rw [HLE.out,List.append_nil]
   subst hll
   have HRL:=zh HR.out.less
   have HKF:=zh (show Kpt C.n0 C.kb W wr from HK0.out.trans ⟨HK.out.size,fun b hb hk=>HK.out.kept b hb (hk.elim .inl fun h=>.inr (.inl h))⟩)
   go_wp2_with fail
   go_ret
   exact ⟨rfl,HKF.out,HRL.out.below,HRL.out⟩
theorem tbranch_any {G:List PR->T->Prop} {C:TC} (hC:C.Ok) {W:World} {S S1:ST} {L0 L:List SS} (h:TI C W S L0) (t:T) (v:Value) (back:Bool) (h1:(exprE S.look (fstT back t)).2=0)
  (hB:BlkC G back (blkL back (if (exprE S.look (fstT back t)).1≠0 then kid t 1 else kid t 2)) S L S1) (h3:(exprE S1.look (lstT back t)).2=0) (hln:L0.length+(S.state::L++[S1.state]).length<=900000) (hv:NV C.w Any t v) (hk:t.ks.length=4) (hG1:∀ u∈(kid t 1).ks,G C.p.prs u) (hG2:∀ u∈(kid t 2).ks,G C.p.prs u) :
  Calls Tryz.prog 149 #[.pointer (some ⟨C.tb,0,none⟩),v,.bool back] W fun e W'=>e=.returned (.int .i64 0)/\TrP C W S1 (L0++(S.state::L++[S1.state])) W':=by
 obtain ⟨A,c,rfl,-,hlk,hlc,hrow⟩:=hv.open_
 have HROW:=zh hrow
 have hb0:=bl_al (Below.refl W.heap.size W) (.cells #[.int .u8 t.k,.int .i64 t.n,.string t.s,.slice A t.ks.length c] 29)
 obtain ⟨x0,x1,x2,x3⟩:=box4 (heap_alloc_new W (.cells #[.int .u8 t.k,.int .i64 t.n,.string t.s,.slice A t.ks.length c] 29))
 have HB0:=zh hb0
 have H:=zh h
 have HC:=zh hC
 have HLN:=zh hln
 have HX:=zh (heap_alloc_new W (.cells #[.int .u8 t.k,.int .i64 t.n,.string t.s,.slice A t.ks.length c] 29))
 have HEN:=zh (fun w' (hb:Below W.heap.size W w')=>tends_any t _ back C.w w' (bl_tt h.below hb) hv (by omega))
 have HKL:=zh hk
 obtain ⟨t1,ht1⟩:∃ x,fstT back t=x:=⟨_,rfl⟩
 obtain ⟨t2,ht2⟩:∃ x,lstT back t=x:=⟨_,rfl⟩
 rw [ht1] at h1 hB HEN
 rw [ht2] at h3 HEN
 have HE1:=zh h1
 have HE2:=zh h3
 have HBL:=zh hB
 have HG1:=zh hG1
 have HG2:=zh hG2
 clear hrow hb0 h hv hk hC hlk hln h1 h3 hB hG1 hG2 ht1 ht2
 go_enter Tryz.func149,Tryz.ntmps149
 go_wp2_with fail
 refine (HEN.out _ HB0.out).mono ?_
 rintro e w2 ⟨v1,v2,rfl,n1,n2,b2⟩
 obtain ⟨A1,c1,rfl,-⟩:=n1.open_
 obtain ⟨A2,c2,rfl,-⟩:=n2.open_
 have HN1:=zh n1
 have HN2:=zh n2
 have b3:=bl_al (bl_al (bl_tt HB0.out b2) (.cells #[.int .u8 t1.k,.int .i64 t1.n,.string t1.s,.slice A1 t1.ks.length c1] 29)) (.cells #[.int .u8 t2.k,.int .i64 t2.n,.string t2.s,.slice A2 t2.ks.length c2] 29)
 have k0:=blk_al (blk_al (blk_bl HX.out b2) (.cells #[.int .u8 t1.k,.int .i64 t1.n,.string t1.s,.slice A1 t1.ks.length c1] 29)) (.cells #[.int .u8 t2.k,.int .i64 t2.n,.string t2.s,.slice A2 t2.ks.length c2] 29)
 have k1:=blk_al (heap_alloc_new w2 (.cells #[.int .u8 t1.k,.int .i64 t1.n,.string t1.s,.slice A1 t1.ks.length c1] 29)) (.cells #[.int .u8 t2.k,.int .i64 t2.n,.string t2.s,.slice A2 t2.ks.length c2] 29)
 have k2:=heap_alloc_new (w2.alloc (.cells #[.int .u8 t1.k,.int .i64 t1.n,.string t1.s,.slice A1 t1.ks.length c1] 29)) (.cells #[.int .u8 t2.k,.int .i64 t2.n,.string t2.s,.slice A2 t2.ks.length c2] 29)
 simp only [World.size_alloc] at k2
 obtain ⟨w3,hw3⟩:∃ x,(w2.alloc (.cells #[.int .u8 t1.k,.int .i64 t1.n,.string t1.s,.slice A1 t1.ks.length c1] 29)).alloc (.cells #[.int .u8 t2.k,.int .i64 t2.n,.string t2.s,.slice A2 t2.ks.length c2] 29)=x:=⟨_,rfl⟩
 rw [hw3] at b3 k0 k1 k2
 have hz2:=bl_tt HB0.out b2
 have hzz:=hz2.size
 obtain ⟨hC3,h3⟩:=H.out.plus HC.out b3
 have HP3:=zh (Kpt.of_below (n0:=C.n0) (kb:=C.kb) b3)
 have l0:=blk_lt k0
 have l1:=blk_lt k1
 have l2:=blk_lt k2
 obtain ⟨hi,hhi⟩:∃ x,w3.heap.size=x:=⟨_,rfl⟩
 rw [hhi] at hC3 h3 l0 l1 l2
 have HC3:=zh hC3
 have H3:=zh h3
 have K0:=zh k0
 have K2:=zh k2
 have HTT:=zh (test_any hC3 h3.ex (h3.sm (by have:=HLN.out; simp only [List.length_append,List.length_cons,List.length_nil] at this ⊢; omega)) (by have:=HLN.out; simp only [List.length_append,List.length_cons,List.length_nil] at this ⊢; omega) t1 _ n1 HE1.out)
 obtain ⟨p1,⟨y0,y1,y2,y3⟩⟩:True/\(w3.cell? ⟨w2.heap.size,0,none⟩=some (.int .u8 t1.k)/\w3.cell? ⟨w2.heap.size,1,none⟩=some (.int .i64 t1.n)/\w3.cell? ⟨w2.heap.size,2,none⟩=some (.string t1.s)/\w3.cell? ⟨w2.heap.size,3,none⟩=some (.slice A1 t1.ks.length c1)):=⟨trivial,zc k1 rfl,zc k1 rfl,zc k1 rfl,zc k1 rfl⟩
 clear n1 n2 b2 b3 k0 k1 k2 hz2 hC3 h3 x0 x1 x2 x3 HX HB0 HEN p1
 go_upto_region 2 with fail
 clear hw3
 go_wp2_with fail
 refine HTT.out.mono ?_
 rintro e w4 ⟨rfl,hk4,hb4,hr4⟩
 have HK4:=zh (HP3.out.trans ⟨hk4.size,fun b hb hk=>hk4.kept b hb (hk.elim .inl fun h=>.inr (.inl h))⟩)
 have HT4:=zh (show TI (C.plus W.heap.size hi) w4 S (L0++[S.state]) from ⟨hr4,H3.out.fb.mono (by simp)⟩)
 have K4:=zh (hk4.blk (.inr (.inr ⟨by omega,l2⟩)) K2.out)
 have z3:w4.cell? ⟨W.heap.size,3,none⟩=some (.slice A t.ks.length c):=zc (hk4.blk (.inr (.inr ⟨Nat.le_refl _,l0⟩)) K0.out) rfl
 have HB4:=zh (show Below C.w.heap.size C.w w4 from hb4)
 clear hk4 hb4 hr4 y0 y1 y2 y3 HTT
 obtain ⟨bb,hbb⟩:∃ b,decide ((exprE S.look t1).1≠0)=b:=⟨_,rfl⟩
 rw [hbb]
 have hbl:=HBL.out
 have hkl:=HKL.out
 have i2:2<t.ks.length:=by omega
 have i1:1<t.ks.length:=by omega
 have i2':(2:Int)<(t.ks.length:Int):=by omega
 have i1':(1:Int)<(t.ks.length:Int):=by omega
 obtain ⟨a,u2,Au2,cu2,rfl,-,hu2,⟨p0,p1,p2,p3⟩,hnu2⟩:=HROW.out.nd i2
 obtain ⟨a',u1,Au1,cu1,ea,-,hu1,⟨r0,r1,r2,r3⟩,hnu1⟩:=HROW.out.nd i1
 injection ea with ea
 subst ea
 have e2:kid t 2=u2:=by unfold kid; rw [List.getD_eq_getElem?_getD,List.getElem?_eq_getElem i2]; exact hu2.out
 have e1:kid t 1=u1:=by unfold kid; rw [List.getD_eq_getElem?_getD,List.getElem?_eq_getElem i1]; exact hu1.out
 have ha2:a.add (2*4)=⟨a.block,a.off+8,none⟩:=by unfold Addr.add; split<;>simp_all
 have ha1:a.add (1*4)=⟨a.block,a.off+4,none⟩:=by unfold Addr.add; split<;>simp_all
 rw [ha2] at p0 p1 p2 p3
 rw [ha1] at r0 r1 r2 r3
 replace p0:=zb HB4.out p0
 replace p1:=zb HB4.out p1
 replace p2:=zb HB4.out p2
 replace p3:=zb HB4.out p3
 replace r0:=zb HB4.out r0
 replace r1:=zb HB4.out r1
 replace r2:=zb HB4.out r2
 replace r3:=zb HB4.out r3
 clear ha1 ha2 hu1 hu2 hkl i1 i2
 cases bb
 ·have hx:¬ (exprE S.look t1).1≠0:=of_decide_eq_false hbb
  rw [if_neg hx,e2] at hbl
  have HBC:=zh hbl
  have HGU:=zh (show ∀ x∈u2.ks,G C.p.prs x by rw [<-e2]; exact HG2.out)
  clear hbl hx hbb
  go_upto_region 6 with fail
  have hw5:=bl_al (Below.refl w4.heap.size w4) (.cells #[.int .u8 u2.k,.int .i64 u2.n,.string u2.s,.slice Au2 u2.ks.length cu2] 29)
  have k5:=heap_alloc_new w4 (.cells #[.int .u8 u2.k,.int .i64 u2.n,.string u2.s,.slice Au2 u2.ks.length cu2] 29)
  obtain ⟨w5,hw5x⟩:∃ x,w4.alloc (.cells #[.int .u8 u2.k,.int .i64 u2.n,.string u2.s,.slice Au2 u2.ks.length cu2] 29)=x:=⟨_,rfl⟩
  obtain ⟨nb,hnb⟩:∃ x,w4.heap.size=x:=⟨_,rfl⟩
  rw [hw5x] at hw5 k5 ⊢
  rw [hnb] at k5 ⊢
  have HNB:=zh hnb
  clear hw5x hnb
  have HW5:=zh hw5
  obtain ⟨m0,m1,m2,m3⟩:=box4 k5
  have hnu:=hnu2
  clear hw5 k5 p0 p1 p2 p3 r0 r1 r2 r3 z3 hnu1 e1 e2
  have HTI5:=zh (HT4.out.later HW5.out)
  have hBq:=HBC.out
  have HBK:=zh (tblock_any HC3.out HTI5.out u2 _ back hBq (by have:=HLN.out; simp only [List.length_append,List.length_cons,List.length_nil] at this ⊢; omega) hnu HGU.out)
  clear hBq
  go_wp2_with fail
  refine HBK.out.mono ?_
  rintro e w6 ⟨rfl,hk6,hb6,hr6⟩
  have HK6:=zh (HK4.out.trans ((Kpt.of_below (n0:=C.n0) (kb:=C.kb) HW5.out).trans ⟨hk6.size,fun b hb hk=>hk6.kept b hb (hk.elim .inl fun h=>.inr (.inl h))⟩))
  have HR6:=zh hr6
  have k6:=hk6.blk (.inr (.inr ⟨by omega,l2⟩)) (blk_bl K4.out HW5.out)
  have q0:w6.cell? ⟨w2.heap.size+1,0,none⟩=some (.int .u8 t2.k):=zc k6 rfl
  have q1:w6.cell? ⟨w2.heap.size+1,1,none⟩=some (.int .i64 t2.n):=zc k6 rfl
  have q2:w6.cell? ⟨w2.heap.size+1,2,none⟩=some (.string t2.s):=zc k6 rfl
  have q3:w6.cell? ⟨w2.heap.size+1,3,none⟩=some (.slice A2 t2.ks.length c2):=zc k6 rfl
  have HTS:=zh (test_any HC3.out hr6.ex (hr6.sm (by have:=HLN.out; simp only [List.length_append,List.length_cons,List.length_nil] at this ⊢; omega)) (by have:=HLN.out; simp only [List.length_append,List.length_cons,List.length_nil] at this ⊢; omega) t2 _ HN2.out HE2.out)
  clear k6 hk6 hb6 hr6 HBK
  go_wp2_with fail
  refine HTS.out.mono ?_
  rintro e w7 ⟨rfl,hk7,hb7,hr7⟩
  have HK7:=zh (HK6.out.trans ⟨hk7.size,fun b hb hk=>hk7.kept b hb (hk.elim .inl fun h=>.inr (.inl h))⟩)
  have HR7:=zh (TI.less (lo:=W.heap.size) (hi:=hi) ⟨hr7,HR6.out.fb.mono (by simp)⟩)
  clear q0 q1 q2 q3 hk7 hb7 hr7 HTS
  go_wp2_with fail
  go_ret
  refine ⟨rfl,HK7.out,HR7.out.below,?_⟩
  have:=HR7.out
  simpa using this
 ·have hx:(exprE S.look t1).1≠0:=of_decide_eq_true hbb
  rw [if_pos hx,e1] at hbl
  have HBC:=zh hbl
  have HGU:=zh (show ∀ x∈u1.ks,G C.p.prs x by rw [<-e1]; exact HG1.out)
  clear hbl hx hbb
  go_upto_region 6 with fail
  have hw5:=bl_al (Below.refl w4.heap.size w4) (.cells #[.int .u8 u2.k,.int .i64 u2.n,.string u2.s,.slice Au2 u2.ks.length cu2] 29)
  have k5:=heap_alloc_new w4 (.cells #[.int .u8 u2.k,.int .i64 u2.n,.string u2.s,.slice Au2 u2.ks.length cu2] 29)
  obtain ⟨w5,hw5x⟩:∃ x,w4.alloc (.cells #[.int .u8 u2.k,.int .i64 u2.n,.string u2.s,.slice Au2 u2.ks.length cu2] 29)=x:=⟨_,rfl⟩
  obtain ⟨nb,hnb⟩:∃ x,w4.heap.size=x:=⟨_,rfl⟩
  rw [hw5x] at hw5 k5 ⊢
  rw [hnb] at k5 ⊢
  have HNB:=zh hnb
  clear hw5x hnb
  replace r0:=zb hw5 r0
  replace r1:=zb hw5 r1
  replace r2:=zb hw5 r2
  replace r3:=zb hw5 r3
  replace z3:=zb hw5 z3
  obtain ⟨m0,m1,m2,m3⟩:=box4 k5
  have xf:∀ o,w5.frozen? ⟨nb,o,none⟩=false:=fun _=>zf k5
  obtain ⟨hk,hch⟩:=set4 (u0:=.int .u8 u1.k) (u1:=.int .i64 u1.n) (u2:=.string u1.s) (u3:=.slice Au1 u1.ks.length cu1) k5
  have hw6:=hw5.trans (hch.below hw5.size fun b e=>by have e:b=nb:=e; have:=HNB.out; omega)
  clear p0 p1 p2 p3
  go_upto_region 8 with fail
  obtain ⟨w6',hw6x⟩:∃ x,((((w5.setCell ⟨nb,0,none⟩ (.int .u8 u1.k)).setCell ⟨nb,1,none⟩ (.int .i64 u1.n)).setCell ⟨nb,2,none⟩ (.string u1.s)).setCell ⟨nb,3,none⟩ (.slice Au1 u1.ks.length cu1))=x:=⟨_,rfl⟩
  rw [hw6x] at hk hw6 ⊢
  have HW5:=zh hw6
  clear m0 m1 m2 m3 xf
  obtain ⟨m0,m1,m2,m3⟩:=box4 hk
  have hnu:=hnu1
  clear hw5 k5 hw6 hk hch hw6x r0 r1 r2 r3 z3 hnu2 e1 e2
  have HTI5:=zh (HT4.out.later HW5.out)
  have hBq:=HBC.out
  have HBK:=zh (tblock_any HC3.out HTI5.out u1 _ back hBq (by have:=HLN.out; simp only [List.length_append,List.length_cons,List.length_nil] at this ⊢; omega) hnu HGU.out)
  clear hBq
  go_wp2_with fail
  refine HBK.out.mono ?_
  rintro e w6 ⟨rfl,hk6,hb6,hr6⟩
  have HK6:=zh (HK4.out.trans ((Kpt.of_below (n0:=C.n0) (kb:=C.kb) HW5.out).trans ⟨hk6.size,fun b hb hk=>hk6.kept b hb (hk.elim .inl fun h=>.inr (.inl h))⟩))
  have HR6:=zh hr6
  have k6:=hk6.blk (.inr (.inr ⟨by omega,l2⟩)) (blk_bl K4.out HW5.out)
  have q0:w6.cell? ⟨w2.heap.size+1,0,none⟩=some (.int .u8 t2.k):=zc k6 rfl
  have q1:w6.cell? ⟨w2.heap.size+1,1,none⟩=some (.int .i64 t2.n):=zc k6 rfl
  have q2:w6.cell? ⟨w2.heap.size+1,2,none⟩=some (.string t2.s):=zc k6 rfl
  have q3:w6.cell? ⟨w2.heap.size+1,3,none⟩=some (.slice A2 t2.ks.length c2):=zc k6 rfl
  have HTS:=zh (test_any HC3.out hr6.ex (hr6.sm (by have:=HLN.out; simp only [List.length_append,List.length_cons,List.length_nil] at this ⊢; omega)) (by have:=HLN.out; simp only [List.length_append,List.length_cons,List.length_nil] at this ⊢; omega) t2 _ HN2.out HE2.out)
  clear k6 hk6 hb6 hr6 HBK
  go_wp2_with fail
  refine HTS.out.mono ?_
  rintro e w7 ⟨rfl,hk7,hb7,hr7⟩
  have HK7:=zh (HK6.out.trans ⟨hk7.size,fun b hb hk=>hk7.kept b hb (hk.elim .inl fun h=>.inr (.inl h))⟩)
  have HR7:=zh (TI.less (lo:=W.heap.size) (hi:=hi) ⟨hr7,HR6.out.fb.mono (by simp)⟩)
  clear q0 q1 q2 q3 hk7 hb7 hr7 HTS
  go_wp2_with fail
  go_ret
  refine ⟨rfl,HK7.out,HR7.out.below,?_⟩
  have:=HR7.out
  simpa using this
end Go.Proofs.YtckhofdinldhpaaGreat
