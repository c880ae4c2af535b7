/-
  Texts of the proof, put together without their remarks: Rxt.
-/
import Derived.Test.YtmbbaccjcekhkaaGreatF14
set_option linter.unusedSimpArgs false
set_option linter.unusedVariables false
set_option maxHeartbeats 8000000
set_option maxRecDepth 100000
namespace Go.Proofs.YtmbbaccjcekhkaaGreat
open Go Go.RowKit
theorem zyc (p:PG) (s:SS) (F:Int) (v sv:Value) (W:World) (hp:PV W Any p v) (hs:SV W Any s sv) (hF:I64 F) :
  Calls Tryz.prog 4 #[v,sv,.int .i64 F] W fun e W'=>e=.returned (.bool true)/\Below W.heap.size W W':=by
 have oo:=zh hp;have nU:=zh hs;obtain⟨A1,c1,A2,c2,A3,c3,rfl,dK⟩:=hp;obtain⟨A,c,B,d,D,e,rfl,hr1,hr2,hr3,hc1,hc2,hc3,hl1,hl2,hl3,hl4⟩:=hs;have hb2:=zkc (zkc (Below.refl W.heap.size W) (.cells #[.slice A1 p.vs.length c1,.slice A2 p.prs.length c2,.int .u8 p.m.k,.int .i64 p.m.n,.string p.m.s,.slice A3 p.m.ks.length c3] 28)) (.cells #[.slice A s.cells.length c,.slice B s.tin.length d,.slice D s.tout.length e] 32);have k0:=zkn (heap_alloc_new W (.cells #[.slice A1 p.vs.length c1,.slice A2 p.prs.length c2,.int .u8 p.m.k,.int .i64 p.m.n,.string p.m.s,.slice A3 p.m.ks.length c3] 28)) (.cells #[.slice A s.cells.length c,.slice B s.tin.length d,.slice D s.tout.length e] 32)
 have k1:=heap_alloc_new (W.alloc (.cells #[.slice A1 p.vs.length c1,.slice A2 p.prs.length c2,.int .u8 p.m.k,.int .i64 p.m.n,.string p.m.s,.slice A3 p.m.ks.length c3] 28)) (.cells #[.slice A s.cells.length c,.slice B s.tin.length d,.slice D s.tout.length e] 32);rw[World.size_alloc] at k1;obtain⟨w2,hw2⟩:∃ x,(W.alloc (.cells #[.slice A1 p.vs.length c1,.slice A2 p.prs.length c2,.int .u8 p.m.k,.int .i64 p.m.n,.string p.m.s,.slice A3 p.m.ks.length c3] 28)).alloc (.cells #[.slice A s.cells.length c,.slice B s.tin.length d,.slice D s.tout.length e] 32)=x:=⟨_,rfl⟩
 rw[hw2] at hb2 k0 k1;have HB2:=zh hb2;have aQ:=zh k0;have aH:=zh k1;clear dK hr1 hr2 hr3 hb2 k0 k1 hc1 hc2 hc3 hl1 hl2 hl3 hl4;have BF:=zh (zqc w2);have BD:=zh (fun w' (hb:Below w2.heap.size w2 w')=>zsN p s F _ _ w' (oo.out.later (zka HB2.out hb)) (nU.out.later (zka HB2.out hb)) hF);go_enter Tryz.func4,Tryz.ntmps4;go_wp2_with fail;refine BF.out.mono ?_;rintro e3 w3 ⟨rfl,b3⟩;clear hw2 BF;obtain⟨p0,p1,p2,p3,p4,p5⟩:=box6 (zkf aQ.out b3);obtain⟨s0,s1,s2⟩:=box3 (zkf aH.out b3);go_wp2_with fail;refine(BD.out _ b3).mono ?_;rintro e4 w4 ⟨gb,rfl,hgb,b4⟩;have vz:=zka b3 b4;clear p0 p1 p2 p3 p4 p5 s0 s1 s2 b3 b4 BD
 cases gb
 rotate_left 1
 ·go_wp2_with fail;refine(zqc w4).mono ?_;rintro e5 w5 ⟨rfl,b5⟩;clear hgb;go_wp2_with fail;go_ret;exact⟨rfl,zka HB2.out (zka vz b5)⟩
 have vD:=zh (hgb rfl);have fK:=zh (show s.cells.length<=5864062014800 by have:=vD.out.cells;omega);have jm:F<=1000000:=by have:=vD.out.F;omega
 have BB:F.toNat*2000+2000<=5000000:=by have:=vD.out.F;omega
 clear hgb;obtain⟨R0,hR0⟩:∃ R,resO p s F 5000000 true=R:=⟨_,rfl⟩
 go_upto_region 3 with fail;obtain⟨p0,p1,p2,p3,p4,p5⟩:=box6 (zkf aQ.out vz);obtain⟨s0,s1,s2⟩:=box3 (zkf aH.out vz);have hcon:=zqk p s F 5000000 _ _ _ (oo.out.later (zka HB2.out vz)) (nU.out.later (zka HB2.out vz)) fK.out hF jm BB;rw[hR0] at hcon;have Bt:=zh hcon;clear hcon;go_wp2_with fail;refine Bt.out.mono ?_;rintro e5 w5 ⟨v1,v2,v3,rfl,av,Bu,hl5⟩;obtain⟨A5,c5,B5,d5,D5,g5,hv⟩:=av.slices;injection hv with hv;simp only[Array.mk.injEq,List.cons.injEq,and_true] at hv;obtain⟨rfl,rfl,rfl⟩:=hv;have dZ:=zh av;have qC:=zh hl5;have BH:=zka vz Bu;clear p0 p1 p2 p3 p4 p5 s0 s1 s2 av hl5 Bt;obtain⟨S0,n0,e0,l0⟩:=R0;dsimp only at dZ qC ⊢;go_upto_region 4 with fail;have ka:=heap_alloc_new w5 (.cells #[.slice A5 S0.cells.length c5,.slice B5 S0.tin.length d5,.slice D5 S0.tout.length g5,.int .i64 (n0:Int),.int .i64 e0] 37)
 have dG:=zkc (Below.refl w5.heap.size w5) (.cells #[.slice A5 S0.cells.length c5,.slice B5 S0.tin.length d5,.slice D5 S0.tout.length g5,.int .i64 (n0:Int),.int .i64 e0] 37);obtain⟨w6,ze⟩:∃ x,w5.alloc (.cells #[.slice A5 S0.cells.length c5,.slice B5 S0.tin.length d5,.slice D5 S0.tout.length g5,.int .i64 (n0:Int),.int .i64 e0] 37)=x:=⟨_,rfl⟩
 obtain⟨vX,za⟩:∃ x,w5.heap.size=x:=⟨_,rfl⟩
 rw[ze] at ka dG;rw[za] at ka;rw[ze,za];clear ze za;have wy:=zka BH dG;have jR:=zh ka;have Bw:=zh dG;clear ka dG;have gL:=zuc p s F 5000000 true _ _ w6 (oo.out.later (zka HB2.out wy)) (nU.out.later (zka HB2.out wy)) hF jm BB;rw[hR0] at gL;have BC:=zh gL;have uB:=zh hR0;clear gL hR0;obtain⟨p0,p1,p2,p3,p4,p5⟩:=box6 (zkf aQ.out wy);obtain⟨s0,s1,s2⟩:=box3 (zkf aH.out wy);go_wp2_with fail;refine BC.out.mono ?_;rintro e7 w7 ⟨A7,c7,v7,rfl,rX,Bq,Br,b7,Bz⟩;clear BC p0 p1 p2 p3 p4 p5 s0 s1 s2;dsimp only at rX Bq Br Bz ⊢;have Bv:=zh rX;obtain⟨A9,c9,B9,d9,D9,g9,rfl,-⟩:=rX;have hk5:=zkf jR.out b7;have ka:=heap_alloc_new w7 (.cells #[.slice A9 S0.cells.length c9,.slice B9 S0.tin.length d9,.slice D9 S0.tout.length g9] 32)
 have dG:=zkc (Below.refl w7.heap.size w7) (.cells #[.slice A9 S0.cells.length c9,.slice B9 S0.tin.length d9,.slice D9 S0.tout.length g9] 32);go_upto_region 5 with fail;obtain⟨wa,gL⟩:∃ x,w7.alloc (.cells #[.slice A9 S0.cells.length c9,.slice B9 S0.tin.length d9,.slice D9 S0.tout.length g9] 32)=x:=⟨_,rfl⟩
 obtain⟨ab,hab⟩:∃ x,w7.heap.size=x:=⟨_,rfl⟩
 rw[gL] at ka dG ⊢;rw[hab] at ka
 try rw[hab]
 have lg:=zkf hk5 dG;have x0:wa.cell? ⟨vX,0,none⟩=some (.slice A5 S0.cells.length c5):=zc lg rfl;have x1:wa.cell? ⟨vX,1,none⟩=some (.slice B5 S0.tin.length d5):=zc lg rfl;have x2:wa.cell? ⟨vX,2,none⟩=some (.slice D5 S0.tout.length g5):=zc lg rfl;have x3:wa.cell? ⟨vX,3,none⟩=some (.int .i64 (n0:Int)):=zc lg rfl;have x4:wa.cell? ⟨vX,4,none⟩=some (.int .i64 e0):=zc lg rfl;have y0:wa.cell? ⟨ab,0,none⟩=some (.slice A9 S0.cells.length c9):=zc ka rfl;have y1:wa.cell? ⟨ab,1,none⟩=some (.slice B9 S0.tin.length d9):=zc ka rfl;have y2:wa.cell? ⟨ab,2,none⟩=some (.slice D9 S0.tout.length g9):=zc ka rfl;have hsm:S0.Sm:=zw3 (SmalX.sm vD.out) uB.out qC.out Bz;have Bh:=zh (zqO S0 S0 _ _ wa ((dZ.out.later (zka Bw.out (zka b7 dG))).sv hsm.lim) (Bv.out.later dG) hsm hsm);have BA:eqS S0 S0=true:=by simp[eqS]
 rw[BA] at Bh;have BG:=zka wy (zka b7 dG);clear hk5 lg ka dG hsm BA gL hab Bq Br;go_wp2_with fail;refine Bh.out.mono ?_;rintro e13 uX ⟨rfl,b13⟩;clear x0 x1 x2 x3 x4 y0 y1 y2 Bh;go_wp2_with fail;go_ret;exact⟨rfl,zka HB2.out (zka BG b13)⟩
end Go.Proofs.YtmbbaccjcekhkaaGreat
