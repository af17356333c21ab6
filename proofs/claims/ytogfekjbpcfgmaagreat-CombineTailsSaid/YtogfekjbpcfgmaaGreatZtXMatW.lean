/- The program's canonical rows: canon, open, Canonical. -/
import Derived.Test.YtogfekjbpcfgmaaGreatZtXRG
import Derived.Test.YtogfekjbpcfgmaaGreatZtXMatV
namespace Go.Proofs.YtogfekjbpcfgmaaGreat
open Go.RowKit Cw
attribute [local go_sem] Oper.semAt_some

theorem MP.less {D:Desc} {w:World} {L g n m r:Nat} {q:Option Nat} {M:Nat→Nat→R D} (h:MP w L g n m q M)(hr:r≤n):MP w L g r m q M:=by
 obtain⟨hgl,b,c,h1,h2⟩:=h;exact⟨hgl,b,c,fun i hi=>h1 i (by omega),fun i k hi hk=>h2 i k (by omega) (by omega)⟩
theorem elS_two (F0 F1:FD)(h:F1.toDesc=F0.toDesc)(M:Nat→Nat→R F0.toDesc):∃ M1:Nat→Nat→R F1.toDesc,(∀ m,rowsL F1.toDesc m M1=rowsL F0.toDesc m M) ∧
  ∀ n c m,rowsL F1.toDesc m (elS n M1 c).1=rowsL F0.toDesc m (elS n M c).1∧(elS n M1 c).2=(elS n M c).2:=by
 obtain⟨D0,g0,a0,b0,c0⟩:=F0;obtain⟨D1,g1,a1,b1,c1⟩:=F1;dsimp only at h;subst h;exact⟨M,fun _=>rfl,fun _ _ _=>⟨rfl,rfl⟩⟩

set_option maxRecDepth 100000 in
set_option maxHeartbeats 1000000 in
theorem gCanon_any (F:FD)(n m:Nat)(M:Nat→Nat→R F.toDesc)(Ar:Option Addr)(cr gf:Nat)(w:World)(hg:GF w w.heap.size gf F)(hrm:RdM w w.heap.size Ar n (rowsL F.toDesc m M))(hn:n≤70000)(hm1:1≤m)(hm:m≤70000) :
  Calls Tryz.prog 151 #[.pointer (some ⟨gf,0,none⟩),.slice Ar n cr,.int .i64 m] w fun e w'=>∃ g vp,e=.returned (.tuple #[.slice (some ⟨g,0,none⟩) (rkS F n m M) (rkS F n m M),vp])∧Own w' w.heap.size vp (natL (elS n M m).2) ∧
   MP w' w.heap.size g (rkS F n m M) m none (elS n M m).1∧w.heap.size≤g∧Below w.heap.size w w':=by
 have hC:=Lib.hid (gClone_any n m M Ar cr w hrm hn hm1 hm);have hrk:=(elS_le n M m).1;go_enter Tryz.func151,Tryz.ntmps151;go_wp2_with (fail);(with_reducible refine hC.out.mono ?_);rintro e w1 ⟨g,rfl,hgl,hmp,hb1⟩;have hE:=Lib.hid (gElim_any F n m m M gf g n w.heap.size w1 (hg.below hb1) hmp hb1.size hgl hn hm (Nat.le_refl _));clear hC;go_wp2_with (fail);(with_reducible refine hE.out.mono ?_);rintro e w2 ⟨vp,det,rfl,hown,hmp2,hb2⟩;have hnl:(natL (elS n M m).2).length=rkS F n m M:=by unfold natL rkS; rw[List.length_map]
 have hown2:=hown.lowerM hb1.size;obtain⟨Ap,cp,rfl,hcp,-,-⟩:=hown.form;rw[hnl]at hown2 hcp ⊢;have hi1:(0:Int)≤((rkS F n m M:Nat):Int):=by omega
 have hrk2:rkS F n m M≤n:=hrk;have hi2:((rkS F n m M:Nat):Int)≤(n:Int):=by omega
 have hfin:=hmp2.any.less hrk2;replace hnl:=Lib.hid hnl;clear hE hmp hown hmp2;go_wp2_with (fail);go_ret2;exact⟨g,.slice Ap (rkS F n m M) cp,rfl,hown2,hfin,hgl,hb1.trans hb2⟩

set_option maxRecDepth 100000 in
set_option maxHeartbeats 1000000 in
theorem gOpenM_ok (F:FD)(hgood:Good F.p F.m (modL F.toDesc))(n m:Nat)(M:Nat→Nat→R F.toDesc)(A Ar:Option Addr)(c cr X:Nat)(w:World)(hr:Rd w w.heap.size A (modL F.toDesc))(hrm:RdM w w.heap.size Ar n (rowsL F.toDesc m M))(hn:n≤256)(hm:m≤256)
  (hX:X<w.heap.size) (x0:w.cell? ⟨X,0,none⟩=some (.int .i64 m)) (x1:w.cell? ⟨X,1,none⟩=some (.slice Ar n cr)) :
  Calls Tryz.prog 150 #[.agg #[.int .i64 F.p,.int .i64 F.m,.slice A F.mod.length c],.slice (some ⟨X,0,none⟩) 1 1] w fun e w'=>∃ g,∃ F1:FD,F1.toDesc=F.toDesc∧e=.returned (.tuple #[.pointer (some ⟨g,0,none⟩),.int .i64 0])∧GF w' w'.heap.size g F1∧Below w.heap.size w w':=by
 have hN:=fun W h=>Lib.hid (New_good F.toDesc A c W h hgood)
 obtain⟨Z,hZ⟩:∃ Z,Z=w.alloc (.cells #[.int .i64 F.p,.int .i64 F.m,.slice A F.mod.length c] 24):=⟨_,rfl⟩;have hB:Below w.heap.size w Z:=by rw[hZ]; exact (Below.refl _ _).alloc (Nat.le_refl _) _
 have kz:=Lib.hid (show Z.cell? ⟨w.heap.size,0,none⟩=some (.int .i64 F.p)∧Z.cell? ⟨w.heap.size,1,none⟩=some (.int .i64 F.m)∧Z.cell? ⟨w.heap.size,2,none⟩=some (.slice A F.mod.length c) from by rw[hZ]; simp[go_sem]);obtain⟨z0,z1,z2⟩:=kz.out;have hN2:=hN Z ((hr.below hB).more hB.size);replace hZ:=Lib.hid hZ;clear hN;go_enter Tryz.func150,Tryz.ntmps150;go_wp2_with (fail);rw[←hZ.out];(with_reducible refine hN2.out.mono ?_);rintro e w1 ⟨g,F1,h1,rfl,hgl,hgf,hb1⟩;have hB1:=hB.trans (hb1.mono hB.size);obtain⟨M1,hM1,-⟩:=elS_two F F1 h1 M;have y0:=(hB1.cell (p:=⟨X,0,none⟩) hX).trans x0;have y1:=(hB1.cell (p:=⟨X,1,none⟩) hX).trans x1;have hrm1:=(hrm.below hB1).more hB1.size;rw[←hM1 m]at hrm1;replace h1:=Lib.hid h1;replace hM1:=Lib.hid hM1;clear hN2 z0 z1 z2 kz;go_wp2_with (fail);go_loopw [20,9,10] (fun i _ _ wr=>(i=.int .i64 0∧wr=w1)∨(i=.int .i64 1∧GF wr wr.heap.size g F1∧Below w.heap.size w wr)) (fun i _ _ _=>1 - (intOf i).toNat)
 case atStart=>exact .inl ⟨rfl,rfl⟩
 case round =>
  rcases hrel with ⟨rfl,rfl⟩ | ⟨rfl,hgf2,hB2⟩
  ·have hB5:Below wr.heap.size wr (wr.alloc (.cells #[.int .i64 m,.slice Ar n cr] 120)):=(Below.refl _ _).alloc (Nat.le_refl _) _;have hCk:=Lib.hid (gCheckM_ok F1 n m M1 Ar cr g _ ((hgf.below hB5).more hB5.size) ((hrm1.below hB5).more hB5.size) hn hm);have hBw:=Lib.hid (hB1.trans (hB5.mono hB1.size));have hgf5:=Lib.hid ((hgf.below hB5).more hB5.size);clear hB5;go_wp2_with (fail);(with_reducible refine hCk.out.mono ?_);rintro e w6 ⟨rfl,hb6⟩;have hfin:=Lib.hid (hBw.out.trans (hb6.mono hBw.out.size));have hgf6:=Lib.hid ((hgf5.out.below hb6).more hb6.size);go_wp2_with (fail);go_roundw
   case rel=>exact .inr ⟨by go_num,hgf6.out,hfin.out⟩
   case measure=>simp[intOf]
  ·go_wp2_with (fail);go_ret2;exact⟨g,F1,h1.out,rfl,hgf2,hB2⟩

theorem set2 {w3:World} {b:Nat} (u0 u1:Value):Below b w3 ((w3.setCell ⟨b,0,none⟩ u0).setCell ⟨b,1,none⟩ u1) :=
 ((Below.refl _ _).setCell (p:=⟨b,0,none⟩) (Nat.le_refl _) _).setCell (p:=⟨b,1,none⟩) (Nat.le_refl _) _
theorem set2_above {w:World} {b L:Nat} (hL:b<L)(u0 u1:Value)(p:Addr)(hp:L≤p.block):((w.setCell ⟨b,0,none⟩ u0).setCell ⟨b,1,none⟩ u1).cell? p=w.cell? p:=by
 have hne:b≠p.block:=by omega
 rw[World.cell?_setCell_far _ _ _ _ hne,World.cell?_setCell_far _ _ _ _ hne]
def CanPost (F:FD)(n m:Nat)(M:Nat→Nat→R F.toDesc)(w:World)(e:Ending)(w':World):Prop :=
 ∃ Al vp,e=.returned (.tuple #[.agg #[.int .i64 m,.slice Al (rkS F n m M) (rkS F n m M)],vp,.int .i64 0])∧RdMU w' w.heap.size w'.heap.size Al (rkS F n m M) (rowsL F.toDesc m (elS n M m).1)∧Own w' w.heap.size vp (natL (elS n M m).2)∧Below w.heap.size w w'
set_option maxRecDepth 100000 in
set_option maxHeartbeats 2000000 in
theorem gCanonical_ok (F:FD)(hgood:Good F.p F.m (modL F.toDesc))(n m:Nat)(M:Nat→Nat→R F.toDesc)(A Ar:Option Addr)(c cr:Nat)(w:World)(hr:Rd w w.heap.size A (modL F.toDesc))(hrm:RdM w w.heap.size Ar n (rowsL F.toDesc m M))(hn:n≤256)(hm1:1≤m)(hm:m≤256) :
  Calls Tryz.prog 89 #[.agg #[.int .i64 F.p,.int .i64 F.m,.slice A F.mod.length c],.agg #[.int .i64 m,.slice Ar n cr]] w (CanPost F n m M w):=by
 have hO:=fun X W h1 h2 h3 h4 h5=>Lib.hid (gOpenM_ok F hgood n m M A Ar c cr X W h1 h2 hn hm h3 h4 h5)
 obtain⟨Z,hZ⟩:∃ Z,Z=((w.alloc (.cells #[.int .i64 F.p,.int .i64 F.m,.slice A F.mod.length c] 24)).alloc (.cells #[.int .i64 m,.slice Ar n cr] 120)).alloc (.cells #[.int .i64 0,.slice none 0 0] 120):=⟨_,rfl⟩;have hB:Below w.heap.size w Z:=by rw[hZ]; exact (((Below.refl _ _).alloc (Nat.le_refl _) _).alloc (by simp) _).alloc (by simp; omega) _
 have hZs:Z.heap.size=w.heap.size+1+1+1:=by rw[hZ]; simp
 have kz:(Z.cell? ⟨w.heap.size,0,none⟩=some (.int .i64 F.p)∧Z.cell? ⟨w.heap.size,1,none⟩=some (.int .i64 F.m)∧Z.cell? ⟨w.heap.size,2,none⟩=some (.slice A F.mod.length c)) ∧
   (Z.cell? ⟨w.heap.size+1,0,none⟩=some (.int .i64 m)∧Z.cell? ⟨w.heap.size+1,1,none⟩=some (.slice Ar n cr))∧Z.cell? ⟨w.heap.size+1+1,0,none⟩=some (.int .i64 0)∧Z.cell? ⟨w.heap.size+1+1,1,none⟩=some (.slice none 0 0) ∧
   Z.frozen? ⟨w.heap.size+1+1,0,none⟩=false∧Z.frozen? ⟨w.heap.size+1+1,1,none⟩=false:=by rw[hZ]; simp[go_sem]
 obtain⟨s,hs⟩:∃ s,s=w.heap.size:=⟨_,rfl⟩;rw[←hs]at kz hZs;obtain⟨⟨z0,z1,z2⟩,⟨y0,y1⟩,x0,x1,f0,f1⟩:=kz;have hb2:Below Z.heap.size Z (Z.alloc (.cells #[.int .i64 m,.slice Ar n cr] 120)):=(Below.refl _ _).alloc (Nat.le_refl _) _;have hB2:=hB.trans (hb2.mono hB.size);have hO2:=hO (s+1+1+1) _ ((hr.below hB2).more hB2.size) ((hrm.below hB2).more hB2.size) (by rw[World.size_alloc]; omega) (by rw[←hZs]; simp[go_sem]) (by rw[←hZs]; simp[go_sem]);replace hZ:=Lib.hid hZ;clear hO;unfold CanPost;go_enter Tryz.func89,Tryz.ntmps89;go_wp2_with (fail);rw[←hZ.out];simp only[←hs];have hsw:w.heap.size≤s:=Nat.le_of_eq hs.symm;replace hs:=Lib.hid hs;(with_reducible refine hO2.out.mono ?_);rintro e w1 ⟨g,F1,h1,rfl,hgf,hb1⟩;have hB1:=hB2.trans (hb1.mono hB2.size);have hbz:=hb2.trans (hb1.mono hb2.size);obtain⟨M1,hM1,hM2⟩:=elS_two F F1 h1 M;have hrm1:=(hrm.below hB1).more hB1.size;rw[←hM1 m]at hrm1;have hC:=gCanon_any F1 n m M1 Ar cr g w1 hgf hrm1 (by omega) hm1 (by omega);have hrk:rkS F1 n m M1=rkS F n m M:=by unfold rkS; rw[(hM2 n m m).2]
 rw[hrk,(hM2 n m m).2]at hC;replace hC:=Lib.hid hC;replace h1:=Lib.hid h1;replace hM1:=Lib.hid hM1;replace hM2:=Lib.hid hM2;replace hrk:=Lib.hid hrk;have y0':=(hbz.cell (p:=⟨s+1,0,none⟩) (show s+1<Z.heap.size by omega)).trans y0;have y1':=(hbz.cell (p:=⟨s+1,1,none⟩) (show s+1<Z.heap.size by omega)).trans y1;have hs1:=hbz.size;clear hO2;go_wp2_with (fail);(with_reducible refine hC.out.mono ?_);rintro e w3 ⟨g3,vp,rfl,hown,hmp,hg3,hb3⟩;have hbz3:=hbz.trans (hb3.mono hbz.size);have hB3:=hB1.trans (hb3.mono hB1.size);have hru:=hmp.rdmU hg3;rw[(hM2.out n m m).1]at hru;have u0:=(hbz3.cell (p:=⟨s+1,0,none⟩) (show s+1<Z.heap.size by omega)).trans y0;have v0:=(hbz3.cell (p:=⟨s+1+1,0,none⟩) (show s+1+1<Z.heap.size by omega)).trans x0;have v1:=(hbz3.cell (p:=⟨s+1+1,1,none⟩) (show s+1+1<Z.heap.size by omega)).trans x1;have e0:=(hbz3.frozen (p:=⟨s+1+1,0,none⟩) (show s+1+1<Z.heap.size by omega)).trans f0;have e1:=(hbz3.frozen (p:=⟨s+1+1,1,none⟩) (show s+1+1<Z.heap.size by omega)).trans f1;have hfin:Hid (RdMU ((w3.setCell ⟨s+1+1,0,none⟩ (.int .i64 m)).setCell ⟨s+1+1,1,none⟩ (.slice (some ⟨g3,0,none⟩) (rkS F n m M) (rkS F n m M))) w1.heap.size w3.heap.size (some ⟨g3,0,none⟩) (rkS F n m M) (rowsL F.toDesc m (elS n M m).1)) :=
  hru.keepU fun p hp _=>set2_above (b:=s+1+1) (L:=w1.heap.size) (by omega) _ _ p hp
 have hof:Hid (Own ((w3.setCell ⟨s+1+1,0,none⟩ (.int .i64 m)).setCell ⟨s+1+1,1,none⟩ (.slice (some ⟨g3,0,none⟩) (rkS F n m M) (rkS F n m M))) w1.heap.size vp (natL (elS n M m).2)) :=
  ((hown.far (p:=⟨s+1+1,0,none⟩) (fun e=>by have h2:w1.heap.size≤s+1+1:=(hown.lt _ e).1; omega) _).far (p:=⟨s+1+1,1,none⟩) (fun e=>by have h2:w1.heap.size≤s+1+1:=(hown.lt _ e).1; omega) _)
 have hBf:=Lib.hid (hB3.trans ((set2 (w3:=w3) (b:=s+1+1) (.int .i64 m) (.slice (some ⟨g3,0,none⟩) (rkS F n m M) (rkS F n m M))).mono (by omega)));have hsz:Hid (w3.heap.size≤((w3.setCell ⟨s+1+1,0,none⟩ (.int .i64 m)).setCell ⟨s+1+1,1,none⟩ (.slice (some ⟨g3,0,none⟩) (rkS F n m M) (rkS F n m M))).heap.size):=by unfold Hid; simp[World.setCell]
 have hws:=hB1.size;clear hC hown hmp hru;go_wp2_with (fail);refine bodyPost_ret (v:=.tuple #[.agg #[.int .i64 m,.slice (some ⟨g3,0,none⟩) (rkS F n m M) (rkS F n m M)],vp,.int .i64 0]) (by simp[results,Tryz.results89,go_sem,v0,v1]) rfl ⟨some ⟨g3,0,none⟩,vp,rfl,?_,hof.out.lowerM hws,hBf.out⟩;exact (hfin.out.low hws).more hsz.out
end Go.Proofs.YtogfekjbpcfgmaaGreat
