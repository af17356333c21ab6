/- The reference's codes: Check, List, Word, Has of a canonical code. The program's canonical rows: canon, open, Canonical. The error of a code, as a number: what both Check functions answer. No Go here. The program's codes: own, of, length, New. -/
import Derived.Deep.RegionHeld3
import Derived.Test.YtjdoneanohhkmaaGreatZtV10RLA
import Derived.Test.YtjdoneanohhkmaaGreatZtV10RMat
import Derived.Test.YtjdoneanohhkmaaGreatZtV10RMH
import Derived.Test.YtjdoneanohhkmaaGreatZtV10RMP
import Derived.Test.YtjdoneanohhkmaaGreatZtV10RMatV
import Derived.Test.YtjdoneanohhkmaaGreatZtV10RGrsA
import Derived.Test.YtjdoneanohhkmaaGreatZtV10RNewL
import Derived.Test.YtjdoneanohhkmaaGreatZtV10RTk
namespace Go.Proofs.YtjdoneanohhkmaaGreat
section
open Go.RowKit Cw
attribute [local go_sem] Oper.semAt_some

def Canl (F:FD)(n m:Nat)(M:Nat→Nat→R F.toDesc):Prop:=rkS F n m M=n∧∀ i,i<n→rowsL F.toDesc m (elS n M m).1 i=rowsL F.toDesc m M i
theorem canl_elS (F:FD)(n0 m:Nat)(M0:Nat→Nat→R F.toDesc):Canl F (rkS F n0 m M0) m (elS n0 M0 m).1:=by
 obtain⟨h1,h2⟩:=elS_uniq (elS_span n0 m M0);refine⟨h1,fun i hi=>?_⟩;unfold rowsL rowL;exact lst_congr fun j hj=>congrArg ci ((h2 i (by unfold rkS at hi; omega)).2 j hj)
end
section
open Go.RowKit Cw
attribute [local go_sem] Oper.semAt_some

theorem MP.less {D:Desc} {w:World} {L g n m r:Nat} {q:Option Nat} {M:Nat→Nat→R D} (h:MP w L g n m q M)(hr:r≤n):MP w L g r m q M:=by
 obtain⟨hgl,b,c,h1,h2⟩:=h;exact⟨hgl,b,c,fun i hi=>h1 i (by omega),fun i k hi hk=>h2 i k (by omega) (by omega)⟩
theorem elS_two (F0 F1:FD)(h:F1.toDesc=F0.toDesc)(M:Nat→Nat→R F0.toDesc):∃ M1:Nat→Nat→R F1.toDesc,(∀ m,rowsL F1.toDesc m M1=rowsL F0.toDesc m M) ∧
  ∀ n c m,rowsL F1.toDesc m (elS n M1 c).1=rowsL F0.toDesc m (elS n M c).1∧(elS n M1 c).2=(elS n M c).2:=by
 obtain⟨D0,g0,a0,b0,c0⟩:=F0;obtain⟨D1,g1,a1,b1,c1⟩:=F1;dsimp only at h;subst h;exact⟨M,fun _=>rfl,fun _ _ _=>⟨rfl,rfl⟩⟩

set_option maxRecDepth 100000 in
set_option maxHeartbeats 1000000 in
theorem gCanon_any (F:FD)(n m:Nat)(M:Nat→Nat→R F.toDesc)(Ar:Option Addr)(cr gf:Nat)(w:World)(hg:GF w w.heap.size gf F)(hrm:RdM w w.heap.size Ar n (rowsL F.toDesc m M))(hn:n≤70000)(hm1:1≤m)(hm:m≤70000) :
  Calls Tryz.prog 199 #[.pointer (some ⟨gf,0,none⟩),.slice Ar n cr,.int .i64 m] w fun e w'=>∃ g vp,e=.returned (.tuple #[.slice (some ⟨g,0,none⟩) (rkS F n m M) (rkS F n m M),vp])∧Own w' w.heap.size vp (natL (elS n M m).2) ∧
   MP w' w.heap.size g (rkS F n m M) m none (elS n M m).1∧w.heap.size≤g∧Below w.heap.size w w':=by
 have hC:=Lib.hid (gClone_any n m M Ar cr w hrm hn hm1 hm);have hrk:=(elS_le n M m).1;go_enter Tryz.func199,Tryz.ntmps199;go_wp2_with (fail);(with_reducible refine hC.out.mono ?_);rintro e w1 ⟨g,rfl,hgl,hmp,hb1⟩;have hE:=Lib.hid (gElim_any F n m m M gf g n w.heap.size w1 (hg.below hb1) hmp hb1.size hgl hn hm (Nat.le_refl _));clear hC;go_wp2_with (fail);(with_reducible refine hE.out.mono ?_);rintro e w2 ⟨vp,det,rfl,hown,hmp2,hb2⟩;have hnl:(natL (elS n M m).2).length=rkS F n m M:=by unfold natL rkS; rw[List.length_map]
 have hown2:=hown.lowerM hb1.size;obtain⟨Ap,cp,rfl,hcp,-,-⟩:=hown.form;rw[hnl]at hown2 hcp ⊢;have hi1:(0:Int)≤((rkS F n m M:Nat):Int):=by omega
 have hrk2:rkS F n m M≤n:=hrk;have hi2:((rkS F n m M:Nat):Int)≤(n:Int):=by omega
 have hfin:=hmp2.any.less hrk2;replace hnl:=Lib.hid hnl;clear hE hmp hown hmp2;go_wp2_with (fail);go_ret2;exact⟨g,.slice Ap (rkS F n m M) cp,rfl,hown2,hfin,hgl,hb1.trans hb2⟩

set_option maxRecDepth 100000 in
set_option maxHeartbeats 1000000 in
theorem gOpenM_ok (F:FD)(hgood:Good F.p F.m (modL F.toDesc))(n m:Nat)(M:Nat→Nat→R F.toDesc)(A Ar:Option Addr)(c cr X:Nat)(w:World)(hr:Rd w w.heap.size A (modL F.toDesc))(hrm:RdM w w.heap.size Ar n (rowsL F.toDesc m M))(hn:n≤256)(hm:m≤256)
  (hX:X<w.heap.size) (x0:w.cell? ⟨X,0,none⟩=some (.int .i64 m)) (x1:w.cell? ⟨X,1,none⟩=some (.slice Ar n cr)) :
  Calls Tryz.prog 198 #[.agg #[.int .i64 F.p,.int .i64 F.m,.slice A F.mod.length c],.slice (some ⟨X,0,none⟩) 1 1] w fun e w'=>∃ g,∃ F1:FD,F1.toDesc=F.toDesc∧e=.returned (.tuple #[.pointer (some ⟨g,0,none⟩),.int .i64 0])∧GF w' w'.heap.size g F1∧Below w.heap.size w w':=by
 have hN:=fun W h=>Lib.hid (New_good F.toDesc A c W h hgood)
 obtain⟨Z,hZ⟩:∃ Z,Z=w.alloc (.cells #[.int .i64 F.p,.int .i64 F.m,.slice A F.mod.length c] 24):=⟨_,rfl⟩;have hB:Below w.heap.size w Z:=by rw[hZ]; exact (Below.refl _ _).alloc (Nat.le_refl _) _
 have kz:=Lib.hid (show Z.cell? ⟨w.heap.size,0,none⟩=some (.int .i64 F.p)∧Z.cell? ⟨w.heap.size,1,none⟩=some (.int .i64 F.m)∧Z.cell? ⟨w.heap.size,2,none⟩=some (.slice A F.mod.length c) from by rw[hZ]; simp[go_sem]);obtain⟨z0,z1,z2⟩:=kz.out;have hN2:=hN Z ((hr.below hB).more hB.size);replace hZ:=Lib.hid hZ;clear hN;go_enter Tryz.func198,Tryz.ntmps198;go_wp2_with (fail);rw[←hZ.out];(with_reducible refine hN2.out.mono ?_);rintro e w1 ⟨g,F1,h1,rfl,hgl,hgf,hb1⟩;have hB1:=hB.trans (hb1.mono hB.size);obtain⟨M1,hM1,-⟩:=elS_two F F1 h1 M;have y0:=(hB1.cell (p:=⟨X,0,none⟩) hX).trans x0;have y1:=(hB1.cell (p:=⟨X,1,none⟩) hX).trans x1;have hrm1:=(hrm.below hB1).more hB1.size;rw[←hM1 m]at hrm1;replace h1:=Lib.hid h1;replace hM1:=Lib.hid hM1;clear hN2 z0 z1 z2 kz;go_wp2_with (fail);go_loopw [20,9,10] (fun i _ _ wr=>(i=.int .i64 0∧wr=w1)∨(i=.int .i64 1∧GF wr wr.heap.size g F1∧Below w.heap.size w wr)) (fun i _ _ _=>1 - (intOf i).toNat)
 case atStart=>exact .inl ⟨rfl,rfl⟩
 case round =>
  rcases hrel with ⟨rfl,rfl⟩ | ⟨rfl,hgf2,hB2⟩
  ·have hB5:Below wr.heap.size wr (wr.alloc (.cells #[.int .i64 m,.slice Ar n cr] 48)):=(Below.refl _ _).alloc (Nat.le_refl _) _;have hCk:=Lib.hid (gCheckM_ok F1 n m M1 Ar cr g _ ((hgf.below hB5).more hB5.size) ((hrm1.below hB5).more hB5.size) hn hm);have hBw:=Lib.hid (hB1.trans (hB5.mono hB1.size));have hgf5:=Lib.hid ((hgf.below hB5).more hB5.size);clear hB5;go_wp2_with (fail);(with_reducible refine hCk.out.mono ?_);rintro e w6 ⟨rfl,hb6⟩;have hfin:=Lib.hid (hBw.out.trans (hb6.mono hBw.out.size));have hgf6:=Lib.hid ((hgf5.out.below hb6).more hb6.size);go_wp2_with (fail);go_roundw
   case rel=>exact .inr ⟨by go_num,hgf6.out,hfin.out⟩
   case measure=>simp[intOf]
  ·go_wp2_with (fail);go_ret2;exact⟨g,F1,h1.out,rfl,hgf2,hB2⟩

theorem set2 {w3:World} {b:Nat} (u0 u1:Value):Below b w3 ((w3.setCell ⟨b,0,none⟩ u0).setCell ⟨b,1,none⟩ u1) :=
 ((Below.refl _ _).setCell (p:=⟨b,0,none⟩) (Nat.le_refl _) _).setCell (p:=⟨b,1,none⟩) (Nat.le_refl _) _
theorem set2_above {w:World} {b L:Nat} (hL:b<L)(u0 u1:Value)(p:Addr)(hp:L≤p.block):((w.setCell ⟨b,0,none⟩ u0).setCell ⟨b,1,none⟩ u1).cell? p=w.cell? p:=by
 have hne:b≠p.block:=by omega
 rw[World.cell?_setCell_far _ _ _ _ hne,World.cell?_setCell_far _ _ _ _ hne]
def CanPost (F:FD)(n m:Nat)(M:Nat→Nat→R F.toDesc)(w:World)(e:Ending)(w':World):Prop :=
 ∃ Al vp,e=.returned (.tuple #[.agg #[.int .i64 m,.slice Al (rkS F n m M) (rkS F n m M)],vp,.int .i64 0])∧RdMU w' w.heap.size w'.heap.size Al (rkS F n m M) (rowsL F.toDesc m (elS n M m).1)∧Own w' w.heap.size vp (natL (elS n M m).2)∧Below w.heap.size w w'
set_option maxRecDepth 100000 in
set_option maxHeartbeats 2000000 in
theorem gCanonical_ok (F:FD)(hgood:Good F.p F.m (modL F.toDesc))(n m:Nat)(M:Nat→Nat→R F.toDesc)(A Ar:Option Addr)(c cr:Nat)(w:World)(hr:Rd w w.heap.size A (modL F.toDesc))(hrm:RdM w w.heap.size Ar n (rowsL F.toDesc m M))(hn:n≤256)(hm1:1≤m)(hm:m≤256) :
  Calls Tryz.prog 139 #[.agg #[.int .i64 F.p,.int .i64 F.m,.slice A F.mod.length c],.agg #[.int .i64 m,.slice Ar n cr]] w (CanPost F n m M w):=by
 have hO:=fun X W h1 h2 h3 h4 h5=>Lib.hid (gOpenM_ok F hgood n m M A Ar c cr X W h1 h2 hn hm h3 h4 h5)
 obtain⟨Z,hZ⟩:∃ Z,Z=((w.alloc (.cells #[.int .i64 F.p,.int .i64 F.m,.slice A F.mod.length c] 24)).alloc (.cells #[.int .i64 m,.slice Ar n cr] 48)).alloc (.cells #[.int .i64 0,.slice none 0 0] 48):=⟨_,rfl⟩;have hB:Below w.heap.size w Z:=by rw[hZ]; exact (((Below.refl _ _).alloc (Nat.le_refl _) _).alloc (by simp) _).alloc (by simp; omega) _
 have hZs:Z.heap.size=w.heap.size+1+1+1:=by rw[hZ]; simp
 have kz:(Z.cell? ⟨w.heap.size,0,none⟩=some (.int .i64 F.p)∧Z.cell? ⟨w.heap.size,1,none⟩=some (.int .i64 F.m)∧Z.cell? ⟨w.heap.size,2,none⟩=some (.slice A F.mod.length c)) ∧
   (Z.cell? ⟨w.heap.size+1,0,none⟩=some (.int .i64 m)∧Z.cell? ⟨w.heap.size+1,1,none⟩=some (.slice Ar n cr))∧Z.cell? ⟨w.heap.size+1+1,0,none⟩=some (.int .i64 0)∧Z.cell? ⟨w.heap.size+1+1,1,none⟩=some (.slice none 0 0) ∧
   Z.frozen? ⟨w.heap.size+1+1,0,none⟩=false∧Z.frozen? ⟨w.heap.size+1+1,1,none⟩=false:=by rw[hZ]; simp[go_sem]
 obtain⟨s,hs⟩:∃ s,s=w.heap.size:=⟨_,rfl⟩;rw[←hs]at kz hZs;obtain⟨⟨z0,z1,z2⟩,⟨y0,y1⟩,x0,x1,f0,f1⟩:=kz;have hb2:Below Z.heap.size Z (Z.alloc (.cells #[.int .i64 m,.slice Ar n cr] 48)):=(Below.refl _ _).alloc (Nat.le_refl _) _;have hB2:=hB.trans (hb2.mono hB.size);have hO2:=hO (s+1+1+1) _ ((hr.below hB2).more hB2.size) ((hrm.below hB2).more hB2.size) (by rw[World.size_alloc]; omega) (by rw[←hZs]; simp[go_sem]) (by rw[←hZs]; simp[go_sem]);replace hZ:=Lib.hid hZ;clear hO;unfold CanPost;go_enter Tryz.func139,Tryz.ntmps139;go_wp2_with (fail);rw[←hZ.out];simp only[←hs];have hsw:w.heap.size≤s:=Nat.le_of_eq hs.symm;replace hs:=Lib.hid hs;(with_reducible refine hO2.out.mono ?_);rintro e w1 ⟨g,F1,h1,rfl,hgf,hb1⟩;have hB1:=hB2.trans (hb1.mono hB2.size);have hbz:=hb2.trans (hb1.mono hb2.size);obtain⟨M1,hM1,hM2⟩:=elS_two F F1 h1 M;have hrm1:=(hrm.below hB1).more hB1.size;rw[←hM1 m]at hrm1;have hC:=gCanon_any F1 n m M1 Ar cr g w1 hgf hrm1 (by omega) hm1 (by omega);have hrk:rkS F1 n m M1=rkS F n m M:=by unfold rkS; rw[(hM2 n m m).2]
 rw[hrk,(hM2 n m m).2]at hC;replace hC:=Lib.hid hC;replace h1:=Lib.hid h1;replace hM1:=Lib.hid hM1;replace hM2:=Lib.hid hM2;replace hrk:=Lib.hid hrk;have y0':=(hbz.cell (p:=⟨s+1,0,none⟩) (show s+1<Z.heap.size by omega)).trans y0;have y1':=(hbz.cell (p:=⟨s+1,1,none⟩) (show s+1<Z.heap.size by omega)).trans y1;have hs1:=hbz.size;clear hO2;go_wp2_with (fail);(with_reducible refine hC.out.mono ?_);rintro e w3 ⟨g3,vp,rfl,hown,hmp,hg3,hb3⟩;have hbz3:=hbz.trans (hb3.mono hbz.size);have hB3:=hB1.trans (hb3.mono hB1.size);have hru:=hmp.rdmU hg3;rw[(hM2.out n m m).1]at hru;have u0:=(hbz3.cell (p:=⟨s+1,0,none⟩) (show s+1<Z.heap.size by omega)).trans y0;have v0:=(hbz3.cell (p:=⟨s+1+1,0,none⟩) (show s+1+1<Z.heap.size by omega)).trans x0;have v1:=(hbz3.cell (p:=⟨s+1+1,1,none⟩) (show s+1+1<Z.heap.size by omega)).trans x1;have e0:=(hbz3.frozen (p:=⟨s+1+1,0,none⟩) (show s+1+1<Z.heap.size by omega)).trans f0;have e1:=(hbz3.frozen (p:=⟨s+1+1,1,none⟩) (show s+1+1<Z.heap.size by omega)).trans f1;have hfin:Hid (RdMU ((w3.setCell ⟨s+1+1,0,none⟩ (.int .i64 m)).setCell ⟨s+1+1,1,none⟩ (.slice (some ⟨g3,0,none⟩) (rkS F n m M) (rkS F n m M))) w1.heap.size w3.heap.size (some ⟨g3,0,none⟩) (rkS F n m M) (rowsL F.toDesc m (elS n M m).1)) :=
  hru.keepU fun p hp _=>set2_above (b:=s+1+1) (L:=w1.heap.size) (by omega) _ _ p hp
 have hof:Hid (Own ((w3.setCell ⟨s+1+1,0,none⟩ (.int .i64 m)).setCell ⟨s+1+1,1,none⟩ (.slice (some ⟨g3,0,none⟩) (rkS F n m M) (rkS F n m M))) w1.heap.size vp (natL (elS n M m).2)) :=
  ((hown.far (p:=⟨s+1+1,0,none⟩) (fun e=>by have h2:w1.heap.size≤s+1+1:=(hown.lt _ e).1; omega) _).far (p:=⟨s+1+1,1,none⟩) (fun e=>by have h2:w1.heap.size≤s+1+1:=(hown.lt _ e).1; omega) _)
 have hBf:=Lib.hid (hB3.trans ((set2 (w3:=w3) (b:=s+1+1) (.int .i64 m) (.slice (some ⟨g3,0,none⟩) (rkS F n m M) (rkS F n m M))).mono (by omega)));have hsz:Hid (w3.heap.size≤((w3.setCell ⟨s+1+1,0,none⟩ (.int .i64 m)).setCell ⟨s+1+1,1,none⟩ (.slice (some ⟨g3,0,none⟩) (rkS F n m M) (rkS F n m M))).heap.size):=by unfold Hid; simp[World.setCell]
 have hws:=hB1.size;clear hC hown hmp hru;go_wp2_with (fail);refine bodyPost_ret (v:=.tuple #[.agg #[.int .i64 m,.slice (some ⟨g3,0,none⟩) (rkS F n m M) (rkS F n m M)],vp,.int .i64 0]) (by simp[results,Tryz.results139,go_sem,v0,v1]) rfl ⟨some ⟨g3,0,none⟩,vp,rfl,?_,hof.out.lowerM hws,hBf.out⟩;exact (hfin.out.low hws).more hsz.out
end
section
open Go.RowKit Cw

theorem good_FD {D:Desc} (h:Good D.p D.m (modL D)):∃ F:FD,F.toDesc=D:=by
 obtain⟨u,hu⟩:=gen_of_good h;exact⟨mkFD D u hu,rfl⟩
open Classical in
section
variable {P M N:Int} {ml:List Int} {n:Nat} {rows:Nat→List Int}
structure VC (P M N:Int) (ml:List Int) (n:Nat) (rows:Nat→List Int) (F:FD) (m:Nat) (A:Nat→Nat→R F.toDesc):Prop where
 hP:P=F.p
 hM:M=F.m
 hl:ml=modL F.toDesc
 good:Good F.p F.m (modL F.toDesc)
 hN:N=m
 m1:1≤m
 m64:m≤64
 hr:∀ i,i<n→rows i=rowsL F.toDesc m A i
 can:Canl F n m A
theorem VC.le {F:FD} {m:Nat} {A:Nat→Nat→R F.toDesc} (h:VC P M N ml n rows F m A):n≤m:=by
 have h1:=(elS_le n A m).2;have h2:=h.can.1;unfold rkS at h2;omega
end
end
section
open Go.RowKit Cw
attribute [local go_sem] Oper.semAt_some

set_option maxRecDepth 100000 in
set_option maxHeartbeats 1000000 in
theorem Clone_any (l:List Int)(A:Option Addr)(c:Nat)(w:World)(hr:Rd w w.heap.size A l)(hl:l.length≤1000000) :
  Calls Tryz.prog 65 #[.slice A l.length c] w (GivesA w.heap.size l w):=by
 cases A with
 | some a=>exact Clone_ints l a c w hr hl
 | none =>
  have h0:l=[]:=by
   cases l with
   | nil=>rfl
   | cons a t=>obtain⟨b,o,e,-⟩:=hr (by simp); cases e
  subst h0;have hn:=fun W=>Lib.run_eql_slice_nil (P:=Tryz.prog) W 22 3 none 0 c 0 0 Tryz.underlying22
  unfold GivesA;go_enter Tryz.func65,Tryz.ntmps65;go_wp2_with (fail);go_ret;exact⟨.slice none 0 0,rfl,Own.nil _ _,Below.refl _ _⟩

set_option maxRecDepth 100000 in
set_option maxHeartbeats 1000000 in
theorem gOwn_any (D:Desc)(A:Option Addr)(c:Nat)(w:World)(hr:Rd w w.heap.size A (modL D)) :
  Calls Tryz.prog 242 #[.agg #[.int .i64 D.p,.int .i64 D.m,.slice A D.mod.length c]] w fun e w'=>∃ A3 c3,e=.returned (.agg #[.int .i64 D.p,.int .i64 D.m,.slice A3 D.mod.length c3]) ∧
   Rd w' w'.heap.size A3 (modL D)∧(∀ b,A3=some b→w.heap.size≤b.block)∧Below w.heap.size w w':=by
 have hml:D.mod.length≤8:=by have:=D.hlen; have:=D.m8; rw[D.hlen]; split <;> omega
 obtain⟨Z,hZ⟩:∃ Z,Z=(w.alloc (.cells #[.int .i64 D.p,.int .i64 D.m,.slice A D.mod.length c] 24)).alloc (.cells #[.int .i64 0,.int .i64 0,.slice none 0 0] 24):=⟨_,rfl⟩;have hB:Below w.heap.size w Z:=by rw[hZ]; exact ((Below.refl _ _).alloc (Nat.le_refl _) _).alloc (by simp) _
 obtain⟨s,hs⟩:∃ s,s=w.heap.size:=⟨_,rfl⟩;have hZs:s+1<Z.heap.size:=by rw[hZ,hs]; simp
 have kz:(Z.cell? ⟨s,0,none⟩=some (.int .i64 D.p)∧Z.cell? ⟨s,1,none⟩=some (.int .i64 D.m)∧Z.cell? ⟨s,2,none⟩=some (.slice A D.mod.length c))∧Z.frozen? ⟨s,2,none⟩=false ∧
   (Z.cell? ⟨s+1,0,none⟩=some (.int .i64 0)∧Z.cell? ⟨s+1,1,none⟩=some (.int .i64 0)∧Z.cell? ⟨s+1,2,none⟩=some (.slice none 0 0))∧Z.frozen? ⟨s+1,0,none⟩=false∧Z.frozen? ⟨s+1,1,none⟩=false∧Z.frozen? ⟨s+1,2,none⟩=false:=by
  rw[hZ,hs]; simp[go_sem]
 obtain⟨⟨z0,z1,z2⟩,zf,⟨y0,y1,y2⟩,f0,f1,f2⟩:=kz;have hC:=Clone_any (modL D) A c Z ((hr.below hB).more hB.size) (by rw[modL_length]; omega);rw[modL_length]at hC;unfold GivesA at hC;replace hC:=Lib.hid hC;replace hZ:=Lib.hid hZ;go_enter Tryz.func242,Tryz.ntmps242;go_wp2_with (fail);rw[←hZ.out];simp only[←hs];have hsw:w.heap.size≤s:=Nat.le_of_eq hs.symm;replace hs:=Lib.hid hs;(with_reducible refine hC.out.mono ?_);rintro e w1 ⟨v,rfl,ho,hb1⟩;obtain⟨A3,c3,rfl,-,hr3,hA3⟩:=ho.form;rw[modL_length];have t0:=(hb1.cell (p:=⟨s,0,none⟩) (show s<_ by omega)).trans z0;have t1:=(hb1.cell (p:=⟨s,1,none⟩) (show s<_ by omega)).trans z1;have t2:=(hb1.cell (p:=⟨s,2,none⟩) (show s<_ by omega)).trans z2;have tf:=(hb1.frozen (p:=⟨s,2,none⟩) (show s<_ by omega)).trans zf;have u0:=(hb1.cell (p:=⟨s+1,0,none⟩) (show s+1<_ by omega)).trans y0;have u1:=(hb1.cell (p:=⟨s+1,1,none⟩) (show s+1<_ by omega)).trans y1;have u2:=(hb1.cell (p:=⟨s+1,2,none⟩) (show s+1<_ by omega)).trans y2;have g0:=(hb1.frozen (p:=⟨s+1,0,none⟩) (show s+1<_ by omega)).trans f0;have g1:=(hb1.frozen (p:=⟨s+1,1,none⟩) (show s+1<_ by omega)).trans f1;have g2:=(hb1.frozen (p:=⟨s+1,2,none⟩) (show s+1<_ by omega)).trans f2;have hA4:∀ b,A3=some b→Z.heap.size≤b.block:=fun b hb=>(hA3 b hb).1
 have hrf:=Lib.hid ((((hr3.farN (g:=s) (fun _ b hb=>by have:=hA4 b hb; omega) 2 (.slice A3 D.mod.length c3)).farN (g:=s+1) (fun _ b hb=>by have:=hA4 b hb; omega) 0 (.int .i64 D.p)).farN (g:=s+1) (fun _ b hb=>by have:=hA4 b hb; omega) 1 (.int .i64 D.m)).farN (g:=s+1) (fun _ b hb=>by have:=hA4 b hb; omega) 2 (.slice A3 D.mod.length c3));have hBf:=Lib.hid ((((((hB.trans (hb1.mono hB.size)).setCell (p:=⟨s,2,none⟩) hsw (.slice A3 D.mod.length c3)).setCell (p:=⟨s+1,0,none⟩) (show w.heap.size≤s+1 by omega) (.int .i64 D.p)).setCell (p:=⟨s+1,1,none⟩) (show w.heap.size≤s+1 by omega) (.int .i64 D.m)).setCell (p:=⟨s+1,2,none⟩) (show w.heap.size≤s+1 by omega) (.slice A3 D.mod.length c3)));have hA5:∀ b,A3=some b→w.heap.size≤b.block:=fun b hb=>by have:=hA4 b hb; omega
 clear hC ho hb1 hr3 hA3 hA4;go_wp2_with (fail);refine bodyPost_ret (v:=.agg #[.int .i64 D.p,.int .i64 D.m,.slice A3 D.mod.length c3]) (by simp[results,Tryz.results242,go_sem,u0,u1,u2]) rfl ⟨A3,c3,rfl,hrf.out.more (by simp[World.setCell]),hA5,hBf.out⟩

theorem gLen_ok (N:Nat)(w:World)(h1:1≤N)(h2:N≤64) :
  Calls Tryz.prog 158 #[.int .i64 N] w fun e w'=>e=.returned (.int .i64 0)∧w'=w:=by
 have b1:¬ (N:Int)<1:=by omega
 have b2:¬ (64:Int)<(N:Int):=by omega
 go_enter Tryz.func158,Tryz.ntmps158;go_wp2_with (fail);go_ret;exact⟨rfl,rfl⟩

set_option maxRecDepth 100000 in
set_option maxHeartbeats 2000000 in
theorem gOf_ok (D:Desc)(N r:Nat)(A Al:Option Addr)(c cr:Nat)(w:World)(hr:Rd w w.heap.size A (modL D)) :
  Calls Tryz.prog 204 #[.agg #[.int .i64 D.p,.int .i64 D.m,.slice A D.mod.length c],.agg #[.int .i64 N,.slice Al r cr],.int .i64 0] w fun e w'=>∃ A3 c3,e=.returned (.tuple #[.agg #[.int .i64 D.p,.int .i64 D.m,.slice A3 D.mod.length c3,.int .i64 N,.slice Al r cr],.int .i64 0]) ∧
   Rd w' w'.heap.size A3 (modL D)∧(∀ b,A3=some b→w.heap.size≤b.block)∧Below w.heap.size w w':=by
 obtain⟨Z,hZ⟩:∃ Z,Z=((w.alloc (.cells #[.int .i64 D.p,.int .i64 D.m,.slice A D.mod.length c] 24)).alloc (.cells #[.int .i64 N,.slice Al r cr] 48)).alloc (.cells #[.int .i64 0,.int .i64 0,.slice none 0 0,.int .i64 0,.slice none 0 0] 27):=⟨_,rfl⟩;have hB:Below w.heap.size w Z:=by rw[hZ]; exact (((Below.refl _ _).alloc (Nat.le_refl _) _).alloc (by simp) _).alloc (by simp; omega) _
 obtain⟨s,hs⟩:∃ s,s=w.heap.size:=⟨_,rfl⟩;have hZs:s+1+1<Z.heap.size:=by rw[hZ,hs]; simp
 have kz:=Lib.hid (show Z.cell? ⟨s,0,none⟩=some (.int .i64 D.p)∧Z.cell? ⟨s,1,none⟩=some (.int .i64 D.m)∧Z.cell? ⟨s,2,none⟩=some (.slice A D.mod.length c)∧Z.cell? ⟨s+1,0,none⟩=some (.int .i64 N)∧Z.cell? ⟨s+1,1,none⟩=some (.slice Al r cr) from by rw[hZ,hs]; simp[go_sem]);have f5:Five Z (s+1+1) (.int .i64 0) (.int .i64 0) (.slice none 0 0) (.int .i64 0) (.slice none 0 0):=by
  rw[hZ,hs]; have:=Five.new ((w.alloc (.cells #[.int .i64 D.p,.int .i64 D.m,.slice A D.mod.length c] 24)).alloc (.cells #[.int .i64 N,.slice Al r cr] 48)) (.int .i64 0) (.int .i64 0) (.slice none 0 0) (.int .i64 0) (.slice none 0 0) 27; rw[World.size_alloc,World.size_alloc]at this; exact this
 have hC:=Lib.hid (gOwn_any D A c Z.drew ((hr.below hB).more hB.size).drew);replace hZ:=Lib.hid hZ;go_enter Tryz.func204,Tryz.ntmps204;go_wp2_with (fail);rw[←hZ.out];simp only[←hs];have hsw:w.heap.size≤s:=Nat.le_of_eq hs.symm;replace hs:=Lib.hid hs;refine wp_region_held_drew (S:=fun w'=>w'.cell? ⟨s,0,none⟩=some (.int .i64 D.p)∧w'.cell? ⟨s,1,none⟩=some (.int .i64 D.m)∧w'.cell? ⟨s,2,none⟩=some (.slice A D.mod.length c)∧w'.cell? ⟨s+1,0,none⟩=some (.int .i64 N)∧w'.cell? ⟨s+1,1,none⟩=some (.slice Al r cr)) (by kernel_rfl) (by (try dsimp only); exact kz.out) (fun hHeld=>?_);refine tk 0 ?_; try simp only[pS]
 refine tk 2 ?_; try simp only[pS]
 refine tk 3 ?_; try simp only[pS]
 refine tk 4 ?_; try simp only[pS]
 refine tk 5 ?_; try simp only[pS]
 refine rd 1 fun K hK=>?_
 go_simp;go_at_call 242;(with_reducible refine (hC).out.mono ?_);rintro e w1 ⟨A3,c3,rfl,hr3,hA3,hb1⟩;have k1:=Lib.hid (keep5g hb1 (show s<Z.heap.size by omega) (show s<Z.heap.size by omega) (show s<Z.heap.size by omega) (show s+1<Z.heap.size by omega) (show s+1<Z.heap.size by omega) kz.out);obtain⟨a0,a1,a2,a3,a4,g0,g1,g2,g3,g4⟩:=(show Five Z.drew _ _ _ _ _ _ from f5).keep hb1 hZs;go_wp2_with (fail);refine hK.out _ _ (by (try dsimp only); exact k1.out) (fun hHeld=>?_);clear hK K;try simp only[pS]
 refine tk 6 ?_; try simp only[pS]
 refine rd 7 fun K hK=>?_
 go_simp;refine hK.out _ _ (by (try dsimp only); exact keep5g (B:=s+1+1) (set5 _ _ _ _ _) (show s<s+1+1 by omega) (show s<s+1+1 by omega) (show s<s+1+1 by omega) (show s+1<s+1+1 by omega) (show s+1<s+1+1 by omega) k1.out) (fun hHeld=>?_);clear hK K;try simp only[pS]
 refine tk 8 ?_; try simp only[pS]
 refine wpAnyH_done (by kernel_rfl) ?_ _;have hA4:∀ b,A3=some b→Z.heap.size≤b.block:=hA3;have hrf:=Lib.hid (hr3.set5 (b:=s+1+1) (fun b hb=>by have:=hA4 b hb; omega) (.int .i64 D.p) (.int .i64 D.m) (.slice A3 D.mod.length c3) (.int .i64 N) (.slice Al r cr));have hBf:Hid (Below w.heap.size w (((((w1.setCell ⟨s+1+1,0,none⟩ (.int .i64 D.p)).setCell ⟨s+1+1,1,none⟩ (.int .i64 D.m)).setCell ⟨s+1+1,2,none⟩ (.slice A3 D.mod.length c3)).setCell ⟨s+1+1,3,none⟩ (.int .i64 N)).setCell ⟨s+1+1,4,none⟩ (.slice Al r cr))):=(hB.drew.trans (hb1.mono hB.size)).trans ((set5 _ _ _ _ _).mono (by omega));have hA5:∀ b,A3=some b→w.heap.size≤b.block:=fun b hb=>by have:=hA4 b hb; omega
 replace hr3:=Lib.hid hr3;clear hA3 hA4 hC;go_wp2_with (fail);refine bodyPost_ret (v:=.tuple #[.agg #[.int .i64 D.p,.int .i64 D.m,.slice A3 D.mod.length c3,.int .i64 N,.slice Al r cr],.int .i64 0]) (by simp[results,Tryz.results204,go_sem,a0,a1,a2,a3,a4]) rfl ⟨A3,c3,rfl,hrf.out.more (by simp[World.setCell]),hA5,hBf.out⟩

def CodePost (F:FD)(n m:Nat)(M:Nat→Nat→R F.toDesc)(w:World)(e:Ending)(w':World):Prop :=
 ∃ A3 c3 Al,e=.returned (.tuple #[.agg #[.int .i64 F.p,.int .i64 F.m,.slice A3 F.mod.length c3,.int .i64 m,.slice Al (rkS F n m M) (rkS F n m M)],.int .i64 0])∧Rd w' w'.heap.size A3 (modL F.toDesc)∧(∀ b,A3=some b→w.heap.size≤b.block)∧RdMU w' w.heap.size w'.heap.size Al (rkS F n m M) (rowsL F.toDesc m (elS n M m).1)∧Below w.heap.size w w'
set_option maxRecDepth 100000 in
set_option maxHeartbeats 2000000 in
theorem gNewC_ok (F:FD)(hgood:Good F.p F.m (modL F.toDesc))(n m:Nat)(M:Nat→Nat→R F.toDesc)(A Ar:Option Addr)(c cr:Nat)(w:World)(hr:Rd w w.heap.size A (modL F.toDesc))(hrm:RdM w w.heap.size Ar n (rowsL F.toDesc m M))(hn:n≤256)(hm1:1≤m)(hm:m≤64) :
  Calls Tryz.prog 146 #[.agg #[.int .i64 F.p,.int .i64 F.m,.slice A F.mod.length c],.agg #[.int .i64 m,.slice Ar n cr]] w (CodePost F n m M w):=by
 obtain⟨Z,hZ⟩:∃ Z,Z=((w.alloc (.cells #[.int .i64 F.p,.int .i64 F.m,.slice A F.mod.length c] 24)).alloc (.cells #[.int .i64 m,.slice Ar n cr] 48)).alloc (.cells #[.int .i64 0,.int .i64 0,.slice none 0 0,.int .i64 0,.slice none 0 0] 27):=⟨_,rfl⟩;have hB:Below w.heap.size w Z:=by rw[hZ]; exact (((Below.refl _ _).alloc (Nat.le_refl _) _).alloc (by simp) _).alloc (by simp; omega) _
 obtain⟨s,hs⟩:∃ s,s=w.heap.size:=⟨_,rfl⟩;have hZs:s+1+1<Z.heap.size:=by rw[hZ,hs]; simp
 have kz:Z.cell? ⟨s,0,none⟩=some (.int .i64 F.p)∧Z.cell? ⟨s,1,none⟩=some (.int .i64 F.m)∧Z.cell? ⟨s,2,none⟩=some (.slice A F.mod.length c)∧Z.cell? ⟨s+1,0,none⟩=some (.int .i64 m)∧Z.cell? ⟨s+1,1,none⟩=some (.slice Ar n cr):=by rw[hZ,hs]; simp[go_sem]
 have f5:Five Z (s+1+1) (.int .i64 0) (.int .i64 0) (.slice none 0 0) (.int .i64 0) (.slice none 0 0):=by
  rw[hZ,hs]; have:=Five.new ((w.alloc (.cells #[.int .i64 F.p,.int .i64 F.m,.slice A F.mod.length c] 24)).alloc (.cells #[.int .i64 m,.slice Ar n cr] 48)) (.int .i64 0) (.int .i64 0) (.slice none 0 0) (.int .i64 0) (.slice none 0 0) 27; rw[World.size_alloc,World.size_alloc]at this; exact this
 have hC:=gCanonical_ok F hgood n m M A Ar c cr Z ((hr.below hB).more hB.size) ((hrm.below hB).more hB.size) hn hm1 (by omega);unfold CanPost at hC;replace hC:=Lib.hid hC;have hO:=fun Al W h=>Lib.hid (gOf_ok F.toDesc m (rkS F n m M) A Al c (rkS F n m M) W h)
 have hL:=fun W=>Lib.hid (gLen_ok m W hm1 hm)
 obtain⟨z0,z1,z2,y0,y1⟩:=kz;replace hZ:=Lib.hid hZ;unfold CodePost;go_enter Tryz.func146,Tryz.ntmps146;go_wp2_with (fail);rw[←hZ.out];simp only[←hs];have hsw:w.heap.size≤s:=Nat.le_of_eq hs.symm;replace hs:=Lib.hid hs;(with_reducible refine hC.out.mono ?_);rintro e w1 ⟨Al,vp,rfl,hru,-,hb1⟩;have t0:=(hb1.cell (p:=⟨s,0,none⟩) (show s<Z.heap.size by omega)).trans z0;have t1:=(hb1.cell (p:=⟨s,1,none⟩) (show s<Z.heap.size by omega)).trans z1;have t2:=(hb1.cell (p:=⟨s,2,none⟩) (show s<Z.heap.size by omega)).trans z2;have u0:=(hb1.cell (p:=⟨s+1,0,none⟩) (show s+1<Z.heap.size by omega)).trans y0;have hs1:=hb1.size;have hs1a:s<w1.heap.size:=by omega
 have hs1b:s+1<w1.heap.size:=by omega
 have f51:=f5.keep hb1 hZs;have hb2:Below w1.heap.size w1 (w1.alloc (.cells #[.int .i64 m,.slice Al (rkS F n m M) (rkS F n m M)] 48)):=(Below.refl _ _).alloc (Nat.le_refl _) _;have hBz2:=hb1.trans (hb2.mono hb1.size);have hB2:=hB.trans (hBz2.mono hB.size);have hL2:=hL (w1.alloc (.cells #[.int .i64 m,.slice Al (rkS F n m M) (rkS F n m M)] 48));have hO2:=hO Al _ ((hr.below hB2).more hB2.size);replace hb2:=Lib.hid hb2;replace hBz2:=Lib.hid hBz2;replace hB2:=Lib.hid hB2;clear hC hO hL;go_wp2_with (fail);(with_reducible refine hL2.out.mono ?_);rintro e w2 ⟨rfl,rfl⟩;go_wp2_with (fail);(with_reducible refine hO2.out.mono ?_);rintro e w4 ⟨A3,c3,rfl,hr3,hA3,hb4⟩;have hB4:=hb2.out.trans (hb4.mono hb2.out.size);obtain⟨a0,a1,a2,a3,a4,g0,g1,g2,g3,g4⟩:=f51.keep hB4 (by omega);have hA4:∀ b,A3=some b→s+1+1<b.block:=fun b hb=>by have h1:=hA3 b hb; have h2:=hb2.out.size; omega
 have hrf:=Lib.hid (hr3.set5 (b:=s+1+1) (fun b hb=>by have:=hA4 b hb; omega) (.int .i64 F.p) (.int .i64 F.m) (.slice A3 F.mod.length c3) (.int .i64 m) (.slice Al (rkS F n m M) (rkS F n m M)));have hru4:RdMU w4 Z.heap.size w1.heap.size Al (rkS F n m M) (rowsL F.toDesc m (elS n M m).1):=hru.keepU fun p _ hp=>hB4.cell hp
 have hruf:Hid (RdMU (((((w4.setCell ⟨s+1+1,0,none⟩ (.int .i64 F.p)).setCell ⟨s+1+1,1,none⟩ (.int .i64 F.m)).setCell ⟨s+1+1,2,none⟩ (.slice A3 F.mod.length c3)).setCell ⟨s+1+1,3,none⟩ (.int .i64 m)).setCell ⟨s+1+1,4,none⟩ (.slice Al (rkS F n m M) (rkS F n m M))) Z.heap.size w1.heap.size Al (rkS F n m M) (rowsL F.toDesc m (elS n M m).1)):=hru4.keepU fun p hp _=>set5_above (b:=s+1+1) (L:=Z.heap.size) (by omega) _ _ _ _ _ p hp
 have hBf:Hid (Below w.heap.size w (((((w4.setCell ⟨s+1+1,0,none⟩ (.int .i64 F.p)).setCell ⟨s+1+1,1,none⟩ (.int .i64 F.m)).setCell ⟨s+1+1,2,none⟩ (.slice A3 F.mod.length c3)).setCell ⟨s+1+1,3,none⟩ (.int .i64 m)).setCell ⟨s+1+1,4,none⟩ (.slice Al (rkS F n m M) (rkS F n m M)))):=(hB.trans ((hb1.trans (hB4.mono hb1.size)).mono hB.size)).trans ((set5 _ _ _ _ _).mono (by omega));have hsz:Hid (w1.heap.size≤(((((w4.setCell ⟨s+1+1,0,none⟩ (.int .i64 F.p)).setCell ⟨s+1+1,1,none⟩ (.int .i64 F.m)).setCell ⟨s+1+1,2,none⟩ (.slice A3 F.mod.length c3)).setCell ⟨s+1+1,3,none⟩ (.int .i64 m)).setCell ⟨s+1+1,4,none⟩ (.slice Al (rkS F n m M) (rkS F n m M))).heap.size):=by unfold Hid; simp[World.setCell]; exact hB4.size
 have hA5:∀ b,A3=some b→w.heap.size≤b.block:=fun b hb=>by have:=hA4 b hb; omega
 have hwZ:=hB.size;replace hr3:=Lib.hid hr3;clear hA3 hA4 hru hru4 hO2;go_wp2_with (fail);refine bodyPost_ret (v:=.tuple #[.agg #[.int .i64 F.p,.int .i64 F.m,.slice A3 F.mod.length c3,.int .i64 m,.slice Al (rkS F n m M) (rkS F n m M)],.int .i64 0]) (by simp[results,Tryz.results146,go_sem,a0,a1,a2,a3,a4]) rfl ⟨A3,c3,Al,rfl,hrf.out.more (by simp[World.setCell]),hA5,(hruf.out.low hwZ).more hsz.out,hBf.out⟩
end
end Go.Proofs.YtjdoneanohhkmaaGreat
