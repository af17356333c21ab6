/- The program's canonical rows: canon, open, Canonical. The error of a code, as a number: what both Check functions answer. No Go here. The number of words: ref03.Exp, ref12.Size, Count. The reference's Combine, At, Of, Weight. The reference's Of, Weight, Distance. The reference's Distance. -/
import Derived.Deep.RegionHeld3
import Derived.IntWalk
import Derived.Test.YtakonlfojblcmaaGreatZgRG
import Derived.Test.YtakonlfojblcmaaGreatZgMat
import Derived.Test.YtakonlfojblcmaaGreatZgMP
import Derived.Test.YtakonlfojblcmaaGreatZgHasC
import Derived.Test.YtakonlfojblcmaaGreatZgMatV
import Derived.Test.YtakonlfojblcmaaGreatZgTk
namespace Go.Proofs.YtakonlfojblcmaaGreat
section
open Go.RowKit Cw
attribute [local go_sem] Oper.semAt_some

theorem MP.less {D : Desc} {w : World} {L g n m r : Nat} {q : Option Nat} {M : Nat → Nat → R D} (h : MP w L g n m q M) (hr : r ≤ n) : MP w L g r m q M := by
 obtain ⟨hgl, b, c, h1, h2⟩ := h;exact ⟨hgl, b, c, fun i hi => h1 i (by omega), fun i k hi hk => h2 i k (by omega) (by omega)⟩
theorem elS_two (F0 F1 : FD) (h : F1.toDesc = F0.toDesc) (M : Nat → Nat → R F0.toDesc) : ∃ M1 : Nat → Nat → R F1.toDesc, (∀ m, rowsL F1.toDesc m M1 = rowsL F0.toDesc m M) ∧
  ∀ n c m, rowsL F1.toDesc m (elS n M1 c).1 = rowsL F0.toDesc m (elS n M c).1 ∧ (elS n M1 c).2 = (elS n M c).2 := by
 obtain ⟨D0, g0, a0, b0, c0⟩ := F0;obtain ⟨D1, g1, a1, b1, c1⟩ := F1;dsimp only at h;subst h;exact ⟨M, fun _ => rfl, fun _ _ _ => ⟨rfl, rfl⟩⟩

set_option maxRecDepth 100000 in
set_option maxHeartbeats 1000000 in
theorem gCanon_any (F : FD) (n m : Nat) (M : Nat → Nat → R F.toDesc) (Ar : Option Addr) (cr gf : Nat) (w : World) (hg : GF w w.heap.size gf F) (hrm : RdM w w.heap.size Ar n (rowsL F.toDesc m M)) (hn : n ≤ 70000) (hm1 : 1 ≤ m) (hm : m ≤ 70000) :
  Calls Tryz.prog 215 #[.pointer (some ⟨gf, 0, none⟩), .slice Ar n cr, .int .i64 m] w fun e w' => ∃ g vp, e = .returned (.tuple #[.slice (some ⟨g, 0, none⟩) (rkS F n m M) (rkS F n m M), vp]) ∧ Own w' w.heap.size vp (natL (elS n M m).2) ∧
   MP w' w.heap.size g (rkS F n m M) m none (elS n M m).1 ∧ w.heap.size ≤ g ∧ Below w.heap.size w w' := by
 have hC := Lib.hid (gClone_any n m M Ar cr w hrm hn hm1 hm);have hrk := (elS_le n M m).1;go_enter Tryz.func215, Tryz.ntmps215;go_wp2_with (fail);(with_reducible refine hC.out.mono ?_);rintro e w1 ⟨g, rfl, hgl, hmp, hb1⟩;have hE := Lib.hid (gElim_any F n m m M gf g n w.heap.size w1 (hg.below hb1) hmp hb1.size hgl hn hm (Nat.le_refl _));clear hC;go_wp2_with (fail);(with_reducible refine hE.out.mono ?_);rintro e w2 ⟨vp, det, rfl, hown, hmp2, hb2⟩;have hnl : (natL (elS n M m).2).length = rkS F n m M := by unfold natL rkS; rw [List.length_map]
 have hown2 := hown.lowerM hb1.size;obtain ⟨Ap, cp, rfl, hcp, -, -⟩ := hown.form;rw [hnl] at hown2 hcp ⊢;have hi1 : (0 : Int) ≤ ((rkS F n m M : Nat) : Int) := by omega
 have hrk2 : rkS F n m M ≤ n := hrk;have hi2 : ((rkS F n m M : Nat) : Int) ≤ (n : Int) := by omega
 have hfin := hmp2.any.less hrk2;replace hnl := Lib.hid hnl;clear hE hmp hown hmp2;go_wp2_with (fail);go_ret2;exact ⟨g, .slice Ap (rkS F n m M) cp, rfl, hown2, hfin, hgl, hb1.trans hb2⟩

set_option maxRecDepth 100000 in
set_option maxHeartbeats 1000000 in
theorem gOpenM_ok (F : FD) (hgood : Good F.p F.m (modL F.toDesc)) (n m : Nat) (M : Nat → Nat → R F.toDesc) (A Ar : Option Addr) (c cr X : Nat) (w : World) (hr : Rd w w.heap.size A (modL F.toDesc)) (hrm : RdM w w.heap.size Ar n (rowsL F.toDesc m M)) (hn : n ≤ 256) (hm : m ≤ 256)
  (hX : X < w.heap.size) (x0 : w.cell? ⟨X, 0, none⟩ = some (.int .i64 m)) (x1 : w.cell? ⟨X, 1, none⟩ = some (.slice Ar n cr)) :
  Calls Tryz.prog 214 #[.agg #[.int .i64 F.p, .int .i64 F.m, .slice A F.mod.length c], .slice (some ⟨X, 0, none⟩) 1 1] w fun e w' => ∃ g, ∃ F1 : FD, F1.toDesc = F.toDesc ∧ e = .returned (.tuple #[.pointer (some ⟨g, 0, none⟩), .int .i64 0]) ∧ GF w' w'.heap.size g F1 ∧ Below w.heap.size w w' := by
 have hN := fun W h => Lib.hid (New_good F.toDesc A c W h hgood)
 obtain ⟨Z, hZ⟩ : ∃ Z, Z = w.alloc (.cells #[.int .i64 F.p, .int .i64 F.m, .slice A F.mod.length c] 24) := ⟨_, rfl⟩;have hB : Below w.heap.size w Z := by rw [hZ]; exact (Below.refl _ _).alloc (Nat.le_refl _) _
 have kz := Lib.hid (show Z.cell? ⟨w.heap.size, 0, none⟩ = some (.int .i64 F.p) ∧ Z.cell? ⟨w.heap.size, 1, none⟩ = some (.int .i64 F.m) ∧ Z.cell? ⟨w.heap.size, 2, none⟩ = some (.slice A F.mod.length c) from by rw [hZ]; simp [go_sem]);obtain ⟨z0, z1, z2⟩ := kz.out;have hN2 := hN Z ((hr.below hB).more hB.size);replace hZ := Lib.hid hZ;clear hN;go_enter Tryz.func214, Tryz.ntmps214;go_wp2_with (fail);rw [← hZ.out];(with_reducible refine hN2.out.mono ?_);rintro e w1 ⟨g, F1, h1, rfl, hgl, hgf, hb1⟩;have hB1 := hB.trans (hb1.mono hB.size);obtain ⟨M1, hM1, -⟩ := elS_two F F1 h1 M;have y0 := (hB1.cell (p := ⟨X, 0, none⟩) hX).trans x0;have y1 := (hB1.cell (p := ⟨X, 1, none⟩) hX).trans x1;have hrm1 := (hrm.below hB1).more hB1.size;rw [← hM1 m] at hrm1;replace h1 := Lib.hid h1;replace hM1 := Lib.hid hM1;clear hN2 z0 z1 z2 kz;go_wp2_with (fail);go_loopw [20, 9, 10] (fun i _ _ wr => (i = .int .i64 0 ∧ wr = w1) ∨ (i = .int .i64 1 ∧ GF wr wr.heap.size g F1 ∧ Below w.heap.size w wr)) (fun i _ _ _ => 1 - (intOf i).toNat)
 case atStart => exact .inl ⟨rfl, rfl⟩
 case round =>
  rcases hrel with ⟨rfl, rfl⟩ | ⟨rfl, hgf2, hB2⟩
  ·have hB5 : Below wr.heap.size wr (wr.alloc (.cells #[.int .i64 m, .slice Ar n cr] 78)) := (Below.refl _ _).alloc (Nat.le_refl _) _;have hCk := Lib.hid (gCheckM_ok F1 n m M1 Ar cr g _ ((hgf.below hB5).more hB5.size) ((hrm1.below hB5).more hB5.size) hn hm);have hBw := Lib.hid (hB1.trans (hB5.mono hB1.size));have hgf5 := Lib.hid ((hgf.below hB5).more hB5.size);clear hB5;go_wp2_with (fail);(with_reducible refine hCk.out.mono ?_);rintro e w6 ⟨rfl, hb6⟩;have hfin := Lib.hid (hBw.out.trans (hb6.mono hBw.out.size));have hgf6 := Lib.hid ((hgf5.out.below hb6).more hb6.size);go_wp2_with (fail);go_roundw
   case rel => exact .inr ⟨by go_num, hgf6.out, hfin.out⟩
   case measure => simp [intOf]
  ·go_wp2_with (fail);go_ret2;exact ⟨g, F1, h1.out, rfl, hgf2, hB2⟩

theorem set2 {w3 : World} {b : Nat} (u0 u1 : Value) : Below b w3 ((w3.setCell ⟨b, 0, none⟩ u0).setCell ⟨b, 1, none⟩ u1) :=
 ((Below.refl _ _).setCell (p := ⟨b, 0, none⟩) (Nat.le_refl _) _).setCell (p := ⟨b, 1, none⟩) (Nat.le_refl _) _
theorem set2_above {w : World} {b L : Nat} (hL : b < L) (u0 u1 : Value) (p : Addr) (hp : L ≤ p.block) : ((w.setCell ⟨b, 0, none⟩ u0).setCell ⟨b, 1, none⟩ u1).cell? p = w.cell? p := by
 have hne : b ≠ p.block := by omega
 rw [World.cell?_setCell_far _ _ _ _ hne, World.cell?_setCell_far _ _ _ _ hne]
def CanPost (F : FD) (n m : Nat) (M : Nat → Nat → R F.toDesc) (w : World) (e : Ending) (w' : World) : Prop :=
 ∃ Al vp, e = .returned (.tuple #[.agg #[.int .i64 m, .slice Al (rkS F n m M) (rkS F n m M)], vp, .int .i64 0]) ∧ RdMU w' w.heap.size w'.heap.size Al (rkS F n m M) (rowsL F.toDesc m (elS n M m).1) ∧ Own w' w.heap.size vp (natL (elS n M m).2) ∧ Below w.heap.size w w'
set_option maxRecDepth 100000 in
set_option maxHeartbeats 2000000 in
theorem gCanonical_ok (F : FD) (hgood : Good F.p F.m (modL F.toDesc)) (n m : Nat) (M : Nat → Nat → R F.toDesc) (A Ar : Option Addr) (c cr : Nat) (w : World) (hr : Rd w w.heap.size A (modL F.toDesc)) (hrm : RdM w w.heap.size Ar n (rowsL F.toDesc m M)) (hn : n ≤ 256) (hm1 : 1 ≤ m) (hm : m ≤ 256) :
  Calls Tryz.prog 153 #[.agg #[.int .i64 F.p, .int .i64 F.m, .slice A F.mod.length c], .agg #[.int .i64 m, .slice Ar n cr]] w (CanPost F n m M w) := by
 have hO := fun X W h1 h2 h3 h4 h5 => Lib.hid (gOpenM_ok F hgood n m M A Ar c cr X W h1 h2 hn hm h3 h4 h5)
 obtain ⟨Z, hZ⟩ : ∃ Z, Z = ((w.alloc (.cells #[.int .i64 F.p, .int .i64 F.m, .slice A F.mod.length c] 24)).alloc (.cells #[.int .i64 m, .slice Ar n cr] 78)).alloc (.cells #[.int .i64 0, .slice none 0 0] 78) := ⟨_, rfl⟩;have hB : Below w.heap.size w Z := by rw [hZ]; exact (((Below.refl _ _).alloc (Nat.le_refl _) _).alloc (by simp) _).alloc (by simp; omega) _
 have hZs : Z.heap.size = w.heap.size + 1 + 1 + 1 := by rw [hZ]; simp
 have kz : (Z.cell? ⟨w.heap.size, 0, none⟩ = some (.int .i64 F.p) ∧ Z.cell? ⟨w.heap.size, 1, none⟩ = some (.int .i64 F.m) ∧ Z.cell? ⟨w.heap.size, 2, none⟩ = some (.slice A F.mod.length c)) ∧
   (Z.cell? ⟨w.heap.size + 1, 0, none⟩ = some (.int .i64 m) ∧ Z.cell? ⟨w.heap.size + 1, 1, none⟩ = some (.slice Ar n cr)) ∧ Z.cell? ⟨w.heap.size + 1 + 1, 0, none⟩ = some (.int .i64 0) ∧ Z.cell? ⟨w.heap.size + 1 + 1, 1, none⟩ = some (.slice none 0 0) ∧
   Z.frozen? ⟨w.heap.size + 1 + 1, 0, none⟩ = false ∧ Z.frozen? ⟨w.heap.size + 1 + 1, 1, none⟩ = false := by rw [hZ]; simp [go_sem]
 obtain ⟨s, hs⟩ : ∃ s, s = w.heap.size := ⟨_, rfl⟩;rw [← hs] at kz hZs;obtain ⟨⟨z0, z1, z2⟩, ⟨y0, y1⟩, x0, x1, f0, f1⟩ := kz;have hb2 : Below Z.heap.size Z (Z.alloc (.cells #[.int .i64 m, .slice Ar n cr] 78)) := (Below.refl _ _).alloc (Nat.le_refl _) _;have hB2 := hB.trans (hb2.mono hB.size);have hO2 := hO (s + 1 + 1 + 1) _ ((hr.below hB2).more hB2.size) ((hrm.below hB2).more hB2.size) (by rw [World.size_alloc]; omega) (by rw [← hZs]; simp [go_sem]) (by rw [← hZs]; simp [go_sem]);replace hZ := Lib.hid hZ;clear hO;unfold CanPost;go_enter Tryz.func153, Tryz.ntmps153;go_wp2_with (fail);rw [← hZ.out];simp only [← hs];have hsw : w.heap.size ≤ s := Nat.le_of_eq hs.symm;replace hs := Lib.hid hs;(with_reducible refine hO2.out.mono ?_);rintro e w1 ⟨g, F1, h1, rfl, hgf, hb1⟩;have hB1 := hB2.trans (hb1.mono hB2.size);have hbz := hb2.trans (hb1.mono hb2.size);obtain ⟨M1, hM1, hM2⟩ := elS_two F F1 h1 M;have hrm1 := (hrm.below hB1).more hB1.size;rw [← hM1 m] at hrm1;have hC := gCanon_any F1 n m M1 Ar cr g w1 hgf hrm1 (by omega) hm1 (by omega);have hrk : rkS F1 n m M1 = rkS F n m M := by unfold rkS; rw [(hM2 n m m).2]
 rw [hrk, (hM2 n m m).2] at hC;replace hC := Lib.hid hC;replace h1 := Lib.hid h1;replace hM1 := Lib.hid hM1;replace hM2 := Lib.hid hM2;replace hrk := Lib.hid hrk;have y0' := (hbz.cell (p := ⟨s + 1, 0, none⟩) (show s + 1 < Z.heap.size by omega)).trans y0;have y1' := (hbz.cell (p := ⟨s + 1, 1, none⟩) (show s + 1 < Z.heap.size by omega)).trans y1;have hs1 := hbz.size;clear hO2;go_wp2_with (fail);(with_reducible refine hC.out.mono ?_);rintro e w3 ⟨g3, vp, rfl, hown, hmp, hg3, hb3⟩;have hbz3 := hbz.trans (hb3.mono hbz.size);have hB3 := hB1.trans (hb3.mono hB1.size);have hru := hmp.rdmU hg3;rw [(hM2.out n m m).1] at hru;have u0 := (hbz3.cell (p := ⟨s + 1, 0, none⟩) (show s + 1 < Z.heap.size by omega)).trans y0;have v0 := (hbz3.cell (p := ⟨s + 1 + 1, 0, none⟩) (show s + 1 + 1 < Z.heap.size by omega)).trans x0;have v1 := (hbz3.cell (p := ⟨s + 1 + 1, 1, none⟩) (show s + 1 + 1 < Z.heap.size by omega)).trans x1;have e0 := (hbz3.frozen (p := ⟨s + 1 + 1, 0, none⟩) (show s + 1 + 1 < Z.heap.size by omega)).trans f0;have e1 := (hbz3.frozen (p := ⟨s + 1 + 1, 1, none⟩) (show s + 1 + 1 < Z.heap.size by omega)).trans f1;have hfin : Hid (RdMU ((w3.setCell ⟨s + 1 + 1, 0, none⟩ (.int .i64 m)).setCell ⟨s + 1 + 1, 1, none⟩ (.slice (some ⟨g3, 0, none⟩) (rkS F n m M) (rkS F n m M))) w1.heap.size w3.heap.size (some ⟨g3, 0, none⟩) (rkS F n m M) (rowsL F.toDesc m (elS n M m).1)) :=
  hru.keepU fun p hp _ => set2_above (b := s + 1 + 1) (L := w1.heap.size) (by omega) _ _ p hp
 have hof : Hid (Own ((w3.setCell ⟨s + 1 + 1, 0, none⟩ (.int .i64 m)).setCell ⟨s + 1 + 1, 1, none⟩ (.slice (some ⟨g3, 0, none⟩) (rkS F n m M) (rkS F n m M))) w1.heap.size vp (natL (elS n M m).2)) :=
  ((hown.far (p := ⟨s + 1 + 1, 0, none⟩) (fun e => by have h2 : w1.heap.size ≤ s + 1 + 1 := (hown.lt _ e).1; omega) _).far (p := ⟨s + 1 + 1, 1, none⟩) (fun e => by have h2 : w1.heap.size ≤ s + 1 + 1 := (hown.lt _ e).1; omega) _)
 have hBf := Lib.hid (hB3.trans ((set2 (w3 := w3) (b := s + 1 + 1) (.int .i64 m) (.slice (some ⟨g3, 0, none⟩) (rkS F n m M) (rkS F n m M))).mono (by omega)));have hsz : Hid (w3.heap.size ≤ ((w3.setCell ⟨s + 1 + 1, 0, none⟩ (.int .i64 m)).setCell ⟨s + 1 + 1, 1, none⟩ (.slice (some ⟨g3, 0, none⟩) (rkS F n m M) (rkS F n m M))).heap.size) := by unfold Hid; simp [World.setCell]
 have hws := hB1.size;clear hC hown hmp hru;go_wp2_with (fail);refine bodyPost_ret (v := .tuple #[.agg #[.int .i64 m, .slice (some ⟨g3, 0, none⟩) (rkS F n m M) (rkS F n m M)], vp, .int .i64 0]) (by simp [results, Tryz.results153, go_sem, v0, v1]) rfl ⟨some ⟨g3, 0, none⟩, vp, rfl, ?_, hof.out.lowerM hws, hBf.out⟩;exact (hfin.out.low hws).more hsz.out
end
section
open Go.RowKit Cw

theorem good_FD {D : Desc} (h : Good D.p D.m (modL D)) : ∃ F : FD, F.toDesc = D := by
 obtain ⟨u, hu⟩ := gen_of_good h;exact ⟨mkFD D u hu, rfl⟩
open Classical in
section
variable {P M N : Int} {ml : List Int} {n : Nat} {rows : Nat → List Int}
structure VC (P M N : Int) (ml : List Int) (n : Nat) (rows : Nat → List Int) (F : FD) (m : Nat) (A : Nat → Nat → R F.toDesc) : Prop where
 hP : P = F.p
 hM : M = F.m
 hl : ml = modL F.toDesc
 good : Good F.p F.m (modL F.toDesc)
 hN : N = m
 m1 : 1 ≤ m
 m64 : m ≤ 64
 hr : ∀ i, i < n → rows i = rowsL F.toDesc m A i
 can : Canl F n m A
theorem VC.le {F : FD} {m : Nat} {A : Nat → Nat → R F.toDesc} (h : VC P M N ml n rows F m A) : n ≤ m := by
 have h1 := (elS_le n A m).2;have h2 := h.can.1;unfold rkS at h2;omega
end
end
section
open Go.RowKit Cw
attribute [local go_sem] Oper.semAt_some

end
section
open Go.RowKit Cw
attribute [local go_sem] Oper.semAt_some

def cmb {D : Desc} (n : Nat) (g : Nat → R D) (M : Nat → Nat → R D) : Nat → R D := fun j => rsum n fun i => g i * M i j
theorem rowL_zero' (D : Desc) (n : Nat) : List.replicate n (0 : Int) = rowL D n (fun _ => 0) := by
 unfold rowL;rw [lst_zero];exact lst_congr fun j _ => ci_zero.symm
set_option maxHeartbeats 2000000 in
theorem Combine9_any (D : Desc) (n m : Nat) (g : Nat → R D) (M : Nat → Nat → R D) (A A1 Ar : Option Addr) (c c1 cr : Nat) (w : World) (hr : Rd w w.heap.size A (modL D)) (hr1 : Rd w w.heap.size A1 (rowL D n g)) (hrm : RdM w w.heap.size Ar n (rowsL D m M)) (hn : n ≤ 1000) (hm : m ≤ 70000) :
  Calls Tryz.prog 85 #[.agg #[.int .i64 D.p, .int .i64 D.m, .slice A D.mod.length c], .slice A1 n c1, .slice Ar n cr, .int .i64 m] w fun e w' => ∃ A2 c2, e = .returned (.slice A2 m c2) ∧ Rd w' w'.heap.size A2 (rowL D m (cmb n g M)) ∧ (∀ a, A2 = some a → w.heap.size ≤ a.block) ∧ m ≤ c2 ∧ c2 ≤ maxLen ∧ Below w.heap.size w w' := by
 have hAT := fun f h a A1 A2 c1 c2 W x y z => AddTo9_any D m f h a A A1 A2 c c1 c2 W x y z hm
 have hmk := mk_ints m hm;obtain ⟨Z, hZ⟩ : ∃ Z, Z = w.alloc (.cells #[.int .i64 D.p, .int .i64 D.m, .slice A D.mod.length c] 24) := ⟨_, rfl⟩;have hB : Below w.heap.size w Z := by rw [hZ]; exact (Below.refl _ _).alloc (Nat.le_refl _) _
 have k0 := Lib.hid (show Z.cell? ⟨w.heap.size, 0, none⟩ = some (.int .i64 D.p) ∧ Z.cell? ⟨w.heap.size, 1, none⟩ = some (.int .i64 D.m) ∧ Z.cell? ⟨w.heap.size, 2, none⟩ = some (.slice A D.mod.length c) from by rw [hZ]; exact alloc3 w _ _ _ _);have hZe : Z.heap.size = w.heap.size + 1 := by rw [hZ]; simp
 obtain ⟨Y, hY⟩ : ∃ Y, Y = Z.alloc (.cells (Array.replicate m (Value.int .i64 0)) 3) := ⟨_, rfl⟩;have hbY : Below Z.heap.size Z Y := by rw [hY]; exact (Below.refl _ _).alloc (Nat.le_refl _) _
 have hBY := hB.trans (hbY.mono hB.size);have hlt0 : w.heap.size < Y.heap.size := by have := hbY.size; omega
 have kY := Lib.hid (keep3 hbY (by omega) k0.out);have hr0 : Rd Y Y.heap.size (some ⟨w.heap.size + 1, 0, none⟩) (rowL D m (cmb 0 g M)) := by
  rw [show rowL D m (cmb 0 g M) = List.replicate m 0 from (rowL_zero' D m).symm, hY, ← hZe]; exact (IB.newz Z m).rd
 rw [hZ] at hY;replace hZ := Lib.hid hZ;replace hY := Lib.hid hY;replace hZe := Lib.hid hZe;go_enter Tryz.func85, Tryz.ntmps85;go_wp2_with (fail);rw [← hY.out];go_loopw [10, 9] (fun iS v wr => ∃ (k : Nat) (Av : Option Addr) (cv : Nat), k ≤ n ∧ iS = .int .i64 k ∧ v = .slice Av m cv ∧ Rd wr wr.heap.size Av (rowL D m (cmb k g M)) ∧ (∀ a, Av = some a → w.heap.size ≤ a.block) ∧ m ≤ cv ∧ cv ≤ maxLen ∧ Below Y.heap.size Y wr) (fun iS _ _ => n - (intOf iS).toNat)
 case atStart => exact ⟨0, some ⟨w.heap.size + 1, 0, none⟩, m, by omega, rfl, rfl, hr0, (fun a e => by cases e; exact Nat.le_succ _), Nat.le_refl _, by unfold maxLen; omega, Below.refl _ _⟩
 case round =>
  obtain ⟨k, Av, cv, hk, rfl, rfl, hrv, hAv, hmc, hcv, hbw⟩ := hrel;obtain ⟨w3, rfl⟩ : ∃ w3 : World, w3 = wr := ⟨_, rfl⟩;have hB3 := hBY.trans (hbw.mono hBY.size);by_cases hlt : k < n
  ·have hk0 : (0 : Int) ≤ (k : Int) := by omega
   have hk1 : (k : Int) < (n : Int) := by omega
   obtain ⟨b, o, Ak, ck, rfl, hb, hc, hrk, -, -⟩ := hrm.at_ hlt;obtain ⟨b1, o1, rfl, hb1, hc1⟩ := hr1.at_ (show k < (rowL D n g).length by rw [rowL_length]; exact hlt);rw [rowL_get D g hlt] at hc1;rw [show (rowsL D m M k).length = m from rowL_length _ _ _] at hc;have hd := (hB3.cell (p := ⟨b, o + k, none⟩) hb).trans hc;have hd1 := (hB3.cell (p := ⟨b1, o1 + k, none⟩) hb1).trans hc1;have hgk : eli D (ci (g k)) = g k := eli_ci _;have hst : cmb (k + 1) g M = fun j => cmb k g M j + g k * M k j := funext fun j => rsum_succ _ _
   by_cases hz : ci (g k) = 0
   ·have hzz : (ci (g k) != 0) = false := by rw [bne_eq_false_iff_eq]; exact hz
    have hnx : Hid (rowL D m (cmb (k + 1) g M) = rowL D m (cmb k g M)) := by
     unfold Hid;rw [hst, ← hgk, hz, eli_zero]
     congr 1
     exact funext fun j => by rw [zero_mul, add_zero]
    rw [← hnx.out] at hrv;generalize ci (g k) = y at *;clear hgk hst hz hc hc1 hd;go_wp2_with (fail);go_roundw
    case rel => exact ⟨k + 1, Av, cv, by omega, by go_num, rfl, hrv, hAv, hmc, hcv, hbw⟩
    case measure => simp [intOf]; omega
   ·have hzz : (ci (g k) != 0) = true := by rw [bne_iff_ne]; exact hz
    have hA3 := hAT (cmb k g M) (M k) (ci (g k)) Av Ak cv ck w3.drew ((hr.below hB3).more hB3.size).drew hrv.drew ((hrk.below hB3).more hB3.size).drew;rw [hgk, ← hst] at hA3;unfold Gives at hA3;replace hA3 := Lib.hid hA3;generalize hy : ci (g k) = y at *;replace hy := Lib.hid hy;have kk := Lib.hid (show (w3.cell? ⟨w.heap.size, 0, none⟩ = some (.int .i64 D.p) ∧ w3.cell? ⟨w.heap.size, 1, none⟩ = some (.int .i64 D.m) ∧ w3.cell? ⟨w.heap.size, 2, none⟩ = some (.slice A D.mod.length c)) ∧ w3.cell? ⟨b, o + k, none⟩ = some (.slice Ak m ck) ∧ w3.cell? ⟨b1, o1 + k, none⟩ = some (.int .i64 y) from ⟨keep3 hbw hlt0 kY.out, hd, hd1⟩);have x1 : w.heap.size < w3.heap.size := Nat.lt_of_lt_of_le hlt0 hbw.size;have x2 : b < w3.heap.size := Nat.lt_of_lt_of_le hb hB3.size;have x3 : b1 < w3.heap.size := Nat.lt_of_lt_of_le hb1 hB3.size;clear hgk hst hz hc hc1;go_wp2_with (fail);clear hd hd1;refine wp_region_held_drew (S := fun w' => (w'.cell? ⟨w.heap.size, 0, none⟩ = some (.int .i64 D.p) ∧ w'.cell? ⟨w.heap.size, 1, none⟩ = some (.int .i64 D.m) ∧ w'.cell? ⟨w.heap.size, 2, none⟩ = some (.slice A D.mod.length c)) ∧ w'.cell? ⟨b, o + k, none⟩ = some (.slice Ak m ck) ∧ w'.cell? ⟨b1, o1 + k, none⟩ = some (.int .i64 y)) (by kernel_rfl) (by (try dsimp only); exact kk.out) (fun hHeld => ?_);refine tk 0 ?_; try simp only [pS]
    refine tk 1 ?_; try simp only [pS]
    refine tk 2 ?_; try simp only [pS]
    refine tk 3 ?_; try simp only [pS]
    refine tk 4 ?_; try simp only [pS]
    refine tk 5 ?_; try simp only [pS]
    refine tk 6 ?_; try simp only [pS]
    refine tk 7 ?_; try simp only [pS]
    refine tk 8 ?_; try simp only [pS]
    refine tk 9 ?_; try simp only [pS]
    refine rd 10 fun K hK => ?_
    go_simp;go_at_call 161;(with_reducible refine (hA3).out.mono ?_);rintro e w4 ⟨g4, rfl, hg4, hib4, hb4⟩;rw [rowL_length];go_wp2_with (fail);refine hK.out _ _ (by (try dsimp only); exact ⟨keep3 hb4 x1 kk.out.1, (hb4.cell (p := ⟨b, o + k, none⟩) x2).trans kk.out.2.1, (hb4.cell (p := ⟨b1, o1 + k, none⟩) x3).trans kk.out.2.2⟩) (fun hHeld => ?_);clear hK K;try simp only [pS]
    refine tk 11 ?_; try simp only [pS]
    refine wpAnyH_done (by kernel_rfl) ?_ _;go_wp2_with (fail);go_roundw
    case rel => exact ⟨k + 1, some ⟨g4, 0, none⟩, m, by omega, by go_num, rfl, hib4.rd, (fun a e => by cases e; exact Nat.le_trans (Nat.le_of_lt x1) hg4), Nat.le_refl _, by unfold maxLen; omega, hbw.drew.trans (hb4.mono hbw.size)⟩
    case measure => simp [intOf]; omega
  ·obtain rfl : n = k := by omega
   go_wp2_with (fail);go_ret;exact ⟨Av, cv, rfl, hrv, hAv, hmc, hcv, hB3⟩

end
section
open Go.RowKit Cw
attribute [local go_sem] Oper.semAt_some

end
section
open Go.RowKit Cw
attribute [local go_sem] Oper.semAt_some

end
end Go.Proofs.YtakonlfojblcmaaGreat
