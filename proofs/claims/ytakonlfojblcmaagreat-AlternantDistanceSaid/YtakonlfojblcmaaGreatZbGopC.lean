/- Layer 19 of the program: GoppaCode of a valid description. -/
import Derived.Test.YtakonlfojblcmaaGreatZbPar
import Derived.Test.YtakonlfojblcmaaGreatZbTk
namespace Go.Proofs.YtakonlfojblcmaaGreat
open Go.RowKit Cw
attribute [local go_sem] Oper.semAt_some

def GCPost (S : FD) (D : Desc) (poly pts : List Int) (w : World) (e : Ending) (w' : World) : Prop :=
 ∃ (F : FD) (rt : Nat), F.toDesc = D ∧ IsRt S F rt ∧ KnlPost S F (rel F.toDesc rt) (F.m / S.m) pts.length (poly.length - 1) (gopM F poly pts) w e w'
set_option maxRecDepth 100000 in
set_option maxHeartbeats 16000000 in
theorem aGopCode_ok (S : FD) (D : Desc) (poly pts : List Int) (A B A1 A2 : Option Addr) (c b c1 c2 : Nat) (w : World) (hr : Rd w w.heap.size A (modL S.toDesc)) (hrB : Rd w w.heap.size B (modL D)) (hS : Good S.p S.m (modL S.toDesc)) (hD : Good D.p D.m (modL D)) (hr1 : Rd w w.heap.size A1 poly) (hr2 : Rd w w.heap.size A2 pts) (hz : gopD S.toDesc D poly pts = 0) :
    Calls Tryz.prog 31 #[.agg #[.int .i64 S.p, .int .i64 S.m, .slice A S.mod.length c, .int .i64 D.p, .int .i64 D.m, .slice B D.mod.length b, .slice A1 poly.length c1, .slice A2 pts.length c2]] w (GCPost S D poly pts w) := by
  obtain ⟨hfit, ⟨hn1, hn64⟩, hp1, hp2, htw, hl2, hl65, htop, hroot⟩ := gopD_zero hz
  have hfi := fitB_iff.1 hfit
  have hGo := fun W x1 x2 x3 x4 => Lib.hid (goppa_D S D poly pts A B A1 A2 c b c1 c2 W x1 x2 hS hD x3 x4 (by unfold maxLen; omega) (by unfold maxLen; omega))
  obtain ⟨s, hs⟩ : ∃ s, s = w.heap.size := ⟨_, rfl⟩
  obtain ⟨Z, hZ⟩ : ∃ Z, Z = (w.alloc (.cells #[.int .i64 S.p, .int .i64 S.m, .slice A S.mod.length c, .int .i64 D.p, .int .i64 D.m, .slice B D.mod.length b, .slice A1 poly.length c1, .slice A2 pts.length c2] 44)).alloc (.cells #[.int .i64 0, .int .i64 0, .slice none 0 0, .int .i64 0, .slice none 0 0] 27) := ⟨_, rfl⟩
  have hB : Below w.heap.size w Z := by rw [hZ]; exact ((Below.refl _ _).alloc (Nat.le_refl _) _).alloc (by simp) _
  have hZs : Z.heap.size = s + 1 + 1 := by rw [hZ, hs]; simp
  have hbG : Hid (Bxs Z s [.int .i64 S.p, .int .i64 S.m, .slice A S.mod.length c, .int .i64 D.p, .int .i64 D.m, .slice B D.mod.length b, .slice A1 poly.length c1, .slice A2 pts.length c2]) := by rw [hZ, hs]; exact (Bxs.new w _ _).keep ((Below.refl _ _).alloc (Nat.le_refl _) _) (by simp)
  have hbR : Hid (Bxs Z (s + 1) [.int .i64 0, .int .i64 0, .slice none 0 0, .int .i64 0, .slice none 0 0]) := by rw [hZ, hs]; have := Bxs.new (w.alloc (.cells #[.int .i64 S.p, .int .i64 S.m, .slice A S.mod.length c, .int .i64 D.p, .int .i64 D.m, .slice B D.mod.length b, .slice A1 poly.length c1, .slice A2 pts.length c2] 44)) [.int .i64 0, .int .i64 0, .slice none 0 0, .int .i64 0, .slice none 0 0] 27; rw [World.size_alloc] at this; exact this
  have hq := hGo Z ((hr.below hB).more hB.size) ((hrB.below hB).more hB.size) ((hr1.below hB).more hB.size) ((hr2.below hB).more hB.size)
  have hrZ := hr.below hB
  have hr2Z := hr2.below hB
  unfold GCPost
  have hzH := Lib.hid hz
  have hfH := Lib.hid hfi
  replace hZ := Lib.hid hZ
  replace hZs := Lib.hid hZs
  clear hGo hz hfi hfit hp1 hp2 htw htop hroot hr hrB hr1 hr2
  go_enter Tryz.func31, Tryz.ntmps31
  obtain ⟨a0, a1, a2, a3, a4, a5, a6, a7⟩ := hbG.out.c8
  go_wp2_with (fail)
  rw [← hZ.out]
  simp only [← hs]
  have hsw : w.heap.size ≤ s := Nat.le_of_eq hs.symm
  have hsw2 : s ≤ w.heap.size := Nat.le_of_eq hs
  replace hs := Lib.hid hs
  go_wp2_with (fail)
  (with_reducible refine hq.out.mono ?_)
  rintro e w1 ⟨hb1, ⟨hne, -⟩ | ⟨-, F, rt, k0, n, g, gb, Ab, cb, gv, rfl, hrt, hk0, hn, rfl, hpr, hrv⟩⟩
  · exact absurd hzH.out hne
  clear a0 a1 a2 a3 a4 a5 a6 a7 hq
  have hZ1 : s + 1 + 1 ≤ Z.heap.size := Nat.le_of_eq hZs.out.symm
  have hs1 : s + 1 + 1 ≤ w1.heap.size := Nat.le_trans hZ1 hb1.size
  obtain ⟨pb, hpb⟩ : ∃ pb, pb = w1.heap.size := ⟨_, rfl⟩
  obtain ⟨Y, hY⟩ : ∃ Y, Y = w1.alloc (.cells #[.int .i64 S.p, .int .i64 S.m, .slice A S.mod.length c, .pointer (some ⟨g, 0, none⟩), .slice (some ⟨gb, 0, none⟩) F.q F.q, .slice Ab n cb, .int .i64 S.m] 135) := ⟨_, rfl⟩
  have hbY : Below w1.heap.size w1 Y := by rw [hY]; exact (Below.refl _ _).alloc (Nat.le_refl _) _
  have hYs : Y.heap.size = pb + 1 := by rw [hY, hpb]; simp
  have hbP : Hid (Bxs Y pb [.int .i64 S.p, .int .i64 S.m, .slice A S.mod.length c, .pointer (some ⟨g, 0, none⟩), .slice (some ⟨gb, 0, none⟩) F.q F.q, .slice Ab n cb, .int .i64 S.m]) := by rw [hY, hpb]; exact Bxs.new w1 _ _
  have hbZY : Below Z.heap.size Z Y := hb1.trans (hbY.mono hb1.size)
  have hbGY : Hid (Bxs Y s [.int .i64 S.p, .int .i64 S.m, .slice A S.mod.length c, .int .i64 F.p, .int .i64 F.m, .slice B F.mod.length b, .slice A1 poly.length c1, .slice A2 pts.length c2]) := hbG.out.keep hbZY (by omega)
  have hbRY : Hid (Bxs Y (s + 1) [.int .i64 0, .int .i64 0, .slice none 0 0, .int .i64 0, .slice none 0 0]) := hbR.out.keep hbZY (by omega)
  have hwZ := hB.size
  have hprY : Hid (PairAt S F rt k0 n Z.heap.size g gb Ab Y Y.heap.size) := (hpr.below hbY).more hbY.size
  have hrvY := (hrv.below hbY).more hbY.size
  have hrY := (hrZ.below (hbZY.mono hwZ)).more (Nat.le_trans hwZ hbZY.size)
  have hr2Y := (hr2Z.below (hbZY.mono hwZ)).more (Nat.le_trans hwZ hbZY.size)
  have hbd : Below Y.heap.size Y Y.drew := (Below.refl _ Y).drew
  have hPa := Lib.hid (aParity_any S F n g gb poly pts A B A1 A2 Ab c b c1 c2 cb gv Y.drew (hprY.out.gf.below hbd) (hr2Y.below hbd) (hrvY.below hbd) hl2 hl65 hn64)
  have hKn := fun Ar cr W x1 x2 x3 => Lib.hid (aKernel_any S F rt k0 n Z.heap.size g gb pts.length (poly.length - 1) (gopM F poly pts) A Ab Ar c cb cr W x1 x2 hS hfH.out.1 hfH.out.2 hrt hk0 hn x3 (by omega) hn1 hn64)
  have hS0 : Hid ((Y.cell? ⟨pb, 0, none⟩ = some (.int .i64 S.p) ∧ Y.cell? ⟨pb, 1, none⟩ = some (.int .i64 S.m) ∧ Y.cell? ⟨pb, 2, none⟩ = some (.slice A S.mod.length c) ∧ Y.cell? ⟨pb, 3, none⟩ = some (.pointer (some ⟨g, 0, none⟩)) ∧ Y.cell? ⟨pb, 4, none⟩ = some (.slice (some ⟨gb, 0, none⟩) F.q F.q) ∧ Y.cell? ⟨pb, 5, none⟩ = some (.slice Ab n cb) ∧ Y.cell? ⟨pb, 6, none⟩ = some (.int .i64 S.m)) ∧ (Y.cell? ⟨s, 0, none⟩ = some (.int .i64 S.p) ∧ Y.cell? ⟨s, 1, none⟩ = some (.int .i64 S.m) ∧ Y.cell? ⟨s, 2, none⟩ = some (.slice A S.mod.length c) ∧ Y.cell? ⟨s, 3, none⟩ = some (.int .i64 F.p) ∧ Y.cell? ⟨s, 4, none⟩ = some (.int .i64 F.m) ∧ Y.cell? ⟨s, 5, none⟩ = some (.slice B F.mod.length b) ∧ Y.cell? ⟨s, 6, none⟩ = some (.slice A1 poly.length c1) ∧ Y.cell? ⟨s, 7, none⟩ = some (.slice A2 pts.length c2))) := ⟨hbP.out.c7, hbGY.out.c8⟩
  have hkp : ∀ {Bn : Nat} {W W' : World}, Below Bn W W' → s < Bn → pb < Bn → Hid ((W.cell? ⟨pb, 0, none⟩ = some (.int .i64 S.p) ∧ W.cell? ⟨pb, 1, none⟩ = some (.int .i64 S.m) ∧ W.cell? ⟨pb, 2, none⟩ = some (.slice A S.mod.length c) ∧ W.cell? ⟨pb, 3, none⟩ = some (.pointer (some ⟨g, 0, none⟩)) ∧ W.cell? ⟨pb, 4, none⟩ = some (.slice (some ⟨gb, 0, none⟩) F.q F.q) ∧ W.cell? ⟨pb, 5, none⟩ = some (.slice Ab n cb) ∧ W.cell? ⟨pb, 6, none⟩ = some (.int .i64 S.m)) ∧ (W.cell? ⟨s, 0, none⟩ = some (.int .i64 S.p) ∧ W.cell? ⟨s, 1, none⟩ = some (.int .i64 S.m) ∧ W.cell? ⟨s, 2, none⟩ = some (.slice A S.mod.length c) ∧ W.cell? ⟨s, 3, none⟩ = some (.int .i64 F.p) ∧ W.cell? ⟨s, 4, none⟩ = some (.int .i64 F.m) ∧ W.cell? ⟨s, 5, none⟩ = some (.slice B F.mod.length b) ∧ W.cell? ⟨s, 6, none⟩ = some (.slice A1 poly.length c1) ∧ W.cell? ⟨s, 7, none⟩ = some (.slice A2 pts.length c2))) → Hid ((W'.cell? ⟨pb, 0, none⟩ = some (.int .i64 S.p) ∧ W'.cell? ⟨pb, 1, none⟩ = some (.int .i64 S.m) ∧ W'.cell? ⟨pb, 2, none⟩ = some (.slice A S.mod.length c) ∧ W'.cell? ⟨pb, 3, none⟩ = some (.pointer (some ⟨g, 0, none⟩)) ∧ W'.cell? ⟨pb, 4, none⟩ = some (.slice (some ⟨gb, 0, none⟩) F.q F.q) ∧ W'.cell? ⟨pb, 5, none⟩ = some (.slice Ab n cb) ∧ W'.cell? ⟨pb, 6, none⟩ = some (.int .i64 S.m)) ∧ (W'.cell? ⟨s, 0, none⟩ = some (.int .i64 S.p) ∧ W'.cell? ⟨s, 1, none⟩ = some (.int .i64 S.m) ∧ W'.cell? ⟨s, 2, none⟩ = some (.slice A S.mod.length c) ∧ W'.cell? ⟨s, 3, none⟩ = some (.int .i64 F.p) ∧ W'.cell? ⟨s, 4, none⟩ = some (.int .i64 F.m) ∧ W'.cell? ⟨s, 5, none⟩ = some (.slice B F.mod.length b) ∧ W'.cell? ⟨s, 6, none⟩ = some (.slice A1 poly.length c1) ∧ W'.cell? ⟨s, 7, none⟩ = some (.slice A2 pts.length c2))) := fun {Bn} {W} {W'} hb h1 h2 ⟨⟨x0, x1, x2, x3, x4, x5, x6⟩, ⟨y0, y1, y2, y3, y4, y5, y6, y7⟩⟩ =>
    ⟨⟨(hb.cell (p := ⟨pb, 0, none⟩) h2).trans x0, (hb.cell (p := ⟨pb, 1, none⟩) h2).trans x1, (hb.cell (p := ⟨pb, 2, none⟩) h2).trans x2, (hb.cell (p := ⟨pb, 3, none⟩) h2).trans x3, (hb.cell (p := ⟨pb, 4, none⟩) h2).trans x4, (hb.cell (p := ⟨pb, 5, none⟩) h2).trans x5, (hb.cell (p := ⟨pb, 6, none⟩) h2).trans x6⟩,
     ⟨(hb.cell (p := ⟨s, 0, none⟩) h1).trans y0, (hb.cell (p := ⟨s, 1, none⟩) h1).trans y1, (hb.cell (p := ⟨s, 2, none⟩) h1).trans y2, (hb.cell (p := ⟨s, 3, none⟩) h1).trans y3, (hb.cell (p := ⟨s, 4, none⟩) h1).trans y4, (hb.cell (p := ⟨s, 5, none⟩) h1).trans y5, (hb.cell (p := ⟨s, 6, none⟩) h1).trans y6, (hb.cell (p := ⟨s, 7, none⟩) h1).trans y7⟩⟩
  have hns : ∀ (u0 u1 u2 u3 u4 : Value) {W W' : World}, W' = stAll W (s + 1) 0 [u0, u1, u2, u3, u4] → Hid ((W.cell? ⟨pb, 0, none⟩ = some (.int .i64 S.p) ∧ W.cell? ⟨pb, 1, none⟩ = some (.int .i64 S.m) ∧ W.cell? ⟨pb, 2, none⟩ = some (.slice A S.mod.length c) ∧ W.cell? ⟨pb, 3, none⟩ = some (.pointer (some ⟨g, 0, none⟩)) ∧ W.cell? ⟨pb, 4, none⟩ = some (.slice (some ⟨gb, 0, none⟩) F.q F.q) ∧ W.cell? ⟨pb, 5, none⟩ = some (.slice Ab n cb) ∧ W.cell? ⟨pb, 6, none⟩ = some (.int .i64 S.m)) ∧ (W.cell? ⟨s, 0, none⟩ = some (.int .i64 S.p) ∧ W.cell? ⟨s, 1, none⟩ = some (.int .i64 S.m) ∧ W.cell? ⟨s, 2, none⟩ = some (.slice A S.mod.length c) ∧ W.cell? ⟨s, 3, none⟩ = some (.int .i64 F.p) ∧ W.cell? ⟨s, 4, none⟩ = some (.int .i64 F.m) ∧ W.cell? ⟨s, 5, none⟩ = some (.slice B F.mod.length b) ∧ W.cell? ⟨s, 6, none⟩ = some (.slice A1 poly.length c1) ∧ W.cell? ⟨s, 7, none⟩ = some (.slice A2 pts.length c2))) → Hid ((W'.cell? ⟨pb, 0, none⟩ = some (.int .i64 S.p) ∧ W'.cell? ⟨pb, 1, none⟩ = some (.int .i64 S.m) ∧ W'.cell? ⟨pb, 2, none⟩ = some (.slice A S.mod.length c) ∧ W'.cell? ⟨pb, 3, none⟩ = some (.pointer (some ⟨g, 0, none⟩)) ∧ W'.cell? ⟨pb, 4, none⟩ = some (.slice (some ⟨gb, 0, none⟩) F.q F.q) ∧ W'.cell? ⟨pb, 5, none⟩ = some (.slice Ab n cb) ∧ W'.cell? ⟨pb, 6, none⟩ = some (.int .i64 S.m)) ∧ (W'.cell? ⟨s, 0, none⟩ = some (.int .i64 S.p) ∧ W'.cell? ⟨s, 1, none⟩ = some (.int .i64 S.m) ∧ W'.cell? ⟨s, 2, none⟩ = some (.slice A S.mod.length c) ∧ W'.cell? ⟨s, 3, none⟩ = some (.int .i64 F.p) ∧ W'.cell? ⟨s, 4, none⟩ = some (.int .i64 F.m) ∧ W'.cell? ⟨s, 5, none⟩ = some (.slice B F.mod.length b) ∧ W'.cell? ⟨s, 6, none⟩ = some (.slice A1 poly.length c1) ∧ W'.cell? ⟨s, 7, none⟩ = some (.slice A2 pts.length c2))) := fun u0 u1 u2 u3 u4 {W} {W'} e ⟨⟨x0, x1, x2, x3, x4, x5, x6⟩, ⟨y0, y1, y2, y3, y4, y5, y6, y7⟩⟩ => by
    have k1 : ∀ j, W'.cell? ⟨pb, j, none⟩ = W.cell? ⟨pb, j, none⟩ := fun j => by rw [e]; exact stAll_cell (show s + 1 ≠ pb by omega) _ 0 W
    have k2 : ∀ j, W'.cell? ⟨s, j, none⟩ = W.cell? ⟨s, j, none⟩ := fun j => by rw [e]; exact stAll_cell (show s + 1 ≠ s by omega) _ 0 W
    exact ⟨⟨(k1 0).trans x0, (k1 1).trans x1, (k1 2).trans x2, (k1 3).trans x3, (k1 4).trans x4, (k1 5).trans x5, (k1 6).trans x6⟩, ⟨(k2 0).trans y0, (k2 1).trans y1, (k2 2).trans y2, (k2 3).trans y3, (k2 4).trans y4, (k2 5).trans y5, (k2 6).trans y6, (k2 7).trans y7⟩⟩
  have hsY : s + 1 < Y.heap.size := by omega
  have hpY : pb < Y.heap.size := by omega
  have hnn : Hid (F.m / S.m = n) := hn
  have hrtH := Lib.hid hrt
  replace hpb := Lib.hid hpb
  replace hY := Lib.hid hY
  clear hpr hrv hk0 hrt hn hbP
  go_wp2_with (fail)
  rw [← hY.out]
  simp only [← hpb.out]
  obtain ⟨T, hT⟩ : ∃ T, T = poly.length - 1 := ⟨_, rfl⟩
  unfold ParPost at hPa
  rw [← hT] at hPa hKn
  replace hT := Lib.hid hT
  have hsY1 : s < Y.heap.size := by omega
  refine wp_region_held_drew (S := fun w' => (w'.cell? ⟨pb, 0, none⟩ = some (.int .i64 S.p) ∧ w'.cell? ⟨pb, 1, none⟩ = some (.int .i64 S.m) ∧ w'.cell? ⟨pb, 2, none⟩ = some (.slice A S.mod.length c) ∧ w'.cell? ⟨pb, 3, none⟩ = some (.pointer (some ⟨g, 0, none⟩)) ∧ w'.cell? ⟨pb, 4, none⟩ = some (.slice (some ⟨gb, 0, none⟩) F.q F.q) ∧ w'.cell? ⟨pb, 5, none⟩ = some (.slice Ab n cb) ∧ w'.cell? ⟨pb, 6, none⟩ = some (.int .i64 S.m)) ∧ (w'.cell? ⟨s, 0, none⟩ = some (.int .i64 S.p) ∧ w'.cell? ⟨s, 1, none⟩ = some (.int .i64 S.m) ∧ w'.cell? ⟨s, 2, none⟩ = some (.slice A S.mod.length c) ∧ w'.cell? ⟨s, 3, none⟩ = some (.int .i64 F.p) ∧ w'.cell? ⟨s, 4, none⟩ = some (.int .i64 F.m) ∧ w'.cell? ⟨s, 5, none⟩ = some (.slice B F.mod.length b) ∧ w'.cell? ⟨s, 6, none⟩ = some (.slice A1 poly.length c1) ∧ w'.cell? ⟨s, 7, none⟩ = some (.slice A2 pts.length c2))) (by kernel_rfl) (by (try dsimp only); exact hS0.out) (fun hHeld => ?_)
  refine tk 0 ?_; try simp only [pS]
  refine tk 1 ?_; try simp only [pS]
  refine tk 2 ?_; try simp only [pS]
  refine tk 3 ?_; try simp only [pS]
  refine tk 6 ?_; try simp only [pS]
  refine tk 7 ?_; try simp only [pS]
  refine tk 8 ?_; try simp only [pS]
  refine rd 4 fun K hK => ?_
  go_simp
  go_at_call 104
  (with_reducible refine (hPa).out.mono ?_)
  rintro e w3 ⟨Al, cl, rfl, hru, hb3⟩
  have hb3' := hbd.trans hb3
  have hS3 := hkp hb3' hsY1 hpY hS0
  have hfd : ∀ W : World, (Instr.field 78 (.agg #[.int .i64 pts.length, .slice Al T cl]) 1).run Tryz.prog W = .ok (.slice Al T cl) W := (fun _ => by kernel_rfl)
  have hq9 := hKn Al cl w3 ((hprY.out.below hb3').more hb3'.size) ((hrY.below hb3').more hb3'.size) hru.rdm
  go_wp2_with (fail)
  refine hK.out _ _ (by (try dsimp only); exact hS3.out) (fun hHeld => ?_)
  clear hK K
  try simp only [pS]
  refine tk 5 ?_; try simp only [pS]
  refine rd 9 fun K hK => ?_
  go_simp
  go_at_call 103
  (with_reducible refine (hq9).out.mono ?_)
  rintro e w4 ⟨k, C, A3, c3, Al3, rfl, hvc, hsp, hdim, hr3, hA3, hru3, hb4⟩
  have hb34 := hb3'.trans (hb4.mono hb3'.size)
  have hS4 := hkp hb34 hsY1 hpY hS0
  have hbR4 := hbRY.out.keep hb34 hsY
  obtain ⟨u0, u1, u2, u3, u4⟩ := hbR4.c5
  obtain ⟨v0, v1, v2, v3, v4⟩ := hbR4.f5
  have hlow : Y.heap.size ≤ w3.heap.size := hb3'.size
  have hS5 := hns (.int .i64 S.p) (.int .i64 S.m) (.slice A3 S.mod.length c3) (.int .i64 pts.length) (.slice Al3 k k) (W := w4) rfl hS4
  have hfin : Hid (KnlPost S F (rel F.toDesc rt) (F.m / S.m) pts.length T (gopM F poly pts) w (.returned (.tuple #[.agg #[.int .i64 S.p, .int .i64 S.m, .slice A3 S.mod.length c3, .int .i64 pts.length, .slice Al3 k k], .int .i64 0])) (stAll w4 (s + 1) 0 [.int .i64 S.p, .int .i64 S.m, .slice A3 S.mod.length c3, .int .i64 pts.length, .slice Al3 k k])) := (by rw [hnn.out]; refine ⟨k, C, A3, c3, Al3, rfl, hvc, hsp, hdim, by rw [stAll_size]; exact hr3.farS (fun a ha => by have := hA3 a ha; omega) _ 0, fun q hq => by have := hA3 q hq; omega, by rw [stAll_size]; exact (hru3.keepU fun p hp1 _ => stAll_cell (by omega) _ 0 w4).low (by omega), stAll_below (by omega) _ _ _ (hB.trans ((hbZY.mono hwZ).trans (hb34.mono (by omega))))⟩)
  clear hr3 hru3 hvc hsp hdim hbR4
  go_wp2_with (fail)
  refine hK.out _ _ (by (try dsimp only); exact hS4.out) (fun hHeld => ?_)
  clear hK K
  try simp only [pS]
  refine tk 10 ?_; try simp only [pS]
  refine tk 11 ?_; try simp only [pS]
  refine rd 12 fun K hK => ?_
  go_simp
  refine hK.out _ _ (by (try dsimp only); exact hS5.out) (fun hHeld => ?_)
  clear hK K
  try simp only [pS]
  refine tk 13 ?_; try simp only [pS]
  refine wpAnyH_done (by kernel_rfl) ?_ _
  go_wp2_with (fail)
  exact bodyPost_ret (v := .tuple #[.agg #[.int .i64 S.p, .int .i64 S.m, .slice A3 S.mod.length c3, .int .i64 pts.length, .slice Al3 k k], .int .i64 0]) (by simp [results, Tryz.results31, go_sem, u0, u1, u2, u3, u4]) rfl (by rw [← hT.out]; exact ⟨F, rt, rfl, hrtH.out, hfin.out⟩)
end Go.Proofs.YtakonlfojblcmaaGreat
