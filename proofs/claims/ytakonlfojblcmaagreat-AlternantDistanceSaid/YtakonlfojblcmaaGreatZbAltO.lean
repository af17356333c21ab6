/- Layer 19 of the program: open and Code of a valid description. -/
import Derived.Test.YtakonlfojblcmaaGreatZbGrsH
import Derived.Test.YtakonlfojblcmaaGreatZbKnl
import Derived.Test.YtakonlfojblcmaaGreatZbGopR
import Derived.Test.YtakonlfojblcmaaGreatZbMatZ
namespace Go.Proofs.YtakonlfojblcmaaGreat
open Go.RowKit Cw
attribute [local go_sem] Oper.semAt_some

def AOpPost (S : FD) (D : Desc) (A : Option Addr) (c : Nat) (w : World) (e : Ending) (w' : World) : Prop :=
 ∃ (F : FD) (rt k0 n g gb : Nat) (Ab : Option Addr) (cb : Nat), F.toDesc = D ∧ IsRt S F rt ∧ IsNrm F S.m n k0 ∧ F.m / S.m = n ∧ e = .returned (.tuple #[.agg #[.int .i64 S.p, .int .i64 S.m, .slice A S.mod.length c, .pointer (some ⟨g, 0, none⟩), .slice (some ⟨gb, 0, none⟩) F.q F.q, .slice Ab n cb, .int .i64 S.m], .int .i64 0]) ∧ PairAt S F rt k0 n w.heap.size g gb Ab w' w'.heap.size ∧ Below w.heap.size w w'
set_option maxRecDepth 100000 in
set_option maxHeartbeats 16000000 in
theorem aOpen_ok (S : FD) (D : Desc) (kn : Nat) (pts mul : List Int) (A B A1 A2 : Option Addr) (c b c1 c2 : Nat) (w : World) (hr : Rd w w.heap.size A (modL S.toDesc)) (hrB : Rd w w.heap.size B (modL D)) (hS : Good S.p S.m (modL S.toDesc)) (hD : Good D.p D.m (modL D)) (hr1 : Rd w w.heap.size A1 pts) (hr2 : Rd w w.heap.size A2 mul) (hz : gchkD D kn pts mul = 0) (hf : fitB S.toDesc D = true) (hc1 : pts.length ≤ c1) (hc1' : c1 ≤ maxLen) :
  Calls Tryz.prog 140 #[.agg #[.int .i64 S.p, .int .i64 S.m, .slice A S.mod.length c], .agg #[.int .i64 D.p, .int .i64 D.m, .slice B D.mod.length b, .int .i64 (kn : Int), .slice A1 pts.length c1, .slice A2 mul.length c2]] w (AOpPost S D A c w) := by
 obtain ⟨hn1, hn64, hlen, -, -, -, -, -, -⟩ := gchkD_zero hz
 have hCk := fCheck_D S.toDesc A c
 rw [chk_yes hS] at hCk
 replace hCk := fun W a => Lib.hid (hCk W a)
 have hNw := fun W a => Lib.hid (New_low D B b W a hD)
 have hGc := fun W x1 x2 x3 => gCheck_D D kn pts mul B A1 A2 b c1 c2 W x1 hD x2 x3 hc1 hc1' (by unfold maxLen; omega)
 rw [hz] at hGc
 replace hGc := fun W x1 x2 x3 => Lib.hid (hGc W x1 x2 x3)
 replace hlen := Lib.hid hlen
 obtain ⟨s, hs⟩ : ∃ s, s = w.heap.size := ⟨_, rfl⟩
 obtain ⟨Z, hZ⟩ : ∃ Z, Z = ((w.alloc (.cells #[.int .i64 S.p, .int .i64 S.m, .slice A S.mod.length c] 24)).alloc (.cells #[.int .i64 D.p, .int .i64 D.m, .slice B D.mod.length b, .int .i64 (kn : Int), .slice A1 pts.length c1, .slice A2 mul.length c2] 61)).alloc (.cells #[.int .i64 0, .int .i64 0, .slice none 0 0, .pointer none, .slice none 0 0, .slice none 0 0, .int .i64 0] 135) := ⟨_, rfl⟩
 have hB : Below w.heap.size w Z := by rw [hZ]; exact (((Below.refl _ _).alloc (Nat.le_refl _) _).alloc (by simp) _).alloc (by simp; omega) _
 have hZs : Z.heap.size = s + 1 + 1 + 1 := by rw [hZ, hs]; simp
 have hbA : Hid (Bxs Z s [.int .i64 S.p, .int .i64 S.m, .slice A S.mod.length c]) := by rw [hZ, hs]; exact ((Bxs.new w _ _).keep ((Below.refl _ _).alloc (Nat.le_refl _) _) (by simp)).keep ((Below.refl _ _).alloc (Nat.le_refl _) _) (by simp; omega)
 have hbG : Hid (Bxs Z (s + 1) [.int .i64 D.p, .int .i64 D.m, .slice B D.mod.length b, .int .i64 (kn : Int), .slice A1 pts.length c1, .slice A2 mul.length c2]) := by
  rw [hZ, hs]
  have h9 := Bxs.new (w.alloc (.cells #[.int .i64 S.p, .int .i64 S.m, .slice A S.mod.length c] 24)) [.int .i64 D.p, .int .i64 D.m, .slice B D.mod.length b, .int .i64 (kn : Int), .slice A1 pts.length c1, .slice A2 mul.length c2] 61
  rw [World.size_alloc] at h9
  exact h9.keep ((Below.refl _ _).alloc (Nat.le_refl _) _) (by simp)
 have hbR : Hid (Bxs Z (s + 1 + 1) [.int .i64 0, .int .i64 0, .slice none 0 0, .pointer none, .slice none 0 0, .slice none 0 0, .int .i64 0]) := by
  rw [hZ, hs]
  have h9 := Bxs.new ((w.alloc (.cells #[.int .i64 S.p, .int .i64 S.m, .slice A S.mod.length c] 24)).alloc (.cells #[.int .i64 D.p, .int .i64 D.m, .slice B D.mod.length b, .int .i64 (kn : Int), .slice A1 pts.length c1, .slice A2 mul.length c2] 61)) [.int .i64 0, .int .i64 0, .slice none 0 0, .pointer none, .slice none 0 0, .slice none 0 0, .int .i64 0] 135
  rw [World.size_alloc, World.size_alloc] at h9
  exact h9
 have hq := hCk Z ((hr.below hB).more hB.size)
 replace hZ := Lib.hid hZ
 replace hZs := Lib.hid hZs
 clear hCk
 unfold AOpPost
 go_enter Tryz.func140, Tryz.ntmps140
 obtain ⟨a0, a1, a2⟩ := hbA.out.c3
 go_wp2_with (fail)
 rw [← hZ.out]
 simp only [← hs]
 have hsw : w.heap.size ≤ s := Nat.le_of_eq hs.symm
 replace hs := Lib.hid hs
 go_wp2_with (fail)
 (with_reducible refine hq.out.mono ?_)
 rintro e w1 ⟨rfl, hb1⟩
 clear hq a0 a1 a2
 have hsZ : s + 1 + 1 < Z.heap.size := by have := hZs.out; omega
 have hs1 : s + 1 + 1 < w1.heap.size := Nat.lt_of_lt_of_le hsZ hb1.size
 have hB1 := hB.trans (hb1.mono hB.size)
 have hq := hGc w1 ((hrB.below hB1).more hB1.size) ((hr1.below hB1).more hB1.size) ((hr2.below hB1).more hB1.size)
 obtain ⟨a0, a1, a2, a3, a4, a5⟩ := (hbG.out.keep hb1 (by omega)).c6
 go_wp2_with (fail)
 (with_reducible refine hq.out.mono ?_)
 rintro e w2 ⟨rfl, hb2⟩
 clear hq a0 a1 a2 a3 a4 a5
 have hbz2 := hb1.trans (hb2.mono hb1.size)
 have hB2 := hB.trans (hbz2.mono hB.size)
 have hq := hNw w2 ((hrB.below hB2).more hB2.size)
 obtain ⟨a0, a1, a2, a3, a4, a5⟩ := (hbG.out.keep hbz2 (by omega)).c6
 go_wp2_with (fail)
 (with_reducible refine hq.out.mono ?_)
 rintro e w3 ⟨g, F, rfl, rfl, hgu, hb3⟩
 clear hq a0 a1 a2 a3 a4 a5
 have hbz3 := hbz2.trans (hb3.mono hbz2.size)
 have hB3 := hB.trans (hbz3.mono hB.size)
 obtain ⟨hp, hd⟩ := fitB_iff.1 hf
 have hdv : S.m ∣ F.m := by
  obtain ⟨d, e1, -, -, e2⟩ := divB_nat hd
  rw [show S.m = d by omega]; exact e2
 obtain ⟨rt, hrt⟩ := isRt_ex (S := S) (F := F) hp hdv
 obtain ⟨k0, hk0⟩ := isNrm_ex F hdv S.m1
 obtain ⟨n, hn⟩ : ∃ n, F.m / S.m = n := ⟨_, rfl⟩
 rw [hn] at hk0
 have hq := fit_yes S F rt k0 n A c g w3 hgu.gf ((hr.below hB3).more hB3.size) hS hp hd hrt hn hk0
 unfold FitPost at hq
 replace hq := Lib.hid hq
 replace hn := Lib.hid hn
 replace hp := Lib.hid hp
 replace hd := Lib.hid hd
 obtain ⟨a0, a1, a2⟩ := (hbA.out.keep hbz3 (by omega)).c3
 go_wp2_with (fail)
 (with_reducible refine hq.out.mono ?_)
 rintro e w4 ⟨gb, Ab, cb, rfl, hgb, hib, hrb, hAb, hb4⟩
 clear hq a0 a1 a2
 have hbz4 := hbz3.trans (hb4.mono hbz3.size)
 have hB4 := hB.trans (hbz4.mono hB.size)
 have hL3 : w2.heap.size ≤ w3.heap.size := hb3.size
 have hL2 : s + 1 + 1 < w2.heap.size := Nat.lt_of_lt_of_le hsZ hbz2.size
 have hpr : PairAt S F rt k0 n w2.heap.size g gb Ab w4 w4.heap.size := ⟨(hgu.below hb4).more hb4.size, Nat.le_trans hL3 hgb, hib.lt, hib, RdU.of hrb fun a e => Nat.le_trans hL3 (hAb a e)⟩
 have hbR4 := hbR.out.keep hbz4 hsZ
 obtain ⟨u0, u1, u2, u3, u4, u5, u6⟩ := hbR4.c7
 obtain ⟨v0, v1, v2, v3, v4, v5, v6⟩ := hbR4.f7
 have hfin : Hid (AOpPost S F.toDesc A c w (.returned (.tuple #[.agg #[.int .i64 S.p, .int .i64 S.m, .slice A S.mod.length c, .pointer (some ⟨g, 0, none⟩), .slice (some ⟨gb, 0, none⟩) F.q F.q, .slice Ab n cb, .int .i64 S.m], .int .i64 0])) (stAll w4 (s + 1 + 1) 0 [.int .i64 S.p, .int .i64 S.m, .slice A S.mod.length c, .pointer (some ⟨g, 0, none⟩), .slice (some ⟨gb, 0, none⟩) F.q F.q, .slice Ab n cb, .int .i64 S.m])) := by
  refine ⟨F, rt, k0, n, g, gb, Ab, cb, rfl, hrt, hk0, hn.out, rfl, ?_, stAll_below (by omega) _ _ _ hB4⟩
  rw [stAll_size]
  exact (hpr.farS hL2 _).low (by omega)
 clear hpr hgb hib hrb hgu hbR4
 go_wp2_with (fail)
 exact bodyPost_ret (v := .tuple #[.agg #[.int .i64 S.p, .int .i64 S.m, .slice A S.mod.length c, .pointer (some ⟨g, 0, none⟩), .slice (some ⟨gb, 0, none⟩) F.q F.q, .slice Ab n cb, .int .i64 S.m], .int .i64 0]) (by simp [results, Tryz.results140, go_sem, u0, u1, u2, u3, u4, u5, u6]) rfl hfin.out
def ACPost (S : FD) (D : Desc) (kn : Nat) (pts mul : List Int) (w : World) (e : Ending) (w' : World) : Prop :=
 ∃ (F : FD) (rt : Nat), F.toDesc = D ∧ IsRt S F rt ∧ KnlPost S F (rel F.toDesc rt) (F.m / S.m) pts.length (pts.length - kn) (altH F pts mul) w e w'
set_option maxRecDepth 100000 in
set_option maxHeartbeats 16000000 in
theorem aCode_ok (S : FD) (D : Desc) (kn : Nat) (pts mul : List Int) (A B A1 A2 : Option Addr) (c b c1 c2 : Nat) (w : World) (hr : Rd w w.heap.size A (modL S.toDesc)) (hrB : Rd w w.heap.size B (modL D)) (hS : Good S.p S.m (modL S.toDesc)) (hD : Good D.p D.m (modL D)) (hr1 : Rd w w.heap.size A1 pts) (hr2 : Rd w w.heap.size A2 mul) (hz : gchkD D kn pts mul = 0) (hf : fitB S.toDesc D = true) (hc1 : pts.length ≤ c1) (hc1' : c1 ≤ maxLen) :
  Calls Tryz.prog 67 #[.agg #[.int .i64 S.p, .int .i64 S.m, .slice A S.mod.length c], .agg #[.int .i64 D.p, .int .i64 D.m, .slice B D.mod.length b, .int .i64 (kn : Int), .slice A1 pts.length c1, .slice A2 mul.length c2]] w (ACPost S D kn pts mul w) := by
 obtain ⟨hn1, hn64, hlen, -, -, -, -, -, hkn⟩ := gchkD_zero hz
 have hml : mul.length ≤ maxLen := by unfold maxLen; omega
 have hOp := fun W x1 x2 x3 x4 => Lib.hid (aOpen_ok S D kn pts mul A B A1 A2 c b c1 c2 W x1 x2 hS hD x3 x4 hz hf hc1 hc1')
 have hDu := fun W x1 x2 x3 => Lib.hid (gDual_D D kn pts mul B A1 A2 b c1 c2 W x1 hD x2 x3 hc1 hc1' hml)
 have hfi := Lib.hid (fitB_iff.1 hf)
 obtain ⟨s, hs⟩ : ∃ s, s = w.heap.size := ⟨_, rfl⟩
 obtain ⟨Z, hZ⟩ : ∃ Z, Z = ((w.alloc (.cells #[.int .i64 S.p, .int .i64 S.m, .slice A S.mod.length c] 24)).alloc (.cells #[.int .i64 D.p, .int .i64 D.m, .slice B D.mod.length b, .int .i64 (kn : Int), .slice A1 pts.length c1, .slice A2 mul.length c2] 61)).alloc (.cells #[.int .i64 0, .int .i64 0, .slice none 0 0, .int .i64 0, .slice none 0 0] 27) := ⟨_, rfl⟩
 have hB : Below w.heap.size w Z := by rw [hZ]; exact (((Below.refl _ _).alloc (Nat.le_refl _) _).alloc (by simp) _).alloc (by simp; omega) _
 have hZs : Z.heap.size = s + 1 + 1 + 1 := by rw [hZ, hs]; simp
 have hbA : Hid (Bxs Z s [.int .i64 S.p, .int .i64 S.m, .slice A S.mod.length c]) := by rw [hZ, hs]; exact ((Bxs.new w _ _).keep ((Below.refl _ _).alloc (Nat.le_refl _) _) (by simp)).keep ((Below.refl _ _).alloc (Nat.le_refl _) _) (by simp; omega)
 have hbG : Hid (Bxs Z (s + 1) [.int .i64 D.p, .int .i64 D.m, .slice B D.mod.length b, .int .i64 (kn : Int), .slice A1 pts.length c1, .slice A2 mul.length c2]) := by
  rw [hZ, hs]
  have h9 := Bxs.new (w.alloc (.cells #[.int .i64 S.p, .int .i64 S.m, .slice A S.mod.length c] 24)) [.int .i64 D.p, .int .i64 D.m, .slice B D.mod.length b, .int .i64 (kn : Int), .slice A1 pts.length c1, .slice A2 mul.length c2] 61
  rw [World.size_alloc] at h9
  exact h9.keep ((Below.refl _ _).alloc (Nat.le_refl _) _) (by simp)
 have hbR : Hid (Bxs Z (s + 1 + 1) [.int .i64 0, .int .i64 0, .slice none 0 0, .int .i64 0, .slice none 0 0]) := by
  rw [hZ, hs]
  have h9 := Bxs.new ((w.alloc (.cells #[.int .i64 S.p, .int .i64 S.m, .slice A S.mod.length c] 24)).alloc (.cells #[.int .i64 D.p, .int .i64 D.m, .slice B D.mod.length b, .int .i64 (kn : Int), .slice A1 pts.length c1, .slice A2 mul.length c2] 61)) [.int .i64 0, .int .i64 0, .slice none 0 0, .int .i64 0, .slice none 0 0] 27
  rw [World.size_alloc, World.size_alloc] at h9
  exact h9
 have hq := hOp Z ((hr.below hB).more hB.size) ((hrB.below hB).more hB.size) ((hr1.below hB).more hB.size) ((hr2.below hB).more hB.size)
 unfold AOpPost at hq
 have hzH := Lib.hid hz
 replace hZ := Lib.hid hZ
 replace hZs := Lib.hid hZs
 have hlenH := Lib.hid hlen
 clear hOp hlen
 go_enter Tryz.func67, Tryz.ntmps67
 obtain ⟨a0, a1, a2⟩ := hbA.out.c3
 obtain ⟨d0, d1, d2, d3, d4, d5⟩ := hbG.out.c6
 go_wp2_with (fail)
 rw [← hZ.out]
 simp only [← hs]
 have hsw : w.heap.size ≤ s := Nat.le_of_eq hs.symm
 replace hs := Lib.hid hs
 go_wp2_with (fail)
 (with_reducible refine hq.out.mono ?_)
 rintro e w1 ⟨F, rt, k0, n, g, gb, Ab, cb, rfl, hrt, hk0, hn, rfl, hpr, hb1⟩
 clear hq a0 a1 a2 d0 d1 d2 d3 d4 d5
 have hsZ : s + 1 + 1 < Z.heap.size := by have := hZs.out; omega
 obtain ⟨pb, hpb⟩ : ∃ pb, pb = w1.heap.size := ⟨_, rfl⟩
 obtain ⟨Y, hY⟩ : ∃ Y, Y = w1.alloc (.cells #[.int .i64 S.p, .int .i64 S.m, .slice A S.mod.length c, .pointer (some ⟨g, 0, none⟩), .slice (some ⟨gb, 0, none⟩) F.q F.q, .slice Ab n cb, .int .i64 S.m] 135) := ⟨_, rfl⟩
 have hbY : Below w1.heap.size w1 Y := by rw [hY]; exact (Below.refl _ _).alloc (Nat.le_refl _) _
 have hYs : Y.heap.size = pb + 1 := by rw [hY, hpb]; simp
 have hbP : Hid (Bxs Y pb [.int .i64 S.p, .int .i64 S.m, .slice A S.mod.length c, .pointer (some ⟨g, 0, none⟩), .slice (some ⟨gb, 0, none⟩) F.q F.q, .slice Ab n cb, .int .i64 S.m]) := by rw [hY, hpb]; exact Bxs.new w1 _ _
 have hbZY : Below Z.heap.size Z Y := hb1.trans (hbY.mono hb1.size)
 have hBY := hB.trans (hbZY.mono hB.size)
 have hprY : Hid (PairAt S F rt k0 n Z.heap.size g gb Ab Y Y.heap.size) := (hpr.below hbY).more hbY.size
 have hbGY : Hid (Bxs Y (s + 1) [.int .i64 F.p, .int .i64 F.m, .slice B F.mod.length b, .int .i64 (kn : Int), .slice A1 pts.length c1, .slice A2 mul.length c2]) := hbG.out.keep hbZY (by omega)
 have hq := hDu Y ((hrB.below hBY).more hBY.size) ((hr1.below hBY).more hBY.size) ((hr2.below hBY).more hBY.size)
 unfold DualPost at hq
 have hpY : pb < Y.heap.size := by omega
 have hszY : Z.heap.size ≤ Y.heap.size := hbZY.size
 obtain ⟨d0, d1, d2, d3, d4, d5⟩ := hbGY.out.c6
 rw [hY] at d0 d1 d2 d3 d4 d5
 replace hpb := Lib.hid hpb
 replace hY := Lib.hid hY
 replace hYs := Lib.hid hYs
 have hrtH := Lib.hid hrt
 have hnH : Hid (F.m / S.m = n) := hn
 replace hn := Lib.hid hn
 clear hpr hDu hb1 hbY
 go_wp2_with (fail)
 rw [← hY.out]
 simp only [← hpb.out]
 (with_reducible refine hq.out.mono ?_)
 rintro e w2 ⟨hb2, ⟨hne, -⟩ | ⟨-, F0, hF0, A3, c3, A4, c4, A5, c5, rfl, hr3, hr4, hr5, h4, h4'⟩⟩
 ·exact absurd hzH.out hne
 clear hq d0 d1 d2 d3 d4 d5
 have hdq : dualL F0 pts mul = dualL F pts mul := dualL_eq hF0 pts mul
 rw [hdq] at hr5
 obtain ⟨X, hX⟩ : ∃ X, X = w2.alloc (.cells #[.int .i64 F.p, .int .i64 F.m, .slice A3 F.mod.length c3, .int .i64 ((pts.length : Int) - (kn : Int)), .slice A4 pts.length c4, .slice A5 pts.length c5] 61) := ⟨_, rfl⟩
 have hbX : Below w2.heap.size w2 X := by rw [hX]; exact (Below.refl _ _).alloc (Nat.le_refl _) _
 have hbYX := hb2.trans (hbX.mono hb2.size)
 have hq := gGenr_D F.toDesc ((pts.length : Int) - (kn : Int)) pts (dualL F pts mul) A3 A4 A5 c3 c4 c5 X ((hr3.below hbX).more hbX.size) hD ((hr4.below hbX).more hbX.size) ((hr5.below hbX).more hbX.size) h4 h4' (by rw [dualL_length]; unfold maxLen; omega)
 rw [dualL_length] at hq
 unfold GenrPost at hq
 have hdc : Hid (gchkD F.toDesc ((pts.length : Int) - (kn : Int)) pts (dualL F pts mul) = 0) := dual_chk hzH.out
 have htn : ((pts.length : Int) - (kn : Int)).toNat = pts.length - kn := by omega
 rw [htn] at hq
 obtain ⟨T, hT⟩ : ∃ T, T = pts.length - kn := ⟨_, rfl⟩
 rw [← hT] at hq
 have hT64 : T ≤ 1000 := by omega
 replace hT := Lib.hid hT
 replace htn := Lib.hid htn
 replace hX := Lib.hid hX
 replace hq := Lib.hid hq
 clear hdq hr3 hr4 hr5
 go_wp2_with (fail)
 rw [← hX.out]
 (with_reducible refine hq.out.mono ?_)
 rintro e w3 ⟨hb3, ⟨hne, -⟩ | ⟨-, Al, cl, rfl, hrm⟩⟩
 ·exact absurd hdc.out hne
 clear hq
 have hbY3 := hbYX.trans (hb3.mono hbYX.size)
 obtain ⟨V, hV⟩ : ∃ V, V = w3.alloc (.cells #[.int .i64 pts.length, .slice Al T cl] 78) := ⟨_, rfl⟩
 have hbV : Below w3.heap.size w3 V := by rw [hV]; exact (Below.refl _ _).alloc (Nat.le_refl _) _
 have hbYV := hbY3.trans (hbV.mono hbY3.size)
 have hbZV := hbZY.trans (hbYV.mono hbZY.size)
 have hBV := hB.trans (hbZV.mono hB.size)
 have hprV := (hprY.out.below hbYV).more hbYV.size
 have hq := Lib.hid (aKernel_any S F rt k0 n Z.heap.size g gb pts.length T (altH F pts mul) A Ab Al c cb cl V hprV ((hr.below hBV).more hBV.size) hS hfi.out.1 hfi.out.2 hrt hk0 hn.out ((hrm.below hbV).more hbV.size) hT64 hn1 hn64)
 obtain ⟨p0, p1, p2, p3, p4, p5, p6⟩ := (hbP.out.keep hbYV hpY).c7
 obtain ⟨d0, d1, d2, d3, d4, d5⟩ := (hbGY.out.keep hbYV (show s + 1 < Y.heap.size by omega)).c6
 rw [hV] at p0 p1 p2 p3 p4 p5 p6 d0 d1 d2 d3 d4 d5
 replace hV := Lib.hid hV
 clear hrm hprV hb3 hbV
 go_wp2_with (fail)
 rw [← hV.out]
 (with_reducible refine hq.out.mono ?_)
 rintro e w4 ⟨k, C, A6, c6, Al6, rfl, hvc, hsp, hdim, hr6, hA6, hru6, hb4⟩
 clear hq p0 p1 p2 p3 p4 p5 p6 d0 d1 d2 d3 d4 d5
 have hlow : Z.heap.size ≤ V.heap.size := hbZV.size
 have hbR4 := (hbR.out.keep hbZV hsZ).keep hb4 (by omega)
 obtain ⟨u0, u1, u2, u3, u4⟩ := hbR4.c5
 obtain ⟨v0, v1, v2, v3, v4⟩ := hbR4.f5
 have hfin : Hid (KnlPost S F (rel F.toDesc rt) (F.m / S.m) pts.length T (altH F pts mul) w (.returned (.tuple #[.agg #[.int .i64 S.p, .int .i64 S.m, .slice A6 S.mod.length c6, .int .i64 pts.length, .slice Al6 k k], .int .i64 0])) (stAll w4 (s + 1 + 1) 0 [.int .i64 S.p, .int .i64 S.m, .slice A6 S.mod.length c6, .int .i64 pts.length, .slice Al6 k k])) := by
  rw [hnH.out]
  refine ⟨k, C, A6, c6, Al6, rfl, hvc, hsp, hdim, by rw [stAll_size]; exact hr6.farS (fun a ha => by have := hA6 a ha; omega) _ 0, fun q hq => by have := hA6 q hq; omega, by rw [stAll_size]; exact (hru6.keepU fun p hp1 _ => stAll_cell (by omega) _ 0 w4).low (by omega), stAll_below (by omega) _ _ _ (hBV.trans (hb4.mono (by omega)))⟩
 clear hr6 hru6 hvc hsp hdim hbR4
 go_wp2_with (fail)
 exact bodyPost_ret (v := .tuple #[.agg #[.int .i64 S.p, .int .i64 S.m, .slice A6 S.mod.length c6, .int .i64 pts.length, .slice Al6 k k], .int .i64 0]) (by simp [results, Tryz.results67, go_sem, u0, u1, u2, u3, u4]) rfl (by unfold ACPost; rw [← hT.out]; exact ⟨F, rt, rfl, hrtH.out, hfin.out⟩)
end Go.Proofs.YtakonlfojblcmaaGreat
