/- Layer 18: the reference's Elements. Layer 19: Designed of a valid description; the law's elements; the images of a word. AlternantDistance: the law's walk. -/
import Derived.IntWalk
import Derived.Test.YtakonlfojblcmaaGreatZbHasC
import Derived.Test.YtakonlfojblcmaaGreatZbGpoA
import Derived.Test.YtakonlfojblcmaaGreatZbPoR
import Derived.Test.YtakonlfojblcmaaGreatZbKer
import Derived.Test.YtakonlfojblcmaaGreatZbGopR
import Derived.Test.YtakonlfojblcmaaGreatZbMatZ
import Derived.Test.YtakonlfojblcmaaGreatZbAltO
import Derived.Test.YtakonlfojblcmaaGreatZbV02
namespace Go.Proofs.YtakonlfojblcmaaGreat
open Go.RowKit Cw

set_option maxHeartbeats 1000000 in
theorem Elems18_any (D : Desc) (msg : List Int) (K e0 : Int) (A A3 : Option Addr) (c c3 : Nat) (w : World) (hr3 : Rd w w.heap.size A3 msg) (h3 : msg.length ≤ maxLen) :
  Calls Tryz.prog 101 #[.agg #[.int .i64 D.p, .int .i64 D.m, .slice A D.mod.length c], .slice A3 msg.length c3, .int .i64 K, .int .i64 e0] w fun e w' => e = .returned (.int .i64 (elErr D msg K e0)) ∧ Below w.heap.size w w' := by
 have hm3 := h3
 unfold maxLen at hm3
 have hI := fun x W => Is_any D x A D.mod.length c W
 have hbx0 := Bx.new w D A D.mod.length c 24
 have hB0 : Below w.heap.size w (w.alloc (.cells #[.int .i64 D.p, .int .i64 D.m, .slice A D.mod.length c] 24)) := (Below.refl _ _).alloc (Nat.le_refl _) _
 by_cases hK : (msg.length : Int) = K
 rotate_left
 ·have hv : Hid (elErr D msg K e0 = e0) := if_pos hK
  have hKb : ((msg.length : Int) != K) = true := by rw [bne_iff_ne]; exact hK
  clear hK
  go_enter Tryz.func101, Tryz.ntmps101
  go_wp2_with (fail)
  go_ret
  exact ⟨by rw [hv.out]; rfl, hB0⟩
 have hv0 : Hid (elErr D msg K e0 = if elB D msg = false then 2 else 0) := if_neg (not_not_intro hK)
 subst hK
 go_enter Tryz.func101, Tryz.ntmps101
 go_wp2_with (fail)
 go_loopw [9] (fun i wr => ∃ k : Nat, k ≤ msg.length ∧ i = .int .i64 k ∧ Hid (∀ j, j < k → 0 ≤ msg[j]?.getD 0 ∧ msg[j]?.getD 0 < (D.q : Int)) ∧ Bx wr w.heap.size D A D.mod.length c ∧ Below w.heap.size w wr ∧ w.heap.size < wr.heap.size) (fun i _ => msg.length - (intOf i).toNat)
 case atStart => exact ⟨0, by omega, rfl, fun j hj => absurd hj (by omega), hbx0, hB0, by simp⟩
 case round =>
  clear hbx0 hB0
  obtain ⟨w2, rfl⟩ : ∃ w2 : World, w2 = wr := ⟨_, rfl⟩
  obtain ⟨k, hk, rfl, hall, hbx, hB2, hns2⟩ := hrel
  by_cases hlt : k < msg.length
  ·have hk0 : (0 : Int) ≤ (k : Int) := by omega
   have hk1 : (k : Int) < (msg.length : Int) := by omega
   obtain ⟨b, o, rfl, hb, hc⟩ := hr3.at_ hlt
   have hd := (hB2.cell (p := ⟨b, o + k, none⟩) hb).trans hc
   have hb' := Nat.lt_of_lt_of_le hb hB2.size
   have hI2 := fun W => hI (msg[k]?.getD 0) W
   by_cases hy : 0 ≤ msg[k]?.getD 0 ∧ msg[k]?.getD 0 < (D.q : Int)
   ·have hall2 : Hid (∀ j, j < k + 1 → 0 ≤ msg[j]?.getD 0 ∧ msg[j]?.getD 0 < (D.q : Int)) := fun j hj => by
     by_cases e : j = k
     ·subst e; exact hy
     ·exact hall.out j (by omega)
    rw [decide_eq_true hy] at hI2
    replace hI2 := fun W => Lib.hid (hI2 W)
    clear hy hc
    generalize msg[k]?.getD 0 = y at *
    have hcc := Lib.hid (show _ ∧ _ ∧ _ ∧ _ from ⟨hbx.cells.1, hbx.cells.2.1, hbx.cells.2.2, hd⟩)
    clear hd
    go_wp2_with (fail)
    go_region_held3 (fun w' => w'.cell? ⟨w.heap.size, 0, none⟩ = some (.int .i64 D.p) ∧ w'.cell? ⟨w.heap.size, 1, none⟩ = some (.int .i64 D.m) ∧ w'.cell? ⟨w.heap.size, 2, none⟩ = some (.slice A D.mod.length c) ∧ w'.cell? ⟨b, o + k, none⟩ = some (.int .i64 y)) (first | exact hcc.out | exact hcc1.out)
     (first
      | (go_at_call 51; (with_reducible refine (hI2 _).out.mono ?_); rintro e w3 ⟨rfl, hb3⟩; have hcc1 := Lib.hid (show _ ∧ _ ∧ _ ∧ _ from ⟨(keep3 hb3 hns2 ⟨hcc.out.1, hcc.out.2.1, hcc.out.2.2.1⟩).1, (keep3 hb3 hns2 ⟨hcc.out.1, hcc.out.2.1, hcc.out.2.2.1⟩).2.1, (keep3 hb3 hns2 ⟨hcc.out.1, hcc.out.2.1, hcc.out.2.2.1⟩).2.2, (hb3.cell (p := ⟨b, o + k, none⟩) hb').trans hcc.out.2.2.2⟩)))
    go_wp2_with (fail)
    go_roundw
    case rel => exact ⟨k + 1, by omega, by go_num, hall2, ⟨hcc1.out.1, hcc1.out.2.1, hcc1.out.2.2.1⟩, hB2.drew.trans (hb3.mono hB2.size), Nat.lt_of_lt_of_le hns2 hb3.size⟩
    case measure => simp [intOf]; omega
   ·have hv : Hid (elErr D msg msg.length e0 = 2) := hv0.out.trans (if_pos (elB_no hlt hy))
    rw [decide_eq_false hy] at hI2
    replace hI2 := fun W => Lib.hid (hI2 W)
    clear hy hc
    generalize msg[k]?.getD 0 = y at *
    have hcc := Lib.hid (show _ ∧ _ ∧ _ ∧ _ from ⟨hbx.cells.1, hbx.cells.2.1, hbx.cells.2.2, hd⟩)
    clear hd
    go_wp2_with (fail)
    go_region_held3 (fun w' => w'.cell? ⟨w.heap.size, 0, none⟩ = some (.int .i64 D.p) ∧ w'.cell? ⟨w.heap.size, 1, none⟩ = some (.int .i64 D.m) ∧ w'.cell? ⟨w.heap.size, 2, none⟩ = some (.slice A D.mod.length c) ∧ w'.cell? ⟨b, o + k, none⟩ = some (.int .i64 y)) (first | exact hcc.out | exact hcc1.out)
     (first
      | (go_at_call 51; (with_reducible refine (hI2 _).out.mono ?_); rintro e w3 ⟨rfl, hb3⟩; have hcc1 := Lib.hid (show _ ∧ _ ∧ _ ∧ _ from ⟨(keep3 hb3 hns2 ⟨hcc.out.1, hcc.out.2.1, hcc.out.2.2.1⟩).1, (keep3 hb3 hns2 ⟨hcc.out.1, hcc.out.2.1, hcc.out.2.2.1⟩).2.1, (keep3 hb3 hns2 ⟨hcc.out.1, hcc.out.2.1, hcc.out.2.2.1⟩).2.2, (hb3.cell (p := ⟨b, o + k, none⟩) hb').trans hcc.out.2.2.2⟩)))
    go_wp2_with (fail)
    go_ret
    exact ⟨by rw [hv.out]; rfl, hB2.drew.trans (hb3.mono hB2.size)⟩
  ·obtain rfl : k = msg.length := by omega
   have hv : Hid (elErr D msg msg.length e0 = 0) := hv0.out.trans (if_neg (by rw [elB_iff.2 hall.out]; simp))
   go_wp2_with (fail)
   go_ret
   exact ⟨by rw [hv.out]; rfl, hB2⟩
end Go.Proofs.YtakonlfojblcmaaGreat

namespace Go.Proofs.YtakonlfojblcmaaGreat
open Go.RowKit Cw
attribute [local go_sem] Oper.semAt_some

set_option maxRecDepth 100000 in
set_option maxHeartbeats 16000000 in
theorem aDes_ok (S : FD) (D : Desc) (kn : Nat) (pts mul : List Int) (A B A1 A2 : Option Addr) (c b c1 c2 : Nat) (w : World) (hr : Rd w w.heap.size A (modL S.toDesc)) (hrB : Rd w w.heap.size B (modL D)) (hS : Good S.p S.m (modL S.toDesc)) (hD : Good D.p D.m (modL D)) (hr1 : Rd w w.heap.size A1 pts) (hr2 : Rd w w.heap.size A2 mul) (hz : gchkD D kn pts mul = 0) (hf : fitB S.toDesc D = true) (hc1 : pts.length ≤ c1) (hc1' : c1 ≤ maxLen) :
  Calls Tryz.prog 69 #[.agg #[.int .i64 S.p, .int .i64 S.m, .slice A S.mod.length c], .agg #[.int .i64 D.p, .int .i64 D.m, .slice B D.mod.length b, .int .i64 (kn : Int), .slice A1 pts.length c1, .slice A2 mul.length c2]] w fun e w' => e = .returned (.tuple #[.int .i64 ((pts.length : Int) - (kn : Int) + 1), .int .i64 0]) ∧ Below w.heap.size w w' := by
 obtain ⟨hn1, hn64, hlen, -, -, -, -, -, hkn⟩ := gchkD_zero hz
 have hOp := fun W x1 x2 x3 x4 => Lib.hid (aOpen_ok S D kn pts mul A B A1 A2 c b c1 c2 W x1 x2 hS hD x3 x4 hz hf hc1 hc1')
 obtain ⟨s, hs⟩ : ∃ s, s = w.heap.size := ⟨_, rfl⟩
 obtain ⟨Z, hZ⟩ : ∃ Z, Z = (w.alloc (.cells #[.int .i64 S.p, .int .i64 S.m, .slice A S.mod.length c] 24)).alloc (.cells #[.int .i64 D.p, .int .i64 D.m, .slice B D.mod.length b, .int .i64 (kn : Int), .slice A1 pts.length c1, .slice A2 mul.length c2] 61) := ⟨_, rfl⟩
 have hB : Below w.heap.size w Z := by rw [hZ]; exact ((Below.refl _ _).alloc (Nat.le_refl _) _).alloc (by simp) _
 have hbA : Hid (Bxs Z s [.int .i64 S.p, .int .i64 S.m, .slice A S.mod.length c]) := by rw [hZ, hs]; exact (Bxs.new w _ _).keep ((Below.refl _ _).alloc (Nat.le_refl _) _) (by simp)
 have hbG : Hid (Bxs Z (s + 1) [.int .i64 D.p, .int .i64 D.m, .slice B D.mod.length b, .int .i64 (kn : Int), .slice A1 pts.length c1, .slice A2 mul.length c2]) := by rw [hZ, hs]; have := Bxs.new (w.alloc (.cells #[.int .i64 S.p, .int .i64 S.m, .slice A S.mod.length c] 24)) [.int .i64 D.p, .int .i64 D.m, .slice B D.mod.length b, .int .i64 (kn : Int), .slice A1 pts.length c1, .slice A2 mul.length c2] 61; rw [World.size_alloc] at this; exact this
 have hZs : s + 1 < Z.heap.size := by rw [hZ, hs]; simp
 have hq := hOp Z ((hr.below hB).more hB.size) ((hrB.below hB).more hB.size) ((hr1.below hB).more hB.size) ((hr2.below hB).more hB.size)
 unfold AOpPost at hq
 have w1a : IntKind.i64.wrap ((pts.length : Int) - (kn : Int)) = (pts.length : Int) - (kn : Int) := by rw [IntWalk.i64_in _ (by omega)]
 have w1b : IntKind.i64.wrap ((pts.length : Int) - (kn : Int) + 1) = (pts.length : Int) - (kn : Int) + 1 := by rw [IntWalk.i64_in _ (by omega)]
 replace hZ := Lib.hid hZ
 replace hlen := Lib.hid hlen
 clear hOp
 go_enter Tryz.func69, Tryz.ntmps69
 obtain ⟨a0, a1, a2⟩ := hbA.out.c3
 obtain ⟨d0, d1, d2, d3, d4, d5⟩ := hbG.out.c6
 go_wp2_with (fail)
 rw [← hZ.out]
 simp only [← hs]
 replace hs := Lib.hid hs
 go_wp2_with (fail)
 (with_reducible refine hq.out.mono ?_)
 rintro e w1 ⟨F, rt, k0, n, g, gb, Ab, cb, rfl, -, -, -, rfl, -, hb1⟩
 clear hq a0 a1 a2 d0 d1 d2 d3 d4 d5
 obtain ⟨Y, hY⟩ : ∃ Y, Y = w1.alloc (.cells #[.int .i64 S.p, .int .i64 S.m, .slice A S.mod.length c, .pointer (some ⟨g, 0, none⟩), .slice (some ⟨gb, 0, none⟩) F.q F.q, .slice Ab n cb, .int .i64 S.m] 135) := ⟨_, rfl⟩
 have hbY : Below w1.heap.size w1 Y := by rw [hY]; exact (Below.refl _ _).alloc (Nat.le_refl _) _
 have hbZY := hb1.trans (hbY.mono hb1.size)
 obtain ⟨d0, d1, d2, d3, d4, d5⟩ := (hbG.out.keep hbZY hZs).c6
 rw [hY] at d3 d4
 replace hY := Lib.hid hY
 have hfin := Lib.hid (hB.trans (hbZY.mono hB.size))
 go_wp2_with (fail)
 rw [← hY.out]
 go_ret2
 exact ⟨rfl, hfin.out⟩
set_option maxHeartbeats 1000000 in
theorem elems19_any (D : Desc) (l : List Int) (K : Int) (A A3 : Option Addr) (c c3 : Nat) (w : World) (hr3 : Rd w w.heap.size A3 l) (h3 : l.length ≤ maxLen) :
  Calls Tryz.prog 30 #[.agg #[.int .i64 D.p, .int .i64 D.m, .slice A D.mod.length c], .slice A3 l.length c3, .int .i64 K] w fun e w' => e = .returned (.bool (elErr D l K 4 == 0)) ∧ Below w.heap.size w w' := by
 obtain ⟨Z, hZ⟩ : ∃ Z, Z = w.alloc (.cells #[.int .i64 D.p, .int .i64 D.m, .slice A D.mod.length c] 24) := ⟨_, rfl⟩
 have hB : Below w.heap.size w Z := by rw [hZ]; exact (Below.refl _ _).alloc (Nat.le_refl _) _
 obtain ⟨q0, q1, q2⟩ := alloc3 w (.int .i64 D.p) (.int .i64 D.m) (.slice A D.mod.length c) 24
 have hq := Lib.hid (Elems18_any D l K 4 A A3 c c3 Z ((hr3.below hB).more hB.size) h3)
 replace hZ := Lib.hid hZ
 generalize elErr D l K 4 = E at *
 go_enter Tryz.func30, Tryz.ntmps30
 go_wp2_with (fail)
 rw [← hZ.out]
 (with_reducible refine hq.out.mono ?_)
 rintro e w1 ⟨rfl, hb⟩
 go_wp2_with (fail)
 go_ret
 exact ⟨rfl, hB.trans (hb.mono hB.size)⟩
theorem elErr4_zero {D : Desc} {l : List Int} {K : Int} (h : elErr D l K 4 = 0) : (l.length : Int) = K ∧ elB D l = true := by
 unfold elErr at h
 by_cases h1 : (l.length : Int) ≠ K
 ·rw [if_pos h1] at h; cases h
 ·rw [if_neg h1] at h
  refine ⟨Classical.not_not.1 h1, ?_⟩
  cases hb : elB D l with
  | true => rfl
  | false => rw [hb, if_pos rfl] at h; cases h
end Go.Proofs.YtakonlfojblcmaaGreat

namespace Go.Proofs.YtakonlfojblcmaaGreat
open Go.RowKit Cw
attribute [local go_sem] Oper.semAt_some

set_option maxRecDepth 100000 in
set_option maxHeartbeats 8000000 in
theorem altDistL (P M : Int) (ml : List Int) (A : Option Addr) (c : Nat) (Q N K : Int) (nl pts mul : List Int) (B A1 A2 : Option Addr) (b c1 c2 : Nat) (wl : List Int) (Aw : Option Addr) (cw : Nat) (w : World) (hP : I64 P) (hM : I64 M) (hl : ml.length ≤ maxLen) (hr : Rd w w.heap.size A ml)
  (hQ : I64 Q) (hN : I64 N) (_hK : I64 K) (hn : nl.length ≤ maxLen) (hc1 : pts.length ≤ c1 ∧ c1 ≤ maxLen) (hc2 : mul.length ≤ c2 ∧ c2 ≤ maxLen) (_hi : ∀ x ∈ pts, I64 x) (_hj : ∀ x ∈ mul, I64 x) (hrB : Rd w w.heap.size B nl) (hr1 : Rd w w.heap.size A1 pts) (hr2 : Rd w w.heap.size A2 mul)
  (hcw : wl.length ≤ cw) (hcm : cw ≤ maxLen) (hrw : Rd w w.heap.size Aw wl) :
  Calls Tryz.prog 15 #[.agg #[.int .i64 P, .int .i64 M, .slice A ml.length c], .agg #[.int .i64 Q, .int .i64 N, .slice B nl.length b, .int .i64 K, .slice A1 pts.length c1, .slice A2 mul.length c2], .slice Aw wl.length cw] w fun e w' => e = .returned (.bool true) ∧ Below w.heap.size w w' := by
 have hpl : pts.length ≤ maxLen := Nat.le_trans hc1.1 hc1.2
 have hml : mul.length ≤ maxLen := Nat.le_trans hc2.1 hc2.2
 have hwm : wl.length ≤ maxLen := Nat.le_trans hcw hcm
 obtain ⟨s, hs⟩ : ∃ s, s = w.heap.size := ⟨_, rfl⟩
 obtain ⟨Z, hZ⟩ : ∃ Z, Z = (w.alloc (.cells #[.int .i64 P, .int .i64 M, .slice A ml.length c] 24)).alloc (.cells #[.int .i64 Q, .int .i64 N, .slice B nl.length b, .int .i64 K, .slice A1 pts.length c1, .slice A2 mul.length c2] 61) := ⟨_, rfl⟩
 have hB : Below w.heap.size w Z := by rw [hZ]; exact ((Below.refl _ _).alloc (Nat.le_refl _) _).alloc (by simp) _
 have hbA : Hid (Bxs Z s [.int .i64 P, .int .i64 M, .slice A ml.length c]) := by rw [hZ, hs]; exact (Bxs.new w _ _).keep ((Below.refl _ _).alloc (Nat.le_refl _) _) (by simp)
 have hbG : Hid (Bxs Z (s + 1) [.int .i64 Q, .int .i64 N, .slice B nl.length b, .int .i64 K, .slice A1 pts.length c1, .slice A2 mul.length c2]) := by rw [hZ, hs]; have := Bxs.new (w.alloc (.cells #[.int .i64 P, .int .i64 M, .slice A ml.length c] 24)) [.int .i64 Q, .int .i64 N, .slice B nl.length b, .int .i64 K, .slice A1 pts.length c1, .slice A2 mul.length c2] 61; rw [World.size_alloc] at this; exact this
 have hZs : s + 1 < Z.heap.size := by rw [hZ, hs]; simp
 have hq := Lib.hid (alive19_any Z)
 have hfe := fun W => Lib.hid (few19_any A1 pts.length c1 W)
 replace hZ := Lib.hid hZ
 go_enter Tryz.func15, Tryz.ntmps15
 go_wp2_with (fail)
 rw [← hZ.out]
 simp only [← hs]
 have hsw : w.heap.size ≤ s := Nat.le_of_eq hs.symm
 replace hs := Lib.hid hs
 (with_reducible refine hq.out.mono ?_)
 rintro e w1 ⟨rfl, hb1⟩
 clear hq
 have hB1 := hB.trans (hb1.mono hB.size)
 have hs1 : s + 1 < w1.heap.size := Nat.lt_of_lt_of_le hZs hb1.size
 obtain ⟨E, hC, hE⟩ := Chk19_any P M Q N K ml nl pts mul A B A1 A2 c b c1 c2 w1 hP hM hQ hN hl hn hml ((hr.below hB1).more hB1.size) ((hrB.below hB1).more hB1.size) ((hr1.below hB1).more hB1.size) ((hr2.below hB1).more hB1.size)
 replace hC := Lib.hid hC
 replace hE := Lib.hid hE
 have hq1 := hfe w1
 clear hfe
 obtain ⟨a0, a1, a2⟩ := (hbA.out.keep hb1 (by omega)).c3
 obtain ⟨d0, d1, d2, d3, d4, d5⟩ := (hbG.out.keep hb1 hZs).c6
 by_cases h20 : (pts.length : Int) ≤ 20
 rotate_left
 ·rw [decide_eq_false h20] at hq1
  replace h20 := Lib.hid h20
  replace hq1 := Lib.hid hq1.out
  go_wp2_with (fail)
  (with_reducible refine hq1.out.mono ?_)
  rintro e w2 ⟨rfl, rfl⟩
  go_wp2_with (fail)
  go_ret
  exact ⟨rfl, hB1⟩
 rw [decide_eq_true h20] at hq1
 replace h20 := Lib.hid h20
 replace hq1 := Lib.hid hq1.out
 go_wp2_with (fail)
 (with_reducible refine hq1.out.mono ?_)
 rintro e w2 ⟨rfl, rfl⟩
 go_wp2_with (fail)
 (with_reducible refine hC.out.mono ?_)
 rintro e w2 ⟨rfl, hb2⟩
 clear hC hq1 a0 a1 a2 d0 d1 d2 d3 d4 d5
 have hbz2 := hb1.trans (hb2.mono hb1.size)
 have hB2 := hB.trans (hbz2.mono hB.size)
 by_cases h0 : E = 0
 rotate_left
 ·have h0b : (E != 0) = true := by rw [bne_iff_ne]; exact h0
  replace h0 := Lib.hid h0
  go_wp2_with (fail)
  go_ret
  exact ⟨rfl, hB2⟩
 have h0b : (E != 0) = false := by rw [bne_eq_false_iff_eq]; exact h0
 obtain ⟨S', D', rfl, rfl, rfl, rfl, rfl, rfl, hgS, hgD, hz, hf⟩ := hE.out h0
 obtain ⟨S, rfl⟩ := good_FD hgS
 obtain ⟨hn1, hn64, hlen, -, -, -, -, hK0, hKn⟩ := gchkD_zero hz
 obtain ⟨kn, rfl⟩ : ∃ kn : Nat, K = (kn : Int) := ⟨K.toNat, by omega⟩
 have hkn : kn ≤ pts.length := by omega
 replace h0 := Lib.hid h0
 have hzH := Lib.hid hz
 replace hlen := Lib.hid hlen
 have hCoO := fun W (hb : Below Z.heap.size Z W) => aCode_ok S D' kn pts mul A B A1 A2 c b c1 c2 W ((hr.below (hB.trans (hb.mono hB.size))).more (hB.trans (hb.mono hB.size)).size) ((hrB.below (hB.trans (hb.mono hB.size))).more (hB.trans (hb.mono hB.size)).size) hgS hgD ((hr1.below (hB.trans (hb.mono hB.size))).more (hB.trans (hb.mono hB.size)).size) ((hr2.below (hB.trans (hb.mono hB.size))).more (hB.trans (hb.mono hB.size)).size) hz hf hc1.1 hc1.2
 rw [← modL_length S.toDesc, ← modL_length D'] at hCoO
 replace hCoO := fun W hb => Lib.hid (hCoO W hb)
 obtain ⟨w3, rfl⟩ : ∃ w3 : World, w3 = w2 := ⟨_, rfl⟩
 have hbz3 := hbz2
 have hWg := Lib.hid (Weight18_any wl Aw cw w3 ((hrw.below hB2).more hB2.size) hwm)
 by_cases hw0 : wgt wl = 0
 ·have hw0b : ((wgt wl : Int) == 0) = true := by rw [beq_iff_eq]; omega
  replace hw0 := Lib.hid hw0
  go_wp2_with (fail)
  (with_reducible refine hWg.out.mono ?_)
  rintro e w4 ⟨rfl, rfl⟩
  go_wp2_with (fail)
  go_ret
  exact ⟨rfl, hB2⟩
 have hw0b : ((wgt wl : Int) == 0) = false := by rw [beq_eq_false_iff_ne]; omega
 have hwg0 := Lib.hid hw0
 have hq := hCoO w3 hbz3
 replace hw0 := Lib.hid hw0
 obtain ⟨a0, a1, a2⟩ := (hbA.out.keep hbz3 (by omega)).c3
 obtain ⟨d0, d1, d2, d3, d4, d5⟩ := (hbG.out.keep hbz3 hZs).c6
 go_wp2_with (fail)
 (with_reducible refine hWg.out.mono ?_)
 rintro e w4 ⟨rfl, rfl⟩
 go_wp2_with (fail)
 (with_reducible refine hq.out.mono ?_)
 rintro e w4 ⟨F, rt, rfl, hrt, k, C, A3, c3, Al, rfl, hvc, hsp, hdim, hr3, hA3, hru3, hb4⟩
 clear hq a0 a1 a2 d0 d1 d2 d3 d4 d5
 have hbz4 := hbz3.trans (hb4.mono hbz3.size)
 obtain ⟨Y, hY⟩ : ∃ Y, Y = w4.alloc (.cells #[.int .i64 S.p, .int .i64 S.m, .slice A3 S.mod.length c3, .int .i64 pts.length, .slice Al k k] 27) := ⟨_, rfl⟩
 have hbY : Below w4.heap.size w4 Y := by rw [hY]; exact (Below.refl _ _).alloc (Nat.le_refl _) _
 have hbzY := hbz4.trans (hbY.mono hbz4.size)
 have hBY := hB.trans (hbzY.mono hB.size)
 obtain ⟨pc, hpc⟩ : ∃ pc, pc = w4.heap.size := ⟨_, rfl⟩
 have hYs : pc < Y.heap.size := by rw [hY, hpc]; simp
 have hbC : Hid (Bxs Y pc [.int .i64 S.p, .int .i64 S.m, .slice A3 S.mod.length c3, .int .i64 pts.length, .slice Al k k]) := by rw [hY, hpc]; exact Bxs.new w4 _ _
 have hr3Y := (hr3.below hbY).more hbY.size
 have hruY := (hru3.rdm.below hbY).more hbY.size
 have hkN : k ≤ pts.length := hvc.le
 have hCh := fun W x1 x2 => Lib.hid (Check12_ok S hgS k pts.length C hvc.can A3 Al c3 k W x1 x2 (by omega) hn1 hn64)
 clear hr3 hru3
 have hq := aDes_ok S F.toDesc kn pts mul A B A1 A2 c b c1 c2 Y ((hr.below hBY).more hBY.size) ((hrB.below hBY).more hBY.size) hgS hgD ((hr1.below hBY).more hBY.size) ((hr2.below hBY).more hBY.size) hz hf hc1.1 hc1.2
 rw [← modL_length S.toDesc, ← modL_length F.toDesc] at hq
 replace hq := Lib.hid hq
 obtain ⟨a0, a1, a2⟩ := (hbA.out.keep hbzY (by omega)).c3
 obtain ⟨d0, d1, d2, d3, d4, d5⟩ := (hbG.out.keep hbzY hZs).c6
 rw [hY] at a0 a1 a2 d0 d1 d2 d3 d4 d5
 replace hY := Lib.hid hY
 go_wp2_with (fail)
 rw [← hY.out]
 simp only [← hpc]
 replace hpc := Lib.hid hpc
 (with_reducible refine hq.out.mono ?_)
 rintro e w5 ⟨rfl, hb5⟩
 clear hq a0 a1 a2 d0 d1 d2 d3 d4 d5
 have hbz5 := hbzY.trans (hb5.mono hbzY.size)
 have hq := hCh w5 ((hr3Y.below hb5).more hb5.size) ((hruY.below hb5).more hb5.size)
 obtain ⟨e0, e1, e2, e3, e4⟩ := (hbC.out.keep hb5 hYs).c5
 go_wp2_with (fail)
 (with_reducible refine hq.out.mono ?_)
 rintro e w6 ⟨rfl, hb6⟩
 clear hq e0 e1 e2 e3 e4
 have hbY6 := hb5.trans (hb6.mono hb5.size)
 have hbz6 := hbzY.trans (hbY6.mono hbzY.size)
 have hB6 := hB.trans (hbz6.mono hB.size)
 have hq := elems19_any S.toDesc wl k A Aw c cw w6 ((hrw.below hB6).more hB6.size) hwm
 rw [← modL_length S.toDesc] at hq
 obtain ⟨e0, e1, e2, e3, e4⟩ := (hbC.out.keep hbY6 hYs).c5
 obtain ⟨a0, a1, a2⟩ := (hbA.out.keep hbz6 (by omega)).c3
 by_cases he0 : elErr S.toDesc wl k 4 = 0
 rotate_left
 ·have heb : (elErr S.toDesc wl k 4 == 0) = false := by rw [beq_eq_false_iff_ne]; exact he0
  rw [heb] at hq
  replace heb := Lib.hid heb
  replace he0 := Lib.hid he0
  replace hq := Lib.hid hq
  go_wp2_with (fail)
  (with_reducible refine hq.out.mono ?_)
  rintro e w7 ⟨rfl, hb7⟩
  go_wp2_with (fail)
  go_ret
  exact ⟨rfl, hB6.trans (hb7.mono hB6.size)⟩
 have heb : (elErr S.toDesc wl k 4 == 0) = true := by rw [beq_iff_eq]; exact he0
 obtain ⟨hwk, hwe⟩ := elErr4_zero he0
 have hwk2 : wl.length = k := by omega
 have hwl : wl = rowL S.toDesc k fun j => eli S.toDesc (wl[j]?.getD 0) := by rw [← hwk2]; exact list_rowL hwe
 obtain ⟨gm, hgm⟩ : ∃ gm : Nat → R S.toDesc, gm = fun j => eli S.toDesc (wl[j]?.getD 0) := ⟨_, rfl⟩
 rw [← hgm] at hwl
 have hnz : ∃ i, i < k ∧ gm i ≠ 0 := by
  refine Classical.byContradiction fun hno => hwg0.out ?_
  refine (wgt_zero_iff wl).2 fun x hx => ?_
  rw [hwl] at hx
  obtain ⟨i, hi, rfl⟩ := List.mem_map.1 hx
  have h9 : gm i = 0 := Classical.byContradiction fun h9 => hno ⟨i, List.mem_range.1 hi, h9⟩
  rw [h9, ci_zero]
 have hu := enc_ne hvc.can hnz
 have hme : Meets S F (rel F.toDesc rt) pts.length (pts.length - kn) (altH F pts mul) (cmb k gm C) := (hsp _).1 ⟨gm, fun _ _ => rfl⟩
 have hwt : pts.length - kn + 1 ≤ wgt (rowL S.toDesc pts.length (cmb k gm C)) := alt_weight hzH.out (fitB_iff.1 hf).1 hrt.2.1 hu hme
 rw [heb, hwk2] at hq
 replace heb := Lib.hid heb
 replace he0 := Lib.hid he0
 replace hwk := Lib.hid hwk
 have hwk3 := Lib.hid hwk2
 replace hq := Lib.hid hq
 have hEn := fun W x1 x2 x3 => Lib.hid (Encode12_ok S hgS k pts.length C hvc.can A3 Al c3 k gm Aw cw W x1 x2 (by omega) hn1 hn64 x3)
 rw [hwk2]
 clear hwk2 hnz hu hme
 replace hgm := Lib.hid hgm
 go_wp2_with (fail)
 (with_reducible refine hq.out.mono ?_)
 rintro e w7 ⟨rfl, hb7⟩
 clear hq a0 a1 a2 e0 e1 e2 e3 e4
 have hbY7 := hbY6.trans (hb7.mono hbY6.size)
 have hbz7 := hbzY.trans (hbY7.mono hbzY.size)
 have hB7 := hB.trans (hbz7.mono hB.size)
 have hq := hEn w7 ((hr3Y.below hbY7).more hbY7.size) ((hruY.below hbY7).more hbY7.size) (by rw [← hwl]; exact (hrw.below hB7).more hB7.size)
 obtain ⟨e0, e1, e2, e3, e4⟩ := (hbC.out.keep hbY7 hYs).c5
 replace hwl := Lib.hid hwl
 go_wp2_with (fail)
 (with_reducible refine hq.out.mono ?_)
 rintro e w8 ⟨A9, c9, rfl, hr9, -, hb8⟩
 clear hq e0 e1 e2 e3 e4
 have hbY8 := hbY7.trans (hb8.mono hbY7.size)
 have hbz8 := hbzY.trans (hbY8.mono hbzY.size)
 have hB8 := hB.trans (hbz8.mono hB.size)
 have hq := Weight18_any (rowL S.toDesc pts.length (cmb k gm C)) A9 c9 w8 hr9 (by rw [rowL_length]; exact hpl)
 rw [rowL_length] at hq
 replace hq := Lib.hid hq
 obtain ⟨wt, hwtE⟩ : ∃ wt, wt = wgt (rowL S.toDesc pts.length (cmb k gm C)) := ⟨_, rfl⟩
 rw [← hwtE] at hq hwt
 have t1 : decide ((pts.length : Int) - (kn : Int) + 1 ≤ (wt : Int)) = true := decide_eq_true (by omega)
 have w1a : IntKind.i64.wrap ((pts.length : Int) - (kn : Int)) = (pts.length : Int) - (kn : Int) := by rw [IntWalk.i64_in _ (by omega)]
 have w1b : IntKind.i64.wrap ((pts.length : Int) - (kn : Int) + 1) = (pts.length : Int) - (kn : Int) + 1 := by rw [IntWalk.i64_in _ (by omega)]
 replace hwtE := Lib.hid hwtE
 obtain ⟨d0, d1, d2, d3, d4, d5⟩ := (hbG.out.keep hbz8 hZs).c6
 clear hsp hvc hwt
 go_wp2_with (fail)
 (with_reducible refine hq.out.mono ?_)
 rintro e w9 ⟨rfl, rfl⟩
 go_wp2_with (fail)
 go_ret
 exact ⟨rfl, hB8⟩
end Go.Proofs.YtakonlfojblcmaaGreat
