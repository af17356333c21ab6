/- GrsDuals: the walk. -/
import Derived.Test.YtnbkmkeiophjoaaK04
import Derived.Test.YtnbkmkeiophjoaaGrsM
import Derived.Test.YtnbkmkeiophjoaaGrsU
namespace Go.Proofs.Ytnbkmkeiophjoaa
open Go.RowKit Cw

set_option maxHeartbeats 2000000 in
theorem dualsL_bad (P M K : Int) (ml pts mul : List Int) (A A1 A2 : Option Addr) (c c1 c2 : Nat) (w : World) (hP : I64 P) (hM : I64 M) (hl : ml.length ≤ maxLen) (hr : Rd w w.heap.size A ml) (hb : ¬ Good P M ml) (_hK : I64 K) (h1 : pts.length ≤ c1 ∧ c1 ≤ maxLen) (_h2 : mul.length ≤ c2 ∧ c2 ≤ maxLen) (_hi : ∀ x ∈ pts, I64 x) (_hj : ∀ x ∈ mul, I64 x) (_hr1 : Rd w w.heap.size A1 pts) (_hr2 : Rd w w.heap.size A2 mul) :
    Calls Try.prog 5 #[.agg #[.int .i64 P, .int .i64 M, .slice A ml.length c, .int .i64 K, .slice A1 pts.length c1, .slice A2 mul.length c2]] w (LawEnd w) := by
  have hA := fun W => Lib.hid (alive_any W)
  have hD := fun W h => Lib.hid (gDual_bad P M K ml pts mul A A1 A2 c c1 c2 W hP hM hl h hb)
  have hC := fun W h => Lib.hid (Chk18_bad P M K ml pts mul A A1 A2 c c1 c2 W hP hM hl h hb)
  have hZ := fun W => Lib.hid (Zero18_zero W)
  have hm1 := h1.1; have hm2 := h1.2
  unfold maxLen at hm2
  have k0 := Lib.hid (alloc6 w (.int .i64 P) (.int .i64 M) (.slice A ml.length c) (.int .i64 K) (.slice A1 pts.length c1) (.slice A2 mul.length c2) 27)
  have hB : Below w.heap.size w (w.alloc (.cells #[.int .i64 P, .int .i64 M, .slice A ml.length c, .int .i64 K, .slice A1 pts.length c1, .slice A2 mul.length c2] 27)) := (Below.refl _ _).alloc (Nat.le_refl _) _
  clear hP hM hl hb
  go_enter Try.func5, Try.ntmps5
  go_wp2_with (fail)
  refine (hA _).out.mono ?_
  rintro e w1 ⟨rfl, hb1⟩
  have kk1 := Lib.hid (keep6 hb1 (by simp) k0.out)
  have hB1 := hB.trans (hb1.mono hB.size)
  have hlt1 : w.heap.size < w1.heap.size := by have := hb1.size; simp only [World.size_alloc] at this; omega
  obtain ⟨q0, q1, q2, q3, q4, q5⟩ := kk1.out
  by_cases h24 : 24 < pts.length
  · go_wp2_with (fail)
    go_ret
    exact ⟨rfl, hB1⟩
  go_wp2_with (fail)
  (with_reducible refine (hD w1 ((hr.below hB1).more hB1.size)).out.mono ?_)
  rintro e w2 ⟨rfl, hb2⟩
  have hB2 := hB1.trans (hb2.mono hB1.size)
  have kk2 := Lib.hid (keep6 hb2 hlt1 kk1.out)
  have hlt2 : w.heap.size < w2.heap.size := Nat.lt_of_lt_of_le hlt1 hb2.size
  have hb3 : Below w2.heap.size w2 (w2.alloc (.cells #[.int .i64 0, .int .i64 0, .slice none 0 0, .int .i64 0, .slice none 0 0, .slice none 0 0] 27)) := (Below.refl _ _).alloc (Nat.le_refl _) _
  have k6 := Lib.hid (alloc6 w2 (.int .i64 0) (.int .i64 0) (.slice none 0 0) (.int .i64 0) (.slice none 0 0) (.slice none 0 0) 27)
  obtain ⟨X3, hX3⟩ : ∃ X3, X3 = w2.alloc (.cells #[.int .i64 0, .int .i64 0, .slice none 0 0, .int .i64 0, .slice none 0 0, .slice none 0 0] 27) := ⟨_, rfl⟩
  have hlt3 : w2.heap.size < X3.heap.size := by rw [hX3]; simp
  rw [← hX3] at hb3 k6
  replace hX3 := Lib.hid hX3
  have hB3 := hB2.trans (hb3.mono hB2.size)
  clear q0 q1 q2 q3 q4 q5
  obtain ⟨q0, q1, q2, q3, q4, q5⟩ := kk2.out
  go_wp2_with (fail)
  rw [← hX3.out]
  (with_reducible refine (hC X3 ((hr.below hB3).more hB3.size)).out.mono ?_)
  rintro e w4 ⟨rfl, hb4⟩
  have k64 := Lib.hid (keep6 hb4 hlt3 k6.out)
  have hB4 := hB3.trans (hb4.mono hB3.size)
  clear q0 q1 q2 q3 q4 q5
  obtain ⟨q0, q1, q2, q3, q4, q5⟩ := k64.out
  go_wp2_with (fail)
  (with_reducible refine (hZ w4).out.mono ?_)
  rintro e w5 ⟨rfl, hb5⟩
  go_wp2_with (fail)
  go_ret
  exact ⟨rfl, hB4.trans (hb5.mono hB4.size)⟩

set_option maxRecDepth 100000 in
set_option maxHeartbeats 4000000 in
theorem dualsL_good (D : Desc) (K : Int) (pts mul : List Int) (A A1 A2 : Option Addr) (c c1 c2 : Nat) (w : World) (hr : Rd w w.heap.size A (modL D)) (hb : Good D.p D.m (modL D)) (_hK : I64 K) (h1 : pts.length ≤ c1 ∧ c1 ≤ maxLen) (h2 : mul.length ≤ c2 ∧ c2 ≤ maxLen) (_hi : ∀ x ∈ pts, I64 x) (_hj : ∀ x ∈ mul, I64 x) (hr1 : Rd w w.heap.size A1 pts) (hr2 : Rd w w.heap.size A2 mul) :
    Calls Try.prog 5 #[.agg #[.int .i64 D.p, .int .i64 D.m, .slice A D.mod.length c, .int .i64 K, .slice A1 pts.length c1, .slice A2 mul.length c2]] w (LawEnd w) := by
  obtain ⟨u, hu⟩ := gen_of_good hb
  obtain ⟨F, rfl⟩ : ∃ F : FD, F.toDesc = D := ⟨mkFD D u hu, rfl⟩
  clear hu u
  have hml : (modL F.toDesc).length ≤ maxLen := by have := F.hlen; have := F.m8; rw [modL_length, F.hlen]; unfold maxLen; split <;> omega
  have hA := fun W => Lib.hid (alive_any W)
  have hD := fun W h a b => Lib.hid (gDual_D F.toDesc K pts mul A A1 A2 c c1 c2 W h hb a b h1.1 h1.2 (Nat.le_trans h2.1 h2.2))
  have hC := fun W h a b => Lib.hid (Chk18_D F.toDesc K pts mul A A1 A2 c c1 c2 W h hb a b (Nat.le_trans h2.1 h2.2))
  have hZ := fun W => Lib.hid (Zero18_zero W)
  have hm1 := h1.1; have hm2 := h1.2
  unfold maxLen at hm2
  have k0 := Lib.hid (alloc6 w (.int .i64 F.p) (.int .i64 F.m) (.slice A F.mod.length c) (.int .i64 K) (.slice A1 pts.length c1) (.slice A2 mul.length c2) 27)
  have hB : Below w.heap.size w (w.alloc (.cells #[.int .i64 F.p, .int .i64 F.m, .slice A F.mod.length c, .int .i64 K, .slice A1 pts.length c1, .slice A2 mul.length c2] 27)) := (Below.refl _ _).alloc (Nat.le_refl _) _
  have hb0 := Lib.hid hb
  replace hml := Lib.hid hml
  clear hb
  go_enter Try.func5, Try.ntmps5
  go_wp2_with (fail)
  refine (hA _).out.mono ?_
  rintro e w1 ⟨rfl, hb1⟩
  have kk1 := Lib.hid (keep6 hb1 (by simp) k0.out)
  have hB1 := hB.trans (hb1.mono hB.size)
  have hlt1 : w.heap.size < w1.heap.size := by have := hb1.size; simp only [World.size_alloc] at this; omega
  obtain ⟨q0, q1, q2, q3, q4, q5⟩ := kk1.out
  by_cases h24 : 24 < pts.length
  · go_wp2_with (fail)
    go_ret
    exact ⟨rfl, hB1⟩
  go_wp2_with (fail)
  (with_reducible refine (hD w1 ((hr.below hB1).more hB1.size) ((hr1.below hB1).more hB1.size) ((hr2.below hB1).more hB1.size)).out.mono ?_)
  rintro e w2 ⟨hb2, ⟨hne, rfl⟩ | ⟨hz, F', hF', A3, c3, A4, c4, A5, c5, rfl, hr3, hr4, hr5, hc4, hc4'⟩⟩
  · have hB2 := hB1.trans (hb2.mono hB1.size)
    have kk2 := Lib.hid (keep6 hb2 hlt1 kk1.out)
    have hlt2 : w.heap.size < w2.heap.size := Nat.lt_of_lt_of_le hlt1 hb2.size
    have hb3 : Below w2.heap.size w2 (w2.alloc (.cells #[.int .i64 0, .int .i64 0, .slice none 0 0, .int .i64 0, .slice none 0 0, .slice none 0 0] 27)) := (Below.refl _ _).alloc (Nat.le_refl _) _
    have k6 := Lib.hid (alloc6 w2 (.int .i64 0) (.int .i64 0) (.slice none 0 0) (.int .i64 0) (.slice none 0 0) (.slice none 0 0) 27)
    obtain ⟨X3, hX3⟩ : ∃ X3, X3 = w2.alloc (.cells #[.int .i64 0, .int .i64 0, .slice none 0 0, .int .i64 0, .slice none 0 0, .slice none 0 0] 27) := ⟨_, rfl⟩
    have hlt3 : w2.heap.size < X3.heap.size := by rw [hX3]; simp
    rw [← hX3] at hb3 k6
    replace hX3 := Lib.hid hX3
    have hB3 := hB2.trans (hb3.mono hB2.size)
    have hneb : (gchkD F.toDesc K pts mul != 0) = true := by rw [bne_iff_ne]; exact hne
    clear q0 q1 q2 q3 q4 q5 hne
    obtain ⟨q0, q1, q2, q3, q4, q5⟩ := kk2.out
    go_wp2_with (fail)
    rw [← hX3.out]
    (with_reducible refine (hC X3 ((hr.below hB3).more hB3.size) ((hr1.below hB3).more hB3.size) ((hr2.below hB3).more hB3.size)).out.mono ?_)
    rintro e w4 ⟨rfl, hb4⟩
    have k64 := Lib.hid (keep6 hb4 hlt3 k6.out)
    have hB4 := hB3.trans (hb4.mono hB3.size)
    clear q0 q1 q2 q3 q4 q5
    obtain ⟨q0, q1, q2, q3, q4, q5⟩ := k64.out
    go_wp2_with (fail)
    (with_reducible refine (hZ w4).out.mono ?_)
    rintro e w5 ⟨rfl, hb5⟩
    go_wp2_with (fail)
    go_ret
    exact ⟨by simp, hB4.trans (hb5.mono hB4.size)⟩
  rw [dualL_eq hF'] at hr5
  clear hF'
  rw [hz] at hC
  obtain ⟨hp1, hp64, hlen, -, -, -, -, hK0, hKn⟩ := gchkD_zero hz
  have hdd := dual_dual hz
  have hdc := dual_chk hz
  have hdl := dualL_length F pts mul
  have hKK : (pts.length : Int) - ((pts.length : Int) - K) = K := by omega
  have hB2 := hB1.trans (hb2.mono hB1.size)
  have kk2 := Lib.hid (keep6 hb2 hlt1 kk1.out)
  have hlt2 : w.heap.size < w2.heap.size := Nat.lt_of_lt_of_le hlt1 hb2.size
  obtain ⟨X3, hX3⟩ : ∃ X3, X3 = w2.alloc (.cells #[.int .i64 F.p, .int .i64 F.m, .slice A3 F.mod.length c3, .int .i64 ((pts.length : Int) - K), .slice A4 pts.length c4, .slice A5 pts.length c5] 27) := ⟨_, rfl⟩
  have hb3 : Below w2.heap.size w2 X3 := by rw [hX3]; exact (Below.refl _ _).alloc (Nat.le_refl _) _
  have k6 := alloc6 w2 (.int .i64 F.p) (.int .i64 F.m) (.slice A3 F.mod.length c3) (.int .i64 ((pts.length : Int) - K)) (.slice A4 pts.length c4) (.slice A5 pts.length c5) 27
  have hlt3 : w2.heap.size < X3.heap.size := by rw [hX3]; simp
  rw [← hX3] at k6
  replace hX3 := Lib.hid hX3
  replace k6 := Lib.hid k6
  have hB3 := hB2.trans (hb3.mono hB2.size)
  have hD2 := fun W h a b => gDual_D F.toDesc ((pts.length : Int) - K) pts (dualL F pts mul) A3 A4 A5 c3 c4 c5 W h hb0.out a b hc4 hc4' (by rw [hdl]; unfold maxLen; omega)
  unfold DualPost at hD2
  rw [hdl, hKK, hdc] at hD2
  replace hD2 := fun W h a b => Lib.hid (hD2 W h a b)
  have hRD := fun W h a b => Lib.hid (Dual18_any F K pts mul A A1 A2 c c1 c2 W h a b hlen hp64 hK0 hKn)
  have hlm : mul.length ≤ maxLen := by unfold maxLen; omega
  have hlp : pts.length ≤ maxLen := by unfold maxLen; omega
  have hS1 := fun B1 B2 B3 e1 e2 e3 W a b d e f g => (Same18_eq F.p F.m ((pts.length : Int) - K) (modL F.toDesc) pts (dualL F pts mul) A3 A4 A5 c3 c4 c5 B1 B2 B3 e1 e2 e3 W a b d e f g hml.out hlp (by rw [hdl]; exact hlp))
  rw [modL_length, hdl] at hS1
  replace hS1 := fun B1 B2 B3 e1 e2 e3 W a b d e f g => Lib.hid (hS1 B1 B2 B3 e1 e2 e3 W a b d e f g)
  have hS2 := fun B1 B2 B3 e1 e2 e3 W a b d e f g => (Same18_eq F.p F.m K (modL F.toDesc) pts mul B1 B2 B3 e1 e2 e3 A A1 A2 c c1 c2 W a b d e f g hml.out hlp hlm)
  rw [modL_length, hlen] at hS2
  replace hS2 := fun B1 B2 B3 e1 e2 e3 W a b d e f g => Lib.hid (hS2 B1 B2 B3 e1 e2 e3 W a b d e f g)
  replace hlen := Lib.hid hlen
  replace hdd := Lib.hid hdd
  replace hdl := Lib.hid hdl
  clear q0 q1 q2 q3 q4 q5 hz hdc hKK hD hlm hlp
  obtain ⟨q0, q1, q2, q3, q4, q5⟩ := kk2.out
  go_wp2_with (fail)
  rw [← hX3.out]
  (with_reducible refine (hC X3 ((hr.below hB3).more hB3.size) ((hr1.below hB3).more hB3.size) ((hr2.below hB3).more hB3.size)).out.mono ?_)
  rintro e w4 ⟨rfl, hb4⟩
  have k64 := Lib.hid (keep6 hb4 hlt3 k6.out)
  have hb24 := hb3.trans (hb4.mono hb3.size)
  have hB4 := hB3.trans (hb4.mono hB3.size)
  have kk4 := Lib.hid (keep6 hb24 hlt2 kk2.out)
  have hlt4 : w.heap.size < w4.heap.size := Nat.lt_of_lt_of_le hlt2 hb24.size
  have hlt4' : w2.heap.size < w4.heap.size := Nat.lt_of_lt_of_le hlt3 hb4.size
  clear q0 q1 q2 q3 q4 q5
  obtain ⟨q0, q1, q2, q3, q4, q5⟩ := k64.out
  go_wp2_with (fail)
  (with_reducible refine (hD2 w4 ((hr3.below hb24).more hb24.size) ((hr4.below hb24).more hb24.size) ((hr5.below hb24).more hb24.size)).out.mono ?_)
  rintro e w5 ⟨hb5, ⟨hne, -⟩ | ⟨-, F', hF', A6, c6, A7, c7, A8, c8, rfl, hr6, hr7, hr8, -, -⟩⟩
  · exact absurd rfl hne
  rw [dualL_eq hF', hdd.out] at hr8
  clear hF'
  have k65 := Lib.hid (keep6 hb5 hlt4' k64.out)
  have kk5 := Lib.hid (keep6 hb5 hlt4 kk4.out)
  have hb25 := hb24.trans (hb5.mono hb24.size)
  have hB5 := hB4.trans (hb5.mono hB4.size)
  have hlt5 : w.heap.size < w5.heap.size := Nat.lt_of_lt_of_le hlt4 hb5.size
  have hlt5' : w2.heap.size < w5.heap.size := Nat.lt_of_lt_of_le hlt4' hb5.size
  obtain ⟨X6, hX6⟩ : ∃ X6, X6 = w5.alloc (.cells #[.int .i64 F.p, .int .i64 F.m, .slice A6 F.mod.length c6, .int .i64 K, .slice A7 pts.length c7, .slice A8 pts.length c8] 27) := ⟨_, rfl⟩
  have hb6 : Below w5.heap.size w5 X6 := by rw [hX6]; exact (Below.refl _ _).alloc (Nat.le_refl _) _
  have j6 := alloc6 w5 (.int .i64 F.p) (.int .i64 F.m) (.slice A6 F.mod.length c6) (.int .i64 K) (.slice A7 pts.length c7) (.slice A8 pts.length c8) 27
  have hlt6'' : w5.heap.size < X6.heap.size := by rw [hX6]; simp
  rw [← hX6] at j6
  have hX6c := hX6
  replace hX6 := Lib.hid hX6
  have hs6 := hb6.size
  have hlt6 : w.heap.size < X6.heap.size := by omega
  have hlt6' : w2.heap.size < X6.heap.size := by omega
  have hall : Hid (((X6.cell? ⟨w.heap.size, 0, none⟩ = some (.int .i64 F.p) ∧ X6.cell? ⟨w.heap.size, 1, none⟩ = some (.int .i64 F.m) ∧ X6.cell? ⟨w.heap.size, 2, none⟩ = some (.slice A F.mod.length c) ∧ X6.cell? ⟨w.heap.size, 3, none⟩ = some (.int .i64 K) ∧ X6.cell? ⟨w.heap.size, 4, none⟩ = some (.slice A1 pts.length c1) ∧ X6.cell? ⟨w.heap.size, 5, none⟩ = some (.slice A2 pts.length c2)) ∧ (X6.cell? ⟨w2.heap.size, 0, none⟩ = some (.int .i64 F.p) ∧ X6.cell? ⟨w2.heap.size, 1, none⟩ = some (.int .i64 F.m) ∧ X6.cell? ⟨w2.heap.size, 2, none⟩ = some (.slice A3 F.mod.length c3) ∧ X6.cell? ⟨w2.heap.size, 3, none⟩ = some (.int .i64 ((pts.length : Int) - K)) ∧ X6.cell? ⟨w2.heap.size, 4, none⟩ = some (.slice A4 pts.length c4) ∧ X6.cell? ⟨w2.heap.size, 5, none⟩ = some (.slice A5 pts.length c5)) ∧ (X6.cell? ⟨w5.heap.size, 0, none⟩ = some (.int .i64 F.p) ∧ X6.cell? ⟨w5.heap.size, 1, none⟩ = some (.int .i64 F.m) ∧ X6.cell? ⟨w5.heap.size, 2, none⟩ = some (.slice A6 F.mod.length c6) ∧ X6.cell? ⟨w5.heap.size, 3, none⟩ = some (.int .i64 K) ∧ X6.cell? ⟨w5.heap.size, 4, none⟩ = some (.slice A7 pts.length c7) ∧ X6.cell? ⟨w5.heap.size, 5, none⟩ = some (.slice A8 pts.length c8)))) := ⟨by have h := keep6 hb6 hlt5 kk5.out; rw [hlen.out] at h; exact h, keep6 hb6 hlt5' k65.out, j6⟩
  have hb26 := hb25.trans (hb6.mono hb25.size)
  have hB6 := hB5.trans (hb6.mono hB5.size)
  have hRD6 := hRD X6.drew ((hr.below hB6).more hB6.size).drew ((hr1.below hB6).more hB6.size).drew ((hr2.below hB6).more hB6.size).drew
  clear q0 q1 q2 q3 q4 q5
  have hk3 : ∀ {W W' : World}, Below W.heap.size W W' → X6.heap.size ≤ W.heap.size → Hid (((W.cell? ⟨w.heap.size, 0, none⟩ = some (.int .i64 F.p) ∧ W.cell? ⟨w.heap.size, 1, none⟩ = some (.int .i64 F.m) ∧ W.cell? ⟨w.heap.size, 2, none⟩ = some (.slice A F.mod.length c) ∧ W.cell? ⟨w.heap.size, 3, none⟩ = some (.int .i64 K) ∧ W.cell? ⟨w.heap.size, 4, none⟩ = some (.slice A1 pts.length c1) ∧ W.cell? ⟨w.heap.size, 5, none⟩ = some (.slice A2 pts.length c2)) ∧ (W.cell? ⟨w2.heap.size, 0, none⟩ = some (.int .i64 F.p) ∧ W.cell? ⟨w2.heap.size, 1, none⟩ = some (.int .i64 F.m) ∧ W.cell? ⟨w2.heap.size, 2, none⟩ = some (.slice A3 F.mod.length c3) ∧ W.cell? ⟨w2.heap.size, 3, none⟩ = some (.int .i64 ((pts.length : Int) - K)) ∧ W.cell? ⟨w2.heap.size, 4, none⟩ = some (.slice A4 pts.length c4) ∧ W.cell? ⟨w2.heap.size, 5, none⟩ = some (.slice A5 pts.length c5)) ∧ (W.cell? ⟨w5.heap.size, 0, none⟩ = some (.int .i64 F.p) ∧ W.cell? ⟨w5.heap.size, 1, none⟩ = some (.int .i64 F.m) ∧ W.cell? ⟨w5.heap.size, 2, none⟩ = some (.slice A6 F.mod.length c6) ∧ W.cell? ⟨w5.heap.size, 3, none⟩ = some (.int .i64 K) ∧ W.cell? ⟨w5.heap.size, 4, none⟩ = some (.slice A7 pts.length c7) ∧ W.cell? ⟨w5.heap.size, 5, none⟩ = some (.slice A8 pts.length c8)))) → Hid (((W'.cell? ⟨w.heap.size, 0, none⟩ = some (.int .i64 F.p) ∧ W'.cell? ⟨w.heap.size, 1, none⟩ = some (.int .i64 F.m) ∧ W'.cell? ⟨w.heap.size, 2, none⟩ = some (.slice A F.mod.length c) ∧ W'.cell? ⟨w.heap.size, 3, none⟩ = some (.int .i64 K) ∧ W'.cell? ⟨w.heap.size, 4, none⟩ = some (.slice A1 pts.length c1) ∧ W'.cell? ⟨w.heap.size, 5, none⟩ = some (.slice A2 pts.length c2)) ∧ (W'.cell? ⟨w2.heap.size, 0, none⟩ = some (.int .i64 F.p) ∧ W'.cell? ⟨w2.heap.size, 1, none⟩ = some (.int .i64 F.m) ∧ W'.cell? ⟨w2.heap.size, 2, none⟩ = some (.slice A3 F.mod.length c3) ∧ W'.cell? ⟨w2.heap.size, 3, none⟩ = some (.int .i64 ((pts.length : Int) - K)) ∧ W'.cell? ⟨w2.heap.size, 4, none⟩ = some (.slice A4 pts.length c4) ∧ W'.cell? ⟨w2.heap.size, 5, none⟩ = some (.slice A5 pts.length c5)) ∧ (W'.cell? ⟨w5.heap.size, 0, none⟩ = some (.int .i64 F.p) ∧ W'.cell? ⟨w5.heap.size, 1, none⟩ = some (.int .i64 F.m) ∧ W'.cell? ⟨w5.heap.size, 2, none⟩ = some (.slice A6 F.mod.length c6) ∧ W'.cell? ⟨w5.heap.size, 3, none⟩ = some (.int .i64 K) ∧ W'.cell? ⟨w5.heap.size, 4, none⟩ = some (.slice A7 pts.length c7) ∧ W'.cell? ⟨w5.heap.size, 5, none⟩ = some (.slice A8 pts.length c8)))) := fun {W W'} hbb hss h =>
    ⟨keep6 hbb (Nat.lt_of_lt_of_le hlt6 hss) h.out.1, keep6 hbb (Nat.lt_of_lt_of_le hlt6' hss) h.out.2.1, keep6 hbb (Nat.lt_of_lt_of_le hlt6'' hss) h.out.2.2⟩
  replace hk3 := fun {W W' : World} a b c => Lib.hid (@hk3 W W' a b c)
  rw [hlen.out] at hRD6 ⊢
  go_wp2_with (fail)
  rw [← hX6c]
  clear hX6c
  refine wp_region_held_drew (S := fun w' => ((w'.cell? ⟨w.heap.size, 0, none⟩ = some (.int .i64 F.p) ∧ w'.cell? ⟨w.heap.size, 1, none⟩ = some (.int .i64 F.m) ∧ w'.cell? ⟨w.heap.size, 2, none⟩ = some (.slice A F.mod.length c) ∧ w'.cell? ⟨w.heap.size, 3, none⟩ = some (.int .i64 K) ∧ w'.cell? ⟨w.heap.size, 4, none⟩ = some (.slice A1 pts.length c1) ∧ w'.cell? ⟨w.heap.size, 5, none⟩ = some (.slice A2 pts.length c2)) ∧ (w'.cell? ⟨w2.heap.size, 0, none⟩ = some (.int .i64 F.p) ∧ w'.cell? ⟨w2.heap.size, 1, none⟩ = some (.int .i64 F.m) ∧ w'.cell? ⟨w2.heap.size, 2, none⟩ = some (.slice A3 F.mod.length c3) ∧ w'.cell? ⟨w2.heap.size, 3, none⟩ = some (.int .i64 ((pts.length : Int) - K)) ∧ w'.cell? ⟨w2.heap.size, 4, none⟩ = some (.slice A4 pts.length c4) ∧ w'.cell? ⟨w2.heap.size, 5, none⟩ = some (.slice A5 pts.length c5)) ∧ (w'.cell? ⟨w5.heap.size, 0, none⟩ = some (.int .i64 F.p) ∧ w'.cell? ⟨w5.heap.size, 1, none⟩ = some (.int .i64 F.m) ∧ w'.cell? ⟨w5.heap.size, 2, none⟩ = some (.slice A6 F.mod.length c6) ∧ w'.cell? ⟨w5.heap.size, 3, none⟩ = some (.int .i64 K) ∧ w'.cell? ⟨w5.heap.size, 4, none⟩ = some (.slice A7 pts.length c7) ∧ w'.cell? ⟨w5.heap.size, 5, none⟩ = some (.slice A8 pts.length c8)))) (by kernel_rfl) (by (try dsimp only); exact hall.out) (fun hHeld => ?_)
  refine wpAnyH_take (i := 0) (oi := ⟨_, _, _, _, _, _⟩) (v := ?_) rfl (by kernel_rfl) (by kernel_rfl) (by kernel_rfl) (fun _ _ _ h => h) (Or.inl ⟨by rfl, ?_⟩) (by assumption) ?_
  rotate_left
  · intro w hSw; (try dsimp only at hSw); go_simp; try with_reducible rfl
  try simp only [Act.put, List.setIfInBounds_toArray, List.set_cons_zero, List.set_cons_succ]
  refine wpAnyH_take (i := 1) (oi := ⟨_, _, _, _, _, _⟩) (v := ?_) rfl (by kernel_rfl) (by kernel_rfl) (by kernel_rfl) (fun _ _ _ h => h) (Or.inl ⟨by rfl, ?_⟩) (by assumption) ?_
  rotate_left
  · intro w hSw; (try dsimp only at hSw); go_simp; try with_reducible rfl
  try simp only [Act.put, List.setIfInBounds_toArray, List.set_cons_zero, List.set_cons_succ]
  refine wpAnyH_take (i := 2) (oi := ⟨_, _, _, _, _, _⟩) (v := ?_) rfl (by kernel_rfl) (by kernel_rfl) (by kernel_rfl) (fun _ _ _ h => h) (Or.inl ⟨by rfl, ?_⟩) (by assumption) ?_
  rotate_left
  · intro w hSw; (try dsimp only at hSw); go_simp; try with_reducible rfl
  try simp only [Act.put, List.setIfInBounds_toArray, List.set_cons_zero, List.set_cons_succ]
  refine wpAnyH_take (i := 3) (oi := ⟨_, _, _, _, _, _⟩) (v := ?_) rfl (by kernel_rfl) (by kernel_rfl) (by kernel_rfl) (fun _ _ _ h => h) (Or.inl ⟨by rfl, ?_⟩) (by assumption) ?_
  rotate_left
  · intro w hSw; (try dsimp only at hSw); go_simp; try with_reducible rfl
  try simp only [Act.put, List.setIfInBounds_toArray, List.set_cons_zero, List.set_cons_succ]
  refine wpAnyH_take (i := 4) (oi := ⟨_, _, _, _, _, _⟩) (v := ?_) rfl (by kernel_rfl) (by kernel_rfl) (by kernel_rfl) (fun _ _ _ h => h) (Or.inl ⟨by rfl, ?_⟩) (by assumption) ?_
  rotate_left
  · intro w hSw; (try dsimp only at hSw); go_simp; try with_reducible rfl
  try simp only [Act.put, List.setIfInBounds_toArray, List.set_cons_zero, List.set_cons_succ]
  refine wpAnyH_take (i := 5) (oi := ⟨_, _, _, _, _, _⟩) (v := ?_) rfl (by kernel_rfl) (by kernel_rfl) (by kernel_rfl) (fun _ _ _ h => h) (Or.inl ⟨by rfl, ?_⟩) (by assumption) ?_
  rotate_left
  · intro w hSw; (try dsimp only at hSw); go_simp; try with_reducible rfl
  try simp only [Act.put, List.setIfInBounds_toArray, List.set_cons_zero, List.set_cons_succ]
  refine wpAnyH_take (i := 6) (oi := ⟨_, _, _, _, _, _⟩) (v := ?_) rfl (by kernel_rfl) (by kernel_rfl) (by kernel_rfl) (fun _ _ _ h => h) (Or.inl ⟨by rfl, ?_⟩) (by assumption) ?_
  rotate_left
  · intro w hSw; (try dsimp only at hSw); go_simp; try with_reducible rfl
  try simp only [Act.put, List.setIfInBounds_toArray, List.set_cons_zero, List.set_cons_succ]
  refine wpAnyH_take (i := 7) (oi := ⟨_, _, _, _, _, _⟩) (v := ?_) rfl (by kernel_rfl) (by kernel_rfl) (by kernel_rfl) (fun _ _ _ h => h) (Or.inl ⟨by rfl, ?_⟩) (by assumption) ?_
  rotate_left
  · intro w hSw; (try dsimp only at hSw); go_simp; try with_reducible rfl
  try simp only [Act.put, List.setIfInBounds_toArray, List.set_cons_zero, List.set_cons_succ]
  refine wpAnyH_take (i := 8) (oi := ⟨_, _, _, _, _, _⟩) (v := ?_) rfl (by kernel_rfl) (by kernel_rfl) (by kernel_rfl) (fun _ _ _ h => h) (Or.inl ⟨by rfl, ?_⟩) (by assumption) ?_
  rotate_left
  · intro w hSw; (try dsimp only at hSw); go_simp; try with_reducible rfl
  try simp only [Act.put, List.setIfInBounds_toArray, List.set_cons_zero, List.set_cons_succ]
  refine wpAnyH_ready (rs := [9]) (by kernel_rfl) (by simp) ?_
  refine AllReadyH.cons (o := ⟨_, _, _, _, _, _⟩) rfl (fun K hK => ?_) AllReadyH.nil
  go_simp
  go_at_call 29
  (with_reducible refine (hRD6).out.mono ?_)
  rintro e w7 ⟨g, rfl, hrd, hb7⟩
  go_wp2_with (fail)
  refine hK.out _ _ (by (try dsimp only); exact (hk3 (W := X6.drew) hb7 (Nat.le_refl _) hall).out.out) (fun hHeld => ?_)
  clear hK K
  try simp only [Act.put, List.setIfInBounds_toArray, List.set_cons_zero, List.set_cons_succ]
  have hall7 := hk3 (W := X6.drew) hb7 (Nat.le_refl _) hall
  have hb27 := hb26.drew.trans (hb7.mono hb26.size)
  have hB7 := hB6.drew.trans (hb7.mono hB6.size)
  have hs7 : X6.heap.size ≤ w7.heap.size := hb7.size
  have hS1' := hS1 A A1 (some ⟨g, 0, none⟩) c c1 pts.length w7 ((hr3.below hb27).more hb27.size) ((hr4.below hb27).more hb27.size) ((hr5.below hb27).more hb27.size) ((hr.below hB7).more hB7.size) ((hr1.below hB7).more hB7.size) hrd
  refine wpAnyH_ready (rs := [10]) (by kernel_rfl) (by simp) ?_
  refine AllReadyH.cons (o := ⟨_, _, _, _, _, _⟩) rfl (fun K hK => ?_) AllReadyH.nil
  go_simp
  go_at_call 22
  (with_reducible refine (hS1').out.mono ?_)
  rintro e w8 ⟨rfl, hb8⟩
  go_wp2_with (fail)
  refine hK.out _ _ (by (try dsimp only); exact (hk3 hb8 hs7 hall7.out).out.out) (fun hHeld => ?_)
  clear hK K
  try simp only [Act.put, List.setIfInBounds_toArray, List.set_cons_zero, List.set_cons_succ]
  refine wpAnyH_take (i := 11) (oi := ⟨_, _, _, _, _, _⟩) (v := ?_) rfl (by kernel_rfl) (by kernel_rfl) (by kernel_rfl) (fun _ _ _ h => h) (Or.inl ⟨by rfl, ?_⟩) (by assumption) ?_
  rotate_left
  · intro w hSw; (try dsimp only at hSw); go_simp; try with_reducible rfl
  try simp only [Act.put, List.setIfInBounds_toArray, List.set_cons_zero, List.set_cons_succ]
  refine wpAnyH_take (i := 12) (oi := ⟨_, _, _, _, _, _⟩) (v := ?_) rfl (by kernel_rfl) (by kernel_rfl) (by kernel_rfl) (fun _ _ _ h => h) (Or.inl ⟨by rfl, ?_⟩) (by assumption) ?_
  rotate_left
  · intro w hSw; (try dsimp only at hSw); go_simp; try with_reducible rfl
  try simp only [Act.put, List.setIfInBounds_toArray, List.set_cons_zero, List.set_cons_succ]
  refine wpAnyH_take (i := 13) (oi := ⟨_, _, _, _, _, _⟩) (v := ?_) rfl (by kernel_rfl) (by kernel_rfl) (by kernel_rfl) (fun _ _ _ h => h) (Or.inl ⟨by rfl, ?_⟩) (by assumption) ?_
  rotate_left
  · intro w hSw; (try dsimp only at hSw); go_simp; try with_reducible rfl
  try simp only [Act.put, List.setIfInBounds_toArray, List.set_cons_zero, List.set_cons_succ]
  refine wpAnyH_take (i := 14) (oi := ⟨_, _, _, _, _, _⟩) (v := ?_) rfl (by kernel_rfl) (by kernel_rfl) (by kernel_rfl) (fun _ _ _ h => h) (Or.inl ⟨by rfl, ?_⟩) (by assumption) ?_
  rotate_left
  · intro w hSw; (try dsimp only at hSw); go_simp; try with_reducible rfl
  try simp only [Act.put, List.setIfInBounds_toArray, List.set_cons_zero, List.set_cons_succ]
  have hb68 := (hb7.trans (hb8.mono hb7.size))
  have hB8 := hB7.trans (hb8.mono hB7.size)
  have hb58 := hb6.drew.trans (hb68.mono hs6)
  have hS2' := hS2 A6 A7 A8 c6 c7 c8 w8 ((hr6.below hb58).more hb58.size) ((hr7.below hb58).more hb58.size) ((hr8.below hb58).more hb58.size) ((hr.below hB8).more hB8.size) ((hr1.below hB8).more hB8.size) ((hr2.below hB8).more hB8.size)
  refine wpAnyH_ready (rs := [15]) (by kernel_rfl) (by simp) ?_
  refine AllReadyH.cons (o := ⟨_, _, _, _, _, _⟩) rfl (fun K hK => ?_) AllReadyH.nil
  go_simp
  go_at_call 22
  (with_reducible refine (hS2').out.mono ?_)
  rintro e w9 ⟨rfl, hb9⟩
  go_wp2_with (fail)
  refine hK.out _ _ (by (try dsimp only); exact (hk3 hb9 (Nat.le_trans hs7 hb8.size) (hk3 hb8 hs7 hall7.out).out).out.out) (fun hHeld => ?_)
  clear hK K
  try simp only [Act.put, List.setIfInBounds_toArray, List.set_cons_zero, List.set_cons_succ]
  refine wpAnyH_take (i := 16) (oi := ⟨_, _, _, _, _, _⟩) (v := ?_) rfl (by kernel_rfl) (by kernel_rfl) (by kernel_rfl) (fun _ _ _ h => h) (Or.inl ⟨by rfl, ?_⟩) (by assumption) ?_
  rotate_left
  · intro w hSw; (try dsimp only at hSw); go_simp; try with_reducible rfl
  try simp only [Act.put, List.setIfInBounds_toArray, List.set_cons_zero, List.set_cons_succ]
  refine wpAnyH_take (i := 17) (oi := ⟨_, _, _, _, _, _⟩) (v := ?_) rfl (by kernel_rfl) (by kernel_rfl) (by kernel_rfl) (fun _ _ _ h => h) (Or.inl ⟨by rfl, ?_⟩) (by assumption) ?_
  rotate_left
  · intro w hSw; (try dsimp only at hSw); go_simp; try with_reducible rfl
  try simp only [Act.put, List.setIfInBounds_toArray, List.set_cons_zero, List.set_cons_succ]
  refine wpAnyH_done (by kernel_rfl) ?_ _
  go_wp2_with (fail)
  go_ret
  exact ⟨rfl, hB8.trans (hb9.mono hB8.size)⟩
end Go.Proofs.Ytnbkmkeiophjoaa
