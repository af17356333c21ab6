/- GrsOrthogonal: the walk. -/
import Derived.Test.YtnbkmkeiophjoaaK05
import Derived.Test.YtnbkmkeiophjoaaGrsO
namespace Go.Proofs.Ytnbkmkeiophjoaa
open Go.RowKit Cw

theorem elErr_zero {D : Desc} {l : List Int} {K : Int} (h : elErr D l K 3 = 0) : (l.length : Int) = K := by
  unfold elErr at h
  by_cases h1 : (l.length : Int) ≠ K
  · rw [if_pos h1] at h; cases h
  · exact Classical.not_not.1 h1
theorem alloc62 (w : World) (v0 v1 v2 v3 v4 v5 u0 u1 : Value) (t t' : TypeId) : ((w.alloc (.cells #[v0, v1, v2, v3, v4, v5] t)).alloc (.cells #[u0, u1] t')).cell? ⟨w.heap.size, 0, none⟩ = some v0 ∧ ((w.alloc (.cells #[v0, v1, v2, v3, v4, v5] t)).alloc (.cells #[u0, u1] t')).cell? ⟨w.heap.size, 1, none⟩ = some v1 ∧ ((w.alloc (.cells #[v0, v1, v2, v3, v4, v5] t)).alloc (.cells #[u0, u1] t')).cell? ⟨w.heap.size, 2, none⟩ = some v2 ∧
    ((w.alloc (.cells #[v0, v1, v2, v3, v4, v5] t)).alloc (.cells #[u0, u1] t')).cell? ⟨w.heap.size, 3, none⟩ = some v3 ∧ ((w.alloc (.cells #[v0, v1, v2, v3, v4, v5] t)).alloc (.cells #[u0, u1] t')).cell? ⟨w.heap.size, 4, none⟩ = some v4 ∧ ((w.alloc (.cells #[v0, v1, v2, v3, v4, v5] t)).alloc (.cells #[u0, u1] t')).cell? ⟨w.heap.size, 5, none⟩ = some v5 ∧
    ((w.alloc (.cells #[v0, v1, v2, v3, v4, v5] t)).alloc (.cells #[u0, u1] t')).cell? ⟨w.heap.size + 1, 0, none⟩ = some u0 ∧ ((w.alloc (.cells #[v0, v1, v2, v3, v4, v5] t)).alloc (.cells #[u0, u1] t')).cell? ⟨w.heap.size + 1, 1, none⟩ = some u1 := by
  simp [go_sem]

set_option maxHeartbeats 2000000 in
theorem orthL_bad (P M K : Int) (ml pts mul : List Int) (A A1 A2 : Option Addr) (c c1 c2 : Nat) (l1 l2 : List Int) (B1 B2 : Option Addr) (d1 d2 : Nat) (w : World) (hP : I64 P) (hM : I64 M) (hl : ml.length ≤ maxLen) (hr : Rd w w.heap.size A ml) (hb : ¬ Good P M ml) (_hK : I64 K) (_h1 : pts.length ≤ c1 ∧ c1 ≤ maxLen) (_h2 : mul.length ≤ c2 ∧ c2 ≤ maxLen) (_hi : ∀ x ∈ pts, I64 x) (_hj : ∀ x ∈ mul, I64 x) (_hr1 : Rd w w.heap.size A1 pts) (_hr2 : Rd w w.heap.size A2 mul)
    (_h3 : l1.length ≤ maxLen) (_h3' : l2.length ≤ maxLen) (_hr3 : Rd w w.heap.size B1 l1) (_hr4 : Rd w w.heap.size B2 l2) :
    Calls Try.prog 6 #[.agg #[.int .i64 P, .int .i64 M, .slice A ml.length c, .int .i64 K, .slice A1 pts.length c1, .slice A2 mul.length c2], .agg #[.slice B1 l1.length d1, .slice B2 l2.length d2]] w (LawEnd w) := by
  have hA := fun W => Lib.hid (alive_any W)
  have hG := fun W h => Lib.hid (good18_bad P M K ml pts mul A A1 A2 c c1 c2 W hP hM hl h hb)
  have k0 := Lib.hid (alloc62 w (.int .i64 P) (.int .i64 M) (.slice A ml.length c) (.int .i64 K) (.slice A1 pts.length c1) (.slice A2 mul.length c2) (.slice B1 l1.length d1) (.slice B2 l2.length d2) 27 45)
  have hB : Below w.heap.size w ((w.alloc (.cells #[.int .i64 P, .int .i64 M, .slice A ml.length c, .int .i64 K, .slice A1 pts.length c1, .slice A2 mul.length c2] 27)).alloc (.cells #[.slice B1 l1.length d1, .slice B2 l2.length d2] 45)) := ((Below.refl _ _).alloc (Nat.le_refl _) _).alloc (by simp) _
  clear hP hM hl hb
  go_enter Try.func6, Try.ntmps6
  go_wp2_with (fail)
  refine (hA _).out.mono ?_
  rintro e w1 ⟨rfl, hb1⟩
  have kk1 := Lib.hid (keep8 hb1 (by simp only [World.size_alloc]; omega) (by simp) (by simp) k0.out)
  have hB1 := hB.trans (hb1.mono hB.size)
  obtain ⟨q0, q1, q2, q3, q4, q5, q6, q7⟩ := kk1.out
  go_wp2_with (fail)
  (with_reducible refine (hG w1 ((hr.below hB1).more hB1.size)).out.mono ?_)
  rintro e w2 ⟨rfl, hb2⟩
  go_wp2_with (fail)
  go_ret
  exact ⟨rfl, hB1.trans (hb2.mono hB1.size)⟩

set_option maxRecDepth 100000 in
set_option maxHeartbeats 4000000 in
theorem orthL_good (D : Desc) (K : Int) (pts mul : List Int) (A A1 A2 : Option Addr) (c c1 c2 : Nat) (l1 l2 : List Int) (B1 B2 : Option Addr) (d1 d2 : Nat) (w : World) (hr : Rd w w.heap.size A (modL D)) (hb : Good D.p D.m (modL D)) (_hK : I64 K) (h1 : pts.length ≤ c1 ∧ c1 ≤ maxLen) (h2 : mul.length ≤ c2 ∧ c2 ≤ maxLen) (_hi : ∀ x ∈ pts, I64 x) (_hj : ∀ x ∈ mul, I64 x) (hr1 : Rd w w.heap.size A1 pts) (hr2 : Rd w w.heap.size A2 mul)
    (h3 : l1.length ≤ maxLen) (h3' : l2.length ≤ maxLen) (hr3 : Rd w w.heap.size B1 l1) (hr4 : Rd w w.heap.size B2 l2) :
    Calls Try.prog 6 #[.agg #[.int .i64 D.p, .int .i64 D.m, .slice A D.mod.length c, .int .i64 K, .slice A1 pts.length c1, .slice A2 mul.length c2], .agg #[.slice B1 l1.length d1, .slice B2 l2.length d2]] w (LawEnd w) := by
  obtain ⟨u, hu⟩ := gen_of_good hb
  obtain ⟨F, rfl⟩ : ∃ F : FD, F.toDesc = D := ⟨mkFD D u hu, rfl⟩
  clear hu u
  have hA := fun W => Lib.hid (alive_any W)
  have hG := fun W h a b => Lib.hid (good18_D F.toDesc K pts mul A A1 A2 c c1 c2 W h hb a b (Nat.le_trans h2.1 h2.2))
  have hD := fun W h a b => Lib.hid (gDual_D F.toDesc K pts mul A A1 A2 c c1 c2 W h hb a b h1.1 h1.2 (Nat.le_trans h2.1 h2.2))
  have hC := fun W h a b d => Lib.hid (gEnc_D F.toDesc K pts mul A A1 A2 c c1 c2 l1 B1 d1 W h hb a b h1.1 h1.2 (Nat.le_trans h2.1 h2.2) d h3)
  have hE1 := fun W d => Lib.hid (Elems18_any F.toDesc l1 K 3 A B1 c d1 W d h3)
  have hE2 := fun W d => Lib.hid (Elems18_any F.toDesc l2 ((pts.length : Int) - K) 3 A B2 c d2 W d h3')
  have hm1 := h1.1; have hm2 := h1.2
  unfold maxLen at hm2
  have k0 := Lib.hid (alloc62 w (.int .i64 F.p) (.int .i64 F.m) (.slice A F.mod.length c) (.int .i64 K) (.slice A1 pts.length c1) (.slice A2 mul.length c2) (.slice B1 l1.length d1) (.slice B2 l2.length d2) 27 45)
  have hB : Below w.heap.size w ((w.alloc (.cells #[.int .i64 F.p, .int .i64 F.m, .slice A F.mod.length c, .int .i64 K, .slice A1 pts.length c1, .slice A2 mul.length c2] 27)).alloc (.cells #[.slice B1 l1.length d1, .slice B2 l2.length d2] 45)) := ((Below.refl _ _).alloc (Nat.le_refl _) _).alloc (by simp) _
  have hb0 := Lib.hid hb
  clear hb
  go_enter Try.func6, Try.ntmps6
  go_wp2_with (fail)
  refine (hA _).out.mono ?_
  rintro e w1 ⟨rfl, hb1⟩
  have kk1 := Lib.hid (keep8 hb1 (by simp only [World.size_alloc]; omega) (by simp) (by simp) k0.out)
  have hB1 := hB.trans (hb1.mono hB.size)
  have hlt1 : w.heap.size + 1 < w1.heap.size := by have := hb1.size; simp only [World.size_alloc] at this; omega
  obtain ⟨q0, q1, q2, q3, q4, q5, q6, q7⟩ := kk1.out
  by_cases hgb : goodB F.toDesc K pts mul = true
  rotate_left
  · rw [Bool.not_eq_true] at hgb
    rw [hgb] at hG
    clear hgb
    go_wp2_with (fail)
    (with_reducible refine (hG w1 ((hr.below hB1).more hB1.size) ((hr1.below hB1).more hB1.size) ((hr2.below hB1).more hB1.size)).out.mono ?_)
    rintro e w2 ⟨rfl, hb2⟩
    go_wp2_with (fail)
    go_ret
    exact ⟨rfl, hB1.trans (hb2.mono hB1.size)⟩
  obtain ⟨h24, hz⟩ := goodB_true hgb
  rw [hgb] at hG
  clear hgb
  obtain ⟨hp1, hp64, hlen, -, -, -, -, hK0, hK1⟩ := gchkD_zero hz
  have hdl := dualL_length F pts mul
  have hD2 := fun A3 A4 A5 c3 c4 c5 W h a b d e f => gEnc_D F.toDesc ((pts.length : Int) - K) pts (dualL F pts mul) A3 A4 A5 c3 c4 c5 l2 B2 d2 W h hb0.out a b d e (by rw [hdl]; unfold maxLen; omega) f h3'
  rw [hdl] at hD2
  replace hD2 := fun A3 A4 A5 c3 c4 c5 W h a b d e f => Lib.hid (hD2 A3 A4 A5 c3 c4 c5 W h a b d e f)
  have hwr := (IntWalk.i64_in ((pts.length : Int) - K) (by omega))
  replace hlen := Lib.hid hlen
  replace hdl := Lib.hid hdl
  replace hz := Lib.hid hz
  go_wp2_with (fail)
  (with_reducible refine (hG w1 ((hr.below hB1).more hB1.size) ((hr1.below hB1).more hB1.size) ((hr2.below hB1).more hB1.size)).out.mono ?_)
  rintro e w2 ⟨rfl, hb2⟩
  have hB2 := hB1.trans (hb2.mono hB1.size)
  have kk2 := Lib.hid (keep8 hb2 (by omega) hlt1 hlt1 kk1.out)
  have hlt2 : w.heap.size + 1 < w2.heap.size := Nat.lt_of_lt_of_le hlt1 hb2.size
  clear q0 q1 q2 q3 q4 q5 q6 q7
  obtain ⟨q0, q1, q2, q3, q4, q5, q6, q7⟩ := kk2.out
  by_cases hel : elErr F.toDesc l1 K 3 = 0
  rotate_left
  · have helb : (elErr F.toDesc l1 K 3 != 0) = true := by rw [bne_iff_ne]; exact hel
    clear hel
    go_wp2_with (fail)
    (with_reducible refine (hE1 w2 ((hr3.below hB2).more hB2.size)).out.mono ?_)
    rintro e w3 ⟨rfl, hb3⟩
    go_wp2_with (fail)
    go_ret
    exact ⟨rfl, hB2.trans (hb3.mono hB2.size)⟩
  rw [hel] at hE1
  replace hel := Lib.hid hel
  go_wp2_with (fail)
  (with_reducible refine (hE1 w2 ((hr3.below hB2).more hB2.size)).out.mono ?_)
  rintro e w3 ⟨rfl, hb3⟩
  have hB3 := hB2.trans (hb3.mono hB2.size)
  have kk3 := Lib.hid (keep8 hb3 (by omega) hlt2 hlt2 kk2.out)
  have hlt3 : w.heap.size + 1 < w3.heap.size := Nat.lt_of_lt_of_le hlt2 hb3.size
  clear q0 q1 q2 q3 q4 q5 q6 q7
  obtain ⟨q0, q1, q2, q3, q4, q5, q6, q7⟩ := kk3.out
  by_cases hel2 : elErr F.toDesc l2 ((pts.length : Int) - K) 3 = 0
  rotate_left
  · have helb : (elErr F.toDesc l2 ((pts.length : Int) - K) 3 != 0) = true := by rw [bne_iff_ne]; exact hel2
    clear hel2
    go_wp2_with (fail)
    (with_reducible refine (hE2 w3 ((hr4.below hB3).more hB3.size)).out.mono ?_)
    rintro e w4 ⟨rfl, hb4⟩
    go_wp2_with (fail)
    go_ret
    exact ⟨rfl, hB3.trans (hb4.mono hB3.size)⟩
  rw [hel2] at hE2
  replace hel2 := Lib.hid hel2
  go_wp2_with (fail)
  (with_reducible refine (hE2 w3 ((hr4.below hB3).more hB3.size)).out.mono ?_)
  rintro e w4 ⟨rfl, hb4⟩
  have hB4 := hB3.trans (hb4.mono hB3.size)
  have kk4 := Lib.hid (keep8 hb4 (by omega) hlt3 hlt3 kk3.out)
  have hlt4 : w.heap.size + 1 < w4.heap.size := Nat.lt_of_lt_of_le hlt3 hb4.size
  clear q0 q1 q2 q3 q4 q5 q6 q7
  obtain ⟨q0, q1, q2, q3, q4, q5, q6, q7⟩ := kk4.out
  go_wp2_with (fail)
  (with_reducible refine (hD w4 ((hr.below hB4).more hB4.size) ((hr1.below hB4).more hB4.size) ((hr2.below hB4).more hB4.size)).out.mono ?_)
  rintro e w5 ⟨hb5, ⟨hne, -⟩ | ⟨-, F', hF', A3, c3, A4, c4, A5, c5, rfl, hr5, hr6, hr7, hc4, hc4'⟩⟩
  · exact absurd hz.out hne
  rw [dualL_eq hF'] at hr7
  clear hF'
  have hB5 := hB4.trans (hb5.mono hB4.size)
  have kk5 := Lib.hid (keep8 hb5 (by omega) hlt4 hlt4 kk4.out)
  have hlt5 : w.heap.size + 1 < w5.heap.size := Nat.lt_of_lt_of_le hlt4 hb5.size
  have hlt5b : w.heap.size < w5.heap.size := by omega
  obtain ⟨X6, hX6⟩ : ∃ X6, X6 = w5.alloc (.cells #[.int .i64 F.p, .int .i64 F.m, .slice A3 F.mod.length c3, .int .i64 ((pts.length : Int) - K), .slice A4 pts.length c4, .slice A5 pts.length c5] 27) := ⟨_, rfl⟩
  have hb6 : Below w5.heap.size w5 X6 := by rw [hX6]; exact (Below.refl _ _).alloc (Nat.le_refl _) _
  have j6 := alloc6 w5 (.int .i64 F.p) (.int .i64 F.m) (.slice A3 F.mod.length c3) (.int .i64 ((pts.length : Int) - K)) (.slice A4 pts.length c4) (.slice A5 pts.length c5) 27
  have hlt6' : w5.heap.size < X6.heap.size := by rw [hX6]; simp
  rw [← hX6] at j6
  replace j6 := Lib.hid j6
  replace hX6 := Lib.hid hX6
  have hB6 := hB5.trans (hb6.mono hB5.size)
  have hlt6 : w.heap.size + 1 < X6.heap.size := by omega
  have kk6 := Lib.hid (keep8 hb6 (by omega) hlt5 hlt5 kk5.out)
  clear q0 q1 q2 q3 q4 q5 q6 q7
  obtain ⟨q0, q1, q2, q3, q4, q5, q6, q7⟩ := kk5.out
  go_wp2_with (fail)
  rw [← hX6.out]
  (with_reducible refine (hC X6 ((hr.below hB6).more hB6.size) ((hr1.below hB6).more hB6.size) ((hr2.below hB6).more hB6.size) ((hr3.below hB6).more hB6.size)).out.mono ?_)
  rintro e w7 ⟨hb7, ⟨hne, -⟩ | ⟨-, A6, rfl, hr8⟩⟩
  · exact absurd ((show encErr F.toDesc K pts mul l1 = elErr F.toDesc l1 K 3 from if_neg (fun h => h hz.out)).trans hel.out) hne
  have hB7 := hB6.trans (hb7.mono hB6.size)
  have kk7 := Lib.hid (keep8 hb7 (by omega) hlt6 hlt6 kk6.out)
  have j67 := Lib.hid (keep6 hb7 hlt6' j6.out)
  have hlt7 : w.heap.size + 1 < w7.heap.size := Nat.lt_of_lt_of_le hlt6 hb7.size
  have hb67 := hb6.trans (hb7.mono hb6.size)
  clear q0 q1 q2 q3 q4 q5 q6 q7
  obtain ⟨q0, q1, q2, q3, q4, q5, q6, q7⟩ := kk7.out
  obtain ⟨p0, p1, p2, p3, p4, p5⟩ := j67.out
  go_wp2_with (fail)
  (with_reducible refine (hD2 A3 A4 A5 c3 c4 c5 w7 ((hr5.below hb67).more hb67.size) ((hr6.below hb67).more hb67.size) ((hr7.below hb67).more hb67.size) hc4 hc4' ((hr4.below hB7).more hB7.size)).out.mono ?_)
  rintro e w8 ⟨hb8, ⟨hne, -⟩ | ⟨-, A7, rfl, hr9⟩⟩
  · exact absurd ((show encErr F.toDesc ((pts.length : Int) - K) pts (dualL F pts mul) l2 = elErr F.toDesc l2 ((pts.length : Int) - K) 3 from if_neg (fun h => h (dual_chk hz.out))).trans hel2.out) hne
  have hB8 := hB7.trans (hb8.mono hB7.size)
  have kk8 := Lib.hid (keep8 hb8 (by omega) hlt7 hlt7 kk7.out)
  have hw1 := wordL_length F.toDesc pts mul l1
  have hw2 := wordL_length F.toDesc pts (dualL F pts mul) l2
  have hDt := Dot4_any F.toDesc (wordL F.toDesc pts mul l1) (wordL F.toDesc pts (dualL F pts mul) l2) pts.length hw1 hw2 A A6 A7 c pts.length pts.length w8 ((hr.below hB8).more hB8.size) ((hr8.below hb8).more hb8.size) hr9 (by unfold maxLen; omega)
  rw [dot_dual hz.out (elErr_zero hel.out) (elErr_zero hel2.out), ci_zero] at hDt
  rw [hw1, hw2]
  replace hDt := Lib.hid hDt
  clear q0 q1 q2 q3 q4 q5 q6 q7 p0 p1 p2 p3 p4 p5 hw1 hw2
  obtain ⟨q0, q1, q2, q3, q4, q5, q6, q7⟩ := kk8.out
  go_wp2_with (fail)
  (with_reducible refine hDt.out.mono ?_)
  rintro e w9 ⟨rfl, hb9⟩
  go_wp2_with (fail)
  go_ret
  exact ⟨rfl, hB8.trans (hb9.mono hB8.size)⟩
end Go.Proofs.Ytnbkmkeiophjoaa
