/- GrsAffine: the walk. -/
import Derived.Test.YtnbkmkeiophjoaaK0
import Derived.Test.YtnbkmkeiophjoaaMatZ
import Derived.Test.YtnbkmkeiophjoaaMI
import Derived.Test.YtnbkmkeiophjoaaAffL
import Derived.Test.YtnbkmkeiophjoaaGrsU
namespace Go.Proofs.Ytnbkmkeiophjoaa
open Go.RowKit Cw
attribute [local go_sem] Oper.semAt_some

set_option maxHeartbeats 2000000 in
theorem affineL_bad (P M K : Int) (ml pts mul : List Int) (A A1 A2 : Option Addr) (c c1 c2 : Nat) (x y : Int) (w : World) (hP : I64 P) (hM : I64 M) (hl : ml.length ≤ maxLen) (hr : Rd w w.heap.size A ml) (hb : ¬ Good P M ml) (_hK : I64 K) (h1 : pts.length ≤ c1 ∧ c1 ≤ maxLen) (_h2 : mul.length ≤ c2 ∧ c2 ≤ maxLen) (_hi : ∀ x ∈ pts, I64 x) (_hj : ∀ x ∈ mul, I64 x) (_hr1 : Rd w w.heap.size A1 pts) (_hr2 : Rd w w.heap.size A2 mul) :
    Calls Try.prog 13 #[.agg #[.int .i64 P, .int .i64 M, .slice A ml.length c, .int .i64 K, .slice A1 pts.length c1, .slice A2 mul.length c2], .agg #[.int .i64 x, .int .i64 y]] w (LawEnd w) := by
  have hA := fun W => Lib.hid (alive_any W)
  have hD := fun W h => Lib.hid (gAff_bad P M K ml pts mul A A1 A2 c c1 c2 x y W hP hM hl h hb)
  have hC := fun W h => Lib.hid (Chk18_bad P M K ml pts mul A A1 A2 c c1 c2 W hP hM hl h hb)
  have hZ0 := fun W => Lib.hid (Zero18_zero W)
  have hm1 := h1.1; have hm2 := h1.2
  unfold maxLen at hm2
  obtain ⟨Z, hZ⟩ : ∃ Z, Z = (w.alloc (.cells #[.int .i64 P, .int .i64 M, .slice A ml.length c, .int .i64 K, .slice A1 pts.length c1, .slice A2 mul.length c2] 27)).alloc (.cells #[.int .i64 x, .int .i64 y] 69) := ⟨_, rfl⟩
  have hB : Below w.heap.size w Z := by rw [hZ]; exact ((Below.refl _ _).alloc (Nat.le_refl _) _).alloc (by simp) _
  have hZs : Z.heap.size = w.heap.size + 2 := by rw [hZ]; simp
  have k0 := Lib.hid (show Z.cell? ⟨w.heap.size, 0, none⟩ = some (.int .i64 P) ∧ Z.cell? ⟨w.heap.size, 1, none⟩ = some (.int .i64 M) ∧ Z.cell? ⟨w.heap.size, 2, none⟩ = some (.slice A ml.length c) ∧ Z.cell? ⟨w.heap.size, 3, none⟩ = some (.int .i64 K) ∧ Z.cell? ⟨w.heap.size, 4, none⟩ = some (.slice A1 pts.length c1) ∧ Z.cell? ⟨w.heap.size, 5, none⟩ = some (.slice A2 mul.length c2) from by rw [hZ]; simp [go_sem])
  have kv : Z.cell? ⟨w.heap.size + 1, 0, none⟩ = some (.int .i64 x) ∧ Z.cell? ⟨w.heap.size + 1, 1, none⟩ = some (.int .i64 y) := by rw [hZ]; simp [go_sem]
  replace hZ := Lib.hid hZ
  replace kv := Lib.hid kv
  clear hP hM hl hb
  go_enter Try.func13, Try.ntmps13
  go_wp2_with (fail)
  rw [← hZ.out]
  refine (hA _).out.mono ?_
  rintro e w1 ⟨rfl, hb1⟩
  have hs1 := hb1.size
  have kk1 := Lib.hid (keep6 hb1 (by omega) k0.out)
  have hB1 := hB.trans (hb1.mono hB.size)
  have hlt1 : w.heap.size < w1.heap.size := by omega
  obtain ⟨q0, q1, q2, q3, q4, q5⟩ := kk1.out
  have v0 := (hb1.cell (p := ⟨w.heap.size + 1, 0, none⟩) (by show w.heap.size + 1 < _; omega)).trans kv.out.1
  have v1 := (hb1.cell (p := ⟨w.heap.size + 1, 1, none⟩) (by show w.heap.size + 1 < _; omega)).trans kv.out.2
  go_wp2_with (fail)
  go_quiet (fail)
  clear q0 q1 q2 q3 q4 q5 v0 v1
  obtain ⟨W1, hW1⟩ : ∃ W1, W1 = w1.drewN nq := ⟨_, rfl⟩
  have hBq : Below w.heap.size w W1 := by rw [hW1]; exact ⟨hB1.os, hB1.tape, hB1.output, hB1.size, hB1.block⟩
  have kkq : Hid (W1.cell? ⟨w.heap.size, 0, none⟩ = some (.int .i64 P) ∧ W1.cell? ⟨w.heap.size, 1, none⟩ = some (.int .i64 M) ∧ W1.cell? ⟨w.heap.size, 2, none⟩ = some (.slice A ml.length c) ∧ W1.cell? ⟨w.heap.size, 3, none⟩ = some (.int .i64 K) ∧ W1.cell? ⟨w.heap.size, 4, none⟩ = some (.slice A1 pts.length c1) ∧ W1.cell? ⟨w.heap.size, 5, none⟩ = some (.slice A2 mul.length c2)) := by rw [hW1]; exact kk1
  have hltq : w.heap.size < W1.heap.size := by rw [hW1]; exact hlt1
  rw [← hW1]
  clear kk1 hB1 hlt1 hb1 hs1 hW1 w1
  obtain ⟨w1, rfl⟩ : ∃ w1, w1 = W1 := ⟨_, rfl⟩
  have hB1 := hBq
  have kk1 := kkq
  have hlt1 := hltq
  clear hBq kkq hltq
  obtain ⟨q0, q1, q2, q3, q4, q5⟩ := kk1.out
  by_cases h24 : 24 < pts.length
  · go_wp2_with (fail)
    go_ret
    exact ⟨rfl, hB1⟩
  go_wp2_with (fail)
  (with_reducible refine (hD w1 ((hr.below hB1).more hB1.size)).out.mono ?_)
  rintro e w2 ⟨rfl, hb2⟩
  have hB2 := hB1.trans (hb2.mono hB1.size)
  have kk2 := Lib.hid (keep6 hb2 hlt1 kk1.out)
  have hlt2 : w.heap.size < w2.heap.size := Nat.lt_of_lt_of_le hlt1 hb2.size
  have hb3 : Below w2.heap.size w2 (w2.alloc (.cells #[.int .i64 0, .int .i64 0, .slice none 0 0, .int .i64 0, .slice none 0 0, .slice none 0 0] 27)) := (Below.refl _ _).alloc (Nat.le_refl _) _
  have k6 := Lib.hid (alloc6 w2 (.int .i64 0) (.int .i64 0) (.slice none 0 0) (.int .i64 0) (.slice none 0 0) (.slice none 0 0) 27)
  obtain ⟨X3, hX3⟩ : ∃ X3, X3 = w2.alloc (.cells #[.int .i64 0, .int .i64 0, .slice none 0 0, .int .i64 0, .slice none 0 0, .slice none 0 0] 27) := ⟨_, rfl⟩
  have hlt3 : w2.heap.size < X3.heap.size := by rw [hX3]; simp
  rw [← hX3] at hb3 k6
  replace hX3 := Lib.hid hX3
  have hB3 := hB2.trans (hb3.mono hB2.size)
  clear q0 q1 q2 q3 q4 q5
  obtain ⟨q0, q1, q2, q3, q4, q5⟩ := kk2.out
  go_wp2_with (fail)
  rw [← hX3.out]
  (with_reducible refine (hC X3 ((hr.below hB3).more hB3.size)).out.mono ?_)
  rintro e w4 ⟨rfl, hb4⟩
  have k64 := Lib.hid (keep6 hb4 hlt3 k6.out)
  have hb24 := hb3.trans (hb4.mono hb3.size)
  have hB4 := hB3.trans (hb4.mono hB3.size)
  have kk4 := Lib.hid (keep6 hb24 hlt2 kk2.out)
  have hlt4 : w.heap.size < w4.heap.size := Nat.lt_of_lt_of_le hlt2 hb24.size
  have hlt24 : w2.heap.size < w4.heap.size := Nat.lt_of_lt_of_le hlt3 hb4.size
  clear q0 q1 q2 q3 q4 q5
  obtain ⟨q0, q1, q2, q3, q4, q5⟩ := k64.out
  go_wp2_with (fail)
  (with_reducible refine (hZ0 w4).out.mono ?_)
  rintro e w5 ⟨rfl, hb5⟩
  go_wp2_with (fail)
  go_ret
  exact ⟨by simp, hB4.trans (hb5.mono hB4.size)⟩

theorem affErr_zero {D : Desc} {K : Int} {pts mul : List Int} {a b : Int} (h : affErr D K pts mul a b = 0) : gchkD D K pts mul = 0 ∧ decide (0 ≤ a ∧ a < (D.q : Int)) = true ∧ decide (0 ≤ b ∧ b < (D.q : Int)) = true ∧ a ≠ 0 := by
  unfold affErr at h
  by_cases h1 : gchkD D K pts mul ≠ 0
  · rw [if_pos h1] at h; exact absurd h h1
  rw [if_neg h1] at h
  by_cases h2 : decide (0 ≤ a ∧ a < (D.q : Int)) = false
  · rw [if_pos h2] at h; cases h
  rw [if_neg h2] at h
  by_cases h3 : decide (0 ≤ b ∧ b < (D.q : Int)) = false
  · rw [if_pos h3] at h; cases h
  rw [if_neg h3] at h
  by_cases h4 : a = 0
  · rw [if_pos h4] at h; cases h
  exact ⟨Classical.not_not.1 h1, Bool.not_eq_false _ ▸ h2, Bool.not_eq_false _ ▸ h3, h4⟩
theorem cell1_rd (W : World) (y : Int) : Rd (W.alloc (.cells #[.int .i64 y] 3)) (W.heap.size + 1) (some ⟨W.heap.size, 0, none⟩) [y] := fun _ => ⟨W.heap.size, 0, rfl, Nat.lt_succ_self _, fun j hj => by
  have : j = 0 := by simp at hj; omega
  subst this
  simp [go_sem]⟩

set_option maxRecDepth 100000 in
set_option maxHeartbeats 4000000 in
theorem affineL_good (D : Desc) (K : Int) (pts mul : List Int) (A A1 A2 : Option Addr) (c c1 c2 : Nat) (x y : Int) (w : World) (hr : Rd w w.heap.size A (modL D)) (hb : Good D.p D.m (modL D)) (_hK : I64 K) (h1 : pts.length ≤ c1 ∧ c1 ≤ maxLen) (h2 : mul.length ≤ c2 ∧ c2 ≤ maxLen) (_hi : ∀ x ∈ pts, I64 x) (_hj : ∀ x ∈ mul, I64 x) (hr1 : Rd w w.heap.size A1 pts) (hr2 : Rd w w.heap.size A2 mul) :
    Calls Try.prog 13 #[.agg #[.int .i64 D.p, .int .i64 D.m, .slice A D.mod.length c, .int .i64 K, .slice A1 pts.length c1, .slice A2 mul.length c2], .agg #[.int .i64 x, .int .i64 y]] w (LawEnd w) := by
  have hA := fun W => Lib.hid (alive_any W)
  have hD := fun W h a b => Lib.hid (gAff_D D K pts mul A A1 A2 c c1 c2 x y W h hb a b h1.1 h1.2 (Nat.le_trans h2.1 h2.2))
  have hC := fun W h a b => Lib.hid (Chk18_D D K pts mul A A1 A2 c c1 c2 W h hb a b (Nat.le_trans h2.1 h2.2))
  have hZ0 := fun W => Lib.hid (Zero18_zero W)
  have hIx := fun W => Is_any D x A D.mod.length c W
  have hIy := fun W => Is_any D y A D.mod.length c W
  have hm1 := h1.1; have hm2 := h1.2
  unfold maxLen at hm2
  obtain ⟨Z, hZ⟩ : ∃ Z, Z = (w.alloc (.cells #[.int .i64 D.p, .int .i64 D.m, .slice A D.mod.length c, .int .i64 K, .slice A1 pts.length c1, .slice A2 mul.length c2] 27)).alloc (.cells #[.int .i64 x, .int .i64 y] 69) := ⟨_, rfl⟩
  have hB : Below w.heap.size w Z := by rw [hZ]; exact ((Below.refl _ _).alloc (Nat.le_refl _) _).alloc (by simp) _
  have hZs : Z.heap.size = w.heap.size + 2 := by rw [hZ]; simp
  have k0 := Lib.hid (show Z.cell? ⟨w.heap.size, 0, none⟩ = some (.int .i64 D.p) ∧ Z.cell? ⟨w.heap.size, 1, none⟩ = some (.int .i64 D.m) ∧ Z.cell? ⟨w.heap.size, 2, none⟩ = some (.slice A D.mod.length c) ∧ Z.cell? ⟨w.heap.size, 3, none⟩ = some (.int .i64 K) ∧ Z.cell? ⟨w.heap.size, 4, none⟩ = some (.slice A1 pts.length c1) ∧ Z.cell? ⟨w.heap.size, 5, none⟩ = some (.slice A2 mul.length c2) from by rw [hZ]; simp [go_sem])
  have kv : Z.cell? ⟨w.heap.size + 1, 0, none⟩ = some (.int .i64 x) ∧ Z.cell? ⟨w.heap.size + 1, 1, none⟩ = some (.int .i64 y) := by rw [hZ]; simp [go_sem]
  replace hZ := Lib.hid hZ
  replace kv := Lib.hid kv
  have hbH := Lib.hid hb
  clear hb
  go_enter Try.func13, Try.ntmps13
  go_wp2_with (fail)
  rw [← hZ.out]
  refine (hA _).out.mono ?_
  rintro e w1 ⟨rfl, hb1⟩
  have hs1 := hb1.size
  have kk1 := Lib.hid (keep6 hb1 (by omega) k0.out)
  have hB1 := hB.trans (hb1.mono hB.size)
  have hlt1 : w.heap.size < w1.heap.size := by omega
  obtain ⟨q0, q1, q2, q3, q4, q5⟩ := kk1.out
  have v0 := (hb1.cell (p := ⟨w.heap.size + 1, 0, none⟩) (by show w.heap.size + 1 < _; omega)).trans kv.out.1
  have v1 := (hb1.cell (p := ⟨w.heap.size + 1, 1, none⟩) (by show w.heap.size + 1 < _; omega)).trans kv.out.2
  go_wp2_with (fail)
  go_quiet (fail)
  clear q0 q1 q2 q3 q4 q5 v0 v1
  obtain ⟨W1, hW1⟩ : ∃ W1, W1 = w1.drewN nq := ⟨_, rfl⟩
  have hBq : Below w.heap.size w W1 := by rw [hW1]; exact ⟨hB1.os, hB1.tape, hB1.output, hB1.size, hB1.block⟩
  have kkq : Hid (W1.cell? ⟨w.heap.size, 0, none⟩ = some (.int .i64 D.p) ∧ W1.cell? ⟨w.heap.size, 1, none⟩ = some (.int .i64 D.m) ∧ W1.cell? ⟨w.heap.size, 2, none⟩ = some (.slice A D.mod.length c) ∧ W1.cell? ⟨w.heap.size, 3, none⟩ = some (.int .i64 K) ∧ W1.cell? ⟨w.heap.size, 4, none⟩ = some (.slice A1 pts.length c1) ∧ W1.cell? ⟨w.heap.size, 5, none⟩ = some (.slice A2 mul.length c2)) := by rw [hW1]; exact kk1
  have hltq : w.heap.size < W1.heap.size := by rw [hW1]; exact hlt1
  rw [← hW1]
  clear kk1 hB1 hlt1 hb1 hs1 hW1 w1
  obtain ⟨w1, rfl⟩ : ∃ w1, w1 = W1 := ⟨_, rfl⟩
  have hB1 := hBq
  have kk1 := kkq
  have hlt1 := hltq
  clear hBq kkq hltq
  obtain ⟨q0, q1, q2, q3, q4, q5⟩ := kk1.out
  by_cases h24 : 24 < pts.length
  · go_wp2_with (fail)
    go_ret
    exact ⟨rfl, hB1⟩
  go_wp2_with (fail)
  (with_reducible refine (hD w1 ((hr.below hB1).more hB1.size) ((hr1.below hB1).more hB1.size) ((hr2.below hB1).more hB1.size)).out.mono ?_)
  rintro e w2 ⟨hb2, ⟨hne, rfl⟩ | ⟨hz, A3, c3, A4, c4, A5, c5, rfl, hr3, hr4, hr5, hc4, hc4'⟩⟩
  · by_cases hg0 : gchkD D K pts mul = 0
    rotate_left
    · have haff : affErr D K pts mul x y = gchkD D K pts mul := if_pos hg0
      rw [haff]
      have hneb : (gchkD D K pts mul != 0) = true := by rw [bne_iff_ne]; exact hg0
      replace haff := Lib.hid haff
      replace hg0 := Lib.hid hg0
      replace hne := Lib.hid hne
      have hB2 := hB1.trans (hb2.mono hB1.size)
      have kk2 := Lib.hid (keep6 hb2 hlt1 kk1.out)
      have hlt2 : w.heap.size < w2.heap.size := Nat.lt_of_lt_of_le hlt1 hb2.size
      have hb3 : Below w2.heap.size w2 (w2.alloc (.cells #[.int .i64 0, .int .i64 0, .slice none 0 0, .int .i64 0, .slice none 0 0, .slice none 0 0] 27)) := (Below.refl _ _).alloc (Nat.le_refl _) _
      have k6 := Lib.hid (alloc6 w2 (.int .i64 0) (.int .i64 0) (.slice none 0 0) (.int .i64 0) (.slice none 0 0) (.slice none 0 0) 27)
      obtain ⟨X3, hX3⟩ : ∃ X3, X3 = w2.alloc (.cells #[.int .i64 0, .int .i64 0, .slice none 0 0, .int .i64 0, .slice none 0 0, .slice none 0 0] 27) := ⟨_, rfl⟩
      have hlt3 : w2.heap.size < X3.heap.size := by rw [hX3]; simp
      rw [← hX3] at hb3 k6
      replace hX3 := Lib.hid hX3
      have hB3 := hB2.trans (hb3.mono hB2.size)
      clear q0 q1 q2 q3 q4 q5
      obtain ⟨q0, q1, q2, q3, q4, q5⟩ := kk2.out
      go_wp2_with (fail)
      rw [← hX3.out]
      (with_reducible refine (hC X3 ((hr.below hB3).more hB3.size) ((hr1.below hB3).more hB3.size) ((hr2.below hB3).more hB3.size)).out.mono ?_)
      rintro e w4 ⟨rfl, hb4⟩
      have k64 := Lib.hid (keep6 hb4 hlt3 k6.out)
      have hb24 := hb3.trans (hb4.mono hb3.size)
      have hB4 := hB3.trans (hb4.mono hB3.size)
      have kk4 := Lib.hid (keep6 hb24 hlt2 kk2.out)
      have hlt4 : w.heap.size < w4.heap.size := Nat.lt_of_lt_of_le hlt2 hb24.size
      have hlt24 : w2.heap.size < w4.heap.size := Nat.lt_of_lt_of_le hlt3 hb4.size
      clear q0 q1 q2 q3 q4 q5
      obtain ⟨q0, q1, q2, q3, q4, q5⟩ := k64.out
      go_wp2_with (fail)
      (with_reducible refine (hZ0 w4).out.mono ?_)
      rintro e w5 ⟨rfl, hb5⟩
      go_wp2_with (fail)
      go_ret
      exact ⟨by simp, hB4.trans (hb5.mono hB4.size)⟩
    rw [hg0] at hC
    by_cases hia : decide (0 ≤ x ∧ x < (D.q : Int)) = false
    · have haff : affErr D K pts mul x y = 2 := by unfold affErr; rw [if_neg (fun h => h hg0), if_pos hia]
      rw [haff]
      rw [hia] at hIx
      replace hIx := fun W => Lib.hid (hIx W)
      clear haff hg0 hne hia
      have hB2 := hB1.trans (hb2.mono hB1.size)
      have kk2 := Lib.hid (keep6 hb2 hlt1 kk1.out)
      have hlt2 : w.heap.size < w2.heap.size := Nat.lt_of_lt_of_le hlt1 hb2.size
      have hb3 : Below w2.heap.size w2 (w2.alloc (.cells #[.int .i64 0, .int .i64 0, .slice none 0 0, .int .i64 0, .slice none 0 0, .slice none 0 0] 27)) := (Below.refl _ _).alloc (Nat.le_refl _) _
      have k6 := Lib.hid (alloc6 w2 (.int .i64 0) (.int .i64 0) (.slice none 0 0) (.int .i64 0) (.slice none 0 0) (.slice none 0 0) 27)
      obtain ⟨X3, hX3⟩ : ∃ X3, X3 = w2.alloc (.cells #[.int .i64 0, .int .i64 0, .slice none 0 0, .int .i64 0, .slice none 0 0, .slice none 0 0] 27) := ⟨_, rfl⟩
      have hlt3 : w2.heap.size < X3.heap.size := by rw [hX3]; simp
      rw [← hX3] at hb3 k6
      replace hX3 := Lib.hid hX3
      have hB3 := hB2.trans (hb3.mono hB2.size)
      clear q0 q1 q2 q3 q4 q5
      obtain ⟨q0, q1, q2, q3, q4, q5⟩ := kk2.out
      go_wp2_with (fail)
      rw [← hX3.out]
      (with_reducible refine (hC X3 ((hr.below hB3).more hB3.size) ((hr1.below hB3).more hB3.size) ((hr2.below hB3).more hB3.size)).out.mono ?_)
      rintro e w4 ⟨rfl, hb4⟩
      have k64 := Lib.hid (keep6 hb4 hlt3 k6.out)
      have hb24 := hb3.trans (hb4.mono hb3.size)
      have hB4 := hB3.trans (hb4.mono hB3.size)
      have kk4 := Lib.hid (keep6 hb24 hlt2 kk2.out)
      have hlt4 : w.heap.size < w4.heap.size := Nat.lt_of_lt_of_le hlt2 hb24.size
      have hlt24 : w2.heap.size < w4.heap.size := Nat.lt_of_lt_of_le hlt3 hb4.size
      clear q0 q1 q2 q3 q4 q5
      obtain ⟨q0, q1, q2, q3, q4, q5⟩ := k64.out
      clear q0 q1 q2 q3 q4 q5
      obtain ⟨q0, q1, q2, q3, q4, q5⟩ := kk4.out
      go_wp2_with (fail)
      (with_reducible refine (hIx w4).out.mono ?_)
      rintro e w6 ⟨rfl, hb6⟩
      have kk6 := Lib.hid (keep6 hb6 hlt4 kk4.out)
      have k66 := Lib.hid (keep6 hb6 hlt24 k64.out)
      have hB6 := hB4.trans (hb6.mono hB4.size)
      have hlt6 : w.heap.size < w6.heap.size := Nat.lt_of_lt_of_le hlt4 hb6.size
      have hlt26 : w2.heap.size < w6.heap.size := Nat.lt_of_lt_of_le hlt24 hb6.size
      clear q0 q1 q2 q3 q4 q5
      obtain ⟨q0, q1, q2, q3, q4, q5⟩ := k66.out
      go_wp2_with (fail)
      (with_reducible refine (hZ0 w6).out.mono ?_)
      rintro e w5 ⟨rfl, hb5⟩
      go_wp2_with (fail)
      go_ret
      exact ⟨by simp, hB6.trans (hb5.mono hB6.size)⟩
    have hia2 : decide (0 ≤ x ∧ x < (D.q : Int)) = true := Bool.not_eq_false _ ▸ hia
    rw [hia2] at hIx
    replace hIx := fun W => Lib.hid (hIx W)
    by_cases hib : decide (0 ≤ y ∧ y < (D.q : Int)) = false
    · have haff : affErr D K pts mul x y = 2 := by unfold affErr; rw [if_neg (fun h => h hg0), if_neg hia, if_pos hib]
      rw [haff]
      rw [hib] at hIy
      replace hIy := fun W => Lib.hid (hIy W)
      clear haff hg0 hne hia hib hia2
      have hB2 := hB1.trans (hb2.mono hB1.size)
      have kk2 := Lib.hid (keep6 hb2 hlt1 kk1.out)
      have hlt2 : w.heap.size < w2.heap.size := Nat.lt_of_lt_of_le hlt1 hb2.size
      have hb3 : Below w2.heap.size w2 (w2.alloc (.cells #[.int .i64 0, .int .i64 0, .slice none 0 0, .int .i64 0, .slice none 0 0, .slice none 0 0] 27)) := (Below.refl _ _).alloc (Nat.le_refl _) _
      have k6 := Lib.hid (alloc6 w2 (.int .i64 0) (.int .i64 0) (.slice none 0 0) (.int .i64 0) (.slice none 0 0) (.slice none 0 0) 27)
      obtain ⟨X3, hX3⟩ : ∃ X3, X3 = w2.alloc (.cells #[.int .i64 0, .int .i64 0, .slice none 0 0, .int .i64 0, .slice none 0 0, .slice none 0 0] 27) := ⟨_, rfl⟩
      have hlt3 : w2.heap.size < X3.heap.size := by rw [hX3]; simp
      rw [← hX3] at hb3 k6
      replace hX3 := Lib.hid hX3
      have hB3 := hB2.trans (hb3.mono hB2.size)
      clear q0 q1 q2 q3 q4 q5
      obtain ⟨q0, q1, q2, q3, q4, q5⟩ := kk2.out
      go_wp2_with (fail)
      rw [← hX3.out]
      (with_reducible refine (hC X3 ((hr.below hB3).more hB3.size) ((hr1.below hB3).more hB3.size) ((hr2.below hB3).more hB3.size)).out.mono ?_)
      rintro e w4 ⟨rfl, hb4⟩
      have k64 := Lib.hid (keep6 hb4 hlt3 k6.out)
      have hb24 := hb3.trans (hb4.mono hb3.size)
      have hB4 := hB3.trans (hb4.mono hB3.size)
      have kk4 := Lib.hid (keep6 hb24 hlt2 kk2.out)
      have hlt4 : w.heap.size < w4.heap.size := Nat.lt_of_lt_of_le hlt2 hb24.size
      have hlt24 : w2.heap.size < w4.heap.size := Nat.lt_of_lt_of_le hlt3 hb4.size
      clear q0 q1 q2 q3 q4 q5
      obtain ⟨q0, q1, q2, q3, q4, q5⟩ := k64.out
      clear q0 q1 q2 q3 q4 q5
      obtain ⟨q0, q1, q2, q3, q4, q5⟩ := kk4.out
      go_wp2_with (fail)
      (with_reducible refine (hIx w4).out.mono ?_)
      rintro e w6 ⟨rfl, hb6⟩
      have kk6 := Lib.hid (keep6 hb6 hlt4 kk4.out)
      have k66 := Lib.hid (keep6 hb6 hlt24 k64.out)
      have hB6 := hB4.trans (hb6.mono hB4.size)
      have hlt6 : w.heap.size < w6.heap.size := Nat.lt_of_lt_of_le hlt4 hb6.size
      have hlt26 : w2.heap.size < w6.heap.size := Nat.lt_of_lt_of_le hlt24 hb6.size
      clear q0 q1 q2 q3 q4 q5
      obtain ⟨q0, q1, q2, q3, q4, q5⟩ := kk6.out
      go_wp2_with (fail)
      (with_reducible refine (hIy w6).out.mono ?_)
      rintro e w7 ⟨rfl, hb7⟩
      have kk7 := Lib.hid (keep6 hb7 hlt6 kk6.out)
      have k67 := Lib.hid (keep6 hb7 hlt26 k66.out)
      have hB7 := hB6.trans (hb7.mono hB6.size)
      have hlt7 : w.heap.size < w7.heap.size := Nat.lt_of_lt_of_le hlt6 hb7.size
      have hlt27 : w2.heap.size < w7.heap.size := Nat.lt_of_lt_of_le hlt26 hb7.size
      clear q0 q1 q2 q3 q4 q5
      obtain ⟨q0, q1, q2, q3, q4, q5⟩ := k67.out
      go_wp2_with (fail)
      (with_reducible refine (hZ0 w7).out.mono ?_)
      rintro e w5 ⟨rfl, hb5⟩
      go_wp2_with (fail)
      go_ret
      exact ⟨by simp, hB7.trans (hb5.mono hB7.size)⟩
    have hib2 : decide (0 ≤ y ∧ y < (D.q : Int)) = true := Bool.not_eq_false _ ▸ hib
    rw [hib2] at hIy
    replace hIy := fun W => Lib.hid (hIy W)
    by_cases ha0 : x = 0
    · have haff : affErr D K pts mul x y = 7 := by unfold affErr; rw [if_neg (fun h => h hg0), if_neg hia, if_neg hib, if_pos ha0]
      rw [haff]
      clear haff hg0 hne hia hib hia2 hib2
      subst ha0
      have hB2 := hB1.trans (hb2.mono hB1.size)
      have kk2 := Lib.hid (keep6 hb2 hlt1 kk1.out)
      have hlt2 : w.heap.size < w2.heap.size := Nat.lt_of_lt_of_le hlt1 hb2.size
      have hb3 : Below w2.heap.size w2 (w2.alloc (.cells #[.int .i64 0, .int .i64 0, .slice none 0 0, .int .i64 0, .slice none 0 0, .slice none 0 0] 27)) := (Below.refl _ _).alloc (Nat.le_refl _) _
      have k6 := Lib.hid (alloc6 w2 (.int .i64 0) (.int .i64 0) (.slice none 0 0) (.int .i64 0) (.slice none 0 0) (.slice none 0 0) 27)
      obtain ⟨X3, hX3⟩ : ∃ X3, X3 = w2.alloc (.cells #[.int .i64 0, .int .i64 0, .slice none 0 0, .int .i64 0, .slice none 0 0, .slice none 0 0] 27) := ⟨_, rfl⟩
      have hlt3 : w2.heap.size < X3.heap.size := by rw [hX3]; simp
      rw [← hX3] at hb3 k6
      replace hX3 := Lib.hid hX3
      have hB3 := hB2.trans (hb3.mono hB2.size)
      clear q0 q1 q2 q3 q4 q5
      obtain ⟨q0, q1, q2, q3, q4, q5⟩ := kk2.out
      go_wp2_with (fail)
      rw [← hX3.out]
      (with_reducible refine (hC X3 ((hr.below hB3).more hB3.size) ((hr1.below hB3).more hB3.size) ((hr2.below hB3).more hB3.size)).out.mono ?_)
      rintro e w4 ⟨rfl, hb4⟩
      have k64 := Lib.hid (keep6 hb4 hlt3 k6.out)
      have hb24 := hb3.trans (hb4.mono hb3.size)
      have hB4 := hB3.trans (hb4.mono hB3.size)
      have kk4 := Lib.hid (keep6 hb24 hlt2 kk2.out)
      have hlt4 : w.heap.size < w4.heap.size := Nat.lt_of_lt_of_le hlt2 hb24.size
      have hlt24 : w2.heap.size < w4.heap.size := Nat.lt_of_lt_of_le hlt3 hb4.size
      clear q0 q1 q2 q3 q4 q5
      obtain ⟨q0, q1, q2, q3, q4, q5⟩ := k64.out
      clear q0 q1 q2 q3 q4 q5
      obtain ⟨q0, q1, q2, q3, q4, q5⟩ := kk4.out
      go_wp2_with (fail)
      (with_reducible refine (hIx w4).out.mono ?_)
      rintro e w6 ⟨rfl, hb6⟩
      have kk6 := Lib.hid (keep6 hb6 hlt4 kk4.out)
      have k66 := Lib.hid (keep6 hb6 hlt24 k64.out)
      have hB6 := hB4.trans (hb6.mono hB4.size)
      have hlt6 : w.heap.size < w6.heap.size := Nat.lt_of_lt_of_le hlt4 hb6.size
      have hlt26 : w2.heap.size < w6.heap.size := Nat.lt_of_lt_of_le hlt24 hb6.size
      clear q0 q1 q2 q3 q4 q5
      obtain ⟨q0, q1, q2, q3, q4, q5⟩ := kk6.out
      go_wp2_with (fail)
      (with_reducible refine (hIy w6).out.mono ?_)
      rintro e w7 ⟨rfl, hb7⟩
      have kk7 := Lib.hid (keep6 hb7 hlt6 kk6.out)
      have k67 := Lib.hid (keep6 hb7 hlt26 k66.out)
      have hB7 := hB6.trans (hb7.mono hB6.size)
      have hlt7 : w.heap.size < w7.heap.size := Nat.lt_of_lt_of_le hlt6 hb7.size
      have hlt27 : w2.heap.size < w7.heap.size := Nat.lt_of_lt_of_le hlt26 hb7.size
      clear q0 q1 q2 q3 q4 q5
      obtain ⟨q0, q1, q2, q3, q4, q5⟩ := k67.out
      go_wp2_with (fail)
      (with_reducible refine (hZ0 w7).out.mono ?_)
      rintro e w5 ⟨rfl, hb5⟩
      go_wp2_with (fail)
      go_ret
      exact ⟨by simp, hB7.trans (hb5.mono hB7.size)⟩
    · exact absurd (show affErr D K pts mul x y = 0 from by unfold affErr; rw [if_neg (fun h => h hg0), if_neg hia, if_neg hib, if_neg ha0]) hne
  obtain ⟨hg0, hia, hib, hx0⟩ := affErr_zero hz
  obtain ⟨hp1, hp64, hlen, -, -, -, -, hK0, hKn⟩ := gchkD_zero hg0
  obtain ⟨kn, rfl⟩ : ∃ kn : Nat, K = kn := ⟨K.toNat, by omega⟩
  have hxn : eli D x ≠ 0 := eli_ne (by simpa using hia) hx0
  have ha0b : (x == 0) = false := by rw [beq_eq_false_iff_ne]; exact hx0
  rw [hg0] at hC
  rw [hia] at hIx
  rw [hib] at hIy
  replace hIx := fun W => Lib.hid (hIx W)
  replace hIy := fun W => Lib.hid (hIy W)
  have hE := fun W a b d => gCode_D D kn (affL D x y pts) mul A3 A4 A5 c3 c4 c5 W a hbH.out b d (by rw [affL_length]; exact hc4) hc4' (Nat.le_trans h2.1 h2.2)
  unfold GCodePost at hE
  rw [affL_length] at hE
  replace hE := fun W a b d => Lib.hid (hE W a b d)
  have hB2 := hB1.trans (hb2.mono hB1.size)
  have kk2 := Lib.hid (keep6 hb2 hlt1 kk1.out)
  have hlt2 : w.heap.size < w2.heap.size := Nat.lt_of_lt_of_le hlt1 hb2.size
  obtain ⟨X3, hX3⟩ : ∃ X3, X3 = w2.alloc (.cells #[.int .i64 D.p, .int .i64 D.m, .slice A3 D.mod.length c3, .int .i64 (kn : Int), .slice A4 pts.length c4, .slice A5 mul.length c5] 27) := ⟨_, rfl⟩
  have hb3 : Below w2.heap.size w2 X3 := by rw [hX3]; exact (Below.refl _ _).alloc (Nat.le_refl _) _
  have k6 := alloc6 w2 (.int .i64 D.p) (.int .i64 D.m) (.slice A3 D.mod.length c3) (.int .i64 (kn : Int)) (.slice A4 pts.length c4) (.slice A5 mul.length c5) 27
  have hlt3 : w2.heap.size < X3.heap.size := by rw [hX3]; simp
  rw [← hX3] at k6
  replace hX3 := Lib.hid hX3
  replace k6 := Lib.hid k6
  have hB3 := hB2.trans (hb3.mono hB2.size)
  have hg0H := Lib.hid hg0
  replace hlen := Lib.hid hlen
  replace hxn := Lib.hid hxn
  clear q0 q1 q2 q3 q4 q5 hz hg0 hia hib hx0
  obtain ⟨q0, q1, q2, q3, q4, q5⟩ := kk2.out
  go_wp2_with (fail)
  rw [← hX3.out]
  (with_reducible refine (hC X3 ((hr.below hB3).more hB3.size) ((hr1.below hB3).more hB3.size) ((hr2.below hB3).more hB3.size)).out.mono ?_)
  rintro e w4 ⟨rfl, hb4⟩
  have k64 := Lib.hid (keep6 hb4 hlt3 k6.out)
  have hb24 := hb3.trans (hb4.mono hb3.size)
  have hB4 := hB3.trans (hb4.mono hB3.size)
  have kk4 := Lib.hid (keep6 hb24 hlt2 kk2.out)
  have hlt4 : w.heap.size < w4.heap.size := Nat.lt_of_lt_of_le hlt2 hb24.size
  have hlt24 : w2.heap.size < w4.heap.size := Nat.lt_of_lt_of_le hlt3 hb4.size
  clear q0 q1 q2 q3 q4 q5
  obtain ⟨q0, q1, q2, q3, q4, q5⟩ := kk4.out
  go_wp2_with (fail)
  (with_reducible refine (hIx w4).out.mono ?_)
  rintro e w6 ⟨rfl, hb6⟩
  have kk6 := Lib.hid (keep6 hb6 hlt4 kk4.out)
  have k66 := Lib.hid (keep6 hb6 hlt24 k64.out)
  have hB6 := hB4.trans (hb6.mono hB4.size)
  have hlt6 : w.heap.size < w6.heap.size := Nat.lt_of_lt_of_le hlt4 hb6.size
  have hlt26 : w2.heap.size < w6.heap.size := Nat.lt_of_lt_of_le hlt24 hb6.size
  clear q0 q1 q2 q3 q4 q5
  obtain ⟨q0, q1, q2, q3, q4, q5⟩ := kk6.out
  go_wp2_with (fail)
  (with_reducible refine (hIy w6).out.mono ?_)
  rintro e w7 ⟨rfl, hb7⟩
  have kk7 := Lib.hid (keep6 hb7 hlt6 kk6.out)
  have k67 := Lib.hid (keep6 hb7 hlt26 k66.out)
  have hB7 := hB6.trans (hb7.mono hB6.size)
  have hlt7 : w.heap.size < w7.heap.size := Nat.lt_of_lt_of_le hlt6 hb7.size
  have hlt27 : w2.heap.size < w7.heap.size := Nat.lt_of_lt_of_le hlt26 hb7.size
  clear q0 q1 q2 q3 q4 q5
  have hb27 := hb24.trans ((hb6.trans (hb7.mono hb6.size)).mono hb24.size)
  obtain ⟨q0, q1, q2, q3, q4, q5⟩ := kk7.out
  have hb8 : Below w7.heap.size w7 (w7.alloc (.cells #[.int .i64 D.p, .int .i64 D.m, .slice A D.mod.length c, .int .i64 (kn : Int), .slice none 0 0, .slice A2 mul.length c2] 27)) := (Below.refl _ _).alloc (Nat.le_refl _) _
  have kq := keep6 hb8 hlt7 kk7.out
  have x8 := Six.new w7 (.int .i64 D.p) (.int .i64 D.m) (.slice A D.mod.length c) (.int .i64 (kn : Int)) (.slice none 0 0) (.slice A2 mul.length c2) 27
  have hlt8 : w7.heap.size < (w7.alloc (.cells #[.int .i64 D.p, .int .i64 D.m, .slice A D.mod.length c, .int .i64 (kn : Int), .slice none 0 0, .slice A2 mul.length c2] 27)).heap.size := by rw [World.size_alloc]; exact Nat.lt_succ_self _
  obtain ⟨X8, hX8⟩ : ∃ X8, X8 = (w7.alloc (.cells #[.int .i64 D.p, .int .i64 D.m, .slice A D.mod.length c, .int .i64 (kn : Int), .slice none 0 0, .slice A2 mul.length c2] 27)) := ⟨_, rfl⟩
  rw [← hX8] at hb8 x8 hlt8
  replace hX8 := Lib.hid hX8
  replace x8 := Lib.hid x8
  obtain ⟨s0, s1, s2, s3, s4, s5⟩ := kq
  go_wp2_with (fail)
  rw [← hX8.out]
  clear q0 q1 q2 q3 q4 q5 s0 s1 s2 s3 s4 s5
  go_loopw [72] (fun i wr => ∃ (k : Nat) (v : Value), k ≤ pts.length ∧ i = .int .i64 k ∧ Hid (Six wr w7.heap.size (.int .i64 D.p) (.int .i64 D.m) (.slice A D.mod.length c) (.int .i64 (kn : Int)) v (.slice A2 mul.length c2)) ∧ Hid (Own wr (w7.heap.size + 1) v (lst k (affV D x y pts))) ∧ Below w7.heap.size w7 wr ∧ w7.heap.size < wr.heap.size) (fun i _ => pts.length - (intOf i).toNat)
  case atStart => exact ⟨0, _, by omega, rfl, x8, Own.nil _ _, hb8, hlt8⟩
  case round =>
    obtain ⟨k, v, hk, rfl, x9, ho9, hbw, hlt9⟩ := hrel
    obtain ⟨w9, rfl⟩ : ∃ w9 : World, w9 = wr := ⟨_, rfl⟩
    have hB9 := hB7.trans (hbw.mono hB7.size)
    have kk9 := Lib.hid (keep6 hbw hlt7 kk7.out)
    have hls9 : w.heap.size < w9.heap.size := Nat.lt_of_lt_of_le hlt7 hbw.size
    clear x8 hb8 hlt8
    by_cases hkn : k < pts.length
    · obtain ⟨b1, o1, rfl, hbb1, hc1⟩ := hr1.at_ hkn
      have hd1 := (hB9.cell (p := ⟨b1, o1 + k, none⟩) hbb1).trans hc1
      obtain ⟨xk, hxk⟩ : ∃ xk, xk = pts[k]?.getD 0 := ⟨_, rfl⟩
      rw [← hxk] at hd1
      have hk0 : (0 : Int) ≤ (k : Int) := by omega
      have hk1 : (k : Int) < (pts.length : Int) := by omega
      obtain ⟨dv, hdv⟩ : ∃ dv, dv = affV D x y pts k := ⟨_, rfl⟩
      have hM9 := Lib.hid (Mul_any D x xk A c w9.drew ((hr.below hB9).more hB9.size).drew)
      have hAd := fun W => Add_any D (ci (eli D x * eli D xk)) y A D.mod.length c W
      have hdv2 : ci (eli D x * eli D xk + eli D y) = dv := by rw [hdv, hxk]; rfl
      rw [eli_ci, hdv2] at hAd
      replace hAd := fun W => Lib.hid (hAd W)
      replace hdv := Lib.hid hdv
      replace hxk := Lib.hid hxk
      have hu9 : w9.cell? ⟨w7.heap.size, 4, none⟩ = some v := x9.out.2.2.2.2.1
      have hle : (lst k (affV D x y pts)).length + [dv].length ≤ 1000000000 := by rw [lst_length]; simp; omega
      clear hc1 hdv2
      obtain ⟨q0, q1, q2, q3, q4, q5⟩ := kk9.out
      go_wp2_with (fail)
      clear q0 q1 q2 q3 q4 q5 hd1
      refine wp_region_held_drew (S := fun w' => w'.cell? ⟨w.heap.size, 0, none⟩ = some (.int .i64 D.p) ∧ w'.cell? ⟨w.heap.size, 1, none⟩ = some (.int .i64 D.m) ∧ w'.cell? ⟨w.heap.size, 2, none⟩ = some (.slice A D.mod.length c) ∧ w'.cell? ⟨w.heap.size, 3, none⟩ = some (.int .i64 (kn : Int)) ∧ w'.cell? ⟨w.heap.size, 4, none⟩ = some (.slice (some ⟨b1, o1, none⟩) pts.length c1) ∧ w'.cell? ⟨w.heap.size, 5, none⟩ = some (.slice A2 mul.length c2)) (by kernel_rfl) (by (try dsimp only); exact kk9.out) (fun hHeld => ?_)
      refine wpAnyH_take (i := 0) (oi := ⟨_, _, _, _, _, _⟩) (v := ?_) rfl (by kernel_rfl) (by kernel_rfl) (by kernel_rfl) (fun _ _ _ h => h) (Or.inl ⟨by rfl, ?_⟩) (by assumption) ?_
      rotate_left
      · intro w hSw; (try dsimp only at hSw); go_simp; try with_reducible rfl
      try simp only [Act.put, List.setIfInBounds_toArray, List.set_cons_zero, List.set_cons_succ]
      refine wpAnyH_take (i := 2) (oi := ⟨_, _, _, _, _, _⟩) (v := ?_) rfl (by kernel_rfl) (by kernel_rfl) (by kernel_rfl) (fun _ _ _ h => h) (Or.inl ⟨by rfl, ?_⟩) (by assumption) ?_
      rotate_left
      · intro w hSw; (try dsimp only at hSw); go_simp; try with_reducible rfl
      try simp only [Act.put, List.setIfInBounds_toArray, List.set_cons_zero, List.set_cons_succ]
      refine wpAnyH_take (i := 3) (oi := ⟨_, _, _, _, _, _⟩) (v := ?_) rfl (by kernel_rfl) (by kernel_rfl) (by kernel_rfl) (fun _ _ _ h => h) (Or.inl ⟨by rfl, ?_⟩) (by assumption) ?_
      rotate_left
      · intro w hSw; (try dsimp only at hSw); go_simp; try with_reducible rfl
      try simp only [Act.put, List.setIfInBounds_toArray, List.set_cons_zero, List.set_cons_succ]
      refine wpAnyH_take (i := 4) (oi := ⟨_, _, _, _, _, _⟩) (v := ?_) rfl (by kernel_rfl) (by kernel_rfl) (by kernel_rfl) (fun _ _ _ h => h) (Or.inl ⟨by rfl, ?_⟩) (by assumption) ?_
      rotate_left
      · intro w hSw; (try dsimp only at hSw); go_simp; try with_reducible rfl
      try simp only [Act.put, List.setIfInBounds_toArray, List.set_cons_zero, List.set_cons_succ]
      refine wpAnyH_take (i := 5) (oi := ⟨_, _, _, _, _, _⟩) (v := ?_) rfl (by kernel_rfl) (by kernel_rfl) (by kernel_rfl) (fun _ _ _ h => h) (Or.inl ⟨by rfl, ?_⟩) (by assumption) ?_
      rotate_left
      · intro w hSw; (try dsimp only at hSw); go_simp; try with_reducible rfl
      try simp only [Act.put, List.setIfInBounds_toArray, List.set_cons_zero, List.set_cons_succ]
      refine wpAnyH_take (i := 6) (oi := ⟨_, _, _, _, _, _⟩) (v := ?_) rfl (by kernel_rfl) (by kernel_rfl) (by kernel_rfl) (fun _ _ _ h => h) (Or.inl ⟨by rfl, ?_⟩) (by assumption) ?_
      rotate_left
      · intro w hSw; (try dsimp only at hSw); go_simp; try with_reducible rfl
      try simp only [Act.put, List.setIfInBounds_toArray, List.set_cons_zero, List.set_cons_succ]
      refine wpAnyH_take (i := 7) (oi := ⟨_, _, _, _, _, _⟩) (v := ?_) rfl (by kernel_rfl) (by kernel_rfl) (by kernel_rfl) (fun _ _ _ h => h) (Or.inl ⟨by rfl, ?_⟩) (by assumption) ?_
      rotate_left
      · intro w hSw; (try dsimp only at hSw); go_simp; try with_reducible rfl
      try simp only [Act.put, List.setIfInBounds_toArray, List.set_cons_zero, List.set_cons_succ]
      refine wpAnyH_take (i := 9) (oi := ⟨_, _, _, _, _, _⟩) (v := ?_) rfl (by kernel_rfl) (by kernel_rfl) (by kernel_rfl) (fun _ _ _ h => h) (Or.inl ⟨by rfl, ?_⟩) (by assumption) ?_
      rotate_left
      · intro w hSw; (try dsimp only at hSw); go_simp; try with_reducible rfl
      try simp only [Act.put, List.setIfInBounds_toArray, List.set_cons_zero, List.set_cons_succ]
      refine wpAnyH_ready (rs := [1, 8]) (by kernel_rfl) (by simp) ?_
      refine AllReadyH.cons (o := ⟨_, _, _, _, _, _⟩) rfl (fun K hK => ?_) ?_
      · go_simp
        refine hK.out _ _ (by (try dsimp only); first | exact kk12.out | exact kk11.out | exact kk10.out | exact kk9.out) (fun hHeld => ?_)
        clear hK K
        try simp only [Act.put, List.setIfInBounds_toArray, List.set_cons_zero, List.set_cons_succ]
        refine wpAnyH_ready (rs := [8]) (by kernel_rfl) (by simp) ?_
        refine AllReadyH.cons (o := ⟨_, _, _, _, _, _⟩) rfl (fun K hK => ?_) AllReadyH.nil
        go_simp
        go_at_call 47
        (with_reducible refine (hM9).out.mono ?_)
        rintro e w10 ⟨rfl, hb10⟩
        have hs10 : w9.heap.size ≤ w10.heap.size := hb10.size
        have kk10 := Lib.hid (keep6 hb10 hls9 kk9.out)
        have hu10 := (hb10.cell (p := ⟨w7.heap.size, 4, none⟩) hlt9).trans hu9
        go_wp2_with (fail)
        refine hK.out _ _ (by (try dsimp only); exact kk10.out) (fun hHeld => ?_)
        clear hK K
        try simp only [Act.put, List.setIfInBounds_toArray, List.set_cons_zero, List.set_cons_succ]
        refine wpAnyH_ready (rs := [10]) (by kernel_rfl) (by simp) ?_
        refine AllReadyH.cons (o := ⟨_, _, _, _, _, _⟩) rfl (fun K hK => ?_) AllReadyH.nil
        go_simp
        go_at_call 46
        (with_reducible refine (hAd w10).out.mono ?_)
        rintro e w11 ⟨rfl, hb11⟩
        have hs11 : w9.heap.size ≤ w11.heap.size := Nat.le_trans hs10 hb11.size
        have kk11 := Lib.hid (keep6 hb11 (Nat.lt_of_lt_of_le hls9 hs10) kk10.out)
        have hu11 := (hb11.cell (p := ⟨w7.heap.size, 4, none⟩) (Nat.lt_of_lt_of_le hlt9 hs10)).trans hu10
        have hb911 : Below w9.heap.size w9 w11 := (Below.refl _ w9).drew.trans (hb10.trans (hb11.mono hs10))
        have hl11 : w7.heap.size < w11.heap.size := Nat.lt_of_lt_of_le hlt9 hs11
        have hb12 : Below w11.heap.size w11 (w11.alloc (.cells #[.int .i64 dv] 3)) := (Below.refl _ _).alloc (Nat.le_refl _) _
        have kk12 := Lib.hid (keep6 hb12 (Nat.lt_of_lt_of_le hls9 hs11) kk11.out)
        have hu12 := (hb12.cell (p := ⟨w7.heap.size, 4, none⟩) hl11).trans hu11
        have hb912 := hb911.trans (hb12.mono hs11)
        have ho12 := ho9.out.below hb912 (Nat.le_refl _)
        have x12 := x9.out.keep hb912 hlt9
        have hl12 : w7.heap.size + 1 ≤ (w11.alloc (.cells #[.int .i64 dv] 3)).heap.size := Nat.le_trans hl11 hb12.size
        go_wp2_with (fail)
        refine hK.out _ _ (by (try dsimp only); exact kk11.out) (fun hHeld => ?_)
        clear hK K
        try simp only [Act.put, List.setIfInBounds_toArray, List.set_cons_zero, List.set_cons_succ]
        refine wpAnyH_ready (rs := [11]) (by kernel_rfl) (by simp) ?_
        refine AllReadyH.cons (o := ⟨_, _, _, _, _, _⟩) rfl (fun K hK => ?_) AllReadyH.nil
        go_simp
        refine hK.out _ _ (by (try dsimp only); exact kk12.out) (fun hHeld => ?_)
        clear hK K
        try simp only [Act.put, List.setIfInBounds_toArray, List.set_cons_zero, List.set_cons_succ]
        refine wpAnyH_ready (rs := [12]) (by kernel_rfl) (by simp) ?_
        refine AllReadyH.cons (o := ⟨_, _, _, _, _, _⟩) rfl (fun K hK => ?_) AllReadyH.nil
        refine step_appN (n2 := 1) rfl (.tmp 77) (.tmp 87) rfl (w7.heap.size + 1) v (lst k (affV D x y pts)) (w11.heap.size + 1) (some ⟨w11.heap.size, 0, none⟩) 1 [dv] ho12 (cell1_rd w11 dv) (by rfl) (by rfl) (by rfl) hle hl12 ?_
        intro v13 w13 ho13 hb13 _ _
        obtain ⟨A13, c13, hv13, -, -, -⟩ := ho13.form
        rw [List.length_append, lst_length, List.length_singleton] at hv13
        subst hv13
        have kk13 := Lib.hid (keep6 hb13 (Nat.lt_succ_of_lt hlt7) kk12.out)
        have x13 := x12.keep hb13 (Nat.lt_succ_self _)
        have x14 := Lib.hid (x13.set4 (.slice A13 (k + 1) c13))
        obtain ⟨u0, u1, u2, u3, u4, u5, f0, f1, f2, f3, f4, f5⟩ := x13
        have hb14 : Below w7.heap.size w13 (w13.setCell ⟨w7.heap.size, 4, none⟩ (.slice A13 (k + 1) c13)) := (Below.refl _ w13).setCell (p := ⟨w7.heap.size, 4, none⟩) (Nat.le_refl _) _
        have kk14 := Lib.hid (keep6 hb14 hlt7 kk13.out)
        refine hK.out _ _ (by (try dsimp only); exact kk13.out) (fun hHeld => ?_)
        clear hK K
        try simp only [Act.put, List.setIfInBounds_toArray, List.set_cons_zero, List.set_cons_succ]
        refine wpAnyH_take (i := 13) (oi := ⟨_, _, _, _, _, _⟩) (v := ?_) rfl (by kernel_rfl) (by kernel_rfl) (by kernel_rfl) (fun _ _ _ h => h) (Or.inl ⟨by rfl, ?_⟩) (by assumption) ?_
        rotate_left
        · intro w hSw; (try dsimp only at hSw); go_simp; try with_reducible rfl
        try simp only [Act.put, List.setIfInBounds_toArray, List.set_cons_zero, List.set_cons_succ]
        refine wpAnyH_ready (rs := [14]) (by kernel_rfl) (by simp) ?_
        refine AllReadyH.cons (o := ⟨_, _, _, _, _, _⟩) rfl (fun K hK => ?_) AllReadyH.nil
        go_simp
        refine hK.out _ _ (by (try dsimp only); exact kk14.out) (fun hHeld => ?_)
        clear hK K
        try simp only [Act.put, List.setIfInBounds_toArray, List.set_cons_zero, List.set_cons_succ]
        refine wpAnyH_done (by kernel_rfl) ?_ _
        have ho14 := ho13.farB 4 (.slice A13 (k + 1) c13)
        rw [hdv.out, ← lst_succ] at ho14
        go_wp2_with (fail)
        go_roundw
        case rel => exact ⟨k + 1, _, by omega, by go_num, x14, ho14, (hbw.trans ((hb912.mono hbw.size).trans (hb13.mono (Nat.le_succ _)))).trans hb14, Nat.lt_of_lt_of_le (Nat.lt_of_succ_le hl12) (Nat.le_trans hb13.size (grown_set _ _ _).size)⟩
        case measure => simp [intOf]; omega
      refine AllReadyH.cons (o := ⟨_, _, _, _, _, _⟩) rfl (fun K hK => ?_) AllReadyH.nil
      go_simp
      go_at_call 47
      (with_reducible refine (hM9).out.mono ?_)
      rintro e w10 ⟨rfl, hb10⟩
      have hs10 : w9.heap.size ≤ w10.heap.size := hb10.size
      have kk10 := Lib.hid (keep6 hb10 hls9 kk9.out)
      have hu10 := (hb10.cell (p := ⟨w7.heap.size, 4, none⟩) hlt9).trans hu9
      go_wp2_with (fail)
      refine hK.out _ _ (by (try dsimp only); exact kk10.out) (fun hHeld => ?_)
      clear hK K
      try simp only [Act.put, List.setIfInBounds_toArray, List.set_cons_zero, List.set_cons_succ]
      refine wpAnyH_ready (rs := [1, 10]) (by kernel_rfl) (by simp) ?_
      refine AllReadyH.cons (o := ⟨_, _, _, _, _, _⟩) rfl (fun K hK => ?_) ?_
      · go_simp
        refine hK.out _ _ (by (try dsimp only); first | exact kk12.out | exact kk11.out | exact kk10.out | exact kk9.out) (fun hHeld => ?_)
        clear hK K
        try simp only [Act.put, List.setIfInBounds_toArray, List.set_cons_zero, List.set_cons_succ]
        refine wpAnyH_ready (rs := [10]) (by kernel_rfl) (by simp) ?_
        refine AllReadyH.cons (o := ⟨_, _, _, _, _, _⟩) rfl (fun K hK => ?_) AllReadyH.nil
        go_simp
        go_at_call 46
        (with_reducible refine (hAd w10).out.mono ?_)
        rintro e w11 ⟨rfl, hb11⟩
        have hs11 : w9.heap.size ≤ w11.heap.size := Nat.le_trans hs10 hb11.size
        have kk11 := Lib.hid (keep6 hb11 (Nat.lt_of_lt_of_le hls9 hs10) kk10.out)
        have hu11 := (hb11.cell (p := ⟨w7.heap.size, 4, none⟩) (Nat.lt_of_lt_of_le hlt9 hs10)).trans hu10
        have hb911 : Below w9.heap.size w9 w11 := (Below.refl _ w9).drew.trans (hb10.trans (hb11.mono hs10))
        have hl11 : w7.heap.size < w11.heap.size := Nat.lt_of_lt_of_le hlt9 hs11
        have hb12 : Below w11.heap.size w11 (w11.alloc (.cells #[.int .i64 dv] 3)) := (Below.refl _ _).alloc (Nat.le_refl _) _
        have kk12 := Lib.hid (keep6 hb12 (Nat.lt_of_lt_of_le hls9 hs11) kk11.out)
        have hu12 := (hb12.cell (p := ⟨w7.heap.size, 4, none⟩) hl11).trans hu11
        have hb912 := hb911.trans (hb12.mono hs11)
        have ho12 := ho9.out.below hb912 (Nat.le_refl _)
        have x12 := x9.out.keep hb912 hlt9
        have hl12 : w7.heap.size + 1 ≤ (w11.alloc (.cells #[.int .i64 dv] 3)).heap.size := Nat.le_trans hl11 hb12.size
        go_wp2_with (fail)
        refine hK.out _ _ (by (try dsimp only); exact kk11.out) (fun hHeld => ?_)
        clear hK K
        try simp only [Act.put, List.setIfInBounds_toArray, List.set_cons_zero, List.set_cons_succ]
        refine wpAnyH_ready (rs := [11]) (by kernel_rfl) (by simp) ?_
        refine AllReadyH.cons (o := ⟨_, _, _, _, _, _⟩) rfl (fun K hK => ?_) AllReadyH.nil
        go_simp
        refine hK.out _ _ (by (try dsimp only); exact kk12.out) (fun hHeld => ?_)
        clear hK K
        try simp only [Act.put, List.setIfInBounds_toArray, List.set_cons_zero, List.set_cons_succ]
        refine wpAnyH_ready (rs := [12]) (by kernel_rfl) (by simp) ?_
        refine AllReadyH.cons (o := ⟨_, _, _, _, _, _⟩) rfl (fun K hK => ?_) AllReadyH.nil
        refine step_appN (n2 := 1) rfl (.tmp 77) (.tmp 87) rfl (w7.heap.size + 1) v (lst k (affV D x y pts)) (w11.heap.size + 1) (some ⟨w11.heap.size, 0, none⟩) 1 [dv] ho12 (cell1_rd w11 dv) (by rfl) (by rfl) (by rfl) hle hl12 ?_
        intro v13 w13 ho13 hb13 _ _
        obtain ⟨A13, c13, hv13, -, -, -⟩ := ho13.form
        rw [List.length_append, lst_length, List.length_singleton] at hv13
        subst hv13
        have kk13 := Lib.hid (keep6 hb13 (Nat.lt_succ_of_lt hlt7) kk12.out)
        have x13 := x12.keep hb13 (Nat.lt_succ_self _)
        have x14 := Lib.hid (x13.set4 (.slice A13 (k + 1) c13))
        obtain ⟨u0, u1, u2, u3, u4, u5, f0, f1, f2, f3, f4, f5⟩ := x13
        have hb14 : Below w7.heap.size w13 (w13.setCell ⟨w7.heap.size, 4, none⟩ (.slice A13 (k + 1) c13)) := (Below.refl _ w13).setCell (p := ⟨w7.heap.size, 4, none⟩) (Nat.le_refl _) _
        have kk14 := Lib.hid (keep6 hb14 hlt7 kk13.out)
        refine hK.out _ _ (by (try dsimp only); exact kk13.out) (fun hHeld => ?_)
        clear hK K
        try simp only [Act.put, List.setIfInBounds_toArray, List.set_cons_zero, List.set_cons_succ]
        refine wpAnyH_take (i := 13) (oi := ⟨_, _, _, _, _, _⟩) (v := ?_) rfl (by kernel_rfl) (by kernel_rfl) (by kernel_rfl) (fun _ _ _ h => h) (Or.inl ⟨by rfl, ?_⟩) (by assumption) ?_
        rotate_left
        · intro w hSw; (try dsimp only at hSw); go_simp; try with_reducible rfl
        try simp only [Act.put, List.setIfInBounds_toArray, List.set_cons_zero, List.set_cons_succ]
        refine wpAnyH_ready (rs := [14]) (by kernel_rfl) (by simp) ?_
        refine AllReadyH.cons (o := ⟨_, _, _, _, _, _⟩) rfl (fun K hK => ?_) AllReadyH.nil
        go_simp
        refine hK.out _ _ (by (try dsimp only); exact kk14.out) (fun hHeld => ?_)
        clear hK K
        try simp only [Act.put, List.setIfInBounds_toArray, List.set_cons_zero, List.set_cons_succ]
        refine wpAnyH_done (by kernel_rfl) ?_ _
        have ho14 := ho13.farB 4 (.slice A13 (k + 1) c13)
        rw [hdv.out, ← lst_succ] at ho14
        go_wp2_with (fail)
        go_roundw
        case rel => exact ⟨k + 1, _, by omega, by go_num, x14, ho14, (hbw.trans ((hb912.mono hbw.size).trans (hb13.mono (Nat.le_succ _)))).trans hb14, Nat.lt_of_lt_of_le (Nat.lt_of_succ_le hl12) (Nat.le_trans hb13.size (grown_set _ _ _).size)⟩
        case measure => simp [intOf]; omega
      refine AllReadyH.cons (o := ⟨_, _, _, _, _, _⟩) rfl (fun K hK => ?_) AllReadyH.nil
      go_simp
      go_at_call 46
      (with_reducible refine (hAd w10).out.mono ?_)
      rintro e w11 ⟨rfl, hb11⟩
      have hs11 : w9.heap.size ≤ w11.heap.size := Nat.le_trans hs10 hb11.size
      have kk11 := Lib.hid (keep6 hb11 (Nat.lt_of_lt_of_le hls9 hs10) kk10.out)
      have hu11 := (hb11.cell (p := ⟨w7.heap.size, 4, none⟩) (Nat.lt_of_lt_of_le hlt9 hs10)).trans hu10
      have hb911 : Below w9.heap.size w9 w11 := (Below.refl _ w9).drew.trans (hb10.trans (hb11.mono hs10))
      have hl11 : w7.heap.size < w11.heap.size := Nat.lt_of_lt_of_le hlt9 hs11
      have hb12 : Below w11.heap.size w11 (w11.alloc (.cells #[.int .i64 dv] 3)) := (Below.refl _ _).alloc (Nat.le_refl _) _
      have kk12 := Lib.hid (keep6 hb12 (Nat.lt_of_lt_of_le hls9 hs11) kk11.out)
      have hu12 := (hb12.cell (p := ⟨w7.heap.size, 4, none⟩) hl11).trans hu11
      have hb912 := hb911.trans (hb12.mono hs11)
      have ho12 := ho9.out.below hb912 (Nat.le_refl _)
      have x12 := x9.out.keep hb912 hlt9
      have hl12 : w7.heap.size + 1 ≤ (w11.alloc (.cells #[.int .i64 dv] 3)).heap.size := Nat.le_trans hl11 hb12.size
      go_wp2_with (fail)
      refine hK.out _ _ (by (try dsimp only); exact kk11.out) (fun hHeld => ?_)
      clear hK K
      try simp only [Act.put, List.setIfInBounds_toArray, List.set_cons_zero, List.set_cons_succ]
      refine wpAnyH_ready (rs := [1, 11]) (by kernel_rfl) (by simp) ?_
      refine AllReadyH.cons (o := ⟨_, _, _, _, _, _⟩) rfl (fun K hK => ?_) ?_
      · go_simp
        refine hK.out _ _ (by (try dsimp only); first | exact kk12.out | exact kk11.out | exact kk10.out | exact kk9.out) (fun hHeld => ?_)
        clear hK K
        try simp only [Act.put, List.setIfInBounds_toArray, List.set_cons_zero, List.set_cons_succ]
        refine wpAnyH_ready (rs := [11]) (by kernel_rfl) (by simp) ?_
        refine AllReadyH.cons (o := ⟨_, _, _, _, _, _⟩) rfl (fun K hK => ?_) AllReadyH.nil
        go_simp
        refine hK.out _ _ (by (try dsimp only); exact kk12.out) (fun hHeld => ?_)
        clear hK K
        try simp only [Act.put, List.setIfInBounds_toArray, List.set_cons_zero, List.set_cons_succ]
        refine wpAnyH_ready (rs := [12]) (by kernel_rfl) (by simp) ?_
        refine AllReadyH.cons (o := ⟨_, _, _, _, _, _⟩) rfl (fun K hK => ?_) AllReadyH.nil
        refine step_appN (n2 := 1) rfl (.tmp 77) (.tmp 87) rfl (w7.heap.size + 1) v (lst k (affV D x y pts)) (w11.heap.size + 1) (some ⟨w11.heap.size, 0, none⟩) 1 [dv] ho12 (cell1_rd w11 dv) (by rfl) (by rfl) (by rfl) hle hl12 ?_
        intro v13 w13 ho13 hb13 _ _
        obtain ⟨A13, c13, hv13, -, -, -⟩ := ho13.form
        rw [List.length_append, lst_length, List.length_singleton] at hv13
        subst hv13
        have kk13 := Lib.hid (keep6 hb13 (Nat.lt_succ_of_lt hlt7) kk12.out)
        have x13 := x12.keep hb13 (Nat.lt_succ_self _)
        have x14 := Lib.hid (x13.set4 (.slice A13 (k + 1) c13))
        obtain ⟨u0, u1, u2, u3, u4, u5, f0, f1, f2, f3, f4, f5⟩ := x13
        have hb14 : Below w7.heap.size w13 (w13.setCell ⟨w7.heap.size, 4, none⟩ (.slice A13 (k + 1) c13)) := (Below.refl _ w13).setCell (p := ⟨w7.heap.size, 4, none⟩) (Nat.le_refl _) _
        have kk14 := Lib.hid (keep6 hb14 hlt7 kk13.out)
        refine hK.out _ _ (by (try dsimp only); exact kk13.out) (fun hHeld => ?_)
        clear hK K
        try simp only [Act.put, List.setIfInBounds_toArray, List.set_cons_zero, List.set_cons_succ]
        refine wpAnyH_take (i := 13) (oi := ⟨_, _, _, _, _, _⟩) (v := ?_) rfl (by kernel_rfl) (by kernel_rfl) (by kernel_rfl) (fun _ _ _ h => h) (Or.inl ⟨by rfl, ?_⟩) (by assumption) ?_
        rotate_left
        · intro w hSw; (try dsimp only at hSw); go_simp; try with_reducible rfl
        try simp only [Act.put, List.setIfInBounds_toArray, List.set_cons_zero, List.set_cons_succ]
        refine wpAnyH_ready (rs := [14]) (by kernel_rfl) (by simp) ?_
        refine AllReadyH.cons (o := ⟨_, _, _, _, _, _⟩) rfl (fun K hK => ?_) AllReadyH.nil
        go_simp
        refine hK.out _ _ (by (try dsimp only); exact kk14.out) (fun hHeld => ?_)
        clear hK K
        try simp only [Act.put, List.setIfInBounds_toArray, List.set_cons_zero, List.set_cons_succ]
        refine wpAnyH_done (by kernel_rfl) ?_ _
        have ho14 := ho13.farB 4 (.slice A13 (k + 1) c13)
        rw [hdv.out, ← lst_succ] at ho14
        go_wp2_with (fail)
        go_roundw
        case rel => exact ⟨k + 1, _, by omega, by go_num, x14, ho14, (hbw.trans ((hb912.mono hbw.size).trans (hb13.mono (Nat.le_succ _)))).trans hb14, Nat.lt_of_lt_of_le (Nat.lt_of_succ_le hl12) (Nat.le_trans hb13.size (grown_set _ _ _).size)⟩
        case measure => simp [intOf]; omega
      refine AllReadyH.cons (o := ⟨_, _, _, _, _, _⟩) rfl (fun K hK => ?_) AllReadyH.nil
      go_simp
      refine hK.out _ _ (by (try dsimp only); exact kk12.out) (fun hHeld => ?_)
      clear hK K
      try simp only [Act.put, List.setIfInBounds_toArray, List.set_cons_zero, List.set_cons_succ]
      refine wpAnyH_ready (rs := [1]) (by kernel_rfl) (by simp) ?_
      refine AllReadyH.cons (o := ⟨_, _, _, _, _, _⟩) rfl (fun K hK => ?_) AllReadyH.nil
      go_simp
      refine hK.out _ _ (by (try dsimp only); first | exact kk12.out | exact kk11.out | exact kk10.out | exact kk9.out) (fun hHeld => ?_)
      clear hK K
      try simp only [Act.put, List.setIfInBounds_toArray, List.set_cons_zero, List.set_cons_succ]
      refine wpAnyH_ready (rs := [12]) (by kernel_rfl) (by simp) ?_
      refine AllReadyH.cons (o := ⟨_, _, _, _, _, _⟩) rfl (fun K hK => ?_) AllReadyH.nil
      refine step_appN (n2 := 1) rfl (.tmp 77) (.tmp 87) rfl (w7.heap.size + 1) v (lst k (affV D x y pts)) (w11.heap.size + 1) (some ⟨w11.heap.size, 0, none⟩) 1 [dv] ho12 (cell1_rd w11 dv) (by rfl) (by rfl) (by rfl) hle hl12 ?_
      intro v13 w13 ho13 hb13 _ _
      obtain ⟨A13, c13, hv13, -, -, -⟩ := ho13.form
      rw [List.length_append, lst_length, List.length_singleton] at hv13
      subst hv13
      have kk13 := Lib.hid (keep6 hb13 (Nat.lt_succ_of_lt hlt7) kk12.out)
      have x13 := x12.keep hb13 (Nat.lt_succ_self _)
      have x14 := Lib.hid (x13.set4 (.slice A13 (k + 1) c13))
      obtain ⟨u0, u1, u2, u3, u4, u5, f0, f1, f2, f3, f4, f5⟩ := x13
      have hb14 : Below w7.heap.size w13 (w13.setCell ⟨w7.heap.size, 4, none⟩ (.slice A13 (k + 1) c13)) := (Below.refl _ w13).setCell (p := ⟨w7.heap.size, 4, none⟩) (Nat.le_refl _) _
      have kk14 := Lib.hid (keep6 hb14 hlt7 kk13.out)
      refine hK.out _ _ (by (try dsimp only); exact kk13.out) (fun hHeld => ?_)
      clear hK K
      try simp only [Act.put, List.setIfInBounds_toArray, List.set_cons_zero, List.set_cons_succ]
      refine wpAnyH_take (i := 13) (oi := ⟨_, _, _, _, _, _⟩) (v := ?_) rfl (by kernel_rfl) (by kernel_rfl) (by kernel_rfl) (fun _ _ _ h => h) (Or.inl ⟨by rfl, ?_⟩) (by assumption) ?_
      rotate_left
      · intro w hSw; (try dsimp only at hSw); go_simp; try with_reducible rfl
      try simp only [Act.put, List.setIfInBounds_toArray, List.set_cons_zero, List.set_cons_succ]
      refine wpAnyH_ready (rs := [14]) (by kernel_rfl) (by simp) ?_
      refine AllReadyH.cons (o := ⟨_, _, _, _, _, _⟩) rfl (fun K hK => ?_) AllReadyH.nil
      go_simp
      refine hK.out _ _ (by (try dsimp only); exact kk14.out) (fun hHeld => ?_)
      clear hK K
      try simp only [Act.put, List.setIfInBounds_toArray, List.set_cons_zero, List.set_cons_succ]
      refine wpAnyH_done (by kernel_rfl) ?_ _
      have ho14 := ho13.farB 4 (.slice A13 (k + 1) c13)
      rw [hdv.out, ← lst_succ] at ho14
      go_wp2_with (fail)
      go_roundw
      case rel => exact ⟨k + 1, _, by omega, by go_num, x14, ho14, (hbw.trans ((hb912.mono hbw.size).trans (hb13.mono (Nat.le_succ _)))).trans hb14, Nat.lt_of_lt_of_le (Nat.lt_of_succ_le hl12) (Nat.le_trans hb13.size (grown_set _ _ _).size)⟩
      case measure => simp [intOf]; omega
    · obtain rfl : k = pts.length := by omega
      obtain ⟨A7, c7, rfl, hc7, hr7, -⟩ := ho9.out.form
      rw [lst_length] at x9 ho9
      have hr7' : Rd w9 w9.heap.size A7 (affL D x y pts) := hr7
      have hlt2w9 : w2.heap.size < w9.heap.size := Nat.lt_of_lt_of_le hlt27 hbw.size
      have hb29 := hb27.trans (hbw.mono hb27.size)
      have k69 := Lib.hid (keep6 hbw hlt27 k67.out)
      obtain ⟨u0, u1, u2, u3, u4, u5, -, -, -, -, -, -⟩ := x9.out
      have ku9 := Lib.hid (show _ ∧ _ ∧ _ ∧ _ ∧ _ ∧ _ from ⟨u0, u1, u2, u3, u4, u5⟩)
      clear u0 u1 u2 u3 u4 u5 x9 ho9 hr7 hc7
      obtain ⟨q0, q1, q2, q3, q4, q5⟩ := k69.out
      go_wp2_with (fail)
      (with_reducible refine (hE w9 ((hr3.below hb29).more hb29.size) ((hr4.below hb29).more hb29.size) ((hr5.below hb29).more hb29.size)).out.mono ?_)
      rintro e w10 ⟨hb10, ⟨hne, -⟩ | ⟨-, F, hF, A10, c10, Al10, rfl, hr10, hrm10⟩⟩
      · exfalso
        obtain ⟨u, hu⟩ := gen_of_good hbH.out
        exact hne (aff_chk (F := mkFD D u hu) hg0H.out hxn.out)
      subst hF
      have hrk := gM_rank hg0H.out
      have hrk1 := gM_rank (aff_chk (b := y) hg0H.out hxn.out)
      rw [Int.toNat_natCast, affL_length] at hrk1
      rw [Int.toNat_natCast] at hrk hrm10 ⊢
      rw [hrk1] at hrm10 ⊢
      have hrm11 : RdM w10 w10.heap.size Al10 kn (rowsL F.toDesc pts.length (elS kn (gM F.toDesc pts mul) pts.length).1) := hrm10.congr fun i hi => (aff_rows y pts mul hxn.out kn).2 i (by rw [hrk]; exact hi)
      have hCo := fun W a b d => Lib.hid (Code18_any F kn pts mul A A1 A2 c c1 c2 W a b d hlen.out hp64 (by omega))
      rw [hrk] at hCo
      have hml : (modL F.toDesc).length ≤ maxLen := by have := F.hlen; have := F.m8; rw [modL_length, F.hlen]; unfold maxLen; split <;> omega
      have hSa := fun A6 A8 c6 c8 W a b d e' => (Same12_eq F.p F.m pts.length (modL F.toDesc) kn (rowsL F.toDesc pts.length (elS kn (gM F.toDesc pts mul) pts.length).1) A10 A6 Al10 A8 c10 c6 kn c8 W a b hml d e' (by omega) (fun i _ => by rw [rowsL, rowL_length]; omega))
      have hSs := fun W a b d e f g => (Same18_eq F.p F.m kn (modL F.toDesc) (affL F.toDesc x y pts) mul A3 A4 A5 c3 c4 c5 A A7 A2 c c7 c2 W a b d e f g hml (by rw [affL_length]; unfold maxLen; omega) (Nat.le_trans h2.1 h2.2))
      rw [modL_length] at hSa
      rw [modL_length, affL_length] at hSs
      replace hSa := fun A6 A8 c6 c8 W a b d e' => Lib.hid (hSa A6 A8 c6 c8 W a b d e')
      replace hSs := fun W a b d e f g => Lib.hid (hSs W a b d e f g)
      have hB10 := hB9.trans (hb10.mono hB9.size)
      have hb210 := hb29.trans (hb10.mono hb29.size)
      have hlw10 : w.heap.size < w10.heap.size := Nat.lt_of_lt_of_le hls9 hb10.size
      have hl210 : w2.heap.size < w10.heap.size := Nat.lt_of_lt_of_le hlt2w9 hb10.size
      have hl710 : w7.heap.size < w10.heap.size := Nat.lt_of_lt_of_le hlt9 hb10.size
      obtain ⟨X11, hX11⟩ : ∃ X11, X11 = w10.alloc (.cells #[.int .i64 F.p, .int .i64 F.m, .slice A10 F.mod.length c10, .int .i64 pts.length, .slice Al10 kn kn] 55) := ⟨_, rfl⟩
      have hb11 : Below w10.heap.size w10 X11 := by rw [hX11]; exact (Below.refl _ _).alloc (Nat.le_refl _) _
      have k11 := Five.new w10 (.int .i64 F.p) (.int .i64 F.m) (.slice A10 F.mod.length c10) (.int .i64 pts.length) (.slice Al10 kn kn) 55
      have hlt11 : w10.heap.size < X11.heap.size := by rw [hX11]; simp
      rw [← hX11] at k11
      replace hX11 := Lib.hid hX11
      have hcc : Hid ((X11.cell? ⟨w.heap.size, 0, none⟩ = some (.int .i64 F.p) ∧ X11.cell? ⟨w.heap.size, 1, none⟩ = some (.int .i64 F.m) ∧ X11.cell? ⟨w.heap.size, 2, none⟩ = some (.slice A F.mod.length c) ∧ X11.cell? ⟨w.heap.size, 3, none⟩ = some (.int .i64 (kn : Int)) ∧ X11.cell? ⟨w.heap.size, 4, none⟩ = some (.slice A1 pts.length c1) ∧ X11.cell? ⟨w.heap.size, 5, none⟩ = some (.slice A2 mul.length c2)) ∧ (X11.cell? ⟨w2.heap.size, 0, none⟩ = some (.int .i64 F.p) ∧ X11.cell? ⟨w2.heap.size, 1, none⟩ = some (.int .i64 F.m) ∧ X11.cell? ⟨w2.heap.size, 2, none⟩ = some (.slice A3 F.mod.length c3) ∧ X11.cell? ⟨w2.heap.size, 3, none⟩ = some (.int .i64 (kn : Int)) ∧ X11.cell? ⟨w2.heap.size, 4, none⟩ = some (.slice A4 pts.length c4) ∧ X11.cell? ⟨w2.heap.size, 5, none⟩ = some (.slice A5 mul.length c5)) ∧ (X11.cell? ⟨w7.heap.size, 0, none⟩ = some (.int .i64 F.p) ∧ X11.cell? ⟨w7.heap.size, 1, none⟩ = some (.int .i64 F.m) ∧ X11.cell? ⟨w7.heap.size, 2, none⟩ = some (.slice A F.mod.length c) ∧ X11.cell? ⟨w7.heap.size, 3, none⟩ = some (.int .i64 (kn : Int)) ∧ X11.cell? ⟨w7.heap.size, 4, none⟩ = some (.slice A7 pts.length c7) ∧ X11.cell? ⟨w7.heap.size, 5, none⟩ = some (.slice A2 mul.length c2)) ∧ X11.cell? ⟨w10.heap.size, 0, none⟩ = some (.int .i64 F.p) ∧ X11.cell? ⟨w10.heap.size, 1, none⟩ = some (.int .i64 F.m) ∧ X11.cell? ⟨w10.heap.size, 2, none⟩ = some (.slice A10 F.mod.length c10) ∧ X11.cell? ⟨w10.heap.size, 3, none⟩ = some (.int .i64 pts.length) ∧ X11.cell? ⟨w10.heap.size, 4, none⟩ = some (.slice Al10 kn kn)) := ⟨keep6 hb11 hlw10 (keep6 hb10 hls9 kk9.out), keep6 hb11 hl210 (keep6 hb10 hlt2w9 k69.out), keep6 hb11 hl710 (keep6 hb10 hlt9 ku9.out), k11.1, k11.2.1, k11.2.2.1, k11.2.2.2.1, k11.2.2.2.2.1⟩
      have hk9 : ∀ {W W' : World}, Below W.heap.size W W' → X11.heap.size ≤ W.heap.size → Hid ((W.cell? ⟨w.heap.size, 0, none⟩ = some (.int .i64 F.p) ∧ W.cell? ⟨w.heap.size, 1, none⟩ = some (.int .i64 F.m) ∧ W.cell? ⟨w.heap.size, 2, none⟩ = some (.slice A F.mod.length c) ∧ W.cell? ⟨w.heap.size, 3, none⟩ = some (.int .i64 (kn : Int)) ∧ W.cell? ⟨w.heap.size, 4, none⟩ = some (.slice A1 pts.length c1) ∧ W.cell? ⟨w.heap.size, 5, none⟩ = some (.slice A2 mul.length c2)) ∧ (W.cell? ⟨w2.heap.size, 0, none⟩ = some (.int .i64 F.p) ∧ W.cell? ⟨w2.heap.size, 1, none⟩ = some (.int .i64 F.m) ∧ W.cell? ⟨w2.heap.size, 2, none⟩ = some (.slice A3 F.mod.length c3) ∧ W.cell? ⟨w2.heap.size, 3, none⟩ = some (.int .i64 (kn : Int)) ∧ W.cell? ⟨w2.heap.size, 4, none⟩ = some (.slice A4 pts.length c4) ∧ W.cell? ⟨w2.heap.size, 5, none⟩ = some (.slice A5 mul.length c5)) ∧ (W.cell? ⟨w7.heap.size, 0, none⟩ = some (.int .i64 F.p) ∧ W.cell? ⟨w7.heap.size, 1, none⟩ = some (.int .i64 F.m) ∧ W.cell? ⟨w7.heap.size, 2, none⟩ = some (.slice A F.mod.length c) ∧ W.cell? ⟨w7.heap.size, 3, none⟩ = some (.int .i64 (kn : Int)) ∧ W.cell? ⟨w7.heap.size, 4, none⟩ = some (.slice A7 pts.length c7) ∧ W.cell? ⟨w7.heap.size, 5, none⟩ = some (.slice A2 mul.length c2)) ∧ W.cell? ⟨w10.heap.size, 0, none⟩ = some (.int .i64 F.p) ∧ W.cell? ⟨w10.heap.size, 1, none⟩ = some (.int .i64 F.m) ∧ W.cell? ⟨w10.heap.size, 2, none⟩ = some (.slice A10 F.mod.length c10) ∧ W.cell? ⟨w10.heap.size, 3, none⟩ = some (.int .i64 pts.length) ∧ W.cell? ⟨w10.heap.size, 4, none⟩ = some (.slice Al10 kn kn)) → Hid ((W'.cell? ⟨w.heap.size, 0, none⟩ = some (.int .i64 F.p) ∧ W'.cell? ⟨w.heap.size, 1, none⟩ = some (.int .i64 F.m) ∧ W'.cell? ⟨w.heap.size, 2, none⟩ = some (.slice A F.mod.length c) ∧ W'.cell? ⟨w.heap.size, 3, none⟩ = some (.int .i64 (kn : Int)) ∧ W'.cell? ⟨w.heap.size, 4, none⟩ = some (.slice A1 pts.length c1) ∧ W'.cell? ⟨w.heap.size, 5, none⟩ = some (.slice A2 mul.length c2)) ∧ (W'.cell? ⟨w2.heap.size, 0, none⟩ = some (.int .i64 F.p) ∧ W'.cell? ⟨w2.heap.size, 1, none⟩ = some (.int .i64 F.m) ∧ W'.cell? ⟨w2.heap.size, 2, none⟩ = some (.slice A3 F.mod.length c3) ∧ W'.cell? ⟨w2.heap.size, 3, none⟩ = some (.int .i64 (kn : Int)) ∧ W'.cell? ⟨w2.heap.size, 4, none⟩ = some (.slice A4 pts.length c4) ∧ W'.cell? ⟨w2.heap.size, 5, none⟩ = some (.slice A5 mul.length c5)) ∧ (W'.cell? ⟨w7.heap.size, 0, none⟩ = some (.int .i64 F.p) ∧ W'.cell? ⟨w7.heap.size, 1, none⟩ = some (.int .i64 F.m) ∧ W'.cell? ⟨w7.heap.size, 2, none⟩ = some (.slice A F.mod.length c) ∧ W'.cell? ⟨w7.heap.size, 3, none⟩ = some (.int .i64 (kn : Int)) ∧ W'.cell? ⟨w7.heap.size, 4, none⟩ = some (.slice A7 pts.length c7) ∧ W'.cell? ⟨w7.heap.size, 5, none⟩ = some (.slice A2 mul.length c2)) ∧ W'.cell? ⟨w10.heap.size, 0, none⟩ = some (.int .i64 F.p) ∧ W'.cell? ⟨w10.heap.size, 1, none⟩ = some (.int .i64 F.m) ∧ W'.cell? ⟨w10.heap.size, 2, none⟩ = some (.slice A10 F.mod.length c10) ∧ W'.cell? ⟨w10.heap.size, 3, none⟩ = some (.int .i64 pts.length) ∧ W'.cell? ⟨w10.heap.size, 4, none⟩ = some (.slice Al10 kn kn)) := fun {W W'} hbb hss h => by
        have hx0 : w10.heap.size < W.heap.size := Nat.lt_of_lt_of_le hlt11 hss
        obtain ⟨ua, ub, uc, u0, u1, u2, u3, u4⟩ := h.out
        exact Lib.hid ⟨keep6 hbb (Nat.lt_trans hlw10 hx0) ua, keep6 hbb (Nat.lt_trans hl210 hx0) ub, keep6 hbb (Nat.lt_trans hl710 hx0) uc, (hbb.cell (p := ⟨w10.heap.size, 0, none⟩) hx0).trans u0, (hbb.cell (p := ⟨w10.heap.size, 1, none⟩) hx0).trans u1, (hbb.cell (p := ⟨w10.heap.size, 2, none⟩) hx0).trans u2, (hbb.cell (p := ⟨w10.heap.size, 3, none⟩) hx0).trans u3, (hbb.cell (p := ⟨w10.heap.size, 4, none⟩) hx0).trans u4⟩
      replace hk9 := fun {W W' : World} a b c => Lib.hid (@hk9 W W' a b c)
      have hB11 := hB10.trans (hb11.mono hB10.size)
      have hb211 := hb210.trans (hb11.mono hb210.size)
      have hb911 := hb10.trans (hb11.mono hb10.size)
      have hSs11 := hSs X11.drew ((hr3.below hb211).more hb211.size).drew ((hr4.below hb211).more hb211.size).drew ((hr5.below hb211).more hb211.size).drew ((hr.below hB11).more hB11.size).drew ((hr7'.below hb911).more hb911.size).drew ((hr2.below hB11).more hB11.size).drew
      have hr1011 := (hr10.below hb11).more hb11.size
      have hrm1111 := (hrm11.below hb11).more hb11.size
      clear q0 q1 q2 q3 q4 q5 k11 kk9 k69 ku9 hrm10 hrm11 hr10 hE hr3 hr4 hr5 hr7'
      go_wp2_with (fail)
      rw [← hX11.out]
      refine wp_region_held_drew (S := fun w' => (w'.cell? ⟨w.heap.size, 0, none⟩ = some (.int .i64 F.p) ∧ w'.cell? ⟨w.heap.size, 1, none⟩ = some (.int .i64 F.m) ∧ w'.cell? ⟨w.heap.size, 2, none⟩ = some (.slice A F.mod.length c) ∧ w'.cell? ⟨w.heap.size, 3, none⟩ = some (.int .i64 (kn : Int)) ∧ w'.cell? ⟨w.heap.size, 4, none⟩ = some (.slice A1 pts.length c1) ∧ w'.cell? ⟨w.heap.size, 5, none⟩ = some (.slice A2 mul.length c2)) ∧ (w'.cell? ⟨w2.heap.size, 0, none⟩ = some (.int .i64 F.p) ∧ w'.cell? ⟨w2.heap.size, 1, none⟩ = some (.int .i64 F.m) ∧ w'.cell? ⟨w2.heap.size, 2, none⟩ = some (.slice A3 F.mod.length c3) ∧ w'.cell? ⟨w2.heap.size, 3, none⟩ = some (.int .i64 (kn : Int)) ∧ w'.cell? ⟨w2.heap.size, 4, none⟩ = some (.slice A4 pts.length c4) ∧ w'.cell? ⟨w2.heap.size, 5, none⟩ = some (.slice A5 mul.length c5)) ∧ (w'.cell? ⟨w7.heap.size, 0, none⟩ = some (.int .i64 F.p) ∧ w'.cell? ⟨w7.heap.size, 1, none⟩ = some (.int .i64 F.m) ∧ w'.cell? ⟨w7.heap.size, 2, none⟩ = some (.slice A F.mod.length c) ∧ w'.cell? ⟨w7.heap.size, 3, none⟩ = some (.int .i64 (kn : Int)) ∧ w'.cell? ⟨w7.heap.size, 4, none⟩ = some (.slice A7 pts.length c7) ∧ w'.cell? ⟨w7.heap.size, 5, none⟩ = some (.slice A2 mul.length c2)) ∧ w'.cell? ⟨w10.heap.size, 0, none⟩ = some (.int .i64 F.p) ∧ w'.cell? ⟨w10.heap.size, 1, none⟩ = some (.int .i64 F.m) ∧ w'.cell? ⟨w10.heap.size, 2, none⟩ = some (.slice A10 F.mod.length c10) ∧ w'.cell? ⟨w10.heap.size, 3, none⟩ = some (.int .i64 pts.length) ∧ w'.cell? ⟨w10.heap.size, 4, none⟩ = some (.slice Al10 kn kn)) (by kernel_rfl) (by (try dsimp only); exact hcc.out) (fun hHeld => ?_)
      refine wpAnyH_take (i := 0) (oi := ⟨_, _, _, _, _, _⟩) (v := ?_) rfl (by kernel_rfl) (by kernel_rfl) (by kernel_rfl) (fun _ _ _ h => h) (Or.inl ⟨by rfl, ?_⟩) (by assumption) ?_
      rotate_left
      · intro w hSw; (try dsimp only at hSw); go_simp; try with_reducible rfl
      try simp only [Act.put, List.setIfInBounds_toArray, List.set_cons_zero, List.set_cons_succ]
      refine wpAnyH_take (i := 1) (oi := ⟨_, _, _, _, _, _⟩) (v := ?_) rfl (by kernel_rfl) (by kernel_rfl) (by kernel_rfl) (fun _ _ _ h => h) (Or.inl ⟨by rfl, ?_⟩) (by assumption) ?_
      rotate_left
      · intro w hSw; (try dsimp only at hSw); go_simp; try with_reducible rfl
      try simp only [Act.put, List.setIfInBounds_toArray, List.set_cons_zero, List.set_cons_succ]
      refine wpAnyH_take (i := 2) (oi := ⟨_, _, _, _, _, _⟩) (v := ?_) rfl (by kernel_rfl) (by kernel_rfl) (by kernel_rfl) (fun _ _ _ h => h) (Or.inl ⟨by rfl, ?_⟩) (by assumption) ?_
      rotate_left
      · intro w hSw; (try dsimp only at hSw); go_simp; try with_reducible rfl
      try simp only [Act.put, List.setIfInBounds_toArray, List.set_cons_zero, List.set_cons_succ]
      refine wpAnyH_take (i := 3) (oi := ⟨_, _, _, _, _, _⟩) (v := ?_) rfl (by kernel_rfl) (by kernel_rfl) (by kernel_rfl) (fun _ _ _ h => h) (Or.inl ⟨by rfl, ?_⟩) (by assumption) ?_
      rotate_left
      · intro w hSw; (try dsimp only at hSw); go_simp; try with_reducible rfl
      try simp only [Act.put, List.setIfInBounds_toArray, List.set_cons_zero, List.set_cons_succ]
      refine wpAnyH_take (i := 4) (oi := ⟨_, _, _, _, _, _⟩) (v := ?_) rfl (by kernel_rfl) (by kernel_rfl) (by kernel_rfl) (fun _ _ _ h => h) (Or.inl ⟨by rfl, ?_⟩) (by assumption) ?_
      rotate_left
      · intro w hSw; (try dsimp only at hSw); go_simp; try with_reducible rfl
      try simp only [Act.put, List.setIfInBounds_toArray, List.set_cons_zero, List.set_cons_succ]
      refine wpAnyH_ready (rs := [5]) (by kernel_rfl) (by simp) ?_
      refine AllReadyH.cons (o := ⟨_, _, _, _, _, _⟩) rfl (fun K hK => ?_) AllReadyH.nil
      go_simp
      go_at_call 22
      (with_reducible refine (hSs11).out.mono ?_)
      rintro e w12 ⟨rfl, hb12⟩
      have hcc12 := (hk9 (W := X11.drew) hb12 (Nat.le_refl _) hcc).out
      have hs12 : X11.heap.size ≤ w12.heap.size := hb12.size
      have hB12 := hB11.drew.trans (hb12.mono hB11.size)
      have hb1112 : Below X11.heap.size X11 w12 := (Below.refl _ X11).drew.trans hb12
      have hCo12 := hCo w12 ((hr.below hB12).more hB12.size) ((hr1.below hB12).more hB12.size) ((hr2.below hB12).more hB12.size)
      go_wp2_with (fail)
      refine hK.out _ _ (by (try dsimp only); exact hcc12.out) (fun hHeld => ?_)
      clear hK K
      try simp only [Act.put, List.setIfInBounds_toArray, List.set_cons_zero, List.set_cons_succ]
      refine wpAnyH_take (i := 6) (oi := ⟨_, _, _, _, _, _⟩) (v := ?_) rfl (by kernel_rfl) (by kernel_rfl) (by kernel_rfl) (fun _ _ _ h => h) (Or.inl ⟨by rfl, ?_⟩) (by assumption) ?_
      rotate_left
      · intro w hSw; (try dsimp only at hSw); go_simp; try with_reducible rfl
      try simp only [Act.put, List.setIfInBounds_toArray, List.set_cons_zero, List.set_cons_succ]
      refine wpAnyH_take (i := 7) (oi := ⟨_, _, _, _, _, _⟩) (v := ?_) rfl (by kernel_rfl) (by kernel_rfl) (by kernel_rfl) (fun _ _ _ h => h) (Or.inl ⟨by rfl, ?_⟩) (by assumption) ?_
      rotate_left
      · intro w hSw; (try dsimp only at hSw); go_simp; try with_reducible rfl
      try simp only [Act.put, List.setIfInBounds_toArray, List.set_cons_zero, List.set_cons_succ]
      refine wpAnyH_take (i := 8) (oi := ⟨_, _, _, _, _, _⟩) (v := ?_) rfl (by kernel_rfl) (by kernel_rfl) (by kernel_rfl) (fun _ _ _ h => h) (Or.inl ⟨by rfl, ?_⟩) (by assumption) ?_
      rotate_left
      · intro w hSw; (try dsimp only at hSw); go_simp; try with_reducible rfl
      try simp only [Act.put, List.setIfInBounds_toArray, List.set_cons_zero, List.set_cons_succ]
      refine wpAnyH_take (i := 9) (oi := ⟨_, _, _, _, _, _⟩) (v := ?_) rfl (by kernel_rfl) (by kernel_rfl) (by kernel_rfl) (fun _ _ _ h => h) (Or.inl ⟨by rfl, ?_⟩) (by assumption) ?_
      rotate_left
      · intro w hSw; (try dsimp only at hSw); go_simp; try with_reducible rfl
      try simp only [Act.put, List.setIfInBounds_toArray, List.set_cons_zero, List.set_cons_succ]
      refine wpAnyH_take (i := 10) (oi := ⟨_, _, _, _, _, _⟩) (v := ?_) rfl (by kernel_rfl) (by kernel_rfl) (by kernel_rfl) (fun _ _ _ h => h) (Or.inl ⟨by rfl, ?_⟩) (by assumption) ?_
      rotate_left
      · intro w hSw; (try dsimp only at hSw); go_simp; try with_reducible rfl
      try simp only [Act.put, List.setIfInBounds_toArray, List.set_cons_zero, List.set_cons_succ]
      refine wpAnyH_take (i := 11) (oi := ⟨_, _, _, _, _, _⟩) (v := ?_) rfl (by kernel_rfl) (by kernel_rfl) (by kernel_rfl) (fun _ _ _ h => h) (Or.inl ⟨by rfl, ?_⟩) (by assumption) ?_
      rotate_left
      · intro w hSw; (try dsimp only at hSw); go_simp; try with_reducible rfl
      try simp only [Act.put, List.setIfInBounds_toArray, List.set_cons_zero, List.set_cons_succ]
      refine wpAnyH_take (i := 12) (oi := ⟨_, _, _, _, _, _⟩) (v := ?_) rfl (by kernel_rfl) (by kernel_rfl) (by kernel_rfl) (fun _ _ _ h => h) (Or.inl ⟨by rfl, ?_⟩) (by assumption) ?_
      rotate_left
      · intro w hSw; (try dsimp only at hSw); go_simp; try with_reducible rfl
      try simp only [Act.put, List.setIfInBounds_toArray, List.set_cons_zero, List.set_cons_succ]
      refine wpAnyH_take (i := 13) (oi := ⟨_, _, _, _, _, _⟩) (v := ?_) rfl (by kernel_rfl) (by kernel_rfl) (by kernel_rfl) (fun _ _ _ h => h) (Or.inl ⟨by rfl, ?_⟩) (by assumption) ?_
      rotate_left
      · intro w hSw; (try dsimp only at hSw); go_simp; try with_reducible rfl
      try simp only [Act.put, List.setIfInBounds_toArray, List.set_cons_zero, List.set_cons_succ]
      refine wpAnyH_ready (rs := [14]) (by kernel_rfl) (by simp) ?_
      refine AllReadyH.cons (o := ⟨_, _, _, _, _, _⟩) rfl (fun K hK => ?_) AllReadyH.nil
      go_simp
      go_at_call 39
      (with_reducible refine (hCo12).out.mono ?_)
      rintro e w13 ⟨A6, c6, Al8, cl8, rfl, hr6, hrm6, hb13⟩
      have hcc13 := (hk9 hb13 hs12 hcc12).out
      have hs13 : X11.heap.size ≤ w13.heap.size := Nat.le_trans hs12 hb13.size
      have hb1113 := hb1112.trans (hb13.mono hs12)
      have hSa13 := hSa A6 Al8 c6 cl8 w13 ((hr1011.below hb1113).more hb1113.size) hr6 ((hrm1111.below hb1113).more hb1113.size) hrm6
      go_wp2_with (fail)
      refine hK.out _ _ (by (try dsimp only); exact hcc13.out) (fun hHeld => ?_)
      clear hK K
      try simp only [Act.put, List.setIfInBounds_toArray, List.set_cons_zero, List.set_cons_succ]
      refine wpAnyH_ready (rs := [15]) (by kernel_rfl) (by simp) ?_
      refine AllReadyH.cons (o := ⟨_, _, _, _, _, _⟩) rfl (fun K hK => ?_) AllReadyH.nil
      go_simp
      go_at_call 38
      (with_reducible refine (hSa13).out.mono ?_)
      rintro e w14 ⟨rfl, hb14⟩
      go_wp2_with (fail)
      refine hK.out _ _ (by (try dsimp only); exact (hk9 hb14 hs13 hcc13).out.out) (fun hHeld => ?_)
      clear hK K
      try simp only [Act.put, List.setIfInBounds_toArray, List.set_cons_zero, List.set_cons_succ]
      refine wpAnyH_take (i := 16) (oi := ⟨_, _, _, _, _, _⟩) (v := ?_) rfl (by kernel_rfl) (by kernel_rfl) (by kernel_rfl) (fun _ _ _ h => h) (Or.inl ⟨by rfl, ?_⟩) (by assumption) ?_
      rotate_left
      · intro w hSw; (try dsimp only at hSw); go_simp; try with_reducible rfl
      try simp only [Act.put, List.setIfInBounds_toArray, List.set_cons_zero, List.set_cons_succ]
      refine wpAnyH_take (i := 17) (oi := ⟨_, _, _, _, _, _⟩) (v := ?_) rfl (by kernel_rfl) (by kernel_rfl) (by kernel_rfl) (fun _ _ _ h => h) (Or.inl ⟨by rfl, ?_⟩) (by assumption) ?_
      rotate_left
      · intro w hSw; (try dsimp only at hSw); go_simp; try with_reducible rfl
      try simp only [Act.put, List.setIfInBounds_toArray, List.set_cons_zero, List.set_cons_succ]
      refine wpAnyH_done (by kernel_rfl) ?_ _
      go_wp2_with (fail)
      go_ret
      exact ⟨by simp, (hB12.trans (hb13.mono hB12.size)).trans (hb14.mono (Nat.le_trans hB12.size hb13.size))⟩
end Go.Proofs.Ytnbkmkeiophjoaa
