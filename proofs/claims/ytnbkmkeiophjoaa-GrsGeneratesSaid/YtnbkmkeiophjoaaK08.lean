/- GrsGenerates: the walk. -/
import Derived.Test.YtnbkmkeiophjoaaK0
import Derived.Test.YtnbkmkeiophjoaaMatZ
import Derived.Test.YtnbkmkeiophjoaaMI
import Derived.Test.YtnbkmkeiophjoaaMatJ
namespace Go.Proofs.Ytnbkmkeiophjoaa
open Go.RowKit Cw
attribute [local go_sem] Oper.semAt_some

set_option maxHeartbeats 2000000 in
theorem generatesL_bad (P M K : Int) (ml pts mul : List Int) (A A1 A2 : Option Addr) (c c1 c2 : Nat) (w : World) (hP : I64 P) (hM : I64 M) (hl : ml.length ≤ maxLen) (hr : Rd w w.heap.size A ml) (hb : ¬ Good P M ml) (_hK : I64 K) (h1 : pts.length ≤ c1 ∧ c1 ≤ maxLen) (_h2 : mul.length ≤ c2 ∧ c2 ≤ maxLen) (_hi : ∀ x ∈ pts, I64 x) (_hj : ∀ x ∈ mul, I64 x) (_hr1 : Rd w w.heap.size A1 pts) (_hr2 : Rd w w.heap.size A2 mul) :
    Calls Try.prog 12 #[.agg #[.int .i64 P, .int .i64 M, .slice A ml.length c, .int .i64 K, .slice A1 pts.length c1, .slice A2 mul.length c2]] w (LawEnd w) := by
  have hA := fun W => Lib.hid (alive_any W)
  have hD := fun W h => Lib.hid (gGenr_bad P M K ml pts mul A A1 A2 c c1 c2 W hP hM hl h hb)
  have hE := fun W h => Lib.hid (gCode_bad P M K ml pts mul A A1 A2 c c1 c2 W hP hM hl h hb)
  have hC := fun W h => Lib.hid (Chk18_bad P M K ml pts mul A A1 A2 c c1 c2 W hP hM hl h hb)
  have hm1 := h1.1; have hm2 := h1.2
  unfold maxLen at hm2
  have k0 := Lib.hid (alloc6 w (.int .i64 P) (.int .i64 M) (.slice A ml.length c) (.int .i64 K) (.slice A1 pts.length c1) (.slice A2 mul.length c2) 27)
  have hB : Below w.heap.size w (w.alloc (.cells #[.int .i64 P, .int .i64 M, .slice A ml.length c, .int .i64 K, .slice A1 pts.length c1, .slice A2 mul.length c2] 27)) := (Below.refl _ _).alloc (Nat.le_refl _) _
  clear hP hM hl hb
  go_enter Try.func12, Try.ntmps12
  go_wp2_with (fail)
  refine (hA _).out.mono ?_
  rintro e w1 ⟨rfl, hb1⟩
  have kk1 := Lib.hid (keep6 hb1 (by simp) k0.out)
  have hB1 := hB.trans (hb1.mono hB.size)
  have hlt1 : w.heap.size < w1.heap.size := by have := hb1.size; simp only [World.size_alloc] at this; omega
  obtain ⟨q0, q1, q2, q3, q4, q5⟩ := kk1.out
  by_cases h24 : 24 < pts.length
  · go_wp2_with (fail)
    go_ret
    exact ⟨rfl, hB1⟩
  go_wp2_with (fail)
  (with_reducible refine (hD w1 ((hr.below hB1).more hB1.size)).out.mono ?_)
  rintro e w2 ⟨rfl, hb2⟩
  have hB2 := hB1.trans (hb2.mono hB1.size)
  have kk2 := Lib.hid (keep6 hb2 hlt1 kk1.out)
  have hlt2 : w.heap.size < w2.heap.size := Nat.lt_of_lt_of_le hlt1 hb2.size
  have hb3 : Below w2.heap.size w2 (w2.alloc (.cells #[.int .i64 0, .slice none 0 0] 65)) := (Below.refl _ _).alloc (Nat.le_refl _) _
  have k2 := Two.new w2 (.int .i64 0) (.slice none 0 0) 65
  obtain ⟨X3, hX3⟩ : ∃ X3, X3 = w2.alloc (.cells #[.int .i64 0, .slice none 0 0] 65) := ⟨_, rfl⟩
  have hlt3 : w2.heap.size < X3.heap.size := by rw [hX3]; simp
  rw [← hX3] at hb3 k2
  replace hX3 := Lib.hid hX3
  replace k2 := Lib.hid k2
  have hB3 := hB2.trans (hb3.mono hB2.size)
  clear q0 q1 q2 q3 q4 q5
  obtain ⟨q0, q1, q2, q3, q4, q5⟩ := kk2.out
  go_wp2_with (fail)
  rw [← hX3.out]
  (with_reducible refine (hE X3 ((hr.below hB3).more hB3.size)).out.mono ?_)
  rintro e w4 ⟨rfl, hb4⟩
  have hB4 := hB3.trans (hb4.mono hB3.size)
  have hb24 := hb3.trans (hb4.mono hb3.size)
  have kk4 := Lib.hid (keep6 hb24 hlt2 kk2.out)
  have k24 := Lib.hid (k2.out.keep hb4 hlt3)
  have hlt4 : w.heap.size < w4.heap.size := Nat.lt_of_lt_of_le hlt2 hb24.size
  have hlt24 : w2.heap.size < w4.heap.size := Nat.lt_of_lt_of_le hlt3 hb4.size
  have hb5 : Below w4.heap.size w4 (w4.alloc (.cells #[.int .i64 0, .int .i64 0, .slice none 0 0, .int .i64 0, .slice none 0 0] 55)) := (Below.refl _ _).alloc (Nat.le_refl _) _
  have k5 := Five.new w4 (.int .i64 0) (.int .i64 0) (.slice none 0 0) (.int .i64 0) (.slice none 0 0) 55
  obtain ⟨X5, hX5⟩ : ∃ X5, X5 = w4.alloc (.cells #[.int .i64 0, .int .i64 0, .slice none 0 0, .int .i64 0, .slice none 0 0] 55) := ⟨_, rfl⟩
  have hlt5 : w4.heap.size < X5.heap.size := by rw [hX5]; simp
  rw [← hX5] at hb5 k5
  replace hX5 := Lib.hid hX5
  replace k5 := Lib.hid k5
  have hB5 := hB4.trans (hb5.mono hB4.size)
  clear q0 q1 q2 q3 q4 q5
  obtain ⟨q0, q1, q2, q3, q4, q5⟩ := kk4.out
  go_wp2_with (fail)
  rw [← hX5.out]
  (with_reducible refine (hC X5 ((hr.below hB5).more hB5.size)).out.mono ?_)
  rintro e w6 ⟨rfl, hb6⟩
  have hB6 := hB5.trans (hb6.mono hB5.size)
  obtain ⟨t0, t1, -, -⟩ := k24.out.keep (hb5.trans (hb6.mono hb5.size)) hlt24
  obtain ⟨f0, f1, f2, f3, f4, -⟩ := k5.out.keep hb6 hlt5
  clear q0 q1 q2 q3 q4 q5
  go_wp2_with (fail)
  go_ret
  exact ⟨by simp, hB6⟩

set_option maxRecDepth 100000 in
set_option maxHeartbeats 4000000 in
theorem generatesL_good (D : Desc) (K : Int) (pts mul : List Int) (A A1 A2 : Option Addr) (c c1 c2 : Nat) (w : World) (hr : Rd w w.heap.size A (modL D)) (hb : Good D.p D.m (modL D)) (_hK : I64 K) (h1 : pts.length ≤ c1 ∧ c1 ≤ maxLen) (h2 : mul.length ≤ c2 ∧ c2 ≤ maxLen) (_hi : ∀ x ∈ pts, I64 x) (_hj : ∀ x ∈ mul, I64 x) (hr1 : Rd w w.heap.size A1 pts) (hr2 : Rd w w.heap.size A2 mul) :
    Calls Try.prog 12 #[.agg #[.int .i64 D.p, .int .i64 D.m, .slice A D.mod.length c, .int .i64 K, .slice A1 pts.length c1, .slice A2 mul.length c2]] w (LawEnd w) := by
  have hA := fun W => Lib.hid (alive_any W)
  have hD := fun W h a b => Lib.hid (gGenr_D D K pts mul A A1 A2 c c1 c2 W h hb a b h1.1 h1.2 (Nat.le_trans h2.1 h2.2))
  have hE := fun W h a b => Lib.hid (gCode_D D K pts mul A A1 A2 c c1 c2 W h hb a b h1.1 h1.2 (Nat.le_trans h2.1 h2.2))
  have hC := fun W h a b => Lib.hid (Chk18_D D K pts mul A A1 A2 c c1 c2 W h hb a b (Nat.le_trans h2.1 h2.2))
  have hm1 := h1.1; have hm2 := h1.2
  unfold maxLen at hm2
  have k0 := Lib.hid (alloc6 w (.int .i64 D.p) (.int .i64 D.m) (.slice A D.mod.length c) (.int .i64 K) (.slice A1 pts.length c1) (.slice A2 mul.length c2) 27)
  have hB : Below w.heap.size w (w.alloc (.cells #[.int .i64 D.p, .int .i64 D.m, .slice A D.mod.length c, .int .i64 K, .slice A1 pts.length c1, .slice A2 mul.length c2] 27)) := (Below.refl _ _).alloc (Nat.le_refl _) _
  clear hb
  go_enter Try.func12, Try.ntmps12
  go_wp2_with (fail)
  refine (hA _).out.mono ?_
  rintro e w1 ⟨rfl, hb1⟩
  have kk1 := Lib.hid (keep6 hb1 (by simp) k0.out)
  have hB1 := hB.trans (hb1.mono hB.size)
  have hlt1 : w.heap.size < w1.heap.size := by have := hb1.size; simp only [World.size_alloc] at this; omega
  obtain ⟨q0, q1, q2, q3, q4, q5⟩ := kk1.out
  by_cases h24 : 24 < pts.length
  · go_wp2_with (fail)
    go_ret
    exact ⟨rfl, hB1⟩
  go_wp2_with (fail)
  (with_reducible refine (hD w1 ((hr.below hB1).more hB1.size) ((hr1.below hB1).more hB1.size) ((hr2.below hB1).more hB1.size)).out.mono ?_)
  rintro e w2 ⟨hb2, ⟨hne, rfl⟩ | ⟨hz, Al, cl, rfl, hrm⟩⟩
  · have hB2 := hB1.trans (hb2.mono hB1.size)
    have hneb : (gchkD D K pts mul != 0) = true := by rw [bne_iff_ne]; exact hne
    have hneH := Lib.hid hne
    clear hne
    have kk2 := Lib.hid (keep6 hb2 hlt1 kk1.out)
    have hlt2 : w.heap.size < w2.heap.size := Nat.lt_of_lt_of_le hlt1 hb2.size
    have hb3 : Below w2.heap.size w2 (w2.alloc (.cells #[.int .i64 0, .slice none 0 0] 65)) := (Below.refl _ _).alloc (Nat.le_refl _) _
    have k2 := Two.new w2 (.int .i64 0) (.slice none 0 0) 65
    obtain ⟨X3, hX3⟩ : ∃ X3, X3 = w2.alloc (.cells #[.int .i64 0, .slice none 0 0] 65) := ⟨_, rfl⟩
    have hlt3 : w2.heap.size < X3.heap.size := by rw [hX3]; simp
    rw [← hX3] at hb3 k2
    replace hX3 := Lib.hid hX3
    replace k2 := Lib.hid k2
    have hB3 := hB2.trans (hb3.mono hB2.size)
    clear q0 q1 q2 q3 q4 q5
    obtain ⟨q0, q1, q2, q3, q4, q5⟩ := kk2.out
    go_wp2_with (fail)
    rw [← hX3.out]
    (with_reducible refine (hE X3 ((hr.below hB3).more hB3.size) ((hr1.below hB3).more hB3.size) ((hr2.below hB3).more hB3.size)).out.mono ?_)
    rintro e w4 ⟨hb4, ⟨-, rfl⟩ | ⟨hz, -⟩⟩
    rotate_left
    · exact absurd hz hneH.out
    have hB4 := hB3.trans (hb4.mono hB3.size)
    have hb24 := hb3.trans (hb4.mono hb3.size)
    have kk4 := Lib.hid (keep6 hb24 hlt2 kk2.out)
    have k24 := Lib.hid (k2.out.keep hb4 hlt3)
    have hlt4 : w.heap.size < w4.heap.size := Nat.lt_of_lt_of_le hlt2 hb24.size
    have hlt24 : w2.heap.size < w4.heap.size := Nat.lt_of_lt_of_le hlt3 hb4.size
    have hb5 : Below w4.heap.size w4 (w4.alloc (.cells #[.int .i64 0, .int .i64 0, .slice none 0 0, .int .i64 0, .slice none 0 0] 55)) := (Below.refl _ _).alloc (Nat.le_refl _) _
    have k5 := Five.new w4 (.int .i64 0) (.int .i64 0) (.slice none 0 0) (.int .i64 0) (.slice none 0 0) 55
    obtain ⟨X5, hX5⟩ : ∃ X5, X5 = w4.alloc (.cells #[.int .i64 0, .int .i64 0, .slice none 0 0, .int .i64 0, .slice none 0 0] 55) := ⟨_, rfl⟩
    have hlt5 : w4.heap.size < X5.heap.size := by rw [hX5]; simp
    rw [← hX5] at hb5 k5
    replace hX5 := Lib.hid hX5
    replace k5 := Lib.hid k5
    have hB5 := hB4.trans (hb5.mono hB4.size)
    clear q0 q1 q2 q3 q4 q5
    obtain ⟨q0, q1, q2, q3, q4, q5⟩ := kk4.out
    go_wp2_with (fail)
    rw [← hX5.out]
    (with_reducible refine (hC X5 ((hr.below hB5).more hB5.size) ((hr1.below hB5).more hB5.size) ((hr2.below hB5).more hB5.size)).out.mono ?_)
    rintro e w6 ⟨rfl, hb6⟩
    have hB6 := hB5.trans (hb6.mono hB5.size)
    obtain ⟨t0, t1, -, -⟩ := k24.out.keep (hb5.trans (hb6.mono hb5.size)) hlt24
    obtain ⟨f0, f1, f2, f3, f4, -⟩ := k5.out.keep hb6 hlt5
    clear q0 q1 q2 q3 q4 q5
    go_wp2_with (fail)
    go_ret
    exact ⟨by simp, hB6⟩
  obtain ⟨hp1, hp64, hlen, -, -, -, -, hK0, hKn⟩ := gchkD_zero hz
  obtain ⟨kn, rfl⟩ : ∃ kn : Nat, K = kn := ⟨K.toNat, by omega⟩
  rw [hz] at hC
  rw [Int.toNat_natCast] at hrm ⊢
  have hB2 := hB1.trans (hb2.mono hB1.size)
  have kk2 := Lib.hid (keep6 hb2 hlt1 kk1.out)
  have hlt2 : w.heap.size < w2.heap.size := Nat.lt_of_lt_of_le hlt1 hb2.size
  have hb3 : Below w2.heap.size w2 (w2.alloc (.cells #[.int .i64 pts.length, .slice Al kn cl] 65)) := (Below.refl _ _).alloc (Nat.le_refl _) _
  have k2 := Two.new w2 (.int .i64 pts.length) (.slice Al kn cl) 65
  obtain ⟨X3, hX3⟩ : ∃ X3, X3 = w2.alloc (.cells #[.int .i64 pts.length, .slice Al kn cl] 65) := ⟨_, rfl⟩
  have hlt3 : w2.heap.size < X3.heap.size := by rw [hX3]; simp
  rw [← hX3] at hb3 k2
  replace hX3 := Lib.hid hX3
  replace k2 := Lib.hid k2
  have hB3 := hB2.trans (hb3.mono hB2.size)
  have hzH := Lib.hid hz
  replace hlen := Lib.hid hlen
  clear hz
  clear q0 q1 q2 q3 q4 q5
  obtain ⟨q0, q1, q2, q3, q4, q5⟩ := kk2.out
  go_wp2_with (fail)
  rw [← hX3.out]
  (with_reducible refine (hE X3 ((hr.below hB3).more hB3.size) ((hr1.below hB3).more hB3.size) ((hr2.below hB3).more hB3.size)).out.mono ?_)
  rintro e w4 ⟨hb4, ⟨hne, -⟩ | ⟨-, F, hF, A3, c3, Al2, rfl, hr3, hrm3⟩⟩
  · exact absurd hzH.out hne
  subst hF
  have hrk := gM_rank hzH.out
  rw [Int.toNat_natCast] at hrk hrm3 ⊢
  rw [hrk] at hrm3 ⊢
  have hR := fun W a b d => Lib.hid (Rows18_any F.toDesc kn pts mul A A1 A2 c c1 c2 W a b d hlen.out hp64 (by omega))
  have hCo := fun W a b d => Lib.hid (Code18_any F kn pts mul A A1 A2 c c1 c2 W a b d hlen.out hp64 (by omega))
  rw [hrk] at hCo
  have hml : (modL F.toDesc).length ≤ maxLen := by have := F.hlen; have := F.m8; rw [modL_length, F.hlen]; unfold maxLen; split <;> omega
  have hSa := fun A6 A8 c6 c8 W a b d e' => (Same12_eq F.p F.m pts.length (modL F.toDesc) kn (rowsL F.toDesc pts.length (elS kn (gM F.toDesc pts mul) pts.length).1) A3 A6 Al2 A8 c3 c6 kn c8 W a b hml d e' (by omega) (fun i _ => by rw [rowsL, rowL_length]; omega))
  rw [modL_length] at hSa
  replace hSa := fun A6 A8 c6 c8 W a b d e' => Lib.hid (hSa A6 A8 c6 c8 W a b d e')
  have hB4 := hB3.trans (hb4.mono hB3.size)
  have hb24 := hb3.trans (hb4.mono hb3.size)
  have kk4 := Lib.hid (keep6 hb24 hlt2 kk2.out)
  have k24 := Lib.hid (k2.out.keep hb4 hlt3)
  have hlt4 : w.heap.size < w4.heap.size := Nat.lt_of_lt_of_le hlt2 hb24.size
  have hlt24 : w2.heap.size < w4.heap.size := Nat.lt_of_lt_of_le hlt3 hb4.size
  have hb5 : Below w4.heap.size w4 (w4.alloc (.cells #[.int .i64 F.p, .int .i64 F.m, .slice A3 F.mod.length c3, .int .i64 pts.length, .slice Al2 kn kn] 55)) := (Below.refl _ _).alloc (Nat.le_refl _) _
  have k5 := Five.new w4 (.int .i64 F.p) (.int .i64 F.m) (.slice A3 F.mod.length c3) (.int .i64 pts.length) (.slice Al2 kn kn) 55
  obtain ⟨X5, hX5⟩ : ∃ X5, X5 = w4.alloc (.cells #[.int .i64 F.p, .int .i64 F.m, .slice A3 F.mod.length c3, .int .i64 pts.length, .slice Al2 kn kn] 55) := ⟨_, rfl⟩
  have hlt5 : w4.heap.size < X5.heap.size := by rw [hX5]; simp
  rw [← hX5] at hb5 k5
  replace hX5 := Lib.hid hX5
  replace k5 := Lib.hid k5
  have hB5 := hB4.trans (hb5.mono hB4.size)
  clear q0 q1 q2 q3 q4 q5
  obtain ⟨q0, q1, q2, q3, q4, q5⟩ := kk4.out
  go_wp2_with (fail)
  rw [← hX5.out]
  (with_reducible refine (hC X5 ((hr.below hB5).more hB5.size) ((hr1.below hB5).more hB5.size) ((hr2.below hB5).more hB5.size)).out.mono ?_)
  rintro e w6 ⟨rfl, hb6⟩
  have hB6 := hB5.trans (hb6.mono hB5.size)
  have hb46 := hb5.trans (hb6.mono hb5.size)
  have kk6 := Lib.hid (keep6 hb46 hlt4 kk4.out)
  have k26 := Lib.hid (k24.out.keep hb46 hlt24)
  have k56 := Lib.hid (k5.out.keep hb6 hlt5)
  have hlt6 : w.heap.size < w6.heap.size := Nat.lt_of_lt_of_le hlt4 hb46.size
  have hlt26 : w2.heap.size < w6.heap.size := Nat.lt_of_lt_of_le hlt24 hb46.size
  have hlt56 : w4.heap.size < w6.heap.size := Nat.lt_of_lt_of_le hlt5 hb6.size
  clear q0 q1 q2 q3 q4 q5
  obtain ⟨q0, q1, q2, q3, q4, q5⟩ := kk6.out
  go_wp2_with (fail)
  (with_reducible refine (hR w6 ((hr.below hB6).more hB6.size) ((hr1.below hB6).more hB6.size) ((hr2.below hB6).more hB6.size)).out.mono ?_)
  rintro e w7 ⟨v7, rfl, hown, hb7⟩
  obtain ⟨Al7, cl7, rfl, hrw⟩ := hown.rd
  rw [rowsW_eq] at hrw
  have hB7 := hB6.trans (hb7.mono hB6.size)
  have kk7 := Lib.hid (keep6 hb7 hlt6 kk6.out)
  have k27 := Lib.hid (k26.out.keep hb7 hlt26)
  have k57 := Lib.hid (k56.out.keep hb7 hlt56)
  have hlt7 : w.heap.size < w7.heap.size := Nat.lt_of_lt_of_le hlt6 hb7.size
  have hlt27 : w2.heap.size < w7.heap.size := Nat.lt_of_lt_of_le hlt26 hb7.size
  have hlt57 : w4.heap.size < w7.heap.size := Nat.lt_of_lt_of_le hlt56 hb7.size
  have hb27 := hb24.trans ((hb46.trans (hb7.mono hb46.size)).mono hb24.size)
  have hb47 := hb46.trans (hb7.mono hb46.size)
  have hrm7 := (hrm.below hb27).more hb27.size
  have hr37 := (hr3.below hb47).more hb47.size
  have hrm37 := (hrm3.below hb47).more hb47.size
  clear q0 q1 q2 q3 q4 q5 hown hrm hr3 hrm3
  obtain ⟨q0, q1, q2, q3, q4, q5⟩ := kk7.out
  obtain ⟨t0, t1, -, -⟩ := k27.out
  go_wp2_with (fail)
  clear q0 q1 q2 q3 q4 q5 t0 t1
  go_loopw [86] (fun i wr => ∃ k : Nat, k ≤ kn ∧ i = .int .i64 k ∧ Below w7.heap.size w7 wr) (fun i _ => kn - (intOf i).toNat)
  case atStart => exact ⟨0, by omega, rfl, Below.refl _ _⟩
  case round =>
    obtain ⟨k, hk, rfl, hbw⟩ := hrel
    obtain ⟨w8, rfl⟩ : ∃ w8 : World, w8 = wr := ⟨_, rfl⟩
    by_cases hlt : k < kn
    · have hk0 : (0 : Int) ≤ (k : Int) := by omega
      have hk1 : (k : Int) < (kn : Int) := by omega
      obtain ⟨b1, o1, B1, d1, rfl, hb1', hc1, hr1', -, -⟩ := hrm7.at_ hlt
      obtain ⟨b2, o2, B2, d2, rfl, hb2', hc2, hr2', -, -⟩ := hrw.at_ hlt
      have hd1 := (hbw.cell (p := ⟨b1, o1 + k, none⟩) hb1').trans hc1
      have hd2 := (hbw.cell (p := ⟨b2, o2 + k, none⟩) hb2').trans hc2
      have hd3 := (hbw.cell (p := ⟨w2.heap.size, 1, none⟩) hlt27).trans k27.out.2.1
      have hcc := Lib.hid (show _ ∧ _ ∧ _ from ⟨hd1, hd2, hd3⟩)
      have hb1'' := Nat.lt_of_lt_of_le hb1' hbw.size
      have hb2'' := Nat.lt_of_lt_of_le hb2' hbw.size
      have hb3'' := Nat.lt_of_lt_of_le hlt27 hbw.size
      have hS2 := Lib.hid (same_refl (rowsL F.toDesc pts.length (gM F.toDesc pts mul) k) B1 B2 d1 d2 w8.drew ((hr1'.below hbw).more hbw.size).drew ((hr2'.below hbw).more hbw.size).drew (by rw [rowsL, rowL_length]; omega))
      obtain ⟨row, hrow⟩ : ∃ row, row = rowsL F.toDesc pts.length (gM F.toDesc pts mul) k := ⟨_, rfl⟩
      rw [← hrow] at hS2 hcc
      clear hc1 hc2 hd1 hd2 hd3 hr1' hr2' hrow
      go_wp2_with (fail)
      refine wp_region_held_drew (S := fun w' => w'.cell? ⟨b1, o1 + k, none⟩ = some (.slice B1 row.length d1) ∧ w'.cell? ⟨b2, o2 + k, none⟩ = some (.slice B2 row.length d2) ∧ w'.cell? ⟨w2.heap.size, 1, none⟩ = some (.slice (some ⟨b1, o1, none⟩) kn cl)) (by kernel_rfl) (by (try dsimp only); exact hcc.out) (fun hHeld => ?_)
      refine wpAnyH_take (i := 0) (oi := ⟨_, _, _, _, _, _⟩) (v := ?_) rfl (by kernel_rfl) (by kernel_rfl) (by kernel_rfl) (fun _ _ _ h => h) (Or.inl ⟨by rfl, ?_⟩) (by assumption) ?_
      rotate_left
      · intro w hSw; (try dsimp only at hSw); go_simp; try with_reducible rfl
      try simp only [Act.put, List.setIfInBounds_toArray, List.set_cons_zero, List.set_cons_succ]
      refine wpAnyH_take (i := 1) (oi := ⟨_, _, _, _, _, _⟩) (v := ?_) rfl (by kernel_rfl) (by kernel_rfl) (by kernel_rfl) (fun _ _ _ h => h) (Or.inl ⟨by rfl, ?_⟩) (by assumption) ?_
      rotate_left
      · intro w hSw; (try dsimp only at hSw); go_simp; try with_reducible rfl
      try simp only [Act.put, List.setIfInBounds_toArray, List.set_cons_zero, List.set_cons_succ]
      refine wpAnyH_take (i := 2) (oi := ⟨_, _, _, _, _, _⟩) (v := ?_) rfl (by kernel_rfl) (by kernel_rfl) (by kernel_rfl) (fun _ _ _ h => h) (Or.inl ⟨by rfl, ?_⟩) (by assumption) ?_
      rotate_left
      · intro w hSw; (try dsimp only at hSw); go_simp; try with_reducible rfl
      try simp only [Act.put, List.setIfInBounds_toArray, List.set_cons_zero, List.set_cons_succ]
      refine wpAnyH_take (i := 3) (oi := ⟨_, _, _, _, _, _⟩) (v := ?_) rfl (by kernel_rfl) (by kernel_rfl) (by kernel_rfl) (fun _ _ _ h => h) (Or.inl ⟨by rfl, ?_⟩) (by assumption) ?_
      rotate_left
      · intro w hSw; (try dsimp only at hSw); go_simp; try with_reducible rfl
      try simp only [Act.put, List.setIfInBounds_toArray, List.set_cons_zero, List.set_cons_succ]
      refine wpAnyH_take (i := 4) (oi := ⟨_, _, _, _, _, _⟩) (v := ?_) rfl (by kernel_rfl) (by kernel_rfl) (by kernel_rfl) (fun _ _ _ h => h) (Or.inl ⟨by rfl, ?_⟩) (by assumption) ?_
      rotate_left
      · intro w hSw; (try dsimp only at hSw); go_simp; try with_reducible rfl
      try simp only [Act.put, List.setIfInBounds_toArray, List.set_cons_zero, List.set_cons_succ]
      refine wpAnyH_take (i := 5) (oi := ⟨_, _, _, _, _, _⟩) (v := ?_) rfl (by kernel_rfl) (by kernel_rfl) (by kernel_rfl) (fun _ _ _ h => h) (Or.inl ⟨by rfl, ?_⟩) (by assumption) ?_
      rotate_left
      · intro w hSw; (try dsimp only at hSw); go_simp; try with_reducible rfl
      try simp only [Act.put, List.setIfInBounds_toArray, List.set_cons_zero, List.set_cons_succ]
      refine wpAnyH_take (i := 6) (oi := ⟨_, _, _, _, _, _⟩) (v := ?_) rfl (by kernel_rfl) (by kernel_rfl) (by kernel_rfl) (fun _ _ _ h => h) (Or.inl ⟨by rfl, ?_⟩) (by assumption) ?_
      rotate_left
      · intro w hSw; (try dsimp only at hSw); go_simp; try with_reducible rfl
      try simp only [Act.put, List.setIfInBounds_toArray, List.set_cons_zero, List.set_cons_succ]
      refine wpAnyH_take (i := 7) (oi := ⟨_, _, _, _, _, _⟩) (v := ?_) rfl (by kernel_rfl) (by kernel_rfl) (by kernel_rfl) (fun _ _ _ h => h) (Or.inl ⟨by rfl, ?_⟩) (by assumption) ?_
      rotate_left
      · intro w hSw; (try dsimp only at hSw); go_simp; try with_reducible rfl
      try simp only [Act.put, List.setIfInBounds_toArray, List.set_cons_zero, List.set_cons_succ]
      refine wpAnyH_take (i := 8) (oi := ⟨_, _, _, _, _, _⟩) (v := ?_) rfl (by kernel_rfl) (by kernel_rfl) (by kernel_rfl) (fun _ _ _ h => h) (Or.inl ⟨by rfl, ?_⟩) (by assumption) ?_
      rotate_left
      · intro w hSw; (try dsimp only at hSw); go_simp; try with_reducible rfl
      try simp only [Act.put, List.setIfInBounds_toArray, List.set_cons_zero, List.set_cons_succ]
      refine wpAnyH_ready (rs := [9]) (by kernel_rfl) (by simp) ?_
      refine AllReadyH.cons (o := ⟨_, _, _, _, _, _⟩) rfl (fun K hK => ?_) AllReadyH.nil
      go_simp
      go_at_call 26
      (with_reducible refine (hS2).out.mono ?_)
      rintro e w9 ⟨rfl, hb9⟩
      go_wp2_with (fail)
      refine hK.out _ _ (by (try dsimp only); exact ⟨(hb9.cell (p := ⟨b1, o1 + k, none⟩) hb1'').trans hcc.out.1, (hb9.cell (p := ⟨b2, o2 + k, none⟩) hb2'').trans hcc.out.2.1, (hb9.cell (p := ⟨w2.heap.size, 1, none⟩) hb3'').trans hcc.out.2.2⟩) (fun hHeld => ?_)
      clear hK K
      try simp only [Act.put, List.setIfInBounds_toArray, List.set_cons_zero, List.set_cons_succ]
      refine wpAnyH_take (i := 10) (oi := ⟨_, _, _, _, _, _⟩) (v := ?_) rfl (by kernel_rfl) (by kernel_rfl) (by kernel_rfl) (fun _ _ _ h => h) (Or.inl ⟨by rfl, ?_⟩) (by assumption) ?_
      rotate_left
      · intro w hSw; (try dsimp only at hSw); go_simp; try with_reducible rfl
      try simp only [Act.put, List.setIfInBounds_toArray, List.set_cons_zero, List.set_cons_succ]
      refine wpAnyH_done (by kernel_rfl) ?_ _
      go_wp2_with (fail)
      go_roundw
      case rel => exact ⟨k + 1, by omega, by go_num, hbw.drew.trans (hb9.mono hbw.size)⟩
      case measure => simp [intOf]; omega
    · obtain rfl : k = kn := by omega
      have hB8 := hB7.trans (hbw.mono hB7.size)
      have hlt8 : w.heap.size < w8.heap.size := Nat.lt_of_lt_of_le hlt7 hbw.size
      have hlt58 : w4.heap.size < w8.heap.size := Nat.lt_of_lt_of_le hlt57 hbw.size
      have kk8 := keep6 hbw hlt7 kk7.out
      have k58 := k57.out.keep hbw hlt57
      have hcc := Lib.hid (show (w8.cell? ⟨w.heap.size, 0, none⟩ = some (.int .i64 F.p) ∧ w8.cell? ⟨w.heap.size, 1, none⟩ = some (.int .i64 F.m) ∧ w8.cell? ⟨w.heap.size, 2, none⟩ = some (.slice A F.mod.length c) ∧ w8.cell? ⟨w.heap.size, 3, none⟩ = some (.int .i64 (k : Int)) ∧ w8.cell? ⟨w.heap.size, 4, none⟩ = some (.slice A1 pts.length c1) ∧ w8.cell? ⟨w.heap.size, 5, none⟩ = some (.slice A2 mul.length c2)) ∧ w8.cell? ⟨w4.heap.size, 0, none⟩ = some (.int .i64 F.p) ∧ w8.cell? ⟨w4.heap.size, 1, none⟩ = some (.int .i64 F.m) ∧ w8.cell? ⟨w4.heap.size, 2, none⟩ = some (.slice A3 F.mod.length c3) ∧ w8.cell? ⟨w4.heap.size, 3, none⟩ = some (.int .i64 pts.length) ∧ w8.cell? ⟨w4.heap.size, 4, none⟩ = some (.slice Al2 k k) from ⟨kk8, k58.1, k58.2.1, k58.2.2.1, k58.2.2.2.1, k58.2.2.2.2.1⟩)
      have hk9 : ∀ {W W' : World}, Below W.heap.size W W' → w8.heap.size ≤ W.heap.size → Hid ((W.cell? ⟨w.heap.size, 0, none⟩ = some (.int .i64 F.p) ∧ W.cell? ⟨w.heap.size, 1, none⟩ = some (.int .i64 F.m) ∧ W.cell? ⟨w.heap.size, 2, none⟩ = some (.slice A F.mod.length c) ∧ W.cell? ⟨w.heap.size, 3, none⟩ = some (.int .i64 (k : Int)) ∧ W.cell? ⟨w.heap.size, 4, none⟩ = some (.slice A1 pts.length c1) ∧ W.cell? ⟨w.heap.size, 5, none⟩ = some (.slice A2 mul.length c2)) ∧ W.cell? ⟨w4.heap.size, 0, none⟩ = some (.int .i64 F.p) ∧ W.cell? ⟨w4.heap.size, 1, none⟩ = some (.int .i64 F.m) ∧ W.cell? ⟨w4.heap.size, 2, none⟩ = some (.slice A3 F.mod.length c3) ∧ W.cell? ⟨w4.heap.size, 3, none⟩ = some (.int .i64 pts.length) ∧ W.cell? ⟨w4.heap.size, 4, none⟩ = some (.slice Al2 k k)) → Hid ((W'.cell? ⟨w.heap.size, 0, none⟩ = some (.int .i64 F.p) ∧ W'.cell? ⟨w.heap.size, 1, none⟩ = some (.int .i64 F.m) ∧ W'.cell? ⟨w.heap.size, 2, none⟩ = some (.slice A F.mod.length c) ∧ W'.cell? ⟨w.heap.size, 3, none⟩ = some (.int .i64 (k : Int)) ∧ W'.cell? ⟨w.heap.size, 4, none⟩ = some (.slice A1 pts.length c1) ∧ W'.cell? ⟨w.heap.size, 5, none⟩ = some (.slice A2 mul.length c2)) ∧ W'.cell? ⟨w4.heap.size, 0, none⟩ = some (.int .i64 F.p) ∧ W'.cell? ⟨w4.heap.size, 1, none⟩ = some (.int .i64 F.m) ∧ W'.cell? ⟨w4.heap.size, 2, none⟩ = some (.slice A3 F.mod.length c3) ∧ W'.cell? ⟨w4.heap.size, 3, none⟩ = some (.int .i64 pts.length) ∧ W'.cell? ⟨w4.heap.size, 4, none⟩ = some (.slice Al2 k k)) := fun {W W'} hbb hss h => by
        have hx1 : w.heap.size < W.heap.size := Nat.lt_of_lt_of_le hlt8 hss
        have hx2 : w4.heap.size < W.heap.size := Nat.lt_of_lt_of_le hlt58 hss
        obtain ⟨u, u0, u1, u2, u3, u4⟩ := h.out
        exact Lib.hid ⟨keep6 hbb hx1 u, (hbb.cell (p := ⟨w4.heap.size, 0, none⟩) hx2).trans u0, (hbb.cell (p := ⟨w4.heap.size, 1, none⟩) hx2).trans u1, (hbb.cell (p := ⟨w4.heap.size, 2, none⟩) hx2).trans u2, (hbb.cell (p := ⟨w4.heap.size, 3, none⟩) hx2).trans u3, (hbb.cell (p := ⟨w4.heap.size, 4, none⟩) hx2).trans u4⟩
      replace hk9 := fun {W W' : World} a b c => Lib.hid (@hk9 W W' a b c)
      have hCo8 := hCo w8.drew ((hr.below hB8).more hB8.size).drew ((hr1.below hB8).more hB8.size).drew ((hr2.below hB8).more hB8.size).drew
      have hr38 := ((hr37.below hbw).more hbw.size).drew
      have hrm38 := ((hrm37.below hbw).more hbw.size).drew
      have hkkb : ((k : Int) == (k : Int)) = true := by simp
      clear hCo kk8 k58
      go_wp2_with (fail)
      refine wp_region_held_drew (S := fun w' => (w'.cell? ⟨w.heap.size, 0, none⟩ = some (.int .i64 F.p) ∧ w'.cell? ⟨w.heap.size, 1, none⟩ = some (.int .i64 F.m) ∧ w'.cell? ⟨w.heap.size, 2, none⟩ = some (.slice A F.mod.length c) ∧ w'.cell? ⟨w.heap.size, 3, none⟩ = some (.int .i64 (k : Int)) ∧ w'.cell? ⟨w.heap.size, 4, none⟩ = some (.slice A1 pts.length c1) ∧ w'.cell? ⟨w.heap.size, 5, none⟩ = some (.slice A2 mul.length c2)) ∧ w'.cell? ⟨w4.heap.size, 0, none⟩ = some (.int .i64 F.p) ∧ w'.cell? ⟨w4.heap.size, 1, none⟩ = some (.int .i64 F.m) ∧ w'.cell? ⟨w4.heap.size, 2, none⟩ = some (.slice A3 F.mod.length c3) ∧ w'.cell? ⟨w4.heap.size, 3, none⟩ = some (.int .i64 pts.length) ∧ w'.cell? ⟨w4.heap.size, 4, none⟩ = some (.slice Al2 k k)) (by kernel_rfl) (by (try dsimp only); exact hcc.out) (fun hHeld => ?_)
      refine wpAnyH_take (i := 0) (oi := ⟨_, _, _, _, _, _⟩) (v := ?_) rfl (by kernel_rfl) (by kernel_rfl) (by kernel_rfl) (fun _ _ _ h => h) (Or.inl ⟨by rfl, ?_⟩) (by assumption) ?_
      rotate_left
      · intro w hSw; (try dsimp only at hSw); go_simp; try with_reducible rfl
      try simp only [Act.put, List.setIfInBounds_toArray, List.set_cons_zero, List.set_cons_succ]
      refine wpAnyH_take (i := 1) (oi := ⟨_, _, _, _, _, _⟩) (v := ?_) rfl (by kernel_rfl) (by kernel_rfl) (by kernel_rfl) (fun _ _ _ h => h) (Or.inl ⟨by rfl, ?_⟩) (by assumption) ?_
      rotate_left
      · intro w hSw; (try dsimp only at hSw); go_simp; try with_reducible rfl
      try simp only [Act.put, List.setIfInBounds_toArray, List.set_cons_zero, List.set_cons_succ]
      refine wpAnyH_ready (rs := [2]) (by kernel_rfl) (by simp) ?_
      refine AllReadyH.cons (o := ⟨_, _, _, _, _, _⟩) rfl (fun K hK => ?_) AllReadyH.nil
      go_simp
      go_at_call 39
      (with_reducible refine (hCo8).out.mono ?_)
      rintro e w9 ⟨A6, c6, Al8, cl8, rfl, hr6, hrm6, hb9⟩
      have hcc9 := (hk9 (W := w8.drew) hb9 (Nat.le_refl _) hcc).out
      have hs9 : w8.heap.size ≤ w9.heap.size := hb9.size
      have hS9 := hSa A6 Al8 c6 cl8 w9 ((hr38.below hb9).more hb9.size) hr6 ((hrm38.below hb9).more hb9.size) hrm6
      go_wp2_with (fail)
      refine hK.out _ _ (by (try dsimp only); exact (hk9 (W := w8.drew) hb9 (Nat.le_refl _) hcc).out.out) (fun hHeld => ?_)
      clear hK K
      try simp only [Act.put, List.setIfInBounds_toArray, List.set_cons_zero, List.set_cons_succ]
      refine wpAnyH_ready (rs := [3]) (by kernel_rfl) (by simp) ?_
      refine AllReadyH.cons (o := ⟨_, _, _, _, _, _⟩) rfl (fun K hK => ?_) AllReadyH.nil
      go_simp
      go_at_call 38
      (with_reducible refine (hS9).out.mono ?_)
      rintro e w10 ⟨rfl, hb10⟩
      go_wp2_with (fail)
      refine hK.out _ _ (by (try dsimp only); exact (hk9 hb10 hs9 hcc9).out.out) (fun hHeld => ?_)
      clear hK K
      try simp only [Act.put, List.setIfInBounds_toArray, List.set_cons_zero, List.set_cons_succ]
      refine wpAnyH_take (i := 4) (oi := ⟨_, _, _, _, _, _⟩) (v := ?_) rfl (by kernel_rfl) (by kernel_rfl) (by kernel_rfl) (fun _ _ _ h => h) (Or.inl ⟨by rfl, ?_⟩) (by assumption) ?_
      rotate_left
      · intro w hSw; (try dsimp only at hSw); go_simp; try with_reducible rfl
      try simp only [Act.put, List.setIfInBounds_toArray, List.set_cons_zero, List.set_cons_succ]
      refine wpAnyH_take (i := 5) (oi := ⟨_, _, _, _, _, _⟩) (v := ?_) rfl (by kernel_rfl) (by kernel_rfl) (by kernel_rfl) (fun _ _ _ h => h) (Or.inl ⟨by rfl, ?_⟩) (by assumption) ?_
      rotate_left
      · intro w hSw; (try dsimp only at hSw); go_simp; try with_reducible rfl
      try simp only [Act.put, List.setIfInBounds_toArray, List.set_cons_zero, List.set_cons_succ]
      refine wpAnyH_take (i := 6) (oi := ⟨_, _, _, _, _, _⟩) (v := ?_) rfl (by kernel_rfl) (by kernel_rfl) (by kernel_rfl) (fun _ _ _ h => h) (Or.inl ⟨by rfl, ?_⟩) (by assumption) ?_
      rotate_left
      · intro w hSw; (try dsimp only at hSw); go_simp; try with_reducible rfl
      try simp only [Act.put, List.setIfInBounds_toArray, List.set_cons_zero, List.set_cons_succ]
      refine wpAnyH_take (i := 7) (oi := ⟨_, _, _, _, _, _⟩) (v := ?_) rfl (by kernel_rfl) (by kernel_rfl) (by kernel_rfl) (fun _ _ _ h => h) (Or.inl ⟨by rfl, ?_⟩) (by assumption) ?_
      rotate_left
      · intro w hSw; (try dsimp only at hSw); go_simp; try with_reducible rfl
      try simp only [Act.put, List.setIfInBounds_toArray, List.set_cons_zero, List.set_cons_succ]
      refine wpAnyH_take (i := 8) (oi := ⟨_, _, _, _, _, _⟩) (v := ?_) rfl (by kernel_rfl) (by kernel_rfl) (by kernel_rfl) (fun _ _ _ h => h) (Or.inl ⟨by rfl, ?_⟩) (by assumption) ?_
      rotate_left
      · intro w hSw; (try dsimp only at hSw); go_simp; try with_reducible rfl
      try simp only [Act.put, List.setIfInBounds_toArray, List.set_cons_zero, List.set_cons_succ]
      refine wpAnyH_take (i := 9) (oi := ⟨_, _, _, _, _, _⟩) (v := ?_) rfl (by kernel_rfl) (by kernel_rfl) (by kernel_rfl) (fun _ _ _ h => h) (Or.inl ⟨by rfl, ?_⟩) (by assumption) ?_
      rotate_left
      · intro w hSw; (try dsimp only at hSw); go_simp; try with_reducible rfl
      try simp only [Act.put, List.setIfInBounds_toArray, List.set_cons_zero, List.set_cons_succ]
      refine wpAnyH_take (i := 10) (oi := ⟨_, _, _, _, _, _⟩) (v := ?_) rfl (by kernel_rfl) (by kernel_rfl) (by kernel_rfl) (fun _ _ _ h => h) (Or.inl ⟨by rfl, ?_⟩) (by assumption) ?_
      rotate_left
      · intro w hSw; (try dsimp only at hSw); go_simp; try with_reducible rfl
      try simp only [Act.put, List.setIfInBounds_toArray, List.set_cons_zero, List.set_cons_succ]
      refine wpAnyH_take (i := 11) (oi := ⟨_, _, _, _, _, _⟩) (v := ?_) rfl (by kernel_rfl) (by kernel_rfl) (by kernel_rfl) (fun _ _ _ h => h) (Or.inl ⟨by rfl, ?_⟩) (by assumption) ?_
      rotate_left
      · intro w hSw; (try dsimp only at hSw); go_simp; try with_reducible rfl
      try simp only [Act.put, List.setIfInBounds_toArray, List.set_cons_zero, List.set_cons_succ]
      refine wpAnyH_take (i := 12) (oi := ⟨_, _, _, _, _, _⟩) (v := ?_) rfl (by kernel_rfl) (by kernel_rfl) (by kernel_rfl) (fun _ _ _ h => h) (Or.inl ⟨by rfl, ?_⟩) (by assumption) ?_
      rotate_left
      · intro w hSw; (try dsimp only at hSw); go_simp; try with_reducible rfl
      try simp only [Act.put, List.setIfInBounds_toArray, List.set_cons_zero, List.set_cons_succ]
      refine wpAnyH_done (by kernel_rfl) ?_ _
      go_wp2_with (fail)
      go_ret
      exact ⟨by simp, (hB8.drew.trans (hb9.mono hB8.size)).trans (hb10.mono (Nat.le_trans hB8.size hs9))⟩
end Go.Proofs.Ytnbkmkeiophjoaa
