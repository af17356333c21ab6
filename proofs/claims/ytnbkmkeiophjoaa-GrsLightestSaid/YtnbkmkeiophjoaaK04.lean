/- GrsStandard: the walk. -/
import Derived.Test.YtnbkmkeiophjoaaK03
namespace Go.Proofs.Ytnbkmkeiophjoaa
open Go.RowKit Cw

set_option maxHeartbeats 2000000 in
theorem standardL_bad (P M : Int) (ml : List Int) (A : Option Addr) (c : Nat) (n k : Int) (w : World) (hP : I64 P) (hM : I64 M) (hl : ml.length ≤ maxLen) (hr : Rd w w.heap.size A ml) (hb : ¬ Good P M ml) :
    Calls Try.prog 3 #[.agg #[.int .i64 P, .int .i64 M, .slice A ml.length c], .int .i64 n, .int .i64 k] w (LawEnd w) := by
  have hA := fun W => Lib.hid (alive_any W)
  have hS := fun W h => Lib.hid (gStd_bad P M n k ml A c W hP hM hl h hb)
  have hO := fun W => Lib.hid (Order_any P M A ml.length c W hP.2 hM.2)
  have hC := fun W h => Lib.hid (Check_any P M ml A c W hP.2 hM.2 hl h)
  rw [chk_no hb] at hC
  have hZ := fun W => Lib.hid (Zero18_zero W)
  have k0 := Lib.hid (alloc3 w (.int .i64 P) (.int .i64 M) (.slice A ml.length c) 24)
  have hB : Below w.heap.size w (w.alloc (.cells #[.int .i64 P, .int .i64 M, .slice A ml.length c] 24)) := (Below.refl _ _).alloc (Nat.le_refl _) _
  clear hP hM hl hb
  go_enter Try.func3, Try.ntmps3
  go_wp2_with (fail)
  refine (hA _).out.mono ?_
  rintro e w1 ⟨rfl, hb1⟩
  have kk1 := Lib.hid (keep3 hb1 (by simp) k0.out)
  have hB1 := hB.trans (hb1.mono hB.size)
  have hlt1 : w.heap.size < w1.heap.size := by have := hb1.size; simp only [World.size_alloc] at this; omega
  obtain ⟨q0, q1, q2⟩ := kk1.out
  go_wp2_with (fail)
  (with_reducible refine (hS w1 ((hr.below hB1).more hB1.size)).out.mono ?_)
  rintro e w2 ⟨rfl, hb2⟩
  have hB2 := hB1.trans (hb2.mono hB1.size)
  have kk2 := Lib.hid (keep3 hb2 hlt1 kk1.out)
  have hlt2 : w.heap.size < w2.heap.size := Nat.lt_of_lt_of_le hlt1 hb2.size
  have hb3 : Below w2.heap.size w2 (w2.alloc (.cells #[.int .i64 0, .int .i64 0, .slice none 0 0, .int .i64 0, .slice none 0 0, .slice none 0 0] 27)) := (Below.refl _ _).alloc (Nat.le_refl _) _
  have k6 := Lib.hid (alloc6 w2 (.int .i64 0) (.int .i64 0) (.slice none 0 0) (.int .i64 0) (.slice none 0 0) (.slice none 0 0) 27)
  obtain ⟨X3, hX3⟩ : ∃ X3, X3 = w2.alloc (.cells #[.int .i64 0, .int .i64 0, .slice none 0 0, .int .i64 0, .slice none 0 0, .slice none 0 0] 27) := ⟨_, rfl⟩
  have hlt3 : w2.heap.size < X3.heap.size := by rw [hX3]; simp
  rw [← hX3] at hb3 k6
  replace hX3 := Lib.hid hX3
  clear q0 q1 q2
  obtain ⟨q0, q1, q2⟩ := kk2.out
  go_wp2_with (fail)
  rw [← hX3.out]
  (with_reducible refine (hO X3).out.mono ?_)
  rintro e w4 ⟨rfl, hb4⟩
  have hb24 := hb3.trans (hb4.mono hb3.size)
  have kk4 := Lib.hid (keep3 hb24 hlt2 kk2.out)
  have k64 := Lib.hid (keep6 hb4 hlt3 k6.out)
  have hB4 := hB2.trans (hb24.mono hB2.size)
  have hlt4 : w.heap.size < w4.heap.size := Nat.lt_of_lt_of_le hlt2 hb24.size
  have hlt4' : w2.heap.size < w4.heap.size := Nat.lt_of_lt_of_le hlt3 hb4.size
  clear q0 q1 q2
  obtain ⟨q0, q1, q2⟩ := kk4.out
  go_wp2_with (fail)
  (with_reducible refine (hC w4 ((hr.below hB4).more hB4.size)).out.mono ?_)
  rintro e w5 ⟨rfl, hb5⟩
  have k65 := Lib.hid (keep6 hb5 hlt4' k64.out)
  have hB5 := hB4.trans (hb5.mono hB4.size)
  clear q0 q1 q2
  obtain ⟨q0, q1, q2, q3, q4, q5⟩ := k65.out
  go_wp2_with (fail)
  (with_reducible refine (hZ w5).out.mono ?_)
  rintro e w6 ⟨rfl, hb6⟩
  go_wp2_with (fail)
  go_ret
  exact ⟨rfl, hB5.trans (hb6.mono hB5.size)⟩

theorem std_chk {D : Desc} {n k : Int} (h : stdErr D n k = 0) : 1 ≤ n ∧ n ≤ 64 ∧ n ≤ D.q ∧ 0 ≤ k ∧ k ≤ n ∧ gchkD D k (lst n.toNat fun i => (i : Int)) (lst n.toNat fun _ => 1) = 0 := by
  unfold stdErr at h
  by_cases h1 : n < 1 ∨ 64 < n ∨ (D.q : Int) < n
  · rw [if_pos h1] at h; cases h
  rw [if_neg h1] at h
  by_cases h2 : k < 0 ∨ n < k
  · rw [if_pos h2] at h; cases h
  have hq := D.q2
  refine ⟨by omega, by omega, by omega, by omega, by omega, ?_⟩
  unfold gchkD
  rw [lst_length, lst_length, if_neg (by omega), if_neg (by omega), if_neg, if_neg, if_neg, if_neg (by omega)]
  · intro hm
    obtain ⟨i, hi, hi2⟩ := List.mem_map.1 (show (0 : Int) ∈ (List.range n.toNat).map fun _ => (1 : Int) from hm)
    cases hi2
  · rw [Bool.not_eq_true]
    refine twB_no fun i j hj hi => ?_
    rw [lst_length] at hi
    rw [lst_get _ hi, lst_get _ (by omega)]
    omega
  · rintro (h3 | h3)
    · rw [elB_iff.2 fun j hj => ?_] at h3
      · cases h3
      · rw [lst_length] at hj; rw [lst_get _ hj]; omega
    · rw [elB_iff.2 fun j hj => ?_] at h3
      · cases h3
      · rw [lst_length] at hj; rw [lst_get _ hj]; omega

set_option maxRecDepth 100000 in
set_option maxHeartbeats 4000000 in
theorem standardL_good (D : Desc) (A : Option Addr) (c : Nat) (n k : Int) (w : World) (_hin : I64 n) (_hik : I64 k) (hr : Rd w w.heap.size A (modL D)) (hb : Good D.p D.m (modL D)) :
    Calls Try.prog 3 #[.agg #[.int .i64 D.p, .int .i64 D.m, .slice A D.mod.length c], .int .i64 n, .int .i64 k] w (LawEnd w) := by
  have hp1 := D.p256; have hp2 := D.m8; have hq2 := D.q2; have hq3 := D.q256
  have hml : (modL D).length ≤ maxLen := by rw [modL_length]; have := D.hlen; rw [this]; unfold maxLen; split <;> omega
  have hA := fun W => Lib.hid (alive_any W)
  have hS := fun W h => Lib.hid (gStd_D D n k A c W h hb)
  have hO := fun W => Lib.hid (Order_any D.p D.m A D.mod.length c W (by omega) (by omega))
  rw [qOf_D] at hO
  have hC := fun W h => Lib.hid (Check_any D.p D.m (modL D) A c W (by omega) (by omega) hml h)
  rw [chk_yes hb, modL_length] at hC
  have hZ := fun W => Lib.hid (Zero18_zero W)
  have k0 := Lib.hid (alloc3 w (.int .i64 D.p) (.int .i64 D.m) (.slice A D.mod.length c) 24)
  have hB : Below w.heap.size w (w.alloc (.cells #[.int .i64 D.p, .int .i64 D.m, .slice A D.mod.length c] 24)) := (Below.refl _ _).alloc (Nat.le_refl _) _
  have hb0 := Lib.hid hb
  replace hml := Lib.hid hml
  clear hb
  go_enter Try.func3, Try.ntmps3
  go_wp2_with (fail)
  refine (hA _).out.mono ?_
  rintro e w1 ⟨rfl, hb1⟩
  have kk1 := Lib.hid (keep3 hb1 (by simp) k0.out)
  have hB1 := hB.trans (hb1.mono hB.size)
  have hlt1 : w.heap.size < w1.heap.size := by have := hb1.size; simp only [World.size_alloc] at this; omega
  obtain ⟨q0, q1, q2⟩ := kk1.out
  go_wp2_with (fail)
  (with_reducible refine (hS w1 ((hr.below hB1).more hB1.size)).out.mono ?_)
  rintro e w2 ⟨hb2, ⟨hne, rfl⟩ | ⟨heq, A3, c3, A1, c1, A2, c2, rfl, hr3, hr1, hr2, hc1, hc1'⟩⟩
  · have hB2 := hB1.trans (hb2.mono hB1.size)
    have kk2 := Lib.hid (keep3 hb2 hlt1 kk1.out)
    have hlt2 : w.heap.size < w2.heap.size := Nat.lt_of_lt_of_le hlt1 hb2.size
    have hb3 : Below w2.heap.size w2 (w2.alloc (.cells #[.int .i64 0, .int .i64 0, .slice none 0 0, .int .i64 0, .slice none 0 0, .slice none 0 0] 27)) := (Below.refl _ _).alloc (Nat.le_refl _) _
    have k6 := Lib.hid (alloc6 w2 (.int .i64 0) (.int .i64 0) (.slice none 0 0) (.int .i64 0) (.slice none 0 0) (.slice none 0 0) 27)
    obtain ⟨X3, hX3⟩ : ∃ X3, X3 = w2.alloc (.cells #[.int .i64 0, .int .i64 0, .slice none 0 0, .int .i64 0, .slice none 0 0, .slice none 0 0] 27) := ⟨_, rfl⟩
    have hlt3 : w2.heap.size < X3.heap.size := by rw [hX3]; simp
    rw [← hX3] at hb3 k6
    replace hX3 := Lib.hid hX3
    replace hne := Lib.hid hne
    clear q0 q1 q2
    obtain ⟨q0, q1, q2⟩ := kk2.out
    go_wp2_with (fail)
    rw [← hX3.out]
    (with_reducible refine (hO X3).out.mono ?_)
    rintro e w4 ⟨rfl, hb4⟩
    have hb24 := hb3.trans (hb4.mono hb3.size)
    have kk4 := Lib.hid (keep3 hb24 hlt2 kk2.out)
    have k64 := Lib.hid (keep6 hb4 hlt3 k6.out)
    have hB4 := hB2.trans (hb24.mono hB2.size)
    have hlt4 : w.heap.size < w4.heap.size := Nat.lt_of_lt_of_le hlt2 hb24.size
    have hlt4' : w2.heap.size < w4.heap.size := Nat.lt_of_lt_of_le hlt3 hb4.size
    clear q0 q1 q2
    obtain ⟨q0, q1, q2⟩ := kk4.out
    go_wp2_with (fail)
    (with_reducible refine (hC w4 ((hr.below hB4).more hB4.size)).out.mono ?_)
    rintro e w5 ⟨rfl, hb5⟩
    have k65 := Lib.hid (keep6 hb5 hlt4' k64.out)
    have hB5 := hB4.trans (hb5.mono hB4.size)
    have hZ5 := hZ w5
    clear q0 q1 q2
    obtain ⟨q0, q1, q2, q3, q4, q5⟩ := k65.out
    have hor : n < 1 ∨ ((1 ≤ n ∧ 64 < n) ∧ ¬ (D.q : Int) ≤ 64) ∨ ((1 ≤ n ∧ (D.q : Int) < n) ∧ (D.q : Int) ≤ 64) ∨ ((1 ≤ n ∧ n ≤ 64 ∧ n ≤ (D.q : Int)) ∧ (D.q : Int) ≤ 64) ∨ ((1 ≤ n ∧ n ≤ 64 ∧ n ≤ (D.q : Int)) ∧ ¬ (D.q : Int) ≤ 64) := by omega
    rcases hor with hn1 | ⟨⟨hn1, hn2⟩, hq⟩ | ⟨⟨hn1, hn2⟩, hq⟩ | ⟨⟨hn1, hn2, hn3⟩, hq⟩ | ⟨⟨hn1, hn2, hn3⟩, hq⟩
    iterate 3
     · have hv : Hid (stdErr D n k = 4) := if_pos (by omega)
       rw [hv.out]
       go_wp2_with (fail)
       (with_reducible refine hZ5.out.mono ?_)
       rintro e w6 ⟨rfl, hb6⟩
       go_wp2_with (fail)
       go_ret
       exact ⟨rfl, hB5.trans (hb6.mono hB5.size)⟩
    all_goals
     have hv0 : Hid (stdErr D n k = if k < 0 ∨ n < k then 6 else 0) := if_neg (by omega)
     by_cases hk1 : k < 0
     · have hv : Hid (stdErr D n k = 6) := hv0.out.trans (if_pos (.inl hk1))
       rw [hv.out]
       go_wp2_with (fail)
       (with_reducible refine hZ5.out.mono ?_)
       rintro e w6 ⟨rfl, hb6⟩
       go_wp2_with (fail)
       go_ret
       exact ⟨rfl, hB5.trans (hb6.mono hB5.size)⟩
     by_cases hk2 : n < k
     · have hv : Hid (stdErr D n k = 6) := hv0.out.trans (if_pos (.inr hk2))
       rw [hv.out]
       go_wp2_with (fail)
       (with_reducible refine hZ5.out.mono ?_)
       rintro e w6 ⟨rfl, hb6⟩
       go_wp2_with (fail)
       go_ret
       exact ⟨rfl, hB5.trans (hb6.mono hB5.size)⟩
     exact absurd (hv0.out.trans (if_neg (by omega))) hne.out
  · obtain ⟨hn1, hn2, hn3, hk1, hk2, hchk⟩ := std_chk heq
    have hB2 := hB1.trans (hb2.mono hB1.size)
    have kk2 := Lib.hid (keep3 hb2 hlt1 kk1.out)
    have hlt2 : w.heap.size < w2.heap.size := Nat.lt_of_lt_of_le hlt1 hb2.size
    obtain ⟨X3, hX3⟩ : ∃ X3, X3 = w2.alloc (.cells #[.int .i64 D.p, .int .i64 D.m, .slice A3 D.mod.length c3, .int .i64 k, .slice A1 n.toNat c1, .slice A2 n.toNat c2] 27) := ⟨_, rfl⟩
    have hb3 : Below w2.heap.size w2 X3 := by rw [hX3]; exact (Below.refl _ _).alloc (Nat.le_refl _) _
    have k6 := alloc6 w2 (.int .i64 D.p) (.int .i64 D.m) (.slice A3 D.mod.length c3) (.int .i64 k) (.slice A1 n.toNat c1) (.slice A2 n.toNat c2) 27
    have hlt3 : w2.heap.size < X3.heap.size := by rw [hX3]; simp
    rw [← hX3] at k6
    have hSm := fun B1 B2 B3 e1 e2 e3 W a b c' d e f => (Same18_eq D.p D.m k (modL D) (lst n.toNat fun i => (i : Int)) (lst n.toNat fun _ => 1) A3 A1 A2 c3 c1 c2 B1 B2 B3 e1 e2 e3 W a b c' d e f hml.out (by rw [lst_length]; unfold maxLen; omega) (by rw [lst_length]; unfold maxLen; omega))
    rw [modL_length, lst_length, lst_length] at hSm
    replace hSm := fun B1 B2 B3 e1 e2 e3 W a b c' d e f => Lib.hid (hSm B1 B2 B3 e1 e2 e3 W a b c' d e f)
    have hCk := fun W a b d => (Chk18_D D k (lst n.toNat fun i => (i : Int)) (lst n.toNat fun _ => 1) A3 A1 A2 c3 c1 c2 W a hb0.out b d (by rw [lst_length]; unfold maxLen; omega))
    rw [lst_length, lst_length, hchk] at hCk
    replace hCk := fun W a b d => Lib.hid (hCk W a b d)
    replace k6 := Lib.hid k6
    replace hX3 := Lib.hid hX3
    clear q0 q1 q2 heq hchk
    obtain ⟨q0, q1, q2⟩ := kk2.out
    go_wp2_with (fail)
    rw [← hX3.out]
    (with_reducible refine (hO X3).out.mono ?_)
    rintro e w4 ⟨rfl, hb4⟩
    have hb24 := hb3.trans (hb4.mono hb3.size)
    have kk4 := Lib.hid (keep3 hb24 hlt2 kk2.out)
    have k64 := Lib.hid (keep6 hb4 hlt3 k6.out)
    have hB4 := hB2.trans (hb24.mono hB2.size)
    have hlt4 : w.heap.size < w4.heap.size := Nat.lt_of_lt_of_le hlt2 hb24.size
    have hlt4' : w2.heap.size < w4.heap.size := Nat.lt_of_lt_of_le hlt3 hb4.size
    clear q0 q1 q2
    obtain ⟨q0, q1, q2⟩ := kk4.out
    go_wp2_with (fail)
    (with_reducible refine (hC w4 ((hr.below hB4).more hB4.size)).out.mono ?_)
    rintro e w5 ⟨rfl, hb5⟩
    have kk5 := Lib.hid (keep3 hb5 hlt4 kk4.out)
    have k65 := Lib.hid (keep6 hb5 hlt4' k64.out)
    have hB5 := hB4.trans (hb5.mono hB4.size)
    have hlt5 : w.heap.size < w5.heap.size := Nat.lt_of_lt_of_le hlt4 hb5.size
    have hlt5' : w2.heap.size < w5.heap.size := Nat.lt_of_lt_of_le hlt4' hb5.size
    have hb25 := hb24.trans (hb5.mono hb24.size)
    have hr35 := (hr3.below hb25).more hb25.size
    have hr15 := (hr1.below hb25).more hb25.size
    have hr25 := (hr2.below hb25).more hb25.size
    have hr5 := (hr.below hB5).more hB5.size
    have six0 := Six.new w5 (.int .i64 D.p) (.int .i64 D.m) (.slice A D.mod.length c) (.int .i64 k) (.slice none 0 0) (.slice none 0 0) 27
    have hB0 : Below w5.heap.size w5 (w5.alloc (.cells #[.int .i64 D.p, .int .i64 D.m, .slice A D.mod.length c, .int .i64 k, .slice none 0 0, .slice none 0 0] 27)) := (Below.refl _ _).alloc (Nat.le_refl _) _
    clear q0 q1 q2 hZ hA hS hO hC hB hB1 hB2 hB4 hb1 hb2 hb3 hb4 hb5 hb24 hb25 kk1 kk2 kk4 k6 k64
    obtain ⟨q0, q1, q2⟩ := kk5.out
    have hor : (D.q : Int) ≤ 64 ∨ ¬ (D.q : Int) ≤ 64 := by omega
    have htrip : Hid (1 ≤ n ∧ n ≤ 64 ∧ n ≤ (D.q : Int) ∧ 0 ≤ k ∧ k ≤ n) := ⟨hn1, hn2, hn3, hk1, hk2⟩
    rcases hor with hq | hq
    all_goals
     go_wp2_with (fail)
     clear q0 q1 q2
     go_loopw [66, 11] (fun i _ wr => ∃ j : Nat, (j : Int) ≤ n ∧ i = .int .i64 j ∧ ∃ v1 v2, Six wr w5.heap.size (.int .i64 D.p) (.int .i64 D.m) (.slice A D.mod.length c) (.int .i64 k) v1 v2 ∧ Own wr (w5.heap.size + 1) v1 (lst j fun i => (i : Int)) ∧ Own wr (w5.heap.size + 1) v2 (lst j fun _ => 1) ∧ Dis v1 v2 ∧ Below w5.heap.size w5 wr ∧ w5.heap.size < wr.heap.size) (fun i _ _ => (n - intOf i).toNat)
     case atStart => exact ⟨0, by omega, rfl, _, _, six0, Own.nil _ _, Own.nil _ _, Dis.nil, hB0, by rw [World.size_alloc]; exact Nat.lt_succ_self _⟩
     case round =>
       obtain ⟨wt, rfl⟩ : ∃ wt : World, wt = wr := ⟨_, rfl⟩
       obtain ⟨j, hj, rfl, v1, v2, six, ho1, ho2, hdis, hbw, hlt⟩ := hrel
       clear six0 hB0
       obtain ⟨A4, c4, rfl, hc4, hr4, hA4⟩ := ho1.form
       obtain ⟨A5, c5, rfl, hc5, hr5', hA5⟩ := ho2.form
       by_cases hjn : (j : Int) < n
       · have hle1 : (lst j fun i => (i : Int)).length ≤ 1000000 := by rw [lst_length]; omega
         have hle2 : (lst j fun _ => (1 : Int)).length ≤ 1000000 := by rw [lst_length]; omega
         have six' := six
         obtain ⟨a0, a1, a2, a3, a4, a5, f0, f1, f2, f3, f4, f5⟩ := six'
         go_wp2_with (at_builtin; first
           | (refine wpList_app1 rfl _ _ rfl (w5.heap.size + 1) _ _ _ ho1 rfl rfl rfl hle1 hlt ?_; intro v1' w6 ho3 hb3 hg3 hv3; obtain ⟨A6, c6, rfl, -, -, -⟩ := ho3.form; rw [List.length_append] at ho3 hv3; have hd3 := hdis.step ho2.lt hv3; have ho2' := ho2.kept hg3 hdis.symm.ne; have six3 := six.keep hb3 (Nat.lt_succ_self _); have sx := six3; have six4 := six3.set4 (.slice A6 ((lst j fun i => (i : Int)).length + 1) c6); clear a0 a1 a2 a3 a4 a5 f0 f1 f2 f3 f4 f5; obtain ⟨b0, b1, b2, b3, b4, b5, g0, g1, g2, g3, g4, g5⟩ := sx; have ho4 := ho2'.farB 4 (.slice A6 ((lst j fun i => (i : Int)).length + 1) c6); have ho3' := ho3.farB 4 (.slice A6 ((lst j fun i => (i : Int)).length + 1) c6); have hlt6 := Nat.lt_of_lt_of_le hlt hb3.size)
           | go_loud (refine wpList_app1 rfl _ _ rfl (w5.heap.size + 1) _ _ _ ho4 rfl rfl (by simp [World.setCell]) hle2 (Nat.le_trans hlt6 (grown_set _ _ _).size) ?_; intro v2' w7 ho5 hb5 hg5 hv5; obtain ⟨A7, c7, rfl, -, -, -⟩ := ho5.form; rw [List.length_append] at ho5 hv5; clear b0 b1 b2 b3 b4 b5 g0 g1 g2 g3 g4 g5; have six5 := six4.keep hb5 (Nat.lt_succ_self _); have sx := six5; obtain ⟨b0, b1, b2, b3, b4, b5, g0, g1, g2, g3, g4, g5⟩ := sx))
         go_roundw
         case rel =>
           refine ⟨j + 1, by omega, rfl, _, _, six5.set5 _, ?_, ?_, ?_, (hbw.trans (hb3.mono (Nat.le_succ _))).trans ((((Below.refl _ _).setCell (p := ⟨w5.heap.size, 4, none⟩) (Nat.le_refl _) _).trans (hb5.mono (Nat.le_succ _))).setCell (p := ⟨w5.heap.size, 5, none⟩) (Nat.le_refl _) _), by have := hb5.size; simp [World.setCell] at *; omega⟩
           · have := (ho3'.kept hg5 hd3.ne).farB 5 (.slice A7 ((lst j fun _ => (1 : Int)).length + 1) c7)
             rw [lst_succ]; exact this
           · have := ho5.farB 5 (.slice A7 ((lst j fun _ => (1 : Int)).length + 1) c7)
             rw [lst_succ]; exact this
           · exact (hd3.symm.step ho3'.lt hv5).symm
         case measure => simp [intOf]; omega
       · obtain ⟨a0, a1, a2, a3, a4, a5, -, -, -, -, -, -⟩ := six
         obtain rfl : n.toNat = j := by omega
         rw [lst_length] at a4 a5
         have hBt := hB5.trans (hbw.mono hB5.size)
         have k6t := Lib.hid (keep6 hbw hlt5' k65.out)
         have hS2 := hSm A A4 A5 c c4 c5 wt ((hr35.below hbw).more hbw.size) ((hr15.below hbw).more hbw.size) ((hr25.below hbw).more hbw.size) ((hr5.below hbw).more hbw.size) hr4 hr5'
         obtain ⟨q0, q1, q2, q3, q4, q5⟩ := k6t.out
         clear hr5' hr4 ho1 ho2 hdis hSm
         go_wp2_with (fail)
         (with_reducible refine hS2.out.mono ?_)
         rintro e w6 ⟨rfl, hb6⟩
         have hlt6 : w2.heap.size < wt.heap.size := by omega
         have k66 := keep6 hb6 hlt6 k6t.out
         have hb56 := hbw.trans (hb6.mono hbw.size)
         have hBf := hB5.trans (hb56.mono hB5.size)
         clear q0 q1 q2 q3 q4 q5 a0 a1 a2 a3 a4 a5
         obtain ⟨q0, q1, q2, q3, q4, q5⟩ := k66
         go_wp2_with (fail)
         (with_reducible refine (hCk w6 ((hr35.below hb56).more hb56.size) ((hr15.below hb56).more hb56.size) ((hr25.below hb56).more hb56.size)).out.mono ?_)
         rintro e w7 ⟨rfl, hb7⟩
         go_wp2_with (fail)
         go_ret
         exact ⟨rfl, hBf.trans (hb7.mono hBf.size)⟩
end Go.Proofs.Ytnbkmkeiophjoaa
