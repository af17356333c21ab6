/- TowerMinimal: the walk. -/
import Derived.Test.YteamndefbpdcjaaL01
import Derived.Test.YteamndefbpdcjaaFrP
import Derived.Test.YteamndefbpdcjaaDiv7
namespace Go.Proofs.Yteamndefbpdcjaa
open Go.RowKit Go.Shelf Cw
attribute [local go_sem] Oper.semAt_some

set_option maxHeartbeats 1000000 in
theorem mnL_bad (P M : Int) (ml : List Int) (A : Option Addr) (c : Nat) (x1 y1 : Int) (l2 : List Int) (A2 : Option Addr) (c2 : Nat) (w : World) (hP : I64 P) (hM : I64 M) (hl : ml.length ≤ maxLen) (hr : Rd w w.heap.size A ml) (hb : ¬ Good P M ml) :
    Calls Try.prog 13 #[.agg #[.int .i64 P, .int .i64 M, .slice A ml.length c], .agg #[.int .i64 x1, .int .i64 y1], .slice A2 l2.length c2] w (LawEnd w) := by
  have hA := fun W => Lib.hid (alive_any W)
  have hM := fun W (h : Rd W W.heap.size A ml) => Lib.hid (made_bad P M ml A c W hP.2 hM.2 hl h hb)
  have hB : Below w.heap.size w ((w.alloc (.cells #[.int .i64 P, .int .i64 M, .slice A ml.length c] 24)).alloc (.cells #[.int .i64 x1, .int .i64 y1] 31)) := (((Below.refl _ _).alloc (by simp) _).alloc (by simp) _)
  have k0 := Lib.hid (show (((w.alloc (.cells #[.int .i64 P, .int .i64 M, .slice A ml.length c] 24)).alloc (.cells #[.int .i64 x1, .int .i64 y1] 31))).cell? ⟨w.heap.size, 0, none⟩ = some (.int .i64 P) ∧ (((w.alloc (.cells #[.int .i64 P, .int .i64 M, .slice A ml.length c] 24)).alloc (.cells #[.int .i64 x1, .int .i64 y1] 31))).cell? ⟨w.heap.size, 1, none⟩ = some (.int .i64 M) ∧ (((w.alloc (.cells #[.int .i64 P, .int .i64 M, .slice A ml.length c] 24)).alloc (.cells #[.int .i64 x1, .int .i64 y1] 31))).cell? ⟨w.heap.size, 2, none⟩ = some (.slice A ml.length c) from by simp [go_sem])
  have p0 := Lib.hid (show (((w.alloc (.cells #[.int .i64 P, .int .i64 M, .slice A ml.length c] 24)).alloc (.cells #[.int .i64 x1, .int .i64 y1] 31))).cell? ⟨w.heap.size + 1, 0, none⟩ = some (.int .i64 x1) ∧ (((w.alloc (.cells #[.int .i64 P, .int .i64 M, .slice A ml.length c] 24)).alloc (.cells #[.int .i64 x1, .int .i64 y1] 31))).cell? ⟨w.heap.size + 1, 1, none⟩ = some (.int .i64 y1) from by simp [go_sem])
  clear hP hl hb
  go_enter Try.func13, Try.ntmps13
  go_wp2_with (fail)
  refine (hA _).out.mono ?_
  rintro e w1 ⟨rfl, hb1⟩
  have p1 := Lib.hid (keep2 hb1 (by simp) p0.out)
  obtain ⟨ka, kb, kc⟩ := keep3 hb1 (by simp; try omega) k0.out
  have hr1 := (((hr.below hB).more hB.size).below hb1).more hb1.size
  have hB1 := hB.trans (hb1.mono hB.size)
  have hM1 := hM _ hr1
  clear hM hA
  go_wp2_with (fail)
  refine hM1.out.mono ?_
  rintro e w2 ⟨rfl, hb2⟩
  obtain ⟨pa, pb⟩ := keep2 hb2 (by have := hb1.size; simp only [World.size_alloc] at this; omega) p1.out
  go_wp2_with (fail)
  go_quiet (fail)
  go_wp2_with (fail)
  go_ret
  exact ⟨rfl, below_drewN' (hB1.trans (hb2.mono hB1.size)) _⟩

set_option maxRecDepth 100000 in
set_option maxHeartbeats 2000000 in
theorem mnL_good (D : Desc) (A : Option Addr) (c : Nat) (x1 y1 : Int) (l2 : List Int) (A2 : Option Addr) (c2 : Nat) (w : World) (hlc : l2.length ≤ c2) (hlm : c2 ≤ maxLen) (hrl : Rd w w.heap.size A2 l2) (hr : Rd w w.heap.size A (modL D)) (hb : Good D.p D.m (modL D)) :
    Calls Try.prog 13 #[.agg #[.int .i64 D.p, .int .i64 D.m, .slice A D.mod.length c], .agg #[.int .i64 x1, .int .i64 y1], .slice A2 l2.length c2] w (LawEnd w) := by
  have hp2 := D.m8; have hm1 := D.m1
  have hA := fun W => Lib.hid (alive_any W)
  have hM := fun W (h : Rd W W.heap.size A (modL D)) => Lib.hid (made_good D A c W h hb)
  have hB : Below w.heap.size w ((w.alloc (.cells #[.int .i64 D.p, .int .i64 D.m, .slice A D.mod.length c] 24)).alloc (.cells #[.int .i64 x1, .int .i64 y1] 31)) := (((Below.refl _ _).alloc (by simp) _).alloc (by simp) _)
  have k0 := Lib.hid (show (((w.alloc (.cells #[.int .i64 D.p, .int .i64 D.m, .slice A D.mod.length c] 24)).alloc (.cells #[.int .i64 x1, .int .i64 y1] 31))).cell? ⟨w.heap.size, 0, none⟩ = some (.int .i64 D.p) ∧ (((w.alloc (.cells #[.int .i64 D.p, .int .i64 D.m, .slice A D.mod.length c] 24)).alloc (.cells #[.int .i64 x1, .int .i64 y1] 31))).cell? ⟨w.heap.size, 1, none⟩ = some (.int .i64 D.m) ∧ (((w.alloc (.cells #[.int .i64 D.p, .int .i64 D.m, .slice A D.mod.length c] 24)).alloc (.cells #[.int .i64 x1, .int .i64 y1] 31))).cell? ⟨w.heap.size, 2, none⟩ = some (.slice A D.mod.length c) from by simp [go_sem])
  have p0 := Lib.hid (show (((w.alloc (.cells #[.int .i64 D.p, .int .i64 D.m, .slice A D.mod.length c] 24)).alloc (.cells #[.int .i64 x1, .int .i64 y1] 31))).cell? ⟨w.heap.size + 1, 0, none⟩ = some (.int .i64 x1) ∧ (((w.alloc (.cells #[.int .i64 D.p, .int .i64 D.m, .slice A D.mod.length c] 24)).alloc (.cells #[.int .i64 x1, .int .i64 y1] 31))).cell? ⟨w.heap.size + 1, 1, none⟩ = some (.int .i64 y1) from by simp [go_sem])
  go_enter Try.func13, Try.ntmps13
  go_wp2_with (fail)
  refine (hA _).out.mono ?_
  rintro e w1 ⟨rfl, hb1⟩
  obtain ⟨ka, kb, kc⟩ := keep3 hb1 (by simp; try omega) k0.out
  have p1 := Lib.hid (keep2 hb1 (by simp) p0.out)
  have hr1 := (((hr.below hB).more hB.size).below hb1).more hb1.size
  have hB1 := hB.trans (hb1.mono hB.size)
  have hM1 := hM _ hr1
  clear hM hA
  go_wp2_with (fail)
  refine hM1.out.mono ?_
  rintro e w2 ⟨hb2, ⟨g, F, rfl, rfl, hgl, hg⟩ | ⟨-, rfl⟩⟩
  rotate_left
  · obtain ⟨pa, pb⟩ := keep2 hb2 (by have := hb1.size; simp only [World.size_alloc] at this; omega) p1.out
    go_wp2_with (fail)
    go_quiet (fail)
    go_wp2_with (fail)
    go_ret
    exact ⟨rfl, below_drewN' (hB1.trans (hb2.mono hB1.size)) _⟩
  have hlt2 : w.heap.size < w2.heap.size := by have := hb1.size; have := hb2.size; simp only [World.size_alloc] at *; omega
  have hlt2b : w.heap.size + 1 < w2.heap.size := by have := hb1.size; have := hb2.size; simp only [World.size_alloc] at *; omega
  have kk2 := Lib.hid (keep3 hb2 (by have := hb1.size; simp only [World.size_alloc] at this; omega) ⟨ka, kb, kc⟩)
  have pk2 := Lib.hid (keep2 hb2 (by have := hb1.size; simp only [World.size_alloc] at this; omega) p1.out)
  have kp2 : Hid (w2.cell? ⟨w.heap.size, 0, none⟩ = some (.int .i64 F.p) ∧ w2.cell? ⟨w.heap.size, 1, none⟩ = some (.int .i64 F.m) ∧ w2.cell? ⟨w.heap.size, 2, none⟩ = some (.slice A F.mod.length c) ∧ w2.cell? ⟨w.heap.size + 1, 0, none⟩ = some (.int .i64 x1) ∧ w2.cell? ⟨w.heap.size + 1, 1, none⟩ = some (.int .i64 y1)) := Lib.hid (⟨kk2.out.1, kk2.out.2.1, kk2.out.2.2, pk2.out.1, pk2.out.2⟩ : _ ∧ _ ∧ _ ∧ _ ∧ _)
  have hl2 := hlt2b
  have hB2 := hB1.trans (hb2.mono hB1.size)
  have hr2 := (hr1.below hb2).more hb2.size
  have hg2 := hg
  clear ka kb kc hr1 hM1 hb hb1 hB hB1 k0 hr kk2 hlt2 hb2 hg pk2 p0 p1 hlt2b
  have hv2 := (hrl.below hB2).more hB2.size
  have hl' : l2.length ≤ maxLen := Nat.le_trans hlc hlm
  unfold maxLen at hlm
  clear hrl
  go_wp2_with (fail)
  go_region_held3 (fun w' => w'.cell? ⟨w.heap.size, 0, none⟩ = some (.int .i64 F.p) ∧ w'.cell? ⟨w.heap.size, 1, none⟩ = some (.int .i64 F.m) ∧ w'.cell? ⟨w.heap.size, 2, none⟩ = some (.slice A F.mod.length c) ∧ w'.cell? ⟨w.heap.size + 1, 0, none⟩ = some (.int .i64 x1) ∧ w'.cell? ⟨w.heap.size + 1, 1, none⟩ = some (.int .i64 y1)) (first | exact kp2.out) (fail)
  have hv3 : Rd w2.drew w2.drew.heap.size A2 l2 := hv2.drew
  clear hv2
  have hg3 : GF w2.drew w2.drew.heap.size g F := hg2.drew
  have hr3 : Rd w2.drew w2.drew.heap.size A (modL F.toDesc) := hr2.drew
  have kp3 : Hid (w2.drew.cell? ⟨w.heap.size, 0, none⟩ = some (.int .i64 F.p) ∧ w2.drew.cell? ⟨w.heap.size, 1, none⟩ = some (.int .i64 F.m) ∧ w2.drew.cell? ⟨w.heap.size, 2, none⟩ = some (.slice A F.mod.length c) ∧ w2.drew.cell? ⟨w.heap.size + 1, 0, none⟩ = some (.int .i64 x1) ∧ w2.drew.cell? ⟨w.heap.size + 1, 1, none⟩ = some (.int .i64 y1)) := kp2
  have hl3 : _ < w2.drew.heap.size := hl2
  have hB3 := hB2.drew
  clear hg2 hr2 kp2 hB2
  generalize w2.drew = w3 at *
  by_cases hl12 : l2.length ≤ 12
  · have hd12 : decide (12 < (l2.length : Int)) = false := by simp; omega
    by_cases hdv : divB F.m y1 = true
    · obtain ⟨d, rfl, hk1, hkm, hkd⟩ := divB_nat hdv
      have hV := fun W => Lib.hid (Divides_any F.toDesc d A F.mod.length c W)
      rw [hdv] at hV
      have hP := fun W a => Lib.hid (tMin_yes F x1 d g W a hk1 hkd)
      have hR := fun W a => Lib.hid (Min7_any F x1 d A c W a hk1 hkd)
      have hIn := fun y W hr => In7_any F y d A c W hr (by have := F.m8; omega)
      have hEp := fun W a b => Eval5_any F.toDesc l2 x1 A A2 c c2 W a b hl'
      obtain ⟨u, hu⟩ : ∃ u, u = eli F.toDesc x1 := ⟨_, rfl⟩
      rw [← hu] at hP hR hEp
      have hfm8 := F.m8
      clear hdv
      obtain ⟨q0, q1, q2, q3, q4⟩ := kp3.out
      go_wp2_with (fail)
      (with_reducible refine (hP w3 hg3).out.mono ?_)
      rintro e w4 ⟨n, Am, cm, hper, rfl, hm4, hb4⟩
      have hs4 : w3.heap.size ≤ w4.heap.size := hb4.size
      have hg4 := (hg3.below hb4).more hb4.size
      have hr4 := (hr3.below hb4).more hb4.size
      have kp4 := Lib.hid (keep5 hb4 (Nat.lt_of_succ_lt hl3) hl3 kp3.out)
      have hl4 := Nat.lt_of_lt_of_le hl3 hs4
      have hB4 := (hB3).trans (hb4.mono hB3.size)
      have hv4 := (hv3.below hb4).more hb4.size
      clear q0 q1 q2 q3 q4 hg3 hr3 hB3 kp3 hb4
      have hn8 : n ≤ 8 := Nat.le_trans (Nat.le_of_dvd (by have := F.m1; exact Nat.div_pos (Nat.le_of_dvd this hkd) hk1) (hper.dvd_M hkd)) (Nat.le_trans (Nat.div_le_self _ _) hfm8)
      obtain ⟨N, hN⟩ : ∃ N, N = n + 1 := ⟨_, rfl⟩
      rw [← hN]
      have hN9 : N ≤ 9 := by omega
      have hml : (minL d u n).length = N := by rw [minL_length, hN]
      have hm1 : 1 ≤ n := hper.1
      replace hN := Lib.hid hN
      clear hv3 hP
      obtain ⟨q0, q1, q2, q3, q4⟩ := kp4.out
      go_wp2_with (fail)
      (with_reducible refine (hV w4).out.mono ?_)
      rintro e w5 ⟨rfl, hb5⟩
      have hs5 : w4.heap.size ≤ w5.heap.size := hb5.size
      have hg5 := (hg4.below hb5).more hb5.size
      have hr5 := (hr4.below hb5).more hb5.size
      have kp5 := Lib.hid (keep5 hb5 (Nat.lt_of_succ_lt hl4) hl4 kp4.out)
      have hl5 := Nat.lt_of_lt_of_le hl4 hs5
      have hB5 := (hB4).trans (hb5.mono hB4.size)
      have hm5 := (hm4.below hb5).more hb5.size
      have hv5 := (hv4.below hb5).more hb5.size
      clear q0 q1 q2 q3 q4 hg4 hr4 hB4 kp4 hb5
      obtain ⟨q0, q1, q2, q3, q4⟩ := kp5.out
      go_wp2_with (fail)
      (with_reducible refine (hR w5 hr5).out.mono ?_)
      rintro e w6 ⟨n', Aw, cw, hper', rfl, hx6, hb6⟩
      have hs6 : w5.heap.size ≤ w6.heap.size := hb6.size
      have hg6 := (hg5.below hb6).more hb6.size
      have hr6 := (hr5.below hb6).more hb6.size
      have kp6 := Lib.hid (keep5 hb6 (Nat.lt_of_succ_lt hl5) hl5 kp5.out)
      have hl6 := Nat.lt_of_lt_of_le hl5 hs6
      have hB6 := (hB5).trans (hb6.mono hB5.size)
      have hm6 := (hm5.below hb6).more hb6.size
      have hv6 := (hv5.below hb6).more hb6.size
      clear q0 q1 q2 q3 q4 hg5 hr5 hB5 kp5 hb6
      obtain rfl := hper'.uniq hper
      rw [← hN.out]
      have hS := same_any (minL d u n') (minL d u n') Am Aw cm cw w6 hm6 hx6 (by omega) (by omega)
      rw [decide_eq_true (rfl : minL d u n' = minL d u n'), hml] at hS
      replace hS := Lib.hid hS
      have hE := fun W a b => Eval5_any F.toDesc (minL d u n') x1 A Am c cm W a b (by rw [hml]; unfold maxLen; omega)
      have hz0 := pevI_minL (D := F) (d := d) (n := n') (u := u) (k := 0) (by omega)
      rw [Nat.mul_zero, frob_zero_k] at hz0
      rw [← hu, hz0, ci_zero, hml] at hE
      replace hE := fun W a b => Lib.hid (hE W a b)
      have hRm := fun W a b e => Rem5_any F l2 (minL d u n') n' (canI_len F.toDesc (minL_length d u n') (by
        unfold cfR; rw [minL_get d u (by omega), eli_ci, mpc_top]; exact one_ne)) A A2 Am c c2 cm W a b e (by omega) (by omega)
      rw [hml] at hRm
      replace hRm := fun W a b e => Lib.hid (hRm W a b e)
      have hsub := fun t => mpc_sub (D := F) hper t
      have hget := fun {i} (h : i < n' + 1) => minL_get d u h
      replace hsub := Lib.hid hsub
      replace hget := Lib.hid (show ∀ i, i < N → (minL d u n')[i]?.getD 0 = ci (mpc d u n' i) from fun i h => hget (by rw [← hN.out]; exact h))
      replace hml := Lib.hid hml
      replace hz0 := Lib.hid hz0
      replace hper := Lib.hid hper
      replace hu := Lib.hid hu
      clear hper' hx6 hm4 hm5 hv4 hv5 hR hV
      obtain ⟨q0, q1, q2, q3, q4⟩ := kp6.out
      go_wp2_with (fail)
      (with_reducible refine (hS).out.mono ?_)
      rintro e w7 ⟨rfl, hb7⟩
      have hs7 : w6.heap.size ≤ w7.heap.size := hb7.size
      have hg7 := (hg6.below hb7).more hb7.size
      have hr7 := (hr6.below hb7).more hb7.size
      have kp7 := Lib.hid (keep5 hb7 (Nat.lt_of_succ_lt hl6) hl6 kp6.out)
      have hl7 := Nat.lt_of_lt_of_le hl6 hs7
      have hB7 := (hB6).trans (hb7.mono hB6.size)
      have hm7 := (hm6.below hb7).more hb7.size
      have hv7 := (hv6.below hb7).more hb7.size
      clear q0 q1 q2 q3 q4 hg6 hr6 hB6 kp6 hb7
      obtain ⟨q0, q1, q2, q3, q4⟩ := kp7.out
      go_wp2_with (fail)
      (with_reducible refine (hE w7 hr7 hm7).out.mono ?_)
      rintro e w8 ⟨rfl, hb8⟩
      have hs8 : w7.heap.size ≤ w8.heap.size := hb8.size
      have hg8 := (hg7.below hb8).more hb8.size
      have hr8 := (hr7.below hb8).more hb8.size
      have kp8 := Lib.hid (keep5 hb8 (Nat.lt_of_succ_lt hl7) hl7 kp7.out)
      have hl8 := Nat.lt_of_lt_of_le hl7 hs8
      have hB8 := (hB7).trans (hb8.mono hB7.size)
      have hm8 := (hm7.below hb8).more hb8.size
      have hv8 := (hv7.below hb8).more hb8.size
      clear q0 q1 q2 q3 q4 hg7 hr7 hB7 kp7 hb8
      clear hS hE hm6 hm7 hv6 hv7
      go_wp2_with (fail)
      go_loopw [69] (fun i wr => ∃ k : Nat, k ≤ N ∧ i = .int .i64 k ∧ Below w8.heap.size w8 wr) (fun i _ => N - (intOf i).toNat)
      case atStart => exact ⟨0, by omega, rfl, Below.refl _ _⟩
      case round =>
        obtain ⟨w9, rfl⟩ : ∃ w9 : World, w9 = wr := ⟨_, rfl⟩
        obtain ⟨k, hk, rfl, hb9⟩ := hrel
        have hg9 := (hg8.below hb9).more hb9.size
        have hr9 := (hr8.below hb9).more hb9.size
        have kp9 := Lib.hid (keep5 hb9 (Nat.lt_of_succ_lt hl8) hl8 kp8.out)
        have hl9 := Nat.lt_of_lt_of_le hl8 hb9.size
        have hB9 := hB8.trans (hb9.mono hB8.size)
        have hm9 := (hm8.below hb9).more hb9.size
        have hv9 := (hv8.below hb9).more hb9.size
        by_cases hkN : k < N
        · have k0 : (0 : Int) ≤ (k : Int) := by omega
          have k1 : (k : Int) < (N : Int) := by omega
          obtain ⟨bm, om, rfl, hbm, hcm⟩ := hm9.at_ (k := k) (by rw [hml.out]; exact hkN)
          rw [hget.out k hkN] at hcm
          have hI9 := hIn (ci (mpc d u n' k)) w9 hr9
          rw [eli_ci, decide_eq_true (show frob d (mpc d u n' k) = mpc d u n' k from hsub.out k)] at hI9
          obtain ⟨y, hy⟩ : ∃ y, y = ci (mpc d u n' k) := ⟨_, rfl⟩
          rw [← hy] at hcm hI9
          replace hy := Lib.hid hy
          replace hI9 := Lib.hid hI9
          obtain ⟨q0, q1, q2, q3, q4⟩ := kp9.out
          go_wp2_with (fail)
          (with_reducible refine (hI9).out.mono ?_)
          rintro e w10 ⟨rfl, hb10⟩
          have hs10 : w9.heap.size ≤ w10.heap.size := hb10.size
          have hg10 := (hg9.below hb10).more hb10.size
          have hr10 := (hr9.below hb10).more hb10.size
          have kp10 := Lib.hid (keep5 hb10 (Nat.lt_of_succ_lt hl9) hl9 kp9.out)
          have hl10 := Nat.lt_of_lt_of_le hl9 hs10
          have hB10 := (hB9).trans (hb10.mono hB9.size)
          have hb810 := hb9.trans (hb10.mono hb9.size)
          clear q0 q1 q2 q3 q4 hg9 hr9 hB9 kp9 hb10
          clear hcm
          go_wp2_with (fail)
          go_roundw
          case rel => exact ⟨k + 1, by omega, by go_num, hb810⟩
          case measure => simp [intOf]; omega
        · obtain rfl : k = N := by omega
          go_wp2_with (fail)
          go_loopw [81] (fun i wr => ∃ j : Nat, j ≤ l2.length ∧ i = .int .i64 j ∧ Hid (∀ t, t < j → InSub d (cfR F.toDesc l2 t)) ∧ Below w9.heap.size w9 wr) (fun i _ => l2.length - (intOf i).toNat)
          case atStart => exact ⟨0, by omega, rfl, fun t h => absurd h (by omega), Below.refl _ _⟩
          case round =>
            obtain ⟨w10, rfl⟩ : ∃ w10 : World, w10 = wr := ⟨_, rfl⟩
            obtain ⟨j, hj, rfl, hall, hb10⟩ := hrel
            have hg10 := (hg9.below hb10).more hb10.size
            have hr10 := (hr9.below hb10).more hb10.size
            have kp10 := Lib.hid (keep5 hb10 (Nat.lt_of_succ_lt hl9) hl9 kp9.out)
            have hl10 := Nat.lt_of_lt_of_le hl9 hb10.size
            have hB10 := hB9.trans (hb10.mono hB9.size)
            have hm10 := (hm9.below hb10).more hb10.size
            have hv10 := (hv9.below hb10).more hb10.size
            by_cases hjl : j < l2.length
            · have j0 : (0 : Int) ≤ (j : Int) := by omega
              have j1 : (j : Int) < (l2.length : Int) := by omega
              obtain ⟨bl, ol, rfl, hbl, hcl⟩ := hv10.at_ hjl
              have hI10 := hIn (l2[j]?.getD 0) w10 hr10
              rw [show eli F.toDesc (l2[j]?.getD 0) = cfR F.toDesc l2 j from rfl] at hI10
              obtain ⟨y, hy⟩ : ∃ y, y = l2[j]?.getD 0 := ⟨_, rfl⟩
              rw [← hy] at hcl hI10
              replace hy := Lib.hid hy
              by_cases hin : frob d (cfR F.toDesc l2 j) = cfR F.toDesc l2 j
              · rw [decide_eq_true hin] at hI10
                have hall2 : Hid (∀ t, t < j + 1 → InSub d (cfR F.toDesc l2 t)) := fun t ht => by
                  by_cases e : t = j
                  · rw [e]; exact hin
                  · exact hall.out t (by omega)
                replace hI10 := Lib.hid hI10
                clear hin hall
                obtain ⟨q0, q1, q2, q3, q4⟩ := kp10.out
                go_wp2_with (fail)
                (with_reducible refine (hI10).out.mono ?_)
                rintro e w11 ⟨rfl, hb11⟩
                have hs11 : w10.heap.size ≤ w11.heap.size := hb11.size
                have hg11 := (hg10.below hb11).more hb11.size
                have hr11 := (hr10.below hb11).more hb11.size
                have kp11 := Lib.hid (keep5 hb11 (Nat.lt_of_succ_lt hl10) hl10 kp10.out)
                have hl11 := Nat.lt_of_lt_of_le hl10 hs11
                have hB11 := (hB10).trans (hb11.mono hB10.size)
                have hb911 := hb10.trans (hb11.mono hb10.size)
                clear q0 q1 q2 q3 q4 hg10 hr10 hB10 kp10 hb11
                clear hcl
                go_wp2_with (fail)
                go_roundw
                case rel => exact ⟨j + 1, by omega, by go_num, hall2, hb911⟩
                case measure => simp [intOf]; omega
              · rw [decide_eq_false hin] at hI10
                replace hI10 := Lib.hid hI10
                clear hin hall
                obtain ⟨q0, q1, q2, q3, q4⟩ := kp10.out
                go_wp2_with (fail)
                (with_reducible refine (hI10).out.mono ?_)
                rintro e w11 ⟨rfl, hb11⟩
                have hs11 : w10.heap.size ≤ w11.heap.size := hb11.size
                have hg11 := (hg10.below hb11).more hb11.size
                have hr11 := (hr10.below hb11).more hb11.size
                have kp11 := Lib.hid (keep5 hb11 (Nat.lt_of_succ_lt hl10) hl10 kp10.out)
                have hl11 := Nat.lt_of_lt_of_le hl10 hs11
                have hB11 := (hB10).trans (hb11.mono hB10.size)
                clear q0 q1 q2 q3 q4 hg10 hr10 hB10 kp10 hb11
                go_wp2_with (fail)
                go_ret
                exact ⟨rfl, hB11⟩
            · obtain rfl : j = l2.length := by omega
              have hE10 := hEp w10 hr10 hv10
              by_cases hz : pevI F.toDesc l2 u = 0
              · rw [hz, ci_zero] at hE10
                have hdv2 : ∀ r : List Int, canI F.toDesc r = r → r.length ≤ n' → (∃ Q : R F.toDesc → R F.toDesc, ∀ x, pevI F.toDesc l2 x = Q x * pevI F.toDesc (minL d u n') x + pevI F.toDesc r x) → r = [] := fun r h1 h2 ⟨Q, h3⟩ =>
                  min_divides hper.out (fun i => by
                    by_cases hi : i < l2.length
                    · exact hall.out i hi
                    · rw [cfR_out F.toDesc (by omega)]; exact InSub.zero d) hz h3 h1 h2
                replace hdv2 := Lib.hid hdv2
                replace hE10 := Lib.hid hE10
                clear hz hall
                have hm10' := hm10
                have hv10' := hv10
                obtain ⟨q0, q1, q2, q3, q4⟩ := kp10.out
                go_wp2_with (fail)
                (with_reducible refine (hE10).out.mono ?_)
                rintro e w11 ⟨rfl, hb11⟩
                have hs11 : w10.heap.size ≤ w11.heap.size := hb11.size
                have hg11 := (hg10.below hb11).more hb11.size
                have hr11 := (hr10.below hb11).more hb11.size
                have kp11 := Lib.hid (keep5 hb11 (Nat.lt_of_succ_lt hl10) hl10 kp10.out)
                have hl11 := Nat.lt_of_lt_of_le hl10 hs11
                have hB11 := (hB10).trans (hb11.mono hB10.size)
                have hm11 := (hm10'.below hb11).more hb11.size
                have hv11 := (hv10'.below hb11).more hb11.size
                clear q0 q1 q2 q3 q4 hg10 hr10 hB10 kp10 hb11
                have hR11 := hRm w11 hr11 hv11 hm11
                clear hm10' hv10' hRm
                obtain ⟨q0, q1, q2, q3, q4⟩ := kp11.out
                go_wp2_with (fail)
                (with_reducible refine (hR11).out.mono ?_)
                rintro e w12 ⟨r, Ar, cr, rfl, -, hrc, hrl, hrQ, hb12⟩
                have hs12 : w11.heap.size ≤ w12.heap.size := hb12.size
                have hg12 := (hg11.below hb12).more hb12.size
                have hr12 := (hr11.below hb12).more hb12.size
                have kp12 := Lib.hid (keep5 hb12 (Nat.lt_of_succ_lt hl11) hl11 kp11.out)
                have hl12 := Nat.lt_of_lt_of_le hl11 hs12
                have hB12 := (hB11).trans (hb12.mono hB11.size)
                clear q0 q1 q2 q3 q4 hg11 hr11 hB11 kp11 hb12
                obtain rfl := hdv2.out r hrc hrl hrQ
                go_wp2_with (fail)
                go_ret
                exact ⟨rfl, hB12⟩
              · have hne : (ci (pevI F.toDesc l2 u) != 0) = true := by rw [bne_iff_ne]; exact fun e => hz (ci_eq_zero.1 e)
                generalize ci (pevI F.toDesc l2 u) = y at *
                replace hE10 := Lib.hid hE10
                clear hz hall
                obtain ⟨q0, q1, q2, q3, q4⟩ := kp10.out
                go_wp2_with (fail)
                (with_reducible refine (hE10).out.mono ?_)
                rintro e w11 ⟨rfl, hb11⟩
                have hs11 : w10.heap.size ≤ w11.heap.size := hb11.size
                have hg11 := (hg10.below hb11).more hb11.size
                have hr11 := (hr10.below hb11).more hb11.size
                have kp11 := Lib.hid (keep5 hb11 (Nat.lt_of_succ_lt hl10) hl10 kp10.out)
                have hl11 := Nat.lt_of_lt_of_le hl10 hs11
                have hB11 := (hB10).trans (hb11.mono hB10.size)
                clear q0 q1 q2 q3 q4 hg10 hr10 hB10 kp10 hb11
                go_wp2_with (fail)
                go_ret
                exact ⟨rfl, hB11⟩
    · rw [Bool.not_eq_true] at hdv
      have hV := fun W => Lib.hid (Divides_any F.toDesc y1 A F.mod.length c W)
      rw [hdv] at hV
      have hP := fun W a => Lib.hid (tMin_no F x1 y1 g W a hdv)
      clear hdv
      obtain ⟨q0, q1, q2, q3, q4⟩ := kp3.out
      go_wp2_with (fail)
      (with_reducible refine (hP w3 hg3).out.mono ?_)
      rintro e w4 ⟨rfl, hb4⟩
      have hs4 : w3.heap.size ≤ w4.heap.size := hb4.size
      have hg4 := (hg3.below hb4).more hb4.size
      have hr4 := (hr3.below hb4).more hb4.size
      have kp4 := Lib.hid (keep5 hb4 (Nat.lt_of_succ_lt hl3) hl3 kp3.out)
      have hl4 := Nat.lt_of_lt_of_le hl3 hs4
      have hB4 := (hB3).trans (hb4.mono hB3.size)
      clear q0 q1 q2 q3 q4 hg3 hr3 hB3 kp3 hb4
      obtain ⟨q0, q1, q2, q3, q4⟩ := kp4.out
      go_wp2_with (fail)
      (with_reducible refine (hV w4).out.mono ?_)
      rintro e w5 ⟨rfl, hb5⟩
      have hs5 : w4.heap.size ≤ w5.heap.size := hb5.size
      have hg5 := (hg4.below hb5).more hb5.size
      have hr5 := (hr4.below hb5).more hb5.size
      have kp5 := Lib.hid (keep5 hb5 (Nat.lt_of_succ_lt hl4) hl4 kp4.out)
      have hl5 := Nat.lt_of_lt_of_le hl4 hs5
      have hB5 := (hB4).trans (hb5.mono hB4.size)
      clear q0 q1 q2 q3 q4 hg4 hr4 hB4 kp4 hb5
      go_wp2_with (fail)
      go_ret
      exact ⟨rfl, hB5⟩
  · have hd12 : decide (12 < (l2.length : Int)) = true := by simp; omega
    obtain ⟨q0, q1, q2, q3, q4⟩ := kp3.out
    go_wp2_with (fail)
    go_ret
    exact ⟨rfl, hB3⟩
end Go.Proofs.Yteamndefbpdcjaa
