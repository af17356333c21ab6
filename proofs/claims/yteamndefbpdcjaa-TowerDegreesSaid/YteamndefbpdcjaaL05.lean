/- TowerDegrees: the walk. -/
import Derived.Test.YteamndefbpdcjaaL01
namespace Go.Proofs.Yteamndefbpdcjaa
open Go.RowKit Go.Shelf Cw
attribute [local go_sem] Oper.semAt_some

set_option maxHeartbeats 1000000 in
theorem degL_bad (P M : Int) (ml : List Int) (A : Option Addr) (c : Nat) (x1 : Int) (x2 : Int) (w : World) (hP : I64 P) (hM : I64 M) (hl : ml.length ≤ maxLen) (hr : Rd w w.heap.size A ml) (hb : ¬ Good P M ml) :
    Calls Try.prog 7 #[.agg #[.int .i64 P, .int .i64 M, .slice A ml.length c], .int .i64 x1, .int .i64 x2] w (LawEnd w) := by
  have hA := fun W => Lib.hid (alive_any W)
  have hM := fun W (h : Rd W W.heap.size A ml) => Lib.hid (made_bad P M ml A c W hP.2 hM.2 hl h hb)
  have hB : Below w.heap.size w (w.alloc (.cells #[.int .i64 P, .int .i64 M, .slice A ml.length c] 24)) := ((Below.refl _ _).alloc (by simp) _)
  have k0 := Lib.hid (show ((w.alloc (.cells #[.int .i64 P, .int .i64 M, .slice A ml.length c] 24))).cell? ⟨w.heap.size, 0, none⟩ = some (.int .i64 P) ∧ ((w.alloc (.cells #[.int .i64 P, .int .i64 M, .slice A ml.length c] 24))).cell? ⟨w.heap.size, 1, none⟩ = some (.int .i64 M) ∧ ((w.alloc (.cells #[.int .i64 P, .int .i64 M, .slice A ml.length c] 24))).cell? ⟨w.heap.size, 2, none⟩ = some (.slice A ml.length c) from by simp [go_sem])
  clear hP hl hb
  go_enter Try.func7, Try.ntmps7
  go_wp2_with (fail)
  refine (hA _).out.mono ?_
  rintro e w1 ⟨rfl, hb1⟩
  obtain ⟨ka, kb, kc⟩ := keep3 hb1 (by simp; try omega) k0.out
  have hr1 := (((hr.below hB).more hB.size).below hb1).more hb1.size
  have hB1 := hB.trans (hb1.mono hB.size)
  have hM1 := hM _ hr1
  clear hM hA
  go_wp2_with (fail)
  refine hM1.out.mono ?_
  rintro e w2 ⟨rfl, hb2⟩
  go_wp2_with (fail)
  go_ret
  exact ⟨rfl, hB1.trans (hb2.mono hB1.size)⟩

set_option maxRecDepth 100000 in
set_option maxHeartbeats 2000000 in
theorem degL_good (D : Desc) (A : Option Addr) (c : Nat) (x1 : Int) (x2 : Int) (w : World)  (hr : Rd w w.heap.size A (modL D)) (hb : Good D.p D.m (modL D)) :
    Calls Try.prog 7 #[.agg #[.int .i64 D.p, .int .i64 D.m, .slice A D.mod.length c], .int .i64 x1, .int .i64 x2] w (LawEnd w) := by
  have hp2 := D.m8; have hm1 := D.m1
  have hA := fun W => Lib.hid (alive_any W)
  have hM := fun W (h : Rd W W.heap.size A (modL D)) => Lib.hid (made_good D A c W h hb)
  have hB : Below w.heap.size w (w.alloc (.cells #[.int .i64 D.p, .int .i64 D.m, .slice A D.mod.length c] 24)) := ((Below.refl _ _).alloc (by simp) _)
  have k0 := Lib.hid (show ((w.alloc (.cells #[.int .i64 D.p, .int .i64 D.m, .slice A D.mod.length c] 24))).cell? ⟨w.heap.size, 0, none⟩ = some (.int .i64 D.p) ∧ ((w.alloc (.cells #[.int .i64 D.p, .int .i64 D.m, .slice A D.mod.length c] 24))).cell? ⟨w.heap.size, 1, none⟩ = some (.int .i64 D.m) ∧ ((w.alloc (.cells #[.int .i64 D.p, .int .i64 D.m, .slice A D.mod.length c] 24))).cell? ⟨w.heap.size, 2, none⟩ = some (.slice A D.mod.length c) from by simp [go_sem])
  go_enter Try.func7, Try.ntmps7
  go_wp2_with (fail)
  refine (hA _).out.mono ?_
  rintro e w1 ⟨rfl, hb1⟩
  obtain ⟨ka, kb, kc⟩ := keep3 hb1 (by simp; try omega) k0.out
  have hr1 := (((hr.below hB).more hB.size).below hb1).more hb1.size
  have hB1 := hB.trans (hb1.mono hB.size)
  have hM1 := hM _ hr1
  clear hM hA
  go_wp2_with (fail)
  refine hM1.out.mono ?_
  rintro e w2 ⟨hb2, ⟨g, F, rfl, rfl, hgl, hg⟩ | ⟨-, rfl⟩⟩
  rotate_left
  · go_wp2_with (fail)
    go_ret
    exact ⟨rfl, hB1.trans (hb2.mono hB1.size)⟩
  have hlt2 : w.heap.size < w2.heap.size := by have := hb1.size; have := hb2.size; simp only [World.size_alloc] at *; omega
  have kk2 := Lib.hid (keep3 hb2 (by have := hb1.size; simp only [World.size_alloc] at this; omega) ⟨ka, kb, kc⟩)
  have kp2 : Hid (w2.cell? ⟨w.heap.size, 0, none⟩ = some (.int .i64 F.p) ∧ w2.cell? ⟨w.heap.size, 1, none⟩ = some (.int .i64 F.m) ∧ w2.cell? ⟨w.heap.size, 2, none⟩ = some (.slice A F.mod.length c)) := kk2
  have hl2 := hlt2
  have hB2 := hB1.trans (hb2.mono hB1.size)
  have hr2 := (hr1.below hb2).more hb2.size
  have hg2 := hg
  clear ka kb kc hr1 hM1 hb hb1 hB hB1 k0 hr kk2 hlt2 hb2 hg
  have hD := Lib.hid (tDegree_any F x1 g w2 hg2)
  obtain ⟨q0, q1, q2⟩ := kp2.out
  go_wp2_with (fail)
  (with_reducible refine (hD).out.mono ?_)
  rintro e w3 ⟨d, hd, rfl, hb3⟩
  have hs3 : w2.heap.size ≤ w3.heap.size := hb3.size
  have hg3 := (hg2.below hb3).more hb3.size
  have hr3 := (hr2.below hb3).more hb3.size
  have kp3 := Lib.hid (keep3 hb3 hl2 kp2.out)
  have hl3 := Nat.lt_of_lt_of_le hl2 hs3
  have hB3 := (hB2).trans (hb3.mono hB2.size)
  clear q0 q1 q2 hg2 hr2 hB2 kp2 hb3
  have hdM : d ∣ F.m := hd.dvd_M
  have hd1 := hd.1
  have hd8 : d ≤ 8 := Nat.le_trans (Nat.le_of_dvd F.m1 hdM) F.m8
  have hV1 := fun W => Lib.hid (Divides_any F.toDesc d A F.mod.length c W)
  rw [divB_of hd1 hdM F.m1] at hV1
  have hI1 := fun W hr => Lib.hid (In7_any F x1 d A c W hr (by omega))
  rw [decide_eq_true hd.2.1] at hI1
  replace hd := Lib.hid hd
  replace hdM := Lib.hid hdM
  obtain ⟨q0, q1, q2⟩ := kp3.out
  go_wp2_with (fail)
  (with_reducible refine (hV1 w3).out.mono ?_)
  rintro e w4 ⟨rfl, hb4⟩
  have hs4 : w3.heap.size ≤ w4.heap.size := hb4.size
  have hg4 := (hg3.below hb4).more hb4.size
  have hr4 := (hr3.below hb4).more hb4.size
  have kp4 := Lib.hid (keep3 hb4 hl3 kp3.out)
  have hl4 := Nat.lt_of_lt_of_le hl3 hs4
  have hB4 := (hB3).trans (hb4.mono hB3.size)
  clear q0 q1 q2 hg3 hr3 hB3 kp3 hb4
  obtain ⟨q0, q1, q2⟩ := kp4.out
  go_wp2_with (fail)
  (with_reducible refine (hI1 w4 hr4).out.mono ?_)
  rintro e w5 ⟨rfl, hb5⟩
  have hs5 : w4.heap.size ≤ w5.heap.size := hb5.size
  have hg5 := (hg4.below hb5).more hb5.size
  have hr5 := (hr4.below hb5).more hb5.size
  have kp5 := Lib.hid (keep3 hb5 hl4 kp4.out)
  have hl5 := Nat.lt_of_lt_of_le hl4 hs5
  have hB5 := (hB4).trans (hb5.mono hB4.size)
  clear q0 q1 q2 hg4 hr4 hB4 kp4 hb5
  have hV2 := fun W => Lib.hid (Divides_any F.toDesc x2 A F.mod.length c W)
  by_cases hdv : divB F.m x2 = true
  · obtain ⟨k, rfl, hk1, hkm, hkd⟩ := divB_nat hdv
    have hk8 : k ≤ 4294967296 := Nat.le_trans (Nat.le_trans hkm hp2) (by decide)
    have hI2 := fun W hr => Lib.hid (In7_any F x1 k A c W hr hk8)
    obtain ⟨b, hbd⟩ : ∃ b, b = decide (frob k (eli F.toDesc x1) = eli F.toDesc x1) := ⟨_, rfl⟩
    rw [← hbd] at hI2
    have hbt : b = true ↔ d ∣ k := by rw [hbd, decide_eq_true_iff]; exact hd.out.fix_iff
    clear hbd
    rw [hdv] at hV2
    obtain ⟨q0, q1, q2⟩ := kp5.out
    go_wp2_with (fail)
    (with_reducible refine (hV2 w5).out.mono ?_)
    rintro e w6 ⟨rfl, hb6⟩
    have hs6 : w5.heap.size ≤ w6.heap.size := hb6.size
    have hg6 := (hg5.below hb6).more hb6.size
    have hr6 := (hr5.below hb6).more hb6.size
    have kp6 := Lib.hid (keep3 hb6 hl5 kp5.out)
    have hl6 := Nat.lt_of_lt_of_le hl5 hs6
    have hB6 := (hB5).trans (hb6.mono hB5.size)
    clear q0 q1 q2 hg5 hr5 hB5 kp5 hb6
    have hkz : ¬ (d : Int) = 0 := by omega
    have htm : (k : Int).tmod d = (k : Int) % (d : Int) := Int.tmod_eq_emod_of_nonneg (Int.natCast_nonneg k)
    have hkp : (0 : Int) < d := by omega
    have hd0 : ¬ d = 0 := by omega
    have hkn : (0 : Int) ≤ k := by omega
    have hkb : ((d : Int) == 0) = false := beq_eq_false_iff_ne.2 hkz
    have hfin : Hid ((b == ((k : Int) % (d : Int) == 0)) = true) := by
      unfold Hid
      by_cases h : d ∣ k
      · have h2 := Nat.mod_eq_zero_of_dvd h
        rw [hbt.2 h, show (k : Int) % (d : Int) = ((k % d : Nat) : Int) from rfl, h2]; rfl
      · have h2 : ¬ k % d = 0 := fun e => h (Nat.dvd_of_mod_eq_zero e)
        have h3 : ¬ (k : Int) % (d : Int) = 0 := by rw [show (k : Int) % (d : Int) = ((k % d : Nat) : Int) from rfl]; omega
        rw [Bool.eq_false_iff.2 (fun e => h (hbt.1 e)), beq_eq_false_iff_ne.2 h3]; rfl
    clear hdv hkd hbt
    go_wp2_with (fail)
    go_region_held3 (fun w' => w'.cell? ⟨w.heap.size, 0, none⟩ = some (.int .i64 F.p) ∧ w'.cell? ⟨w.heap.size, 1, none⟩ = some (.int .i64 F.m) ∧ w'.cell? ⟨w.heap.size, 2, none⟩ = some (.slice A F.mod.length c)) (first | exact kp6.out | exact kp7.out)
      (first
        | (go_at_call 36; (with_reducible refine (hI2 _ hr6.drew).out.mono ?_); rintro e w7 ⟨rfl, hb7⟩; have hs7 : w6.heap.size ≤ w7.heap.size := hb7.size; have hg7 := (hg6.drew.below hb7).more hb7.size; have hr7 := (hr6.drew.below hb7).more hb7.size; have kp7 := Lib.hid (keep3 hb7 hl6 kp6.out); have hl7 := Nat.lt_of_lt_of_le hl6 hs7; have hB7 := (hB6.drew).trans (hb7.mono hB6.size)))
    clear hg6 hr6 hB6 kp6 hb7
    go_wp2_with (fail)
    go_ret
    exact ⟨ret_bool hfin.out, hB7⟩
  · rw [Bool.not_eq_true] at hdv
    rw [hdv] at hV2
    obtain ⟨q0, q1, q2⟩ := kp5.out
    go_wp2_with (fail)
    (with_reducible refine (hV2 w5).out.mono ?_)
    rintro e w6 ⟨rfl, hb6⟩
    have hs6 : w5.heap.size ≤ w6.heap.size := hb6.size
    have hg6 := (hg5.below hb6).more hb6.size
    have hr6 := (hr5.below hb6).more hb6.size
    have kp6 := Lib.hid (keep3 hb6 hl5 kp5.out)
    have hl6 := Nat.lt_of_lt_of_le hl5 hs6
    have hB6 := (hB5).trans (hb6.mono hB5.size)
    clear q0 q1 q2 hg5 hr5 hB5 kp5 hb6
    go_wp2_with (fail)
    go_ret
    exact ⟨rfl, hB6⟩
end Go.Proofs.Yteamndefbpdcjaa
