/- TowerNorms: the walk. -/
import Derived.Test.YteamndefbpdcjaaL01
namespace Go.Proofs.Yteamndefbpdcjaa
open Go.RowKit Go.Shelf Cw
attribute [local go_sem] Oper.semAt_some

set_option maxHeartbeats 1000000 in
theorem nmL_bad (P M : Int) (ml : List Int) (A : Option Addr) (c : Nat) (x1 y1 : Int) (x2 : Int) (w : World) (hP : I64 P) (hM : I64 M) (hl : ml.length ≤ maxLen) (hr : Rd w w.heap.size A ml) (hb : ¬ Good P M ml) :
    Calls Try.prog 10 #[.agg #[.int .i64 P, .int .i64 M, .slice A ml.length c], .agg #[.int .i64 x1, .int .i64 y1], .int .i64 x2] w (LawEnd w) := by
  have hA := fun W => Lib.hid (alive_any W)
  have hM := fun W (h : Rd W W.heap.size A ml) => Lib.hid (made_bad P M ml A c W hP.2 hM.2 hl h hb)
  have hB : Below w.heap.size w ((w.alloc (.cells #[.int .i64 P, .int .i64 M, .slice A ml.length c] 24)).alloc (.cells #[.int .i64 x1, .int .i64 y1] 31)) := (((Below.refl _ _).alloc (by simp) _).alloc (by simp) _)
  have k0 := Lib.hid (show (((w.alloc (.cells #[.int .i64 P, .int .i64 M, .slice A ml.length c] 24)).alloc (.cells #[.int .i64 x1, .int .i64 y1] 31))).cell? ⟨w.heap.size, 0, none⟩ = some (.int .i64 P) ∧ (((w.alloc (.cells #[.int .i64 P, .int .i64 M, .slice A ml.length c] 24)).alloc (.cells #[.int .i64 x1, .int .i64 y1] 31))).cell? ⟨w.heap.size, 1, none⟩ = some (.int .i64 M) ∧ (((w.alloc (.cells #[.int .i64 P, .int .i64 M, .slice A ml.length c] 24)).alloc (.cells #[.int .i64 x1, .int .i64 y1] 31))).cell? ⟨w.heap.size, 2, none⟩ = some (.slice A ml.length c) from by simp [go_sem])
  clear hP hl hb
  go_enter Try.func10, Try.ntmps10
  go_wp2_with (fail)
  refine (hA _).out.mono ?_
  rintro e w1 ⟨rfl, hb1⟩
  obtain ⟨ka, kb, kc⟩ := keep3 hb1 (by simp; try omega) k0.out
  have hr1 := (((hr.below hB).more hB.size).below hb1).more hb1.size
  have hB1 := hB.trans (hb1.mono hB.size)
  have hM1 := hM _ hr1
  clear hM hA
  go_wp2_with (fail)
  refine hM1.out.mono ?_
  rintro e w2 ⟨rfl, hb2⟩
  go_wp2_with (fail)
  go_ret
  exact ⟨rfl, hB1.trans (hb2.mono hB1.size)⟩

set_option maxRecDepth 100000 in
set_option maxHeartbeats 2000000 in
theorem nmL_good (D : Desc) (A : Option Addr) (c : Nat) (x1 y1 : Int) (x2 : Int) (w : World)  (hr : Rd w w.heap.size A (modL D)) (hb : Good D.p D.m (modL D)) :
    Calls Try.prog 10 #[.agg #[.int .i64 D.p, .int .i64 D.m, .slice A D.mod.length c], .agg #[.int .i64 x1, .int .i64 y1], .int .i64 x2] w (LawEnd w) := by
  have hp2 := D.m8; have hm1 := D.m1
  have hA := fun W => Lib.hid (alive_any W)
  have hM := fun W (h : Rd W W.heap.size A (modL D)) => Lib.hid (made_good D A c W h hb)
  have hB : Below w.heap.size w ((w.alloc (.cells #[.int .i64 D.p, .int .i64 D.m, .slice A D.mod.length c] 24)).alloc (.cells #[.int .i64 x1, .int .i64 y1] 31)) := (((Below.refl _ _).alloc (by simp) _).alloc (by simp) _)
  have k0 := Lib.hid (show (((w.alloc (.cells #[.int .i64 D.p, .int .i64 D.m, .slice A D.mod.length c] 24)).alloc (.cells #[.int .i64 x1, .int .i64 y1] 31))).cell? ⟨w.heap.size, 0, none⟩ = some (.int .i64 D.p) ∧ (((w.alloc (.cells #[.int .i64 D.p, .int .i64 D.m, .slice A D.mod.length c] 24)).alloc (.cells #[.int .i64 x1, .int .i64 y1] 31))).cell? ⟨w.heap.size, 1, none⟩ = some (.int .i64 D.m) ∧ (((w.alloc (.cells #[.int .i64 D.p, .int .i64 D.m, .slice A D.mod.length c] 24)).alloc (.cells #[.int .i64 x1, .int .i64 y1] 31))).cell? ⟨w.heap.size, 2, none⟩ = some (.slice A D.mod.length c) from by simp [go_sem])
  have p0 := Lib.hid (show (((w.alloc (.cells #[.int .i64 D.p, .int .i64 D.m, .slice A D.mod.length c] 24)).alloc (.cells #[.int .i64 x1, .int .i64 y1] 31))).cell? ⟨w.heap.size + 1, 0, none⟩ = some (.int .i64 x1) ∧ (((w.alloc (.cells #[.int .i64 D.p, .int .i64 D.m, .slice A D.mod.length c] 24)).alloc (.cells #[.int .i64 x1, .int .i64 y1] 31))).cell? ⟨w.heap.size + 1, 1, none⟩ = some (.int .i64 y1) from by simp [go_sem])
  go_enter Try.func10, Try.ntmps10
  go_wp2_with (fail)
  refine (hA _).out.mono ?_
  rintro e w1 ⟨rfl, hb1⟩
  obtain ⟨ka, kb, kc⟩ := keep3 hb1 (by simp; try omega) k0.out
  have p1 := Lib.hid (keep2 hb1 (by simp) p0.out)
  have hr1 := (((hr.below hB).more hB.size).below hb1).more hb1.size
  have hB1 := hB.trans (hb1.mono hB.size)
  have hM1 := hM _ hr1
  clear hM hA
  go_wp2_with (fail)
  refine hM1.out.mono ?_
  rintro e w2 ⟨hb2, ⟨g, F, rfl, rfl, hgl, hg⟩ | ⟨-, rfl⟩⟩
  rotate_left
  · go_wp2_with (fail)
    go_ret
    exact ⟨rfl, hB1.trans (hb2.mono hB1.size)⟩
  have hlt2 : w.heap.size < w2.heap.size := by have := hb1.size; have := hb2.size; simp only [World.size_alloc] at *; omega
  have hlt2b : w.heap.size + 1 < w2.heap.size := by have := hb1.size; have := hb2.size; simp only [World.size_alloc] at *; omega
  have kk2 := Lib.hid (keep3 hb2 (by have := hb1.size; simp only [World.size_alloc] at this; omega) ⟨ka, kb, kc⟩)
  have pk2 := Lib.hid (keep2 hb2 (by have := hb1.size; simp only [World.size_alloc] at this; omega) p1.out)
  have kp2 : Hid (w2.cell? ⟨w.heap.size, 0, none⟩ = some (.int .i64 F.p) ∧ w2.cell? ⟨w.heap.size, 1, none⟩ = some (.int .i64 F.m) ∧ w2.cell? ⟨w.heap.size, 2, none⟩ = some (.slice A F.mod.length c) ∧ w2.cell? ⟨w.heap.size + 1, 0, none⟩ = some (.int .i64 x1) ∧ w2.cell? ⟨w.heap.size + 1, 1, none⟩ = some (.int .i64 y1)) := Lib.hid (⟨kk2.out.1, kk2.out.2.1, kk2.out.2.2, pk2.out.1, pk2.out.2⟩ : _ ∧ _ ∧ _ ∧ _ ∧ _)
  have hl2 := hlt2b
  have hB2 := hB1.trans (hb2.mono hB1.size)
  have hr2 := (hr1.below hb2).more hb2.size
  have hg2 := hg
  clear ka kb kc hr1 hM1 hb hb1 hB hB1 k0 hr kk2 hlt2 hb2 hg pk2 p0 p1 hlt2b
  by_cases hdv : divB F.m x2 = true
  · obtain ⟨k, rfl, hk1, hkm, hkd⟩ := divB_nat hdv
    have hk8 : k ≤ 4294967296 := Nat.le_trans (Nat.le_trans hkm hp2) (by decide)
    have hk9 : k ≤ 8 := Nat.le_trans hkm hp2
    have hV := fun W => Lib.hid (Divides_any F.toDesc (k : Int) A F.mod.length c W)
    rw [hdv] at hV
    have hT1 := fun W hg => Lib.hid (tNorm_yes F x1 k g W hg hk1 hkd)
    have hT2 := fun W hg => Lib.hid (tNorm_yes F y1 k g W hg hk1 hkd)
    have hR := fun W hr => Lib.hid (Norm7_any F x1 k A c W hr hk1 hk9)
    have hA := fun W hr => Lib.hid (Mul_any F.toDesc x1 y1 A c W hr)
    have hT3 := fun W hg => Lib.hid (tNorm_yes F (ci (eli F.toDesc x1 * eli F.toDesc y1)) k g W hg hk1 hkd)
    have hA2 := fun W hr => Lib.hid (Mul_any F.toDesc (ci (nm k (eli F.toDesc x1))) (ci (nm k (eli F.toDesc y1))) A c W hr)
    have hI := fun W hr => Lib.hid (In7_any F (ci (nm k (eli F.toDesc x1))) k A c W hr hk8)
    simp only [eli_ci, nm_mul] at hT3 hA2
    obtain ⟨b, hbd⟩ : ∃ b, b = decide (frob k (eli F.toDesc (ci (nm k (eli F.toDesc x1)))) = eli F.toDesc (ci (nm k (eli F.toDesc x1)))) := ⟨_, rfl⟩
    rw [← hbd] at hI
    have hin : frob k (nm k (eli F.toDesc x1)) = nm k (eli F.toDesc x1) := nm_inSub (F := R F.toDesc) hkd _
    rw [eli_ci, decide_eq_true hin] at hbd
    clear hin
    subst hbd
    generalize eli F.toDesc x1 = u at *
    generalize eli F.toDesc y1 = v at *
    generalize nm k u = tu at *
    generalize nm k v = tv at *
    clear hdv hkd
    obtain ⟨q0, q1, q2, q3, q4⟩ := kp2.out
    go_wp2_with (fail)
    (with_reducible refine (hT1 w2 hg2).out.mono ?_)
    rintro e w3 ⟨rfl, hb3⟩
    have hs3 : w2.heap.size ≤ w3.heap.size := hb3.size
    have hg3 := (hg2.below hb3).more hb3.size
    have hr3 := (hr2.below hb3).more hb3.size
    have kp3 := Lib.hid (keep5 hb3 (Nat.lt_of_succ_lt hl2) hl2 kp2.out)
    have hl3 := Nat.lt_of_lt_of_le hl2 hs3
    have hB3 := (hB2).trans (hb3.mono hB2.size)
    clear q0 q1 q2 q3 q4 hg2 hr2 hB2 kp2 hb3
    obtain ⟨q0, q1, q2, q3, q4⟩ := kp3.out
    go_wp2_with (fail)
    (with_reducible refine (hV w3).out.mono ?_)
    rintro e w4 ⟨rfl, hb4⟩
    have hs4 : w3.heap.size ≤ w4.heap.size := hb4.size
    have hg4 := (hg3.below hb4).more hb4.size
    have hr4 := (hr3.below hb4).more hb4.size
    have kp4 := Lib.hid (keep5 hb4 (Nat.lt_of_succ_lt hl3) hl3 kp3.out)
    have hl4 := Nat.lt_of_lt_of_le hl3 hs4
    have hB4 := (hB3).trans (hb4.mono hB3.size)
    clear q0 q1 q2 q3 q4 hg3 hr3 hB3 kp3 hb4
    obtain ⟨q0, q1, q2, q3, q4⟩ := kp4.out
    go_wp2_with (fail)
    (with_reducible refine (hT2 w4 hg4).out.mono ?_)
    rintro e w5 ⟨rfl, hb5⟩
    have hs5 : w4.heap.size ≤ w5.heap.size := hb5.size
    have hg5 := (hg4.below hb5).more hb5.size
    have hr5 := (hr4.below hb5).more hb5.size
    have kp5 := Lib.hid (keep5 hb5 (Nat.lt_of_succ_lt hl4) hl4 kp4.out)
    have hl5 := Nat.lt_of_lt_of_le hl4 hs5
    have hB5 := (hB4).trans (hb5.mono hB4.size)
    clear q0 q1 q2 q3 q4 hg4 hr4 hB4 kp4 hb5
    obtain ⟨q0, q1, q2, q3, q4⟩ := kp5.out
    go_wp2_with (fail)
    (with_reducible refine (hA w5 hr5).out.mono ?_)
    rintro e w6 ⟨rfl, hb6⟩
    have hs6 : w5.heap.size ≤ w6.heap.size := hb6.size
    have hg6 := (hg5.below hb6).more hb6.size
    have hr6 := (hr5.below hb6).more hb6.size
    have kp6 := Lib.hid (keep5 hb6 (Nat.lt_of_succ_lt hl5) hl5 kp5.out)
    have hl6 := Nat.lt_of_lt_of_le hl5 hs6
    have hB6 := (hB5).trans (hb6.mono hB5.size)
    clear q0 q1 q2 q3 q4 hg5 hr5 hB5 kp5 hb6
    obtain ⟨q0, q1, q2, q3, q4⟩ := kp6.out
    go_wp2_with (fail)
    (with_reducible refine (hT3 w6 hg6).out.mono ?_)
    rintro e w7 ⟨rfl, hb7⟩
    have hs7 : w6.heap.size ≤ w7.heap.size := hb7.size
    have hg7 := (hg6.below hb7).more hb7.size
    have hr7 := (hr6.below hb7).more hb7.size
    have kp7 := Lib.hid (keep5 hb7 (Nat.lt_of_succ_lt hl6) hl6 kp6.out)
    have hl7 := Nat.lt_of_lt_of_le hl6 hs7
    have hB7 := (hB6).trans (hb7.mono hB6.size)
    clear q0 q1 q2 q3 q4 hg6 hr6 hB6 kp6 hb7
    obtain ⟨q0, q1, q2, q3, q4⟩ := kp7.out
    go_wp2_with (fail)
    (with_reducible refine (hR w7 hr7).out.mono ?_)
    rintro e w8 ⟨rfl, hb8⟩
    have hs8 : w7.heap.size ≤ w8.heap.size := hb8.size
    have hg8 := (hg7.below hb8).more hb8.size
    have hr8 := (hr7.below hb8).more hb8.size
    have kp8 := Lib.hid (keep5 hb8 (Nat.lt_of_succ_lt hl7) hl7 kp7.out)
    have hl8 := Nat.lt_of_lt_of_le hl7 hs8
    have hB8 := (hB7).trans (hb8.mono hB7.size)
    clear q0 q1 q2 q3 q4 hg7 hr7 hB7 kp7 hb8
    obtain ⟨q0, q1, q2, q3, q4⟩ := kp8.out
    go_wp2_with (fail)
    (with_reducible refine (hI w8 hr8).out.mono ?_)
    rintro e w9 ⟨rfl, hb9⟩
    have hs9 : w8.heap.size ≤ w9.heap.size := hb9.size
    have hg9 := (hg8.below hb9).more hb9.size
    have hr9 := (hr8.below hb9).more hb9.size
    have kp9 := Lib.hid (keep5 hb9 (Nat.lt_of_succ_lt hl8) hl8 kp8.out)
    have hl9 := Nat.lt_of_lt_of_le hl8 hs9
    have hB9 := (hB8).trans (hb9.mono hB8.size)
    clear q0 q1 q2 q3 q4 hg8 hr8 hB8 kp8 hb9
    obtain ⟨q0, q1, q2, q3, q4⟩ := kp9.out
    go_wp2_with (fail)
    (with_reducible refine (hA2 w9 hr9).out.mono ?_)
    rintro e w10 ⟨rfl, hb10⟩
    have hs10 : w9.heap.size ≤ w10.heap.size := hb10.size
    have hg10 := (hg9.below hb10).more hb10.size
    have hr10 := (hr9.below hb10).more hb10.size
    have kp10 := Lib.hid (keep5 hb10 (Nat.lt_of_succ_lt hl9) hl9 kp9.out)
    have hl10 := Nat.lt_of_lt_of_le hl9 hs10
    have hB10 := (hB9).trans (hb10.mono hB9.size)
    clear q0 q1 q2 q3 q4 hg9 hr9 hB9 kp9 hb10
    go_wp2_with (fail)
    go_ret
    exact ⟨rfl, hB10⟩
  · rw [Bool.not_eq_true] at hdv
    have hV := fun W => Lib.hid (Divides_any F.toDesc x2 A F.mod.length c W)
    rw [hdv] at hV
    have hT := fun W hg => Lib.hid (tNorm_no F x1 x2 g W hg hdv)
    clear hdv
    obtain ⟨q0, q1, q2, q3, q4⟩ := kp2.out
    go_wp2_with (fail)
    (with_reducible refine (hT w2 hg2).out.mono ?_)
    rintro e w3 ⟨rfl, hb3⟩
    have hs3 : w2.heap.size ≤ w3.heap.size := hb3.size
    have hg3 := (hg2.below hb3).more hb3.size
    have hr3 := (hr2.below hb3).more hb3.size
    have kp3 := Lib.hid (keep5 hb3 (Nat.lt_of_succ_lt hl2) hl2 kp2.out)
    have hl3 := Nat.lt_of_lt_of_le hl2 hs3
    have hB3 := (hB2).trans (hb3.mono hB2.size)
    clear q0 q1 q2 q3 q4 hg2 hr2 hB2 kp2 hb3
    obtain ⟨q0, q1, q2, q3, q4⟩ := kp3.out
    go_wp2_with (fail)
    (with_reducible refine (hV w3).out.mono ?_)
    rintro e w4 ⟨rfl, hb4⟩
    have hs4 : w3.heap.size ≤ w4.heap.size := hb4.size
    have hg4 := (hg3.below hb4).more hb4.size
    have hr4 := (hr3.below hb4).more hb4.size
    have kp4 := Lib.hid (keep5 hb4 (Nat.lt_of_succ_lt hl3) hl3 kp3.out)
    have hl4 := Nat.lt_of_lt_of_le hl3 hs4
    have hB4 := (hB3).trans (hb4.mono hB3.size)
    clear q0 q1 q2 q3 q4 hg3 hr3 hB3 kp3 hb4
    go_wp2_with (fail)
    go_ret
    exact ⟨rfl, hB4⟩
end Go.Proofs.Yteamndefbpdcjaa
