/- TowerNormals: the walk. -/
import Derived.Test.YteamndefbpdcjaaL01
import Derived.Test.YteamndefbpdcjaaNorW
import Derived.Test.YteamndefbpdcjaaNor7
namespace Go.Proofs.Yteamndefbpdcjaa
open Go.RowKit Go.Shelf Cw
attribute [local go_sem] Oper.semAt_some

set_option maxHeartbeats 1000000 in
theorem noL_bad (P M : Int) (ml : List Int) (A : Option Addr) (c : Nat) (x1 : Int) (w : World) (hP : I64 P) (hM : I64 M) (hl : ml.length ≤ maxLen) (hr : Rd w w.heap.size A ml) (hb : ¬ Good P M ml) :
    Calls Try.prog 19 #[.agg #[.int .i64 P, .int .i64 M, .slice A ml.length c], .int .i64 x1] w (LawEnd w) := by
  have hA := fun W => Lib.hid (alive_any W)
  have hM := fun W (h : Rd W W.heap.size A ml) => Lib.hid (made_bad P M ml A c W hP.2 hM.2 hl h hb)
  have hB : Below w.heap.size w (w.alloc (.cells #[.int .i64 P, .int .i64 M, .slice A ml.length c] 24)) := ((Below.refl _ _).alloc (by simp) _)
  have k0 := Lib.hid (show ((w.alloc (.cells #[.int .i64 P, .int .i64 M, .slice A ml.length c] 24))).cell? ⟨w.heap.size, 0, none⟩ = some (.int .i64 P) ∧ ((w.alloc (.cells #[.int .i64 P, .int .i64 M, .slice A ml.length c] 24))).cell? ⟨w.heap.size, 1, none⟩ = some (.int .i64 M) ∧ ((w.alloc (.cells #[.int .i64 P, .int .i64 M, .slice A ml.length c] 24))).cell? ⟨w.heap.size, 2, none⟩ = some (.slice A ml.length c) from by simp [go_sem])
  clear hP hl hb
  go_enter Try.func19, Try.ntmps19
  go_wp2_with (fail)
  refine (hA _).out.mono ?_
  rintro e w1 ⟨rfl, hb1⟩
  obtain ⟨ka, kb, kc⟩ := keep3 hb1 (by simp; try omega) k0.out
  have hr1 := (((hr.below hB).more hB.size).below hb1).more hb1.size
  have hB1 := hB.trans (hb1.mono hB.size)
  have hM1 := hM _ hr1
  clear hM hA
  go_wp2_with (fail)
  refine hM1.out.mono ?_
  rintro e w2 ⟨rfl, hb2⟩
  go_wp2_with (fail)
  go_ret
  exact ⟨rfl, hB1.trans (hb2.mono hB1.size)⟩

set_option maxRecDepth 100000 in
set_option maxHeartbeats 2000000 in
theorem noL_good (D : Desc) (A : Option Addr) (c : Nat) (x1 : Int) (w : World)  (hr : Rd w w.heap.size A (modL D)) (hb : Good D.p D.m (modL D)) :
    Calls Try.prog 19 #[.agg #[.int .i64 D.p, .int .i64 D.m, .slice A D.mod.length c], .int .i64 x1] w (LawEnd w) := by
  have hp2 := D.m8; have hm1 := D.m1
  have hA := fun W => Lib.hid (alive_any W)
  have hM := fun W (h : Rd W W.heap.size A (modL D)) => Lib.hid (made_good D A c W h hb)
  have hB : Below w.heap.size w (w.alloc (.cells #[.int .i64 D.p, .int .i64 D.m, .slice A D.mod.length c] 24)) := ((Below.refl _ _).alloc (by simp) _)
  have k0 := Lib.hid (show ((w.alloc (.cells #[.int .i64 D.p, .int .i64 D.m, .slice A D.mod.length c] 24))).cell? ⟨w.heap.size, 0, none⟩ = some (.int .i64 D.p) ∧ ((w.alloc (.cells #[.int .i64 D.p, .int .i64 D.m, .slice A D.mod.length c] 24))).cell? ⟨w.heap.size, 1, none⟩ = some (.int .i64 D.m) ∧ ((w.alloc (.cells #[.int .i64 D.p, .int .i64 D.m, .slice A D.mod.length c] 24))).cell? ⟨w.heap.size, 2, none⟩ = some (.slice A D.mod.length c) from by simp [go_sem])
  go_enter Try.func19, Try.ntmps19
  go_wp2_with (fail)
  refine (hA _).out.mono ?_
  rintro e w1 ⟨rfl, hb1⟩
  obtain ⟨ka, kb, kc⟩ := keep3 hb1 (by simp; try omega) k0.out
  have hr1 := (((hr.below hB).more hB.size).below hb1).more hb1.size
  have hB1 := hB.trans (hb1.mono hB.size)
  have hM1 := hM _ hr1
  clear hM hA
  go_wp2_with (fail)
  refine hM1.out.mono ?_
  rintro e w2 ⟨hb2, ⟨g, F, rfl, rfl, hgl, hg⟩ | ⟨-, rfl⟩⟩
  rotate_left
  · go_wp2_with (fail)
    go_ret
    exact ⟨rfl, hB1.trans (hb2.mono hB1.size)⟩
  have hlt2 : w.heap.size < w2.heap.size := by have := hb1.size; have := hb2.size; simp only [World.size_alloc] at *; omega
  have kk2 := Lib.hid (keep3 hb2 (by have := hb1.size; simp only [World.size_alloc] at this; omega) ⟨ka, kb, kc⟩)
  have kp2 : Hid (w2.cell? ⟨w.heap.size, 0, none⟩ = some (.int .i64 F.p) ∧ w2.cell? ⟨w.heap.size, 1, none⟩ = some (.int .i64 F.m) ∧ w2.cell? ⟨w.heap.size, 2, none⟩ = some (.slice A F.mod.length c)) := kk2
  have hl2 := hlt2
  have hB2 := hB1.trans (hb2.mono hB1.size)
  have hr2 := (hr1.below hb2).more hb2.size
  have hg2 := hg
  clear ka kb kc hr1 hM1 hb hb1 hB hB1 k0 hr kk2 hlt2 hb2 hg
  have hV := fun W => Lib.hid (Divides_any F.toDesc x1 A F.mod.length c W)
  by_cases hdv : divB F.m x1 = true
  · obtain ⟨d, rfl, hk1, hkm, hkd⟩ := divB_nat hdv
    rw [hdv] at hV
    obtain ⟨k0, hk0⟩ := isNrm_ex F hkd hk1
    have hP := fun W a => Lib.hid (tNormal_yes F d _ k0 g W a hk1 hkd rfl hk0)
    have hR := fun W a => Lib.hid (Normal7_any F d _ k0 A c W a hk1 hkd rfl hk0)
    clear hdv hk0
    obtain ⟨q0, q1, q2⟩ := kp2.out
    go_wp2_with (fail)
    (with_reducible refine (hP w2 hg2).out.mono ?_)
    rintro e w3 ⟨rfl, hb3⟩
    have hs3 : w2.heap.size ≤ w3.heap.size := hb3.size
    have hg3 := (hg2.below hb3).more hb3.size
    have hr3 := (hr2.below hb3).more hb3.size
    have kp3 := Lib.hid (keep3 hb3 hl2 kp2.out)
    have hl3 := Nat.lt_of_lt_of_le hl2 hs3
    have hB3 := (hB2).trans (hb3.mono hB2.size)
    clear q0 q1 q2 hg2 hr2 hB2 kp2 hb3
    obtain ⟨q0, q1, q2⟩ := kp3.out
    go_wp2_with (fail)
    (with_reducible refine (hV w3).out.mono ?_)
    rintro e w4 ⟨rfl, hb4⟩
    have hs4 : w3.heap.size ≤ w4.heap.size := hb4.size
    have hg4 := (hg3.below hb4).more hb4.size
    have hr4 := (hr3.below hb4).more hb4.size
    have kp4 := Lib.hid (keep3 hb4 hl3 kp3.out)
    have hl4 := Nat.lt_of_lt_of_le hl3 hs4
    have hB4 := (hB3).trans (hb4.mono hB3.size)
    clear q0 q1 q2 hg3 hr3 hB3 kp3 hb4
    obtain ⟨q0, q1, q2⟩ := kp4.out
    go_wp2_with (fail)
    (with_reducible refine (hR w4 hr4).out.mono ?_)
    rintro e w5 ⟨rfl, hb5⟩
    have hs5 : w4.heap.size ≤ w5.heap.size := hb5.size
    have hg5 := (hg4.below hb5).more hb5.size
    have hr5 := (hr4.below hb5).more hb5.size
    have kp5 := Lib.hid (keep3 hb5 hl4 kp4.out)
    have hl5 := Nat.lt_of_lt_of_le hl4 hs5
    have hB5 := (hB4).trans (hb5.mono hB4.size)
    clear q0 q1 q2 hg4 hr4 hB4 kp4 hb5
    go_wp2_with (fail)
    go_ret
    exact ⟨by simp, hB5⟩
  · rw [Bool.not_eq_true] at hdv
    rw [hdv] at hV
    have hP := fun W a => Lib.hid (tNormal_no F x1 g W a hdv)
    clear hdv
    obtain ⟨q0, q1, q2⟩ := kp2.out
    go_wp2_with (fail)
    (with_reducible refine (hP w2 hg2).out.mono ?_)
    rintro e w3 ⟨rfl, hb3⟩
    have hs3 : w2.heap.size ≤ w3.heap.size := hb3.size
    have hg3 := (hg2.below hb3).more hb3.size
    have hr3 := (hr2.below hb3).more hb3.size
    have kp3 := Lib.hid (keep3 hb3 hl2 kp2.out)
    have hl3 := Nat.lt_of_lt_of_le hl2 hs3
    have hB3 := (hB2).trans (hb3.mono hB2.size)
    clear q0 q1 q2 hg2 hr2 hB2 kp2 hb3
    obtain ⟨q0, q1, q2⟩ := kp3.out
    go_wp2_with (fail)
    (with_reducible refine (hV w3).out.mono ?_)
    rintro e w4 ⟨rfl, hb4⟩
    have hs4 : w3.heap.size ≤ w4.heap.size := hb4.size
    have hg4 := (hg3.below hb4).more hb4.size
    have hr4 := (hr3.below hb4).more hb4.size
    have kp4 := Lib.hid (keep3 hb4 hl3 kp3.out)
    have hl4 := Nat.lt_of_lt_of_le hl3 hs4
    have hB4 := (hB3).trans (hb4.mono hB3.size)
    clear q0 q1 q2 hg3 hr3 hB3 kp3 hb4
    go_wp2_with (fail)
    go_ret
    exact ⟨rfl, hB4⟩
end Go.Proofs.Yteamndefbpdcjaa
