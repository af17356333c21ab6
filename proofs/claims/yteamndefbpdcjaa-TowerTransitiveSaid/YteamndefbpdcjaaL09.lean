/- TowerTransitive: the walk. -/
import Derived.Test.YteamndefbpdcjaaL01
namespace Go.Proofs.Yteamndefbpdcjaa
open Go.RowKit Go.Shelf Cw
attribute [local go_sem] Oper.semAt_some

set_option maxHeartbeats 1000000 in
theorem tvL_bad (P M : Int) (ml : List Int) (A : Option Addr) (c : Nat) (x1 : Int) (x2 y2 : Int) (w : World) (hP : I64 P) (hM : I64 M) (hl : ml.length ≤ maxLen) (hr : Rd w w.heap.size A ml) (hb : ¬ Good P M ml) :
    Calls Try.prog 11 #[.agg #[.int .i64 P, .int .i64 M, .slice A ml.length c], .int .i64 x1, .agg #[.int .i64 x2, .int .i64 y2]] w (LawEnd w) := by
  have hA := fun W => Lib.hid (alive_any W)
  have hM := fun W (h : Rd W W.heap.size A ml) => Lib.hid (made_bad P M ml A c W hP.2 hM.2 hl h hb)
  have hB : Below w.heap.size w ((w.alloc (.cells #[.int .i64 P, .int .i64 M, .slice A ml.length c] 24)).alloc (.cells #[.int .i64 x2, .int .i64 y2] 31)) := (((Below.refl _ _).alloc (by simp) _).alloc (by simp) _)
  have k0 := Lib.hid (show (((w.alloc (.cells #[.int .i64 P, .int .i64 M, .slice A ml.length c] 24)).alloc (.cells #[.int .i64 x2, .int .i64 y2] 31))).cell? ⟨w.heap.size, 0, none⟩ = some (.int .i64 P) ∧ (((w.alloc (.cells #[.int .i64 P, .int .i64 M, .slice A ml.length c] 24)).alloc (.cells #[.int .i64 x2, .int .i64 y2] 31))).cell? ⟨w.heap.size, 1, none⟩ = some (.int .i64 M) ∧ (((w.alloc (.cells #[.int .i64 P, .int .i64 M, .slice A ml.length c] 24)).alloc (.cells #[.int .i64 x2, .int .i64 y2] 31))).cell? ⟨w.heap.size, 2, none⟩ = some (.slice A ml.length c) from by simp [go_sem])
  have p0 := Lib.hid (show (((w.alloc (.cells #[.int .i64 P, .int .i64 M, .slice A ml.length c] 24)).alloc (.cells #[.int .i64 x2, .int .i64 y2] 31))).cell? ⟨w.heap.size + 1, 0, none⟩ = some (.int .i64 x2) ∧ (((w.alloc (.cells #[.int .i64 P, .int .i64 M, .slice A ml.length c] 24)).alloc (.cells #[.int .i64 x2, .int .i64 y2] 31))).cell? ⟨w.heap.size + 1, 1, none⟩ = some (.int .i64 y2) from by simp [go_sem])
  clear hP hl hb
  go_enter Try.func11, Try.ntmps11
  go_wp2_with (fail)
  refine (hA _).out.mono ?_
  rintro e w1 ⟨rfl, hb1⟩
  have p1 := Lib.hid (keep2 hb1 (by simp) p0.out)
  obtain ⟨ka, kb, kc⟩ := keep3 hb1 (by simp; try omega) k0.out
  have hr1 := (((hr.below hB).more hB.size).below hb1).more hb1.size
  have hB1 := hB.trans (hb1.mono hB.size)
  have hM1 := hM _ hr1
  clear hM hA
  go_wp2_with (fail)
  refine hM1.out.mono ?_
  rintro e w2 ⟨rfl, hb2⟩
  obtain ⟨pa, pb⟩ := keep2 hb2 (by have := hb1.size; simp only [World.size_alloc] at this; omega) p1.out
  go_wp2_with (fail)
  go_quiet (fail)
  go_wp2_with (fail)
  go_ret
  exact ⟨rfl, below_drewN' (hB1.trans (hb2.mono hB1.size)) _⟩

set_option maxRecDepth 100000 in
set_option maxHeartbeats 2000000 in
theorem tvL_good (D : Desc) (A : Option Addr) (c : Nat) (x1 : Int) (x2 y2 : Int) (w : World)  (hr : Rd w w.heap.size A (modL D)) (hb : Good D.p D.m (modL D)) :
    Calls Try.prog 11 #[.agg #[.int .i64 D.p, .int .i64 D.m, .slice A D.mod.length c], .int .i64 x1, .agg #[.int .i64 x2, .int .i64 y2]] w (LawEnd w) := by
  have hp2 := D.m8; have hm1 := D.m1
  have hA := fun W => Lib.hid (alive_any W)
  have hM := fun W (h : Rd W W.heap.size A (modL D)) => Lib.hid (made_good D A c W h hb)
  have hB : Below w.heap.size w ((w.alloc (.cells #[.int .i64 D.p, .int .i64 D.m, .slice A D.mod.length c] 24)).alloc (.cells #[.int .i64 x2, .int .i64 y2] 31)) := (((Below.refl _ _).alloc (by simp) _).alloc (by simp) _)
  have k0 := Lib.hid (show (((w.alloc (.cells #[.int .i64 D.p, .int .i64 D.m, .slice A D.mod.length c] 24)).alloc (.cells #[.int .i64 x2, .int .i64 y2] 31))).cell? ⟨w.heap.size, 0, none⟩ = some (.int .i64 D.p) ∧ (((w.alloc (.cells #[.int .i64 D.p, .int .i64 D.m, .slice A D.mod.length c] 24)).alloc (.cells #[.int .i64 x2, .int .i64 y2] 31))).cell? ⟨w.heap.size, 1, none⟩ = some (.int .i64 D.m) ∧ (((w.alloc (.cells #[.int .i64 D.p, .int .i64 D.m, .slice A D.mod.length c] 24)).alloc (.cells #[.int .i64 x2, .int .i64 y2] 31))).cell? ⟨w.heap.size, 2, none⟩ = some (.slice A D.mod.length c) from by simp [go_sem])
  have p0 := Lib.hid (show (((w.alloc (.cells #[.int .i64 D.p, .int .i64 D.m, .slice A D.mod.length c] 24)).alloc (.cells #[.int .i64 x2, .int .i64 y2] 31))).cell? ⟨w.heap.size + 1, 0, none⟩ = some (.int .i64 x2) ∧ (((w.alloc (.cells #[.int .i64 D.p, .int .i64 D.m, .slice A D.mod.length c] 24)).alloc (.cells #[.int .i64 x2, .int .i64 y2] 31))).cell? ⟨w.heap.size + 1, 1, none⟩ = some (.int .i64 y2) from by simp [go_sem])
  go_enter Try.func11, Try.ntmps11
  go_wp2_with (fail)
  refine (hA _).out.mono ?_
  rintro e w1 ⟨rfl, hb1⟩
  obtain ⟨ka, kb, kc⟩ := keep3 hb1 (by simp; try omega) k0.out
  have p1 := Lib.hid (keep2 hb1 (by simp) p0.out)
  have hr1 := (((hr.below hB).more hB.size).below hb1).more hb1.size
  have hB1 := hB.trans (hb1.mono hB.size)
  have hM1 := hM _ hr1
  clear hM hA
  go_wp2_with (fail)
  refine hM1.out.mono ?_
  rintro e w2 ⟨hb2, ⟨g, F, rfl, rfl, hgl, hg⟩ | ⟨-, rfl⟩⟩
  rotate_left
  · obtain ⟨pa, pb⟩ := keep2 hb2 (by have := hb1.size; simp only [World.size_alloc] at this; omega) p1.out
    go_wp2_with (fail)
    go_quiet (fail)
    go_wp2_with (fail)
    go_ret
    exact ⟨rfl, below_drewN' (hB1.trans (hb2.mono hB1.size)) _⟩
  have hlt2 : w.heap.size < w2.heap.size := by have := hb1.size; have := hb2.size; simp only [World.size_alloc] at *; omega
  have hlt2b : w.heap.size + 1 < w2.heap.size := by have := hb1.size; have := hb2.size; simp only [World.size_alloc] at *; omega
  have kk2 := Lib.hid (keep3 hb2 (by have := hb1.size; simp only [World.size_alloc] at this; omega) ⟨ka, kb, kc⟩)
  have pk2 := Lib.hid (keep2 hb2 (by have := hb1.size; simp only [World.size_alloc] at this; omega) p1.out)
  have kp2 : Hid (w2.cell? ⟨w.heap.size, 0, none⟩ = some (.int .i64 F.p) ∧ w2.cell? ⟨w.heap.size, 1, none⟩ = some (.int .i64 F.m) ∧ w2.cell? ⟨w.heap.size, 2, none⟩ = some (.slice A F.mod.length c) ∧ w2.cell? ⟨w.heap.size + 1, 0, none⟩ = some (.int .i64 x2) ∧ w2.cell? ⟨w.heap.size + 1, 1, none⟩ = some (.int .i64 y2)) := Lib.hid (⟨kk2.out.1, kk2.out.2.1, kk2.out.2.2, pk2.out.1, pk2.out.2⟩ : _ ∧ _ ∧ _ ∧ _ ∧ _)
  have hl2 := hlt2b
  have hB2 := hB1.trans (hb2.mono hB1.size)
  have hr2 := (hr1.below hb2).more hb2.size
  have hg2 := hg
  clear ka kb kc hr1 hM1 hb hb1 hB hB1 k0 hr kk2 hlt2 hb2 hg pk2 p0 p1 hlt2b
  go_wp2_with (fail)
  go_region_held3 (fun w' => w'.cell? ⟨w.heap.size, 0, none⟩ = some (.int .i64 F.p) ∧ w'.cell? ⟨w.heap.size, 1, none⟩ = some (.int .i64 F.m) ∧ w'.cell? ⟨w.heap.size, 2, none⟩ = some (.slice A F.mod.length c) ∧ w'.cell? ⟨w.heap.size + 1, 0, none⟩ = some (.int .i64 x2) ∧ w'.cell? ⟨w.heap.size + 1, 1, none⟩ = some (.int .i64 y2)) (first | exact kp2.out) (fail)
  have hg3 : GF w2.drew w2.drew.heap.size g F := hg2.drew
  have hr3 : Rd w2.drew w2.drew.heap.size A (modL F.toDesc) := hr2.drew
  have kp3 : Hid (w2.drew.cell? ⟨w.heap.size, 0, none⟩ = some (.int .i64 F.p) ∧ w2.drew.cell? ⟨w.heap.size, 1, none⟩ = some (.int .i64 F.m) ∧ w2.drew.cell? ⟨w.heap.size, 2, none⟩ = some (.slice A F.mod.length c) ∧ w2.drew.cell? ⟨w.heap.size + 1, 0, none⟩ = some (.int .i64 x2) ∧ w2.drew.cell? ⟨w.heap.size + 1, 1, none⟩ = some (.int .i64 y2)) := kp2
  have hl3 : _ < w2.drew.heap.size := hl2
  have hB3 := hB2.drew
  clear hg2 hr2 kp2 hB2
  generalize w2.drew = w3 at *
  have hV := fun W => Lib.hid (Divides_any F.toDesc x2 A F.mod.length c W)
  by_cases hdv : divB F.m x2 = true
  · obtain ⟨d, rfl, hk1, hkm, hkd⟩ := divB_nat hdv
    rw [hdv] at hV
    obtain ⟨q0, q1, q2, q3, q4⟩ := kp3.out
    go_wp2_with (fail)
    (with_reducible refine (hV w3).out.mono ?_)
    rintro e w4 ⟨rfl, hb4⟩
    have hs4 : w3.heap.size ≤ w4.heap.size := hb4.size
    have hg4 := (hg3.below hb4).more hb4.size
    have hr4 := (hr3.below hb4).more hb4.size
    have kp4 := Lib.hid (keep5 hb4 (Nat.lt_of_succ_lt hl3) hl3 kp3.out)
    have hl4 := Nat.lt_of_lt_of_le hl3 hs4
    have hB4 := (hB3).trans (hb4.mono hB3.size)
    clear q0 q1 q2 q3 q4 hg3 hr3 hB3 kp3 hb4
    by_cases he1 : y2 < 1
    · go_wp2_with (fail)
      go_ret
      exact ⟨rfl, hB4⟩
    by_cases he2 : (d : Int) < y2
    · go_wp2_with (fail)
      go_ret
      exact ⟨rfl, hB4⟩
    obtain ⟨e, rfl⟩ := Int.eq_ofNat_of_zero_le (show 0 ≤ y2 by omega)
    have hez : ¬ (e : Int) = 0 := by omega
    have he0 : ¬ e = 0 := by omega
    have htm : (d : Int).tmod e = (d : Int) % (e : Int) := Int.tmod_eq_emod_of_nonneg (Int.natCast_nonneg d)
    by_cases he3 : e ∣ d
    · have hmz : (d : Int) % (e : Int) = 0 := Int.emod_eq_zero_of_dvd (Int.natCast_dvd_natCast.2 he3)
      have hmn : ((d : Int) % (e : Int) != 0) = false := by rw [bne, hmz]; rfl
      obtain ⟨N, hN⟩ : ∃ N, N = d / e := ⟨_, rfl⟩
      have hN8 : N ≤ 8 := by rw [hN]; exact Nat.le_trans (Nat.div_le_self _ _) (by omega)
      have hdq : (d : Int) / (e : Int) = (N : Int) := by rw [hN]; rfl
      have he8 : e ≤ 8 := Nat.le_trans (Nat.le_of_dvd (by omega) he3) (by omega)
      have hd8 : d ≤ 8 := by omega
      have hT := fun W hg => Lib.hid (tTrace_yes F x1 d g W hg hk1 hkd)
      have hNm := fun W hg => Lib.hid (tNorm_yes F x1 d g W hg hk1 hkd)
      have hek : e ∣ F.m := Nat.dvd_trans he3 hkd
      have he1' : 1 ≤ e := by omega
      have hT2 := fun W hg => Lib.hid (tTrace_yes F x1 e g W hg he1' hek)
      have hN2 := fun W hg => Lib.hid (tNorm_yes F x1 e g W hg he1' hek)
      have htt : tr e (eli F.toDesc x1) = rsum N (fun i => frob (e * i) (tr d (eli F.toDesc x1))) := by rw [hN]; exact tr_trans (F := R F.toDesc) hkd he3 _
      have hnn : nm e (eli F.toDesc x1) = rprod N (fun i => frob (e * i) (nm d (eli F.toDesc x1))) := by rw [hN]; exact nm_trans (F := R F.toDesc) hkd he3 _
      rw [htt] at hT2
      rw [hnn] at hN2
      generalize tr d (eli F.toDesc x1) = t at *
      generalize nm d (eli F.toDesc x1) = n at *
      clear htt hnn hN hdv hkd he3 hek hV
      obtain ⟨q0, q1, q2, q3, q4⟩ := kp4.out
      go_wp2_with (fail)
      (with_reducible refine (hT w4 hg4).out.mono ?_)
      rintro e w5 ⟨rfl, hb5⟩
      have hs5 : w4.heap.size ≤ w5.heap.size := hb5.size
      have hg5 := (hg4.below hb5).more hb5.size
      have hr5 := (hr4.below hb5).more hb5.size
      have kp5 := Lib.hid (keep5 hb5 (Nat.lt_of_succ_lt hl4) hl4 kp4.out)
      have hl5 := Nat.lt_of_lt_of_le hl4 hs5
      have hB5 := (hB4).trans (hb5.mono hB4.size)
      clear q0 q1 q2 q3 q4 hg4 hr4 hB4 kp4 hb5
      obtain ⟨q0, q1, q2, q3, q4⟩ := kp5.out
      go_wp2_with (fail)
      (with_reducible refine (hNm w5 hg5).out.mono ?_)
      rintro e w6 ⟨rfl, hb6⟩
      have hs6 : w5.heap.size ≤ w6.heap.size := hb6.size
      have hg6 := (hg5.below hb6).more hb6.size
      have hr6 := (hr5.below hb6).more hb6.size
      have kp6 := Lib.hid (keep5 hb6 (Nat.lt_of_succ_lt hl5) hl5 kp5.out)
      have hl6 := Nat.lt_of_lt_of_le hl5 hs6
      have hB6 := (hB5).trans (hb6.mono hB5.size)
      clear q0 q1 q2 q3 q4 hg5 hr5 hB5 kp5 hb6
      obtain ⟨q0, q1, q2, q3, q4⟩ := kp6.out
      go_wp2_with (fail)
      clear hdq
      clear q0 q1 q2 q3 q4
      go_loopw [69, 14, 15, 16] (fun i s p _ w7 => ∃ j : Nat, j ≤ N ∧ i = .int .i64 j ∧ s = .int .i64 (ci (rsum j fun i => frob (e * i) t)) ∧ p = .int .i64 (ci (rprod j fun i => frob (e * i) n)) ∧ Hid (GF w7 w7.heap.size g F) ∧ Hid (Rd w7 w7.heap.size A (modL F.toDesc)) ∧ Hid (w7.cell? ⟨w.heap.size, 0, none⟩ = some (.int .i64 F.p) ∧ w7.cell? ⟨w.heap.size, 1, none⟩ = some (.int .i64 F.m) ∧ w7.cell? ⟨w.heap.size, 2, none⟩ = some (.slice A F.mod.length c) ∧ w7.cell? ⟨w.heap.size + 1, 0, none⟩ = some (.int .i64 d) ∧ w7.cell? ⟨w.heap.size + 1, 1, none⟩ = some (.int .i64 e)) ∧ w.heap.size + 1 < w7.heap.size ∧ Below w.heap.size w w7) (fun i _ _ _ _ => N - (intOf i).toNat)
      case atStart => exact ⟨0, by omega, rfl, by rw [rsum_zero, ci_zero], by rw [rprod_zero, ci_one], hg6, hr6, kp6, hl6, hB6⟩
      case round =>
        clear hg6 hr6 kp6 hl6 hB6
        obtain ⟨w7, rfl⟩ : ∃ w7 : World, w7 = wr := ⟨_, rfl⟩
        obtain ⟨j, hj, rfl, rfl, rfl, hg7, hr7, kp7, hl7, hB7⟩ := hrel
        by_cases hlt : j < N
        · have hej : e * j ≤ 64 := Nat.mul_le_mul he8 (Nat.le_trans hj hN8)
          have hej2 : e * j ≤ 4294967296 := by omega
          have hjm : (e : Int) * (j : Int) ≤ 64 := by rw [← Int.natCast_mul]; omega
          have hjn : (0 : Int) ≤ (e : Int) * (j : Int) := by rw [← Int.natCast_mul]; omega
          have hwm : IntKind.i64.wrap ((e : Int) * (j : Int)) = (e : Int) * (j : Int) := IntWalk.i64_in _ ⟨by omega, by omega⟩
          have hF1 := fun W hr => Lib.hid (Frob7_any F (ci t) (e * j) A c W hr hej2)
          have hF2 := fun W hr => Lib.hid (Frob7_any F (ci n) (e * j) A c W hr hej2)
          rw [Int.natCast_mul, eli_ci] at hF1 hF2
          have hA1 := fun W => Lib.hid (Add_any F.toDesc (ci (rsum j fun i => frob (e * i) t)) (ci (frob (e * j) t)) A F.mod.length c W)
          have hM1 := fun W hr => Lib.hid (Mul_any F.toDesc (ci (rprod j fun i => frob (e * i) n)) (ci (frob (e * j) n)) A c W hr)
          rw [eli_ci, eli_ci, ← rsum_succ j (fun i => frob (e * i) t)] at hA1
          rw [eli_ci, eli_ci, ← rprod_succ j (fun i => frob (e * i) n)] at hM1
          go_wp2_with (fail)
          go_region_held3 (fun w' => w'.cell? ⟨w.heap.size, 0, none⟩ = some (.int .i64 F.p) ∧ w'.cell? ⟨w.heap.size, 1, none⟩ = some (.int .i64 F.m) ∧ w'.cell? ⟨w.heap.size, 2, none⟩ = some (.slice A F.mod.length c) ∧ w'.cell? ⟨w.heap.size + 1, 0, none⟩ = some (.int .i64 d) ∧ w'.cell? ⟨w.heap.size + 1, 1, none⟩ = some (.int .i64 e)) (first | exact kp7.out | exact kp8.out | exact kp9.out)
            (first
              | (go_at_call 23; (with_reducible refine (hF1 _ hr7.out.drew).out.mono ?_); rintro e w8 ⟨rfl, hb8⟩; have hs8 : w7.heap.size ≤ w8.heap.size := hb8.size; have hg8 := (hg7.drew.below hb8).more hb8.size; have hr8 := (hr7.drew.below hb8).more hb8.size; have kp8 := Lib.hid (keep5 hb8 (Nat.lt_of_succ_lt hl7) hl7 kp7.out); have hl8 := Nat.lt_of_lt_of_le hl7 hs8; have hB8 := (hB7.drew).trans (hb8.mono hB7.size))
              | (go_at_call 24; (with_reducible refine (hA1 w8).out.mono ?_); rintro e w9 ⟨rfl, hb9⟩; have hs9 : w8.heap.size ≤ w9.heap.size := hb9.size; have hg9 := (hg8.below hb9).more hb9.size; have hr9 := (hr8.below hb9).more hb9.size; have kp9 := Lib.hid (keep5 hb9 (Nat.lt_of_succ_lt hl8) hl8 kp8.out); have hl9 := Nat.lt_of_lt_of_le hl8 hs9; have hB9 := (hB8).trans (hb9.mono hB8.size)))
          clear hg7 hr7 hB7 kp7 hb8 hg8 hr8 hB8 kp8 hb9
          go_wp2_with (fail)
          go_region_held3 (fun w' => w'.cell? ⟨w.heap.size, 0, none⟩ = some (.int .i64 F.p) ∧ w'.cell? ⟨w.heap.size, 1, none⟩ = some (.int .i64 F.m) ∧ w'.cell? ⟨w.heap.size, 2, none⟩ = some (.slice A F.mod.length c) ∧ w'.cell? ⟨w.heap.size + 1, 0, none⟩ = some (.int .i64 d) ∧ w'.cell? ⟨w.heap.size + 1, 1, none⟩ = some (.int .i64 e)) (first | exact kp9.out | exact kp10.out | exact kp11.out)
            (first
              | (go_at_call 23; (with_reducible refine (hF2 _ hr9.drew).out.mono ?_); rintro e w10 ⟨rfl, hb10⟩; have hs10 : w9.heap.size ≤ w10.heap.size := hb10.size; have hg10 := (hg9.drew.below hb10).more hb10.size; have hr10 := (hr9.drew.below hb10).more hb10.size; have kp10 := Lib.hid (keep5 hb10 (Nat.lt_of_succ_lt hl9) hl9 kp9.out); have hl10 := Nat.lt_of_lt_of_le hl9 hs10; have hB10 := (hB9.drew).trans (hb10.mono hB9.size))
              | (go_at_call 25; (with_reducible refine (hM1 w10 hr10).out.mono ?_); rintro e w11 ⟨rfl, hb11⟩; have hs11 : w10.heap.size ≤ w11.heap.size := hb11.size; have hg11 := (hg10.below hb11).more hb11.size; have hr11 := (hr10.below hb11).more hb11.size; have kp11 := Lib.hid (keep5 hb11 (Nat.lt_of_succ_lt hl10) hl10 kp10.out); have hl11 := Nat.lt_of_lt_of_le hl10 hs11; have hB11 := (hB10).trans (hb11.mono hB10.size)))
          clear hg9 hr9 hB9 kp9 hb10 hg10 hr10 hB10 kp10 hb11
          go_wp2_with (fail)
          go_roundw
          case rel => exact ⟨j + 1, by omega, by go_num, rfl, rfl, hg11, hr11, kp11, hl11, hB11⟩
          case measure => simp [intOf]; omega
        · obtain rfl : j = N := by omega
          replace hg7 := hg7.out
          replace hr7 := hr7.out
          generalize rsum j (fun i => frob (e * i) t) = S1 at *
          generalize rprod j (fun i => frob (e * i) n) = P1 at *
          obtain ⟨q0, q1, q2, q3, q4⟩ := kp7.out
          go_wp2_with (fail)
          (with_reducible refine (hT2 w7 hg7).out.mono ?_)
          rintro e w8 ⟨rfl, hb8⟩
          have hs8 : w7.heap.size ≤ w8.heap.size := hb8.size
          have hg8 := (hg7.below hb8).more hb8.size
          have hr8 := (hr7.below hb8).more hb8.size
          have kp8 := Lib.hid (keep5 hb8 (Nat.lt_of_succ_lt hl7) hl7 kp7.out)
          have hl8 := Nat.lt_of_lt_of_le hl7 hs8
          have hB8 := (hB7).trans (hb8.mono hB7.size)
          clear q0 q1 q2 q3 q4 hg7 hr7 hB7 kp7 hb8
          obtain ⟨q0, q1, q2, q3, q4⟩ := kp8.out
          go_wp2_with (fail)
          (with_reducible refine (hN2 w8 hg8).out.mono ?_)
          rintro e w9 ⟨rfl, hb9⟩
          have hs9 : w8.heap.size ≤ w9.heap.size := hb9.size
          have hg9 := (hg8.below hb9).more hb9.size
          have hr9 := (hr8.below hb9).more hb9.size
          have kp9 := Lib.hid (keep5 hb9 (Nat.lt_of_succ_lt hl8) hl8 kp8.out)
          have hl9 := Nat.lt_of_lt_of_le hl8 hs9
          have hB9 := (hB8).trans (hb9.mono hB8.size)
          clear q0 q1 q2 q3 q4 hg8 hr8 hB8 kp8 hb9
          go_wp2_with (fail)
          go_ret
          exact ⟨rfl, hB9⟩
    · have hmz : ((d : Int) % (e : Int) == 0) = false := beq_eq_false_iff_ne.2 fun h => he3 (Int.natCast_dvd_natCast.1 (Int.dvd_of_emod_eq_zero h))
      have hmn : ((d : Int) % (e : Int) != 0) = true := by rw [bne, hmz]; rfl
      go_wp2_with (fail)
      go_ret
      exact ⟨rfl, hB4⟩
  · rw [Bool.not_eq_true] at hdv
    rw [hdv] at hV
    obtain ⟨q0, q1, q2, q3, q4⟩ := kp3.out
    go_wp2_with (fail)
    (with_reducible refine (hV w3).out.mono ?_)
    rintro e w4 ⟨rfl, hb4⟩
    have hs4 : w3.heap.size ≤ w4.heap.size := hb4.size
    have hg4 := (hg3.below hb4).more hb4.size
    have hr4 := (hr3.below hb4).more hb4.size
    have kp4 := Lib.hid (keep5 hb4 (Nat.lt_of_succ_lt hl3) hl3 kp3.out)
    have hl4 := Nat.lt_of_lt_of_le hl3 hs4
    have hB4 := (hB3).trans (hb4.mono hB3.size)
    clear q0 q1 q2 q3 q4 hg3 hr3 hB3 kp3 hb4
    go_wp2_with (fail)
    go_ret
    exact ⟨rfl, hB4⟩
end Go.Proofs.Yteamndefbpdcjaa
