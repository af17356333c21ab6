/- TowerHilbert: the walk. -/
import Derived.Test.YteamndefbpdcjaaL01
import Derived.Test.YteamndefbpdcjaaCnt
namespace Go.Proofs.Yteamndefbpdcjaa
open Go.RowKit Go.Shelf Cw
attribute [local go_sem] Oper.semAt_some

/-- Among the first k elements there is one with P. -/
def anyB {D : Desc} (P : R D → Prop) [∀ y, Decidable (P y)] : Nat → Bool
  | 0 => false
  | k + 1 => anyB P k || decide (P (rel D k))
theorem anyB_iff {D : Desc} (P : R D → Prop) [∀ y, Decidable (P y)] : ∀ k, anyB P k = true ↔ ∃ i, i < k ∧ P (rel D i)
  | 0 => by simp [anyB]
  | k + 1 => by
    show (anyB P k || decide (P (rel D k))) = true ↔ _
    rw [Bool.or_eq_true, anyB_iff P k, decide_eq_true_iff]
    constructor
    · rintro (⟨i, hi, h⟩ | h)
      · exact ⟨i, by omega, h⟩
      · exact ⟨k, by omega, h⟩
    · rintro ⟨i, hi, h⟩
      by_cases e : i = k
      · subst e; exact .inr h
      · exact .inl ⟨i, by omega, h⟩
theorem anyB_all {D : Desc} (P : R D → Prop) [∀ y, Decidable (P y)] : anyB P D.q = true ↔ ∃ y, P y := by
  rw [anyB_iff]
  constructor
  · rintro ⟨i, -, h⟩; exact ⟨_, h⟩
  · rintro ⟨y, h⟩; exact ⟨rcode y, rcode_lt y, by rw [rel_rcode]; exact h⟩

theorem anyB_succ {D : Desc} (P : R D → Prop) [∀ y, Decidable (P y)] (k : Nat) : anyB P (k + 1) = (anyB P k || decide (P (rel D k))) := rfl

set_option maxHeartbeats 1000000 in
theorem hbL_bad (P M : Int) (ml : List Int) (A : Option Addr) (c : Nat) (x1 : Int) (x2 : Int) (w : World) (hP : I64 P) (hM : I64 M) (hl : ml.length ≤ maxLen) (hr : Rd w w.heap.size A ml) (hb : ¬ Good P M ml) :
    Calls Try.prog 12 #[.agg #[.int .i64 P, .int .i64 M, .slice A ml.length c], .int .i64 x1, .int .i64 x2] w (LawEnd w) := by
  have hA := fun W => Lib.hid (alive_any W)
  have hM := fun W (h : Rd W W.heap.size A ml) => Lib.hid (made_bad P M ml A c W hP.2 hM.2 hl h hb)
  have hB : Below w.heap.size w (w.alloc (.cells #[.int .i64 P, .int .i64 M, .slice A ml.length c] 24)) := ((Below.refl _ _).alloc (by simp) _)
  have k0 := Lib.hid (show ((w.alloc (.cells #[.int .i64 P, .int .i64 M, .slice A ml.length c] 24))).cell? ⟨w.heap.size, 0, none⟩ = some (.int .i64 P) ∧ ((w.alloc (.cells #[.int .i64 P, .int .i64 M, .slice A ml.length c] 24))).cell? ⟨w.heap.size, 1, none⟩ = some (.int .i64 M) ∧ ((w.alloc (.cells #[.int .i64 P, .int .i64 M, .slice A ml.length c] 24))).cell? ⟨w.heap.size, 2, none⟩ = some (.slice A ml.length c) from by simp [go_sem])
  clear hP hl hb
  go_enter Try.func12, Try.ntmps12
  go_wp2_with (fail)
  refine (hA _).out.mono ?_
  rintro e w1 ⟨rfl, hb1⟩
  obtain ⟨ka, kb, kc⟩ := keep3 hb1 (by simp; try omega) k0.out
  have hr1 := (((hr.below hB).more hB.size).below hb1).more hb1.size
  have hB1 := hB.trans (hb1.mono hB.size)
  have hM1 := hM _ hr1
  clear hM hA
  go_wp2_with (fail)
  refine hM1.out.mono ?_
  rintro e w2 ⟨rfl, hb2⟩
  go_wp2_with (fail)
  go_ret
  exact ⟨rfl, hB1.trans (hb2.mono hB1.size)⟩

set_option maxRecDepth 100000 in
set_option maxHeartbeats 2000000 in
theorem hbL_good (D : Desc) (A : Option Addr) (c : Nat) (x1 : Int) (x2 : Int) (w : World)  (hr : Rd w w.heap.size A (modL D)) (hb : Good D.p D.m (modL D)) :
    Calls Try.prog 12 #[.agg #[.int .i64 D.p, .int .i64 D.m, .slice A D.mod.length c], .int .i64 x1, .int .i64 x2] w (LawEnd w) := by
  have hp2 := D.m8; have hm1 := D.m1
  have hA := fun W => Lib.hid (alive_any W)
  have hM := fun W (h : Rd W W.heap.size A (modL D)) => Lib.hid (made_good D A c W h hb)
  have hB : Below w.heap.size w (w.alloc (.cells #[.int .i64 D.p, .int .i64 D.m, .slice A D.mod.length c] 24)) := ((Below.refl _ _).alloc (by simp) _)
  have k0 := Lib.hid (show ((w.alloc (.cells #[.int .i64 D.p, .int .i64 D.m, .slice A D.mod.length c] 24))).cell? ⟨w.heap.size, 0, none⟩ = some (.int .i64 D.p) ∧ ((w.alloc (.cells #[.int .i64 D.p, .int .i64 D.m, .slice A D.mod.length c] 24))).cell? ⟨w.heap.size, 1, none⟩ = some (.int .i64 D.m) ∧ ((w.alloc (.cells #[.int .i64 D.p, .int .i64 D.m, .slice A D.mod.length c] 24))).cell? ⟨w.heap.size, 2, none⟩ = some (.slice A D.mod.length c) from by simp [go_sem])
  go_enter Try.func12, Try.ntmps12
  go_wp2_with (fail)
  refine (hA _).out.mono ?_
  rintro e w1 ⟨rfl, hb1⟩
  obtain ⟨ka, kb, kc⟩ := keep3 hb1 (by simp; try omega) k0.out
  have hr1 := (((hr.below hB).more hB.size).below hb1).more hb1.size
  have hB1 := hB.trans (hb1.mono hB.size)
  have hM1 := hM _ hr1
  clear hM hA
  go_wp2_with (fail)
  refine hM1.out.mono ?_
  rintro e w2 ⟨hb2, ⟨g, F, rfl, rfl, hgl, hg⟩ | ⟨-, rfl⟩⟩
  rotate_left
  · go_wp2_with (fail)
    go_ret
    exact ⟨rfl, hB1.trans (hb2.mono hB1.size)⟩
  have hlt2 : w.heap.size < w2.heap.size := by have := hb1.size; have := hb2.size; simp only [World.size_alloc] at *; omega
  have kk2 := Lib.hid (keep3 hb2 (by have := hb1.size; simp only [World.size_alloc] at this; omega) ⟨ka, kb, kc⟩)
  have kp2 : Hid (w2.cell? ⟨w.heap.size, 0, none⟩ = some (.int .i64 F.p) ∧ w2.cell? ⟨w.heap.size, 1, none⟩ = some (.int .i64 F.m) ∧ w2.cell? ⟨w.heap.size, 2, none⟩ = some (.slice A F.mod.length c)) := kk2
  have hl2 := hlt2
  have hB2 := hB1.trans (hb2.mono hB1.size)
  have hr2 := (hr1.below hb2).more hb2.size
  have hg2 := hg
  clear ka kb kc hr1 hM1 hb hb1 hB hB1 k0 hr kk2 hlt2 hb2 hg
  have hV := fun W => Lib.hid (Divides_any F.toDesc x2 A F.mod.length c W)
  by_cases hdv : divB F.m x2 = true
  · obtain ⟨d, rfl, hk1, hkm, hkd⟩ := divB_nat hdv
    rw [hdv] at hV
    have hd8 : d ≤ 8 := Nat.le_trans hkm hp2
    have hq256 := F.q256; have hp256 := F.p256
    have hI := fun W => Lib.hid (In_any F.toDesc x1 A F.mod.length c W)
    generalize eli F.toDesc x1 = u at *
    have hT := fun W hg => Lib.hid (tTrace_yes F (ci u) d g W hg hk1 hkd)
    have hN := fun W hg => Lib.hid (tNorm_yes F (ci u) d g W hg hk1 hkd)
    simp only [eli_ci] at hT hN
    have hO := fun W => Lib.hid (Order_any F.p F.m A F.mod.length c W (by omega) (by omega))
    rw [qOf_D] at hO
    have hF := fun (y : Nat) W hg => Lib.hid (tFrob_any F y d g W hg (by omega) (by omega))
    simp only [frob_kmod] at hF
    have htr := Lib.hid (hilbert_tr (F := R F.toDesc) hkd hk1 u)
    have hnm := Lib.hid (hilbert_nm (F := R F.toDesc) hkd hk1 u)
    generalize ht : tr d u = t at *
    generalize hn : nm d u = n at *
    clear ht hn hdv hkd
    obtain ⟨q0, q1, q2⟩ := kp2.out
    go_wp2_with (fail)
    (with_reducible refine (hV w2).out.mono ?_)
    rintro e w3 ⟨rfl, hb3⟩
    have hs3 : w2.heap.size ≤ w3.heap.size := hb3.size
    have hg3 := (hg2.below hb3).more hb3.size
    have hr3 := (hr2.below hb3).more hb3.size
    have kp3 := Lib.hid (keep3 hb3 hl2 kp2.out)
    have hl3 := Nat.lt_of_lt_of_le hl2 hs3
    have hB3 := (hB2).trans (hb3.mono hB2.size)
    clear q0 q1 q2 hg2 hr2 hB2 kp2 hb3
    obtain ⟨q0, q1, q2⟩ := kp3.out
    go_wp2_with (fail)
    (with_reducible refine (hI w3).out.mono ?_)
    rintro e w4 ⟨rfl, hb4⟩
    have hs4 : w3.heap.size ≤ w4.heap.size := hb4.size
    have hg4 := (hg3.below hb4).more hb4.size
    have hr4 := (hr3.below hb4).more hb4.size
    have kp4 := Lib.hid (keep3 hb4 hl3 kp3.out)
    have hl4 := Nat.lt_of_lt_of_le hl3 hs4
    have hB4 := (hB3).trans (hb4.mono hB3.size)
    clear q0 q1 q2 hg3 hr3 hB3 kp3 hb4
    obtain ⟨q0, q1, q2⟩ := kp4.out
    go_wp2_with (fail)
    (with_reducible refine (hT w4 hg4).out.mono ?_)
    rintro e w5 ⟨rfl, hb5⟩
    have hs5 : w4.heap.size ≤ w5.heap.size := hb5.size
    have hg5 := (hg4.below hb5).more hb5.size
    have hr5 := (hr4.below hb5).more hb5.size
    have kp5 := Lib.hid (keep3 hb5 hl4 kp4.out)
    have hl5 := Nat.lt_of_lt_of_le hl4 hs5
    have hB5 := (hB4).trans (hb5.mono hB4.size)
    clear q0 q1 q2 hg4 hr4 hB4 kp4 hb5
    obtain ⟨q0, q1, q2⟩ := kp5.out
    go_wp2_with (fail)
    (with_reducible refine (hN w5 hg5).out.mono ?_)
    rintro e w6 ⟨rfl, hb6⟩
    have hs6 : w5.heap.size ≤ w6.heap.size := hb6.size
    have hg6 := (hg5.below hb6).more hb6.size
    have hr6 := (hr5.below hb6).more hb6.size
    have kp6 := Lib.hid (keep3 hb6 hl5 kp5.out)
    have hl6 := Nat.lt_of_lt_of_le hl5 hs6
    have hB6 := (hB5).trans (hb6.mono hB5.size)
    clear q0 q1 q2 hg5 hr5 hB5 kp5 hb6
    obtain ⟨q0, q1, q2⟩ := kp6.out
    go_wp2_with (fail)
    (with_reducible refine (hO w6).out.mono ?_)
    rintro e w7 ⟨rfl, hb7⟩
    have hs7 : w6.heap.size ≤ w7.heap.size := hb7.size
    have hg7 := (hg6.below hb7).more hb7.size
    have hr7 := (hr6.below hb7).more hb7.size
    have kp7 := Lib.hid (keep3 hb7 hl6 kp6.out)
    have hl7 := Nat.lt_of_lt_of_le hl6 hs7
    have hB7 := (hB6).trans (hb7.mono hB6.size)
    clear q0 q1 q2 hg6 hr6 hB6 kp6 hb7
    go_wp2_with (fail)
    go_loopw [47, 12, 13, 14, 15] (fun i a b _ _ w8 => ∃ k : Nat, k ≤ F.q ∧ i = .int .i64 k ∧ a = .bool (anyB (fun y : R F.toDesc => frob d y - y = u) k) ∧ b = .bool (anyB (fun y : R F.toDesc => y ≠ 0 ∧ u * y = frob d y) k) ∧ Hid (GF w8 w8.heap.size g F) ∧ Hid (Rd w8 w8.heap.size A (modL F.toDesc)) ∧ Hid (w8.cell? ⟨w.heap.size, 0, none⟩ = some (.int .i64 F.p) ∧ w8.cell? ⟨w.heap.size, 1, none⟩ = some (.int .i64 F.m) ∧ w8.cell? ⟨w.heap.size, 2, none⟩ = some (.slice A F.mod.length c)) ∧ w.heap.size < w8.heap.size ∧ Below w.heap.size w w8) (fun i _ _ _ _ _ => F.q - (intOf i).toNat)
    case atStart => exact ⟨0, by omega, rfl, rfl, rfl, hg7, hr7, kp7, hl7, hB7⟩
    case round =>
      clear hg7 hr7 kp7 hl7 hB7
      obtain ⟨w8, rfl⟩ : ∃ w8 : World, w8 = wr := ⟨_, rfl⟩
      obtain ⟨k, hk, rfl, rfl, rfl, hg8, hr8, kp8, hl8, hB8⟩ := hrel
      replace hg8 := hg8.out
      replace hr8 := hr8.out
      by_cases hlt : k < F.q
      · obtain ⟨yk, hyk⟩ : ∃ yk, rel F.toDesc k = yk := ⟨_, rfl⟩
        have hek : eli F.toDesc (k : Int) = yk := by rw [eli_nat hlt, hyk]
        have hFk := fun W hg => Lib.hid (hF k W hg).out
        rw [hek] at hFk
        have hSk := fun W => Lib.hid (Sub_any F.toDesc (ci (frob d yk)) (k : Int) A F.mod.length c W)
        have hMk := fun W hr => Lib.hid (Mul_any F.toDesc (ci u) (k : Int) A c W hr)
        rw [hek, eli_ci] at hSk hMk
        obtain ⟨q0, q1, q2⟩ := kp8.out
        go_wp2_with (fail)
        (with_reducible refine (hFk w8 hg8).out.mono ?_)
        rintro e w9 ⟨rfl, hb9⟩
        have hs9 : w8.heap.size ≤ w9.heap.size := hb9.size
        have hg9 := (hg8.below hb9).more hb9.size
        have hr9 := (hr8.below hb9).more hb9.size
        have kp9 := Lib.hid (keep3 hb9 hl8 kp8.out)
        have hl9 := Nat.lt_of_lt_of_le hl8 hs9
        have hB9 := (hB8).trans (hb9.mono hB8.size)
        clear q0 q1 q2 hg8 hr8 hB8 kp8 hb9
        rcases ha1 : anyB (fun y : R F.toDesc => frob d y - y = u) k with _ | _
        · have ha3 : Hid ((ci (frob d yk - yk) == ci u) = anyB (fun y : R F.toDesc => frob d y - y = u) (k + 1)) := by
            unfold Hid; rw [ci_beq, anyB_succ, ha1, Bool.false_or, hyk]
          clear ha1
          obtain ⟨q0, q1, q2⟩ := kp9.out
          go_wp2_with (fail)
          (with_reducible refine (hSk w9).out.mono ?_)
          rintro e w10 ⟨rfl, hb10⟩
          have hs10 : w9.heap.size ≤ w10.heap.size := hb10.size
          have hg10 := (hg9.below hb10).more hb10.size
          have hr10 := (hr9.below hb10).more hb10.size
          have kp10 := Lib.hid (keep3 hb10 hl9 kp9.out)
          have hl10 := Nat.lt_of_lt_of_le hl9 hs10
          have hB10 := (hB9).trans (hb10.mono hB9.size)
          clear q0 q1 q2 hg9 hr9 hB9 kp9 hb10
          rcases hb1 : anyB (fun y : R F.toDesc => y ≠ 0 ∧ u * y = frob d y) k with _ | _
          · have hb2 : anyB (fun y : R F.toDesc => y ≠ 0 ∧ u * y = frob d y) (k + 1) = decide (yk ≠ 0 ∧ u * yk = frob d yk) := by rw [anyB_succ, hb1, Bool.false_or, hyk]
            by_cases hk0 : k = 0
            · subst hk0
              have hb3 : Hid (anyB (fun y : R F.toDesc => y ≠ 0 ∧ u * y = frob d y) (0 + 1) = false) := by unfold Hid; rw [hb2, decide_eq_false]; exact fun h => h.1 (by rw [← hyk, rel_zero])
              clear hb2 hb1 hyk hek
              go_wp2_with (fail)
              go_roundw
              case rel => exact ⟨1, by omega, by go_num, by rw [ha3.out], by rw [show (1 : Nat) = 0 + 1 from rfl, hb3.out], hg10, hr10, kp10, hl10, hB10⟩
              case measure => simp [intOf]; omega
            · have hkz : ((k : Int) != 0) = true := by rw [bne_iff_ne]; omega
              have hb3 : Hid ((ci (u * yk) == ci (frob d yk)) = anyB (fun y : R F.toDesc => y ≠ 0 ∧ u * y = frob d y) (k + 1)) := by
                unfold Hid; rw [hb2, ci_beq]
                refine decide_eq_decide.2 ⟨fun h => ⟨fun e => hk0 ?_, h⟩, fun h => h.2⟩
                rw [← rcode_rel hlt, hyk, e, rcode_zero]
              clear hb2 hb1 hyk hek
              obtain ⟨q0, q1, q2⟩ := kp10.out
              go_wp2_with (fail)
              (with_reducible refine (hMk w10 hr10).out.mono ?_)
              rintro e w11 ⟨rfl, hb11⟩
              have hs11 : w10.heap.size ≤ w11.heap.size := hb11.size
              have hg11 := (hg10.below hb11).more hb11.size
              have hr11 := (hr10.below hb11).more hb11.size
              have kp11 := Lib.hid (keep3 hb11 hl10 kp10.out)
              have hl11 := Nat.lt_of_lt_of_le hl10 hs11
              have hB11 := (hB10).trans (hb11.mono hB10.size)
              clear q0 q1 q2 hg10 hr10 hB10 kp10 hb11
              go_wp2_with (fail)
              go_roundw
              case rel => exact ⟨k + 1, by omega, by go_num, by rw [ha3.out], by rw [hb3.out], hg11, hr11, kp11, hl11, hB11⟩
              case measure => simp [intOf]; omega
          · have hb3 : Hid (anyB (fun y : R F.toDesc => y ≠ 0 ∧ u * y = frob d y) (k + 1) = true) := by unfold Hid; rw [anyB_succ, hb1, Bool.true_or]
            clear hb1 hyk hek
            go_wp2_with (fail)
            go_roundw
            case rel => exact ⟨k + 1, by omega, by go_num, by rw [ha3.out], by rw [hb3.out], hg10, hr10, kp10, hl10, hB10⟩
            case measure => simp [intOf]; omega
        · have ha3 : Hid (anyB (fun y : R F.toDesc => frob d y - y = u) (k + 1) = true) := by unfold Hid; rw [anyB_succ, ha1, Bool.true_or]
          clear ha1
          rcases hb1 : anyB (fun y : R F.toDesc => y ≠ 0 ∧ u * y = frob d y) k with _ | _
          · have hb2 : anyB (fun y : R F.toDesc => y ≠ 0 ∧ u * y = frob d y) (k + 1) = decide (yk ≠ 0 ∧ u * yk = frob d yk) := by rw [anyB_succ, hb1, Bool.false_or, hyk]
            by_cases hk0 : k = 0
            · subst hk0
              have hb3 : Hid (anyB (fun y : R F.toDesc => y ≠ 0 ∧ u * y = frob d y) (0 + 1) = false) := by unfold Hid; rw [hb2, decide_eq_false]; exact fun h => h.1 (by rw [← hyk, rel_zero])
              clear hb2 hb1 hyk hek
              go_wp2_with (fail)
              go_roundw
              case rel => exact ⟨1, by omega, by go_num, by rw [ha3.out], by rw [show (1 : Nat) = 0 + 1 from rfl, hb3.out], hg9, hr9, kp9, hl9, hB9⟩
              case measure => simp [intOf]; omega
            · have hkz : ((k : Int) != 0) = true := by rw [bne_iff_ne]; omega
              have hb3 : Hid ((ci (u * yk) == ci (frob d yk)) = anyB (fun y : R F.toDesc => y ≠ 0 ∧ u * y = frob d y) (k + 1)) := by
                unfold Hid; rw [hb2, ci_beq]
                refine decide_eq_decide.2 ⟨fun h => ⟨fun e => hk0 ?_, h⟩, fun h => h.2⟩
                rw [← rcode_rel hlt, hyk, e, rcode_zero]
              clear hb2 hb1 hyk hek
              obtain ⟨q0, q1, q2⟩ := kp9.out
              go_wp2_with (fail)
              (with_reducible refine (hMk w9 hr9).out.mono ?_)
              rintro e w10 ⟨rfl, hb10⟩
              have hs10 : w9.heap.size ≤ w10.heap.size := hb10.size
              have hg10 := (hg9.below hb10).more hb10.size
              have hr10 := (hr9.below hb10).more hb10.size
              have kp10 := Lib.hid (keep3 hb10 hl9 kp9.out)
              have hl10 := Nat.lt_of_lt_of_le hl9 hs10
              have hB10 := (hB9).trans (hb10.mono hB9.size)
              clear q0 q1 q2 hg9 hr9 hB9 kp9 hb10
              go_wp2_with (fail)
              go_roundw
              case rel => exact ⟨k + 1, by omega, by go_num, by rw [ha3.out], by rw [hb3.out], hg10, hr10, kp10, hl10, hB10⟩
              case measure => simp [intOf]; omega
          · have hb3 : Hid (anyB (fun y : R F.toDesc => y ≠ 0 ∧ u * y = frob d y) (k + 1) = true) := by unfold Hid; rw [anyB_succ, hb1, Bool.true_or]
            clear hb1 hyk hek
            go_wp2_with (fail)
            go_roundw
            case rel => exact ⟨k + 1, by omega, by go_num, by rw [ha3.out], by rw [hb3.out], hg9, hr9, kp9, hl9, hB9⟩
            case measure => simp [intOf]; omega
      · obtain rfl : k = F.q := by omega
        have hfa : ((ci t == 0) == anyB (fun y : R F.toDesc => frob d y - y = u) F.q) = true := by
          rw [beq_iff_eq, Bool.eq_iff_iff, anyB_all (fun y : R F.toDesc => frob d y - y = u), ← htr.out, beq_iff_eq, ci_eq_zero]
        have hfb : ((ci n == 1) == anyB (fun y : R F.toDesc => y ≠ 0 ∧ u * y = frob d y) F.q) = true := by
          rw [beq_iff_eq, Bool.eq_iff_iff, anyB_all (fun y : R F.toDesc => y ≠ 0 ∧ u * y = frob d y), ← hnm.out, beq_iff_eq, ci_eq_one]
        generalize anyB (fun y : R F.toDesc => frob d y - y = u) F.q = RA at *
        generalize anyB (fun y : R F.toDesc => y ≠ 0 ∧ u * y = frob d y) F.q = RB at *
        go_wp2_with (fail)
        go_ret
        exact ⟨rfl, hB8⟩
  · rw [Bool.not_eq_true] at hdv
    rw [hdv] at hV
    obtain ⟨q0, q1, q2⟩ := kp2.out
    go_wp2_with (fail)
    (with_reducible refine (hV w2).out.mono ?_)
    rintro e w3 ⟨rfl, hb3⟩
    have hs3 : w2.heap.size ≤ w3.heap.size := hb3.size
    have hg3 := (hg2.below hb3).more hb3.size
    have hr3 := (hr2.below hb3).more hb3.size
    have kp3 := Lib.hid (keep3 hb3 hl2 kp2.out)
    have hl3 := Nat.lt_of_lt_of_le hl2 hs3
    have hB3 := (hB2).trans (hb3.mono hB2.size)
    clear q0 q1 q2 hg2 hr2 hB2 kp2 hb3
    go_wp2_with (fail)
    go_ret
    exact ⟨rfl, hB3⟩
end Go.Proofs.Yteamndefbpdcjaa
