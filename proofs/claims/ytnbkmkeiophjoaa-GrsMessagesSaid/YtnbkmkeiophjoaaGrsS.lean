/- Layer 18 of the reference and the law's own: equal descriptions, good, weights, inner products. -/
import Derived.Test.YtnbkmkeiophjoaaGL
import Derived.Test.YtnbkmkeiophjoaaRF
namespace Go.Proofs.Ytnbkmkeiophjoaa
open Go.RowKit Cw
attribute [local go_sem] Oper.semAt_some

set_option maxHeartbeats 1000000 in
theorem Weight18_any (l : List Int) (A : Option Addr) (c : Nat) (w : World) (hr : Rd w w.heap.size A l) (hl : l.length ≤ maxLen) :
    Calls Try.prog 32 #[.slice A l.length c] w fun e w' => e = .returned (.int .i64 (wgt l)) ∧ w = w' := by
  unfold maxLen at hl
  go_enter Try.func32, Try.ntmps32
  go_wp2_with (fail)
  go_loop [4, 3] (fun i n => ∃ k : Nat, k ≤ l.length ∧ i = .int .i64 k ∧ n = .int .i64 (wgt (l.take k))) (fun i _ => l.length - (intOf i).toNat)
  case atStart => exact ⟨0, by omega, rfl, rfl⟩
  case round =>
    obtain ⟨k, hk, rfl, rfl⟩ := hrel
    have hle := wgt_le (l.take k)
    rw [List.length_take] at hle
    by_cases hlt : k < l.length
    · obtain ⟨b, o, rfl, -, hc⟩ := hr.at_ hlt
      have hs := wgt_take l hlt
      obtain ⟨y, hy⟩ : ∃ y, y = l[k]?.getD 0 := ⟨_, rfl⟩
      rw [← hy] at hc hs
      by_cases hz : y = 0
      · rw [if_pos hz, Nat.add_zero] at hs
        have hzb : (y != 0) = false := by rw [bne_eq_false_iff_eq]; exact hz
        replace hs := Lib.hid hs
        clear hy hz
        go_wp2_with (fail)
        go_round
        case rel => exact ⟨k + 1, by omega, by go_num, by rw [hs.out]; rfl⟩
        case measure => simp [intOf]; omega
      · rw [if_neg hz] at hs
        have hzb : (y != 0) = true := by rw [bne_iff_ne]; exact hz
        replace hs := Lib.hid hs
        clear hy hz
        go_wp2_with (fail)
        go_round
        case rel => exact ⟨k + 1, by omega, by go_num, by rw [hs.out]; go_num⟩
        case measure => simp [intOf]; omega
    · obtain rfl : k = l.length := by omega
      go_wp2_with (fail)
      go_ret
      exact ⟨rfl, rfl⟩

/-- The twelve cells of two descriptions. -/
theorem keep6x2 {B b b' : Nat} {W w1 : World} {v0 v1 v2 v3 v4 v5 u0 u1 u2 u3 u4 u5 : Value} (hb : Below B W w1) (hlt : b < B) (hlt' : b' < B)
    (h : W.cell? ⟨b, 0, none⟩ = some v0 ∧ W.cell? ⟨b, 1, none⟩ = some v1 ∧ W.cell? ⟨b, 2, none⟩ = some v2 ∧ W.cell? ⟨b, 3, none⟩ = some v3 ∧ W.cell? ⟨b, 4, none⟩ = some v4 ∧ W.cell? ⟨b, 5, none⟩ = some v5 ∧
      W.cell? ⟨b', 0, none⟩ = some u0 ∧ W.cell? ⟨b', 1, none⟩ = some u1 ∧ W.cell? ⟨b', 2, none⟩ = some u2 ∧ W.cell? ⟨b', 3, none⟩ = some u3 ∧ W.cell? ⟨b', 4, none⟩ = some u4 ∧ W.cell? ⟨b', 5, none⟩ = some u5) :
    w1.cell? ⟨b, 0, none⟩ = some v0 ∧ w1.cell? ⟨b, 1, none⟩ = some v1 ∧ w1.cell? ⟨b, 2, none⟩ = some v2 ∧ w1.cell? ⟨b, 3, none⟩ = some v3 ∧ w1.cell? ⟨b, 4, none⟩ = some v4 ∧ w1.cell? ⟨b, 5, none⟩ = some v5 ∧
      w1.cell? ⟨b', 0, none⟩ = some u0 ∧ w1.cell? ⟨b', 1, none⟩ = some u1 ∧ w1.cell? ⟨b', 2, none⟩ = some u2 ∧ w1.cell? ⟨b', 3, none⟩ = some u3 ∧ w1.cell? ⟨b', 4, none⟩ = some u4 ∧ w1.cell? ⟨b', 5, none⟩ = some u5 :=
  have k := keep6 hb hlt ⟨h.1, h.2.1, h.2.2.1, h.2.2.2.1, h.2.2.2.2.1, h.2.2.2.2.2.1⟩
  have k' := keep6 hb hlt' h.2.2.2.2.2.2
  ⟨k.1, k.2.1, k.2.2.1, k.2.2.2.1, k.2.2.2.2.1, k.2.2.2.2.2, k'⟩

set_option maxRecDepth 100000 in
set_option maxHeartbeats 2000000 in
theorem Same18_eq (P M K : Int) (ml pts mul : List Int) (A A1 A2 : Option Addr) (c c1 c2 : Nat) (A' A1' A2' : Option Addr) (c' c1' c2' : Nat) (w : World) (hr : Rd w w.heap.size A ml) (hr1 : Rd w w.heap.size A1 pts) (hr2 : Rd w w.heap.size A2 mul)
    (hs : Rd w w.heap.size A' ml) (hs1 : Rd w w.heap.size A1' pts) (hs2 : Rd w w.heap.size A2' mul) (hl : ml.length ≤ maxLen) (hl1 : pts.length ≤ maxLen) (hl2 : mul.length ≤ maxLen) :
    Calls Try.prog 22 #[.agg #[.int .i64 P, .int .i64 M, .slice A ml.length c, .int .i64 K, .slice A1 pts.length c1, .slice A2 mul.length c2], .agg #[.int .i64 P, .int .i64 M, .slice A' ml.length c', .int .i64 K, .slice A1' pts.length c1', .slice A2' mul.length c2']] w fun e w' => e = .returned (.bool true) ∧ Below w.heap.size w w' := by
  have hS := fun W a b => Lib.hid (Same4_eq P M ml A A' c c' W a b hl)
  unfold maxLen at hl1 hl2
  clear hl
  obtain ⟨Z, hZ⟩ : ∃ Z, Z = (w.alloc (.cells #[.int .i64 P, .int .i64 M, .slice A ml.length c, .int .i64 K, .slice A1 pts.length c1, .slice A2 mul.length c2] 27)).alloc (.cells #[.int .i64 P, .int .i64 M, .slice A' ml.length c', .int .i64 K, .slice A1' pts.length c1', .slice A2' mul.length c2'] 27) := ⟨_, rfl⟩
  have hB : Below w.heap.size w Z := by rw [hZ]; exact ((Below.refl _ _).alloc (Nat.le_refl _) _).alloc (by simp) _
  have hn : w.heap.size + 1 < Z.heap.size := by rw [hZ]; simp
  have kz : Z.cell? ⟨w.heap.size, 0, none⟩ = some (.int .i64 P) ∧ Z.cell? ⟨w.heap.size, 1, none⟩ = some (.int .i64 M) ∧ Z.cell? ⟨w.heap.size, 2, none⟩ = some (.slice A ml.length c) ∧ Z.cell? ⟨w.heap.size, 3, none⟩ = some (.int .i64 K) ∧ Z.cell? ⟨w.heap.size, 4, none⟩ = some (.slice A1 pts.length c1) ∧ Z.cell? ⟨w.heap.size, 5, none⟩ = some (.slice A2 mul.length c2) ∧
      Z.cell? ⟨w.heap.size + 1, 0, none⟩ = some (.int .i64 P) ∧ Z.cell? ⟨w.heap.size + 1, 1, none⟩ = some (.int .i64 M) ∧ Z.cell? ⟨w.heap.size + 1, 2, none⟩ = some (.slice A' ml.length c') ∧ Z.cell? ⟨w.heap.size + 1, 3, none⟩ = some (.int .i64 K) ∧ Z.cell? ⟨w.heap.size + 1, 4, none⟩ = some (.slice A1' pts.length c1') ∧ Z.cell? ⟨w.heap.size + 1, 5, none⟩ = some (.slice A2' mul.length c2') := by rw [hZ]; simp [go_sem]
  replace hZ := Lib.hid hZ
  replace kz := Lib.hid kz
  go_enter Try.func22, Try.ntmps22
  go_wp2_with (fail)
  rw [← hZ.out]
  (with_reducible refine (hS Z ((hr.below hB).more hB.size) ((hs.below hB).more hB.size)).out.mono ?_)
  rintro e w1 ⟨rfl, hb1⟩
  obtain ⟨q0, q1, q2, q3, q4, q5, q6, q7, q8, q9, q10, q11⟩ := keep6x2 hb1 (by omega) hn kz.out
  go_wp2_with (fail)
  clear q0 q1 q2 q3 q4 q5 q6 q7 q8 q9 q10 q11
  go_loopw [5] (fun i wr => ∃ k : Nat, k ≤ pts.length ∧ i = .int .i64 k ∧ Below Z.heap.size Z wr) (fun i _ => pts.length - (intOf i).toNat)
  case atStart => exact ⟨0, by omega, rfl, hb1⟩
  case round =>
    obtain ⟨k, hk, rfl, hbw⟩ := hrel
    obtain ⟨w2, rfl⟩ : ∃ w2 : World, w2 = wr := ⟨_, rfl⟩
    have hq := keep6x2 hbw (by omega) hn kz.out
    have hbb := hB.trans (hbw.mono hB.size)
    by_cases hlt : k < pts.length
    · obtain ⟨b1, o1, rfl, hb1, hc1⟩ := hr1.at_ hlt
      obtain ⟨b2, o2, rfl, hb2, hc2⟩ := hs1.at_ hlt
      obtain ⟨q0, q1, q2, q3, q4, q5, q6, q7, q8, q9, q10, q11⟩ := hq
      have hd1 := (hbb.cell (p := ⟨b1, o1 + k, none⟩) hb1).trans hc1
      have hd2 := (hbb.cell (p := ⟨b2, o2 + k, none⟩) hb2).trans hc2
      obtain ⟨y1, hy1⟩ : ∃ y, y = pts[k]?.getD 0 := ⟨_, rfl⟩
      rw [← hy1] at hd1 hd2
      have hz : (y1 != y1) = false := by simp
      clear hc1 hc2 hy1
      go_wp2_with (fail)
      go_quiet (fail)
      go_wp2_with (fail)
      go_roundw
      case rel => exact ⟨k + 1, by omega, by go_num, ⟨hbw.os, hbw.tape, hbw.output, hbw.size, hbw.block⟩⟩
      case measure => simp [intOf]; omega
    · obtain rfl : k = pts.length := by omega
      obtain ⟨q0, q1, q2, q3, q4, q5, q6, q7, q8, q9, q10, q11⟩ := hq
      go_wp2_with (fail)
      clear q0 q1 q2 q3 q4 q5 q6 q7 q8 q9 q10 q11
      go_loopw [6] (fun i wr => ∃ k : Nat, k ≤ mul.length ∧ i = .int .i64 k ∧ Below Z.heap.size Z wr) (fun i _ => mul.length - (intOf i).toNat)
      case atStart => exact ⟨0, by omega, rfl, hbw⟩
      case round =>
        clear hbw hbb
        obtain ⟨k, hk, rfl, hbw⟩ := hrel
        obtain ⟨w3, rfl⟩ : ∃ w3 : World, w3 = wr := ⟨_, rfl⟩
        obtain ⟨q0, q1, q2, q3, q4, q5, q6, q7, q8, q9, q10, q11⟩ := keep6x2 hbw (by omega) hn kz.out
        have hbb := hB.trans (hbw.mono hB.size)
        by_cases hlt : k < mul.length
        · obtain ⟨b1, o1, rfl, hb1, hc1⟩ := hr2.at_ hlt
          obtain ⟨b2, o2, rfl, hb2, hc2⟩ := hs2.at_ hlt
          have hd1 := (hbb.cell (p := ⟨b1, o1 + k, none⟩) hb1).trans hc1
          have hd2 := (hbb.cell (p := ⟨b2, o2 + k, none⟩) hb2).trans hc2
          obtain ⟨y1, hy1⟩ : ∃ y, y = mul[k]?.getD 0 := ⟨_, rfl⟩
          rw [← hy1] at hd1 hd2
          have hz : (y1 != y1) = false := by simp
          clear hc1 hc2 hy1
          go_wp2_with (fail)
          go_quiet (fail)
          go_wp2_with (fail)
          go_roundw
          case rel => exact ⟨k + 1, by omega, by go_num, ⟨hbw.os, hbw.tape, hbw.output, hbw.size, hbw.block⟩⟩
          case measure => simp [intOf]; omega
        · obtain rfl : k = mul.length := by omega
          go_wp2_with (fail)
          go_ret
          exact ⟨rfl, hbb⟩

theorem Zero18_zero (w : World) : Calls Try.prog 21 #[.agg #[.int .i64 0, .int .i64 0, .slice none 0 0, .int .i64 0, .slice none 0 0, .slice none 0 0]] w fun e w' => e = .returned (.bool true) ∧ Below w.heap.size w w' := by
  have hS := fun W => Lib.hid (Same18_eq 0 0 0 [] [] [] none none none 0 0 0 none none none 0 0 0 W Rd.nil Rd.nil Rd.nil Rd.nil Rd.nil Rd.nil (by decide) (by decide) (by decide))
  rw [show ([] : List Int).length = 0 from rfl] at hS
  go_enter Try.func21, Try.ntmps21
  go_wp2_with (fail)
  (with_reducible refine (hS _).out.mono ?_)
  rintro e w1 ⟨rfl, hb1⟩
  go_wp2_with (fail)
  go_ret
  exact ⟨rfl, ((Below.refl _ _).alloc (Nat.le_refl _) _).trans (hb1.mono (by simp))⟩
end Go.Proofs.Ytnbkmkeiophjoaa
