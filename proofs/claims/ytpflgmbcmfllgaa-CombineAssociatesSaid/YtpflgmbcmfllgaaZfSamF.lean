/- The reference: equal fields. -/
import Derived.Test.YtpflgmbcmfllgaaZfRF
namespace Go.Proofs.Ytpflgmbcmfllgaa
open Go.RowKit Cw
attribute [local go_sem] Oper.semAt_some

set_option maxHeartbeats 1000000 in
theorem Same4_eq (P M : Int) (ml : List Int) (A A' : Option Addr) (c c' : Nat) (w : World) (h1 : Rd w w.heap.size A ml) (h2 : Rd w w.heap.size A' ml) (hl : ml.length ≤ maxLen) :
    Calls Try.prog 56 #[.agg #[.int .i64 P, .int .i64 M, .slice A ml.length c], .agg #[.int .i64 P, .int .i64 M, .slice A' ml.length c']] w fun e w' => e = .returned (.bool true) ∧ Below w.heap.size w w' := by
  unfold maxLen at hl
  obtain ⟨Z, hZ⟩ : ∃ Z, Z = (w.alloc (.cells #[.int .i64 P, .int .i64 M, .slice A ml.length c] 24)).alloc (.cells #[.int .i64 P, .int .i64 M, .slice A' ml.length c'] 24) := ⟨_, rfl⟩
  have hB : Below w.heap.size w Z := by rw [hZ]; exact ((Below.refl _ _).alloc (Nat.le_refl _) _).alloc (by simp) _
  have hn : w.heap.size + 1 < Z.heap.size := by rw [hZ]; simp
  have kz : Z.cell? ⟨w.heap.size, 0, none⟩ = some (.int .i64 P) ∧ Z.cell? ⟨w.heap.size, 1, none⟩ = some (.int .i64 M) ∧ Z.cell? ⟨w.heap.size, 2, none⟩ = some (.slice A ml.length c) ∧
      Z.cell? ⟨w.heap.size + 1, 0, none⟩ = some (.int .i64 P) ∧ Z.cell? ⟨w.heap.size + 1, 1, none⟩ = some (.int .i64 M) ∧ Z.cell? ⟨w.heap.size + 1, 2, none⟩ = some (.slice A' ml.length c') := by rw [hZ]; simp [go_sem]
  replace hZ := Lib.hid hZ
  replace kz := Lib.hid kz
  go_enter Try.func56, Try.ntmps56
  go_wp2_with (fail)
  rw [← hZ.out]
  go_loopw [5] (fun i wr => ∃ k : Nat, k ≤ ml.length ∧ i = .int .i64 k ∧ Below Z.heap.size Z wr) (fun i _ => ml.length - (intOf i).toNat)
  case atStart => exact ⟨0, by omega, rfl, Below.refl _ _⟩
  case round =>
    obtain ⟨k, hk, rfl, hbw⟩ := hrel
    obtain ⟨w2, rfl⟩ : ∃ w2 : World, w2 = wr := ⟨_, rfl⟩
    obtain ⟨q0, q1, q2, q3, q4, q5⟩ := keep3x2 hbw (by omega) hn kz.out
    have hbb := hB.trans (hbw.mono hB.size)
    by_cases hlt : k < ml.length
    · obtain ⟨b1, o1, rfl, hb1, hc1⟩ := h1.at_ hlt
      obtain ⟨b2, o2, rfl, hb2, hc2⟩ := h2.at_ hlt
      have hd1 := (hbb.cell (p := ⟨b1, o1 + k, none⟩) hb1).trans hc1
      have hd2 := (hbb.cell (p := ⟨b2, o2 + k, none⟩) hb2).trans hc2
      obtain ⟨y1, hy1⟩ : ∃ y, y = ml[k]?.getD 0 := ⟨_, rfl⟩
      rw [← hy1] at hd1 hd2
      have hz : (y1 != y1) = false := by simp
      clear hc1 hc2 hy1
      go_wp2_with (fail)
      go_quiet (fail)
      go_wp2_with (fail)
      go_roundw
      case rel => exact ⟨k + 1, by omega, by go_num, ⟨hbw.os, hbw.tape, hbw.output, hbw.size, hbw.block⟩⟩
      case measure => simp [intOf]; omega
    · obtain rfl : k = ml.length := by omega
      go_wp2_with (fail)
      go_ret
      exact ⟨rfl, hbb⟩
end Go.Proofs.Ytpflgmbcmfllgaa
