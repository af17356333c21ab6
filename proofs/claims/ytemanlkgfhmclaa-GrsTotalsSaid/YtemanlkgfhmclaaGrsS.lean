/- Layer 18 of the reference and the law's own: equal descriptions, good, weights, inner products. -/
import Derived.Test.YtemanlkgfhmclaaSamF
import Derived.Test.YtemanlkgfhmclaaGL
import Derived.Test.YtemanlkgfhmclaaRF
namespace Go.Proofs.Ytemanlkgfhmclaa
open Go.RowKit Cw
attribute [local go_sem] Oper.semAt_some

set_option maxHeartbeats 1000000 in
theorem Weight18_any (l : List Int) (A : Option Addr) (c : Nat) (w : World) (hr : Rd w w.heap.size A l) (hl : l.length ≤ maxLen) :
    Calls Try.prog 9 #[.slice A l.length c] w fun e w' => e = .returned (.int .i64 (wgt l)) ∧ w = w' := by
  unfold maxLen at hl
  go_enter Try.func9, Try.ntmps9
  go_wp2_with (fail)
  go_loop [4, 3] (fun i n => ∃ k : Nat, k ≤ l.length ∧ i = .int .i64 k ∧ n = .int .i64 (wgt (l.take k))) (fun i _ => l.length - (intOf i).toNat)
  case atStart => exact ⟨0, by omega, rfl, rfl⟩
  case round =>
    obtain ⟨k, hk, rfl, rfl⟩ := hrel
    have hle := wgt_le (l.take k)
    rw [List.length_take] at hle
    by_cases hlt : k < l.length
    · obtain ⟨b, o, rfl, -, hc⟩ := hr.at_ hlt
      have hs := wgt_take l hlt
      obtain ⟨y, hy⟩ : ∃ y, y = l[k]?.getD 0 := ⟨_, rfl⟩
      rw [← hy] at hc hs
      by_cases hz : y = 0
      · rw [if_pos hz, Nat.add_zero] at hs
        have hzb : (y != 0) = false := by rw [bne_eq_false_iff_eq]; exact hz
        replace hs := Lib.hid hs
        clear hy hz
        go_wp2_with (fail)
        go_round
        case rel => exact ⟨k + 1, by omega, by go_num, by rw [hs.out]; rfl⟩
        case measure => simp [intOf]; omega
      · rw [if_neg hz] at hs
        have hzb : (y != 0) = true := by rw [bne_iff_ne]; exact hz
        replace hs := Lib.hid hs
        clear hy hz
        go_wp2_with (fail)
        go_round
        case rel => exact ⟨k + 1, by omega, by go_num, by rw [hs.out]; go_num⟩
        case measure => simp [intOf]; omega
    · obtain rfl : k = l.length := by omega
      go_wp2_with (fail)
      go_ret
      exact ⟨rfl, rfl⟩

/-- The twelve cells of two descriptions. -/
theorem keep6x2 {B b b' : Nat} {W w1 : World} {v0 v1 v2 v3 v4 v5 u0 u1 u2 u3 u4 u5 : Value} (hb : Below B W w1) (hlt : b < B) (hlt' : b' < B)
    (h : W.cell? ⟨b, 0, none⟩ = some v0 ∧ W.cell? ⟨b, 1, none⟩ = some v1 ∧ W.cell? ⟨b, 2, none⟩ = some v2 ∧ W.cell? ⟨b, 3, none⟩ = some v3 ∧ W.cell? ⟨b, 4, none⟩ = some v4 ∧ W.cell? ⟨b, 5, none⟩ = some v5 ∧
      W.cell? ⟨b', 0, none⟩ = some u0 ∧ W.cell? ⟨b', 1, none⟩ = some u1 ∧ W.cell? ⟨b', 2, none⟩ = some u2 ∧ W.cell? ⟨b', 3, none⟩ = some u3 ∧ W.cell? ⟨b', 4, none⟩ = some u4 ∧ W.cell? ⟨b', 5, none⟩ = some u5) :
    w1.cell? ⟨b, 0, none⟩ = some v0 ∧ w1.cell? ⟨b, 1, none⟩ = some v1 ∧ w1.cell? ⟨b, 2, none⟩ = some v2 ∧ w1.cell? ⟨b, 3, none⟩ = some v3 ∧ w1.cell? ⟨b, 4, none⟩ = some v4 ∧ w1.cell? ⟨b, 5, none⟩ = some v5 ∧
      w1.cell? ⟨b', 0, none⟩ = some u0 ∧ w1.cell? ⟨b', 1, none⟩ = some u1 ∧ w1.cell? ⟨b', 2, none⟩ = some u2 ∧ w1.cell? ⟨b', 3, none⟩ = some u3 ∧ w1.cell? ⟨b', 4, none⟩ = some u4 ∧ w1.cell? ⟨b', 5, none⟩ = some u5 :=
  have k := keep6 hb hlt ⟨h.1, h.2.1, h.2.2.1, h.2.2.2.1, h.2.2.2.2.1, h.2.2.2.2.2.1⟩
  have k' := keep6 hb hlt' h.2.2.2.2.2.2
  ⟨k.1, k.2.1, k.2.2.1, k.2.2.2.1, k.2.2.2.2.1, k.2.2.2.2.2, k'⟩

end Go.Proofs.Ytemanlkgfhmclaa
