/- The reference's power. -/
import Derived.Test.YteamndefbpdcjaaRF
namespace Go.Proofs.Yteamndefbpdcjaa
open Go.RowKit Cw
open Cw.CField (inv)
set_option maxHeartbeats 1000000 in
theorem Pow_any (D : FD) (x : Int) (n : Nat) (A : Option Addr) (c : Nat) (w : World) (hr : Rd w w.heap.size A (modL D.toDesc)) (hn1 : 1 ≤ n) (hn2 : n ≤ 4294967296) :
    Calls Try.prog 62 #[.agg #[.int .i64 D.p, .int .i64 D.m, .slice A D.mod.length c], .int .i64 x, .int .i64 n] w fun e w' =>
      e = .returned (.tuple #[.int .i64 (ci (pw (eli D.toDesc x) n)), .int .i64 0]) ∧ Below w.heap.size w w' := by
  have hq2 := D.q2; have hq3 := D.q256; have hp1 := D.p256; have hp2 := D.m8
  have hM := fun y z w (hr : Rd w w.heap.size A (modL D.toDesc)) => Lib.hid (Mul_any D.toDesc y z A c w hr)
  have hI := fun w => Lib.hid (In_any D.toDesc x A D.mod.length c w)
  have hO := fun w => Lib.hid (Order_any D.p D.m A D.mod.length c w (by omega) (by omega))
  have hqq := qOf_D D.toDesc
  obtain ⟨k, hk⟩ : ∃ k, D.q = k + 1 := ⟨D.q - 1, by omega⟩
  rw [hk] at hqq
  have hqq := Lib.hid hqq
  generalize eli D.toDesc x = u at *
  have hbx0 := Bx.new w D.toDesc A D.mod.length c 24
  have hn0 : ((n : Int) == 0) = false := by rw [beq_eq_false_iff_ne]; omega
  by_cases hu : u = 0
  · have hci : ci u = 0 := ci_eq_zero.2 hu
    have hfin : Hid (ci (pw u n) = 0) := by unfold Hid; rw [hu, zero_pw (by omega), ci_zero]
    clear hu
    go_enter Try.func62, Try.ntmps62
    go_wp2_with (fail)
    refine (hI _).out.mono ?_
    rw [hci]
    rintro e w1 ⟨rfl, hb1⟩
    go_wp2_with (fail)
    go_ret2
    exact ⟨by rw [hfin.out]; rfl, ((Below.refl _ _).alloc (Nat.le_refl _) _).trans (hb1.mono (by simp))⟩
  · have hci : (ci u == 0) = false := by rw [beq_eq_false_iff_ne]; exact fun h => hu (ci_eq_zero.1 h)
    have hfin : Hid (pw u (n % k) = pw u n) := by
      have h := pw_mod hu n
      show pw u (n % k) = _
      rw [show k = FF.q (R D.toDesc) - 1 by show k = D.q - 1; omega]; exact h
    have hk1 : 1 ≤ k := by omega
    have hk3 : k ≤ 255 := by omega
    have hlt := Nat.mod_lt n (show 0 < k by omega)
    clear hu hk hq2 hq3
    go_enter Try.func62, Try.ntmps62
    go_wp2_with (fail)
    refine (hI _).out.mono ?_
    rintro e w1 ⟨rfl, hb1⟩
    have hbx1 := hbx0.below hb1 (by simp)
    have kc := hbx1
    obtain ⟨kc0, kc1, kc2⟩ := kc
    have hs1 := hb1.size
    simp only [World.size_alloc] at hs1
    go_wp2_with (fail)
    refine (hO _).out.mono ?_
    rw [hqq.out]
    rintro e w2 ⟨rfl, hb2⟩
    have hbx2 := hbx1.below hb2 (by omega)
    have hs2 := hb2.size
    have hbw2 : Below w.heap.size w w2 := (((Below.refl _ _).alloc (Nat.le_refl _) _).trans (hb1.mono (by simp))).trans (hb2.mono (by omega))
    clear kc0 kc1 kc2
    go_wp2_with (fail)
    rw [show ((n : Int) % (k : Int) + (k : Int)) % (k : Int) = ((n % k : Nat) : Int) by rw [Int.add_emod_right, Int.emod_emod_of_dvd _ (Int.dvd_refl _)]; rfl]
    generalize n % k = r at *
    have hr2 := hr.below hbw2
    go_loopw [9, 10] (fun o i wr => ∃ j : Nat, j ≤ r ∧ i = .int .i64 j ∧ o = .int .i64 (ci (pw u j)) ∧ Bx wr w.heap.size D.toDesc A D.mod.length c ∧ Below w.heap.size w wr ∧ w.heap.size < wr.heap.size) (fun _ i _ => r - (intOf i).toNat)
    case atStart => exact ⟨0, by omega, rfl, by rw [pw_zero, ci_one], hbx2, hbw2, by omega⟩
    case round =>
      obtain ⟨j, hj, rfl, rfl, hbx, hbw, hsz⟩ := hrel
      have kc := hbx
      obtain ⟨kc0, kc1, kc2⟩ := kc
      by_cases hlt2 : j < r
      · have hM2 := hM (ci (pw u j)) (ci u) wr ((hr.below hbw).more (by omega))
        rw [eli_ci, eli_ci] at hM2
        have hM2 := Lib.hid hM2.out
        go_wp2_with (fail)
        refine hM2.out.mono ?_
        rintro e w3 ⟨rfl, hb3⟩
        go_wp2_with (fail)
        go_roundw
        case rel => exact ⟨j + 1, by omega, by go_num, rfl, hbx.below hb3 hsz, hbw.trans (hb3.mono (by omega)), by have := hb3.size; omega⟩
        case measure => simp [intOf]; omega
      · obtain rfl : j = r := by omega
        go_wp2_with (fail)
        go_ret2
        exact ⟨by rw [← hfin.out]; rfl, hbw⟩
end Go.Proofs.Yteamndefbpdcjaa
