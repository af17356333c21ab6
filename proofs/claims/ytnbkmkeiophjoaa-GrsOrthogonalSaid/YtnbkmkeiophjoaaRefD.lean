/- The reference's inverse. -/
import Derived.Test.YtnbkmkeiophjoaaBx
namespace Go.Proofs.Ytnbkmkeiophjoaa
open Go.RowKit Cw
open Cw.CField (inv)
set_option maxHeartbeats 1000000 in
theorem Inv_any (D : FD) (x : Int) (A : Option Addr) (c : Nat) (w : World) (hr : Rd w w.heap.size A (modL D.toDesc)) :
    Calls Try.prog 71 #[.agg #[.int .i64 D.p, .int .i64 D.m, .slice A D.mod.length c], .int .i64 x] w fun e w' =>
      e = .returned (.int .i64 (ci (inv (eli D.toDesc x)))) ∧ Below w.heap.size w w' := by
  have hq2 := D.q2; have hq3 := D.q256; have hp1 := D.p256; have hp2 := D.m8
  have hM := fun y w (hr : Rd w w.heap.size A (modL D.toDesc)) => Lib.hid (Mul_any D.toDesc x y A c w hr)
  have hO := fun w => Lib.hid (Order_any D.p D.m A D.mod.length c w (by omega) (by omega))
  have hqq := Lib.hid (qOf_D D.toDesc)
  generalize eli D.toDesc x = u at *
  have hbx0 := Bx.new w D.toDesc A D.mod.length c 24
  go_enter Try.func71, Try.ntmps71
  go_wp2_with (fail)
  go_loopw [5] (fun y wr => ∃ k : Nat, 1 ≤ k ∧ k ≤ D.q ∧ y = .int .i64 k ∧ Bx wr w.heap.size D.toDesc A D.mod.length c ∧ Below w.heap.size w wr ∧ w.heap.size < wr.heap.size ∧ Hid (∀ j, 1 ≤ j → j < k → u * eli D.toDesc j ≠ 1)) (fun y _ => D.q - (intOf y).toNat)
  case atStart => exact ⟨1, by omega, by omega, rfl, hbx0, (Below.refl _ _).alloc (Nat.le_refl _) _, by simp, fun j h1 h2 => by omega⟩
  case round =>
    obtain ⟨k, hk1, hk2, rfl, hbx, hbw, hsz, hno⟩ := hrel
    have kc := hbx
    obtain ⟨kc0, kc1, kc2⟩ := kc
    by_cases hlt : k < D.q
    · by_cases hyes : u * eli D.toDesc k = 1
      · have hci := Lib.hid (ci_eq_one.2 hyes)
        have hfin : Hid ((k : Int) = ci (inv u)) := by
          unfold Hid
          rw [← inv_unique hyes, ci_eli_in ⟨by omega, by omega⟩]
        go_wp2_with (fail)
        refine (hO _).out.mono ?_
        rw [hqq.out]
        rintro e w1 ⟨rfl, hb1⟩
        obtain ⟨kc0, kc1, kc2⟩ := hbx.below hb1 hsz
        have hs1 := hb1.size
        go_wp2_with (fail)
        refine (hM _ _ (hr.below (hbw.trans (hb1.mono (by omega))) |>.more (by omega))).out.mono ?_
        rw [hci.out]
        rintro e w2 ⟨rfl, hb2⟩
        go_wp2_with (fail)
        go_ret
        exact ⟨ret_int hfin.out, hbw.trans ((hb1.mono (by omega)).trans (hb2.mono (by omega)))⟩
      · have hci : Hid ((ci (u * eli D.toDesc k) == 1) = false) := by
          unfold Hid; rw [beq_eq_false_iff_ne]; exact fun h => hyes (ci_eq_one.1 h)
        go_wp2_with (fail)
        refine (hO _).out.mono ?_
        rw [hqq.out]
        rintro e w1 ⟨rfl, hb1⟩
        obtain ⟨kc0, kc1, kc2⟩ := hbx.below hb1 hsz
        have hs1 := hb1.size
        have hbx1 := hbx.below hb1 hsz
        go_wp2_with (fail)
        refine (hM _ _ (hr.below (hbw.trans (hb1.mono (by omega))) |>.more (by omega))).out.mono ?_
        rintro e w2 ⟨rfl, hb2⟩
        have hci' := hci.out
        go_wp2_with (fail)
        go_roundw
        case rel =>
          refine ⟨k + 1, by omega, by omega, by go_num, hbx1.below hb2 (by omega), hbw.trans ((hb1.mono (by omega)).trans (hb2.mono (by omega))), by have := hb2.size; omega, fun j h1 h2 => ?_⟩
          by_cases e : j = k
          · subst e; exact hyes
          · exact hno.out j h1 (by omega)
        case measure => simp [intOf]; omega
    · have hfin : Hid ((0 : Int) = ci (inv u)) := by
        unfold Hid
        by_cases hu : u = 0
        · rw [hu, inv_zero, ci_zero]
        · exfalso
          have h1 : inv u ≠ 0 := inv_ne_zero hu
          have h2 := ci_nonneg (inv u)
          have h3 := ci_lt (inv u)
          have h4 : ci (inv u) ≠ 0 := fun e => h1 (ci_eq_zero.1 e)
          refine hno.out (ci (inv u)).toNat (by omega) (by omega) ?_
          rw [Int.toNat_of_nonneg h2, eli_ci, mul_inv hu]
      go_wp2_with (fail)
      refine (hO _).out.mono ?_
      rw [hqq.out]
      rintro e w1 ⟨rfl, hb1⟩
      go_wp2_with (fail)
      go_ret
      exact ⟨ret_int hfin.out, hbw.trans (hb1.mono (by omega))⟩
end Go.Proofs.Ytnbkmkeiophjoaa
