/- The program's arithmetic of a field: Add. -/
import Derived.Test.YtnbkmkeiophjoaaGfA
import Derived.Laws.BitsAllLaws
import Derived.Laws.BitsLemmas
namespace Go.Proofs.Ytnbkmkeiophjoaa
open Go.RowKit Cw

theorem of_i64 (a : Nat) (ha : a < 9223372036854775808) : (BitVec.ofInt 64 (a : Int)).toNat = a := by
  rw [BitVec.ofInt_natCast, BitVec.toNat_ofNat]; exact Nat.mod_eq_of_lt (by omega)
theorem xor_i64 (a b : Nat) (ha : a < 9223372036854775808) (hb : b < 9223372036854775808) : bits .xor .i64 (a : Int) (b : Int) = ((a ^^^ b : Nat) : Int) := by
  have hx : a ^^^ b < 2 ^ 63 := Nat.xor_lt_two_pow (by omega) (by omega)
  show IntKind.i64.wrap ((BitVec.ofInt 64 (a : Int) ^^^ BitVec.ofInt 64 (b : Int)).toNat : Int) = _
  rw [BitVec.toNat_xor, of_i64 a ha, of_i64 b hb, IntKind.wrap_i64]
  omega

set_option maxHeartbeats 2000000 in
theorem gAdd_any (D : FD) (x y : Int) (g : Nat) (w : World) (hg : GF w w.heap.size g D) :
    Calls Try.prog 85 #[.pointer (some ⟨g, 0, none⟩), .int .i64 x, .int .i64 y] w fun e w' => e = .returned (.int .i64 (ci (eli D.toDesc x + eli D.toDesc y))) ∧ Below w.heap.size w w' := by
  have hq2 := D.q2; have hq3 := D.q256; have hp2 := D.p2; have hp3 := D.p256
  have hix := gin_any D x g w hg
  have hiy := gin_any D y g w hg
  generalize eli D.toDesc x = u at *
  generalize eli D.toDesc y = v at *
  have c0 := hg.c0
  have hgl := hg.lt
  clear hg
  obtain ⟨a, ha⟩ : ∃ a, a = rcode u := ⟨_, rfl⟩
  obtain ⟨b, hb⟩ : ∃ b, b = rcode v := ⟨_, rfl⟩
  have hal : a < D.q := by rw [ha]; exact rcode_lt u
  have hbl : b < D.q := by rw [hb]; exact rcode_lt v
  rw [show ci u = (a : Int) by rw [ha]; rfl] at hix
  rw [show ci v = (b : Int) by rw [hb]; rfl] at hiy
  replace hix := Lib.hid hix
  replace hiy := Lib.hid hiy
  have hal2 : a ≤ 255 := by omega
  have hbl2 : b ≤ 255 := by omega
  replace ha := Lib.hid ha
  replace hb := Lib.hid hb
  by_cases h2 : D.p = 2
  · have hpb : ((D.p : Int) == 2) = true := by rw [beq_iff_eq]; omega
    have hx := xor_i64 a b (by omega) (by omega)
    have hfin : Hid (((a ^^^ b : Nat) : Int) = ci (u + v)) := by unfold Hid ci; rw [ha.out, hb.out, xor_add h2]
    clear h2
    go_enter Try.func85, Try.ntmps85
    go_wp2_with (fail)
    refine hix.out.mono ?_
    rintro e w1 ⟨rfl, rfl⟩
    go_wp2_with (fail)
    refine hiy.out.mono ?_
    rintro e w1 ⟨rfl, rfl⟩
    go_wp2_with (fail)
    go_ret
    exact ⟨ret_int hfin.out, Below.refl _ _⟩
  · have hpb : ((D.p : Int) == 2) = false := by rw [beq_eq_false_iff_ne]; omega
    clear h2
    go_enter Try.func85, Try.ntmps85
    go_wp2_with (fail)
    refine hix.out.mono ?_
    rintro e w1 ⟨rfl, rfl⟩
    go_wp2_with (fail)
    refine hiy.out.mono ?_
    rintro e w1 ⟨rfl, rfl⟩
    go_wp2_with (fail)
    go_loopw [1, 2, 7, 8] (fun x y s pl wr => ∃ k X Y S P : Nat, x = .int .i64 X ∧ y = .int .i64 Y ∧ s = .int .i64 S ∧ pl = .int .i64 P ∧ k ≤ D.m ∧ X ≤ 255 ∧ Y ≤ 255 ∧ S ≤ 256 ∧ P ≤ 256 ∧
      Hid (X = a / D.p ^ k) ∧ Hid (Y = b / D.p ^ k) ∧ Hid (S = nval D.p (di (u + v)) k) ∧ Hid (P = D.p ^ k) ∧ Below w.heap.size w wr) (fun x y _ _ _ => (intOf x).toNat + (intOf y).toNat)
    case atStart => exact ⟨0, a, b, 0, 1, rfl, rfl, rfl, rfl, by omega, by omega, by omega, by omega, by omega, by simp [Hid], by simp [Hid], rfl, by simp [Hid], Below.refl _ _⟩
    case round =>
      obtain ⟨k, X, Y, S, P, rfl, rfl, rfl, rfl, hk, hX, hY, hS, hP, hXe, hYe, hSe, hPe, hbw⟩ := hrel
      have c0' := (hbw.cell (p := ⟨g, 0, none⟩) hgl).trans c0
      by_cases hz : X = 0 ∧ Y = 0
      · obtain ⟨rfl, rfl⟩ := hz
        have hfin : Hid ((S : Int) = ci (u + v)) := by
          unfold Hid ci
          rw [hSe.out, add_stop u v hk (by rw [← ha.out]; exact hXe.out.symm) (by rw [← hb.out]; exact hYe.out.symm)]
        go_wp2_with (fail)
        go_ret
        exact ⟨ret_int hfin.out, hbw⟩
      · have hkm : k < D.m := by
          rcases Nat.lt_or_ge k D.m with h | h
          · exact h
          · exfalso; apply hz
            rw [hXe.out, hYe.out, ha.out, hb.out]
            exact ⟨div_pow_zero u h, div_pow_zero v h⟩
        have hPk : D.p ^ (k + 1) ≤ 256 := Nat.le_trans (Nat.pow_le_pow_right (by omega) hkm) D.hq
        have hdig := add_digit u v hkm
        rw [← ha.out, ← hb.out, ← hXe.out, ← hYe.out] at hdig
        have hnl := nval_lt (p := D.p) (m := k + 1) (f := di (u + v)) (fun i _ => di_lt _ i)
        have hnS : nval D.p (di (u + v)) (k + 1) = S + (X % D.p + Y % D.p) % D.p * P := by
          show nval D.p (di (u + v)) k + di (u + v) k * D.p ^ k = _
          rw [hSe.out, hdig, hPe.out]
        have hPp : P * D.p = D.p ^ (k + 1) := by rw [hPe.out, Nat.pow_succ]
        have hXm := Nat.mod_lt X (show 0 < D.p by omega)
        have hYm := Nat.mod_lt Y (show 0 < D.p by omega)
        have hXd := Nat.div_le_self X D.p
        have hYd := Nat.div_le_self Y D.p
        obtain ⟨x', hx'⟩ : ∃ t, t = X % D.p := ⟨_, rfl⟩
        obtain ⟨y', hy'⟩ : ∃ t, t = Y % D.p := ⟨_, rfl⟩
        obtain ⟨z', hz'⟩ : ∃ t, t = (x' + y') % D.p := ⟨_, rfl⟩
        obtain ⟨t', ht'⟩ : ∃ t, t = z' * P := ⟨_, rfl⟩
        obtain ⟨X2, hX2⟩ : ∃ t, t = X / D.p := ⟨_, rfl⟩
        obtain ⟨Y2, hY2⟩ : ∃ t, t = Y / D.p := ⟨_, rfl⟩
        obtain ⟨P2, hP2⟩ : ∃ t, t = P * D.p := ⟨_, rfl⟩
        have hX2e : Hid (X2 = a / D.p ^ (k + 1)) := by unfold Hid; rw [hX2, hXe.out, Nat.pow_succ, Nat.div_div_eq_div_mul]
        have hY2e : Hid (Y2 = b / D.p ^ (k + 1)) := by unfold Hid; rw [hY2, hYe.out, Nat.pow_succ, Nat.div_div_eq_div_mul]
        rw [← hx', ← hy', ← hz', ← ht'] at hnS
        rw [← hP2] at hPp
        have hSn : S + t' ≤ 256 := by rw [← hnS]; omega
        have hP2n : P2 ≤ 256 := by rw [hPp]; exact hPk
        have hX2n : X2 ≤ X := by rw [hX2]; exact hXd
        have hY2n : Y2 ≤ Y := by rw [hY2]; exact hYd
        have hmx : X2 + Y2 < X + Y := by
          rw [hX2, hY2]
          have h5 : ∀ n : Nat, 0 < n → n / D.p < n := fun n hn => Nat.div_lt_self hn (by omega)
          rcases Nat.eq_zero_or_pos X with h6 | h6
          · have := h5 Y (by omega); omega
          · have := h5 X h6; omega
        have ee1 : (X : Int) % (D.p : Int) = (x' : Int) := by rw [hx']; rfl
        have ee2 : (Y : Int) % (D.p : Int) = (y' : Int) := by rw [hy']; rfl
        have ee3 : ((x' : Int) + (y' : Int)) % (D.p : Int) = (z' : Int) := by rw [hz', Int.natCast_emod, Int.natCast_add]
        have ee4 : (z' : Int) * (P : Int) = (t' : Int) := by rw [ht', Int.natCast_mul]
        have ee5 : (P : Int) * (D.p : Int) = (P2 : Int) := by rw [hP2, Int.natCast_mul]
        have ee6 : (X : Int) / (D.p : Int) = (X2 : Int) := by rw [hX2]; rfl
        have ee7 : (Y : Int) / (D.p : Int) = (Y2 : Int) := by rw [hY2]; rfl
        have hx'l : x' ≤ 256 := by rw [hx']; omega
        have hy'l : y' ≤ 256 := by rw [hy']; omega
        have hSH : Hid (S + t' = nval D.p (di (u + v)) (k + 1)) := hnS.symm
        have hPH : Hid (P2 = D.p ^ (k + 1)) := hPp
        replace ee1 := Lib.hid ee1; replace ee2 := Lib.hid ee2; replace ee3 := Lib.hid ee3; replace ee4 := Lib.hid ee4; replace ee5 := Lib.hid ee5; replace ee6 := Lib.hid ee6; replace ee7 := Lib.hid ee7
        clear hx' hy' hz' ht' hX2 hY2 hP2 hnS hPp hdig hnl hXm hYm hXd hYd hPk
        have hpos : 0 < X ∨ (X ≤ 0 ∧ 0 < Y) := by omega
        rcases hpos with hpos | ⟨hpos1, hpos2⟩
        all_goals
          go_wp2_with (fail)
          have hp0 : ¬ D.p = 0 := by omega
          have f1 : (X : Int).tmod (D.p : Int) = (x' : Int) := (Int.tmod_eq_emod_of_nonneg (by omega)).trans ee1.out
          have f2 : (Y : Int).tmod (D.p : Int) = (y' : Int) := (Int.tmod_eq_emod_of_nonneg (by omega)).trans ee2.out
          have f3 : IntKind.i64.wrap ((x' : Int) + (y' : Int)) = (x' : Int) + (y' : Int) := IntWalk.i64_in _ (by omega)
          have f4 : ((x' : Int) + (y' : Int)).tmod (D.p : Int) = (z' : Int) := (Int.tmod_eq_emod_of_nonneg (by omega)).trans ee3.out
          have f6 : IntKind.i64.wrap (t' : Int) = (t' : Int) := IntWalk.i64_in _ (by omega)
          have f7 : IntKind.i64.wrap ((S : Int) + (t' : Int)) = (S : Int) + (t' : Int) := IntWalk.i64_in _ (by omega)
          have f5 := ee4.out
          go_quiet (fail)
          clear f1 f2 f3 f4 f5 f6 f7
          have g5 := ee5.out
          have g6 := ee6.out
          have g7 := ee7.out
          go_wp2_with (fail)
          clear g5 g6 g7
          go_roundw
          case rel => exact ⟨k + 1, X2, Y2, S + t', P2, rfl, rfl, by go_num, rfl, by omega, by omega, by omega, by omega, by omega, hX2e, hY2e, hSH, hPH, below_drewN' hbw _⟩
          case measure => simp [intOf]; omega
end Go.Proofs.Ytnbkmkeiophjoaa
