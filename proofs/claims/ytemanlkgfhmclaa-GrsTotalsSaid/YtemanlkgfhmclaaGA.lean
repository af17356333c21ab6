/- The program's arithmetic of a field: Is, in, Add, Mul, Pow. The program's arithmetic of a field: Add. The program's Field. The program's Neg, Sub, Inv. -/
import Derived.Test.YtemanlkgfhmclaaP4
import Derived.Test.YtemanlkgfhmclaaP1
import Derived.Laws.BitsAllLaws
import Derived.Laws.BitsLemmas
import Derived.Test.YtemanlkgfhmclaaRF
/-! The program's arithmetic of a field: Is, in, Add, Mul, Pow -/
namespace Go.Proofs.Ytemanlkgfhmclaa
open Go.RowKit Cw

set_option maxHeartbeats 1000000 in
theorem gIs_any (D : FD) (x : Int) (g : Nat) (w : World) (hg : GF w w.heap.size g D) :
    Calls Try.prog 60 #[.pointer (some ⟨g, 0, none⟩), .int .i64 x] w fun e w' => e = .returned (.bool (decide (0 ≤ x ∧ x < D.q))) ∧ w = w' := by
  have hq2 := D.q256
  have c3 := hg.c3
  by_cases h0 : 0 ≤ x
  · by_cases h1 : x < D.q
    · have hfin := Lib.hid (decide_eq_true (p := 0 ≤ x ∧ x < D.q) ⟨h0, h1⟩)
      go_enter Try.func60, Try.ntmps60
      go_wp2_with (fail)
      go_ret
      exact ⟨ret_bool (by simp; omega), rfl⟩
    · have hfin := Lib.hid (decide_eq_false (p := 0 ≤ x ∧ x < D.q) fun h => h1 h.2)
      go_enter Try.func60, Try.ntmps60
      go_wp2_with (fail)
      go_ret
      exact ⟨ret_bool (by simp; omega), rfl⟩
  · have hfin := Lib.hid (decide_eq_false (p := 0 ≤ x ∧ x < D.q) fun h => h0 h.1)
    go_enter Try.func60, Try.ntmps60
    go_wp2_with (fail)
    go_ret
    exact ⟨ret_bool (by simp; omega), rfl⟩

set_option maxHeartbeats 400000 in
theorem gin_any (D : FD) (x : Int) (g : Nat) (w : World) (hg : GF w w.heap.size g D) :
    Calls Try.prog 62 #[.pointer (some ⟨g, 0, none⟩), .int .i64 x] w fun e w' => e = .returned (.int .i64 (ci (eli D.toDesc x))) ∧ w = w' := by
  have hI := Lib.hid (gIs_any D x g w hg)
  have he := Lib.hid (ci_eli (D := D.toDesc) x)
  clear hg
  by_cases h : 0 ≤ x ∧ x < D.q
  · have hd := Lib.hid (decide_eq_true h)
    go_enter Try.func62, Try.ntmps62
    go_wp2_with (go_at_call 60; refine hI.out.mono ?_; rw [hd.out]; rintro e w1 ⟨rfl, rfl⟩)
    go_ret
    exact ⟨ret_int (by rw [he.out, if_pos h]), rfl⟩
  · have hd := Lib.hid (decide_eq_false h)
    go_enter Try.func62, Try.ntmps62
    go_wp2_with (go_at_call 60; refine hI.out.mono ?_; rw [hd.out]; rintro e w1 ⟨rfl, rfl⟩)
    go_ret
    exact ⟨ret_int (by rw [he.out, if_neg h]), rfl⟩

set_option maxHeartbeats 2000000 in
theorem gMul_any (D : FD) (x y : Int) (g : Nat) (w : World) (hg : GF w w.heap.size g D) :
    Calls Try.prog 41 #[.pointer (some ⟨g, 0, none⟩), .int .i64 x, .int .i64 y] w fun e w' => e = .returned (.int .i64 (ci (eli D.toDesc x * eli D.toDesc y))) ∧ Below w.heap.size w w' := by
  have hq2 := D.q2; have hq3 := D.q256
  have hix := gin_any D x g w hg
  have hiy := gin_any D y g w hg
  generalize eli D.toDesc x = u at *
  generalize eli D.toDesc y = v at *
  replace hix := Lib.hid hix
  replace hiy := Lib.hid hiy
  have c3 := hg.c3
  obtain ⟨Ae, ce, c4, re⟩ := hg.ex
  obtain ⟨Al, cl, c5, rl⟩ := hg.lo
  clear hg
  have hu0 := ci_nonneg u; have hu1 := ci_lt u
  have hv0 := ci_nonneg v; have hv1 := ci_lt v
  by_cases hu : u = 0
  · have hb : (ci u == 0) = true := by rw [beq_iff_eq]; exact ci_eq_zero.2 hu
    have hfin : Hid (ci (u * v) = 0) := by unfold Hid; rw [hu, zero_mul, ci_zero]
    clear hu
    go_enter Try.func41, Try.ntmps41
    go_wp2_with (fail)
    refine hix.out.mono ?_
    rintro e w1 ⟨rfl, rfl⟩
    go_wp2_with (fail)
    refine hiy.out.mono ?_
    rintro e w1 ⟨rfl, rfl⟩
    go_wp2_with (fail)
    go_ret
    exact ⟨ret_int hfin.out.symm, Below.refl _ _⟩
  · by_cases hv : v = 0
    · have hb : (ci u == 0) = false := by rw [beq_eq_false_iff_ne]; exact fun h => hu (ci_eq_zero.1 h)
      have hb2 : (ci v == 0) = true := by rw [beq_iff_eq]; exact ci_eq_zero.2 hv
      have hfin : Hid (ci (u * v) = 0) := by unfold Hid; rw [hv, mul_zero, ci_zero]
      clear hu hv
      go_enter Try.func41, Try.ntmps41
      go_wp2_with (fail)
      refine hix.out.mono ?_
      rintro e w1 ⟨rfl, rfl⟩
      go_wp2_with (fail)
      refine hiy.out.mono ?_
      rintro e w1 ⟨rfl, rfl⟩
      go_wp2_with (fail)
      go_ret
      exact ⟨ret_int hfin.out.symm, Below.refl _ _⟩
    · have hb : (ci u == 0) = false := by rw [beq_eq_false_iff_ne]; exact fun h => hu (ci_eq_zero.1 h)
      have hb2 : (ci v == 0) = false := by rw [beq_eq_false_iff_ne]; exact fun h => hv (ci_eq_zero.1 h)
      obtain ⟨a, ha⟩ := Int.eq_ofNat_of_zero_le hu0
      obtain ⟨b, hb'⟩ := Int.eq_ofNat_of_zero_le hv0
      have ha2 : a < D.q := by omega
      have hb3 : b < D.q := by omega
      have har : rel D.toDesc a = u := by rw [← rel_rcode u]; congr 1; unfold ci at ha; omega
      have hbr : rel D.toDesc b = v := by rw [← rel_rcode v]; congr 1; unfold ci at hb'; omega
      have hll : (lgl D).length = D.q := lst_length _ _
      obtain ⟨bl, ol, rfl, hbl, hcl⟩ := rl (by rw [hll]; omega)
      have hea : (expl D).length = D.q - 1 := lst_length _ _
      obtain ⟨be, oe, rfl, hbe, hce⟩ := re (by rw [hea]; omega)
      have hla := hcl a (by rw [hll]; exact ha2)
      have hlb := hcl b (by rw [hll]; exact hb3)
      rw [show (lgl D)[a]?.getD 0 = (lg D u : Nat) by unfold lgl; rw [lst_get _ ha2, har]] at hla
      rw [show (lgl D)[b]?.getD 0 = (lg D v : Nat) by unfold lgl; rw [lst_get _ hb3, hbr]] at hlb
      obtain ⟨i, hi⟩ : ∃ i, i = lg D u := ⟨_, rfl⟩
      obtain ⟨j, hj⟩ : ∃ j, j = lg D v := ⟨_, rfl⟩
      have hil : i < D.q - 1 := by rw [hi]; exact lg_lt _ _
      have hjl : j < D.q - 1 := by rw [hj]; exact lg_lt _ _
      rw [← hi] at hla
      rw [← hj] at hlb
      obtain ⟨k, hk⟩ : ∃ k, D.q = k + 1 := ⟨D.q - 1, by omega⟩
      have hkm : (i + j) % k < k := Nat.mod_lt _ (by omega)
      have hex := hce ((i + j) % k) (by rw [hea]; omega)
      rw [show (expl D)[(i + j) % k]?.getD 0 = ci (pw D.g ((i + j) % k)) from lst_get _ (by omega)] at hex
      have hprod : pw D.g ((i + j) % k) = u * v := by
        rw [show k = D.q - 1 by omega]
        have h := pw_gen_mod (F := R D.toDesc) (i + j)
        refine (h : pw D.g ((i + j) % (D.q - 1)) = pw D.g (i + j)).trans ?_
        have h3 : pw D.g (lg D u) * pw D.g (lg D v) = u * v := by rw [pw_lg D hu, pw_lg D hv]
        rw [pw_add, hi, hj]; exact h3
      rw [hprod] at hex
      rw [ha] at hb hix
      rw [hb'] at hb2 hiy
      have hkq : D.q - 1 = k := by omega
      rw [hkq] at c4
      rw [hk] at c3 c5
      have hme : ((i : Int) + (j : Int)) % (k : Int) = (((i + j) % k : Nat) : Int) := by rw [Int.natCast_emod, Int.natCast_add]
      clear hcl hce ha hb' hi hj har hbr hprod hu hv hea hll hkq
      obtain ⟨z, hz⟩ : ∃ z, z = (i + j) % k := ⟨_, rfl⟩
      rw [← hz] at hme hex hkm
      replace hme := Lib.hid hme
      clear hz
      have hk1 : 1 ≤ k := by omega
      have hk2 : k ≤ 255 := by omega
      have ha3 : a < k + 1 := by omega
      have hb4 : b < k + 1 := by omega
      have hi2 : i < k := by omega
      have hj2 : j < k := by omega
      clear hk hq2 hq3 hu0 hu1 hv0 hv1 ha2 hb3 hil hjl
      go_enter Try.func41, Try.ntmps41
      go_wp2_with (fail)
      refine hix.out.mono ?_
      rintro e w1 ⟨rfl, rfl⟩
      go_wp2_with (fail)
      refine hiy.out.mono ?_
      rintro e w1 ⟨rfl, rfl⟩
      go_wp2_with (fail)
      have hme2 := hme.out
      have i1 : (a : Int) < (k : Int) + 1 := by omega
      have i2 : (b : Int) < (k : Int) + 1 := by omega
      have i3 : (0 : Int) ≤ (i : Int) + (j : Int) := by omega
      have i4 : (z : Int) < (k : Int) := by omega
      have hk0 : ¬ k = 0 := by omega
      have e1 : IntKind.i64.wrap ((i : Int) + (j : Int)) = (i : Int) + (j : Int) := IntWalk.i64_in _ (by omega)
      have e2 : IntKind.i64.wrap (k : Int) = (k : Int) := IntWalk.i64_in _ (by omega)
      have e3 : ((i : Int) + (j : Int)).tmod (k : Int) = (z : Int) := (Int.tmod_eq_emod_of_nonneg i3).trans hme2
      clear hme2
      go_quiet (fail)
      clear e1 e2 e3
      go_wp2_with (fail)
      go_ret
      exact ⟨rfl, below_drewN' (Below.refl _ _) _⟩
end Go.Proofs.Ytemanlkgfhmclaa

/-! The program's arithmetic of a field: Add -/
namespace Go.Proofs.Ytemanlkgfhmclaa
open Go.RowKit Cw

theorem of_i64 (a : Nat) (ha : a < 9223372036854775808) : (BitVec.ofInt 64 (a : Int)).toNat = a := by
  rw [BitVec.ofInt_natCast, BitVec.toNat_ofNat]; exact Nat.mod_eq_of_lt (by omega)
theorem xor_i64 (a b : Nat) (ha : a < 9223372036854775808) (hb : b < 9223372036854775808) : bits .xor .i64 (a : Int) (b : Int) = ((a ^^^ b : Nat) : Int) := by
  have hx : a ^^^ b < 2 ^ 63 := Nat.xor_lt_two_pow (by omega) (by omega)
  show IntKind.i64.wrap ((BitVec.ofInt 64 (a : Int) ^^^ BitVec.ofInt 64 (b : Int)).toNat : Int) = _
  rw [BitVec.toNat_xor, of_i64 a ha, of_i64 b hb, IntKind.wrap_i64]
  omega

set_option maxHeartbeats 2000000 in
theorem gAdd_any (D : FD) (x y : Int) (g : Nat) (w : World) (hg : GF w w.heap.size g D) :
    Calls Try.prog 63 #[.pointer (some ⟨g, 0, none⟩), .int .i64 x, .int .i64 y] w fun e w' => e = .returned (.int .i64 (ci (eli D.toDesc x + eli D.toDesc y))) ∧ Below w.heap.size w w' := by
  have hq2 := D.q2; have hq3 := D.q256; have hp2 := D.p2; have hp3 := D.p256
  have hix := gin_any D x g w hg
  have hiy := gin_any D y g w hg
  generalize eli D.toDesc x = u at *
  generalize eli D.toDesc y = v at *
  have c0 := hg.c0
  have hgl := hg.lt
  clear hg
  obtain ⟨a, ha⟩ : ∃ a, a = rcode u := ⟨_, rfl⟩
  obtain ⟨b, hb⟩ : ∃ b, b = rcode v := ⟨_, rfl⟩
  have hal : a < D.q := by rw [ha]; exact rcode_lt u
  have hbl : b < D.q := by rw [hb]; exact rcode_lt v
  rw [show ci u = (a : Int) by rw [ha]; rfl] at hix
  rw [show ci v = (b : Int) by rw [hb]; rfl] at hiy
  replace hix := Lib.hid hix
  replace hiy := Lib.hid hiy
  have hal2 : a ≤ 255 := by omega
  have hbl2 : b ≤ 255 := by omega
  replace ha := Lib.hid ha
  replace hb := Lib.hid hb
  by_cases h2 : D.p = 2
  · have hpb : ((D.p : Int) == 2) = true := by rw [beq_iff_eq]; omega
    have hx := xor_i64 a b (by omega) (by omega)
    have hfin : Hid (((a ^^^ b : Nat) : Int) = ci (u + v)) := by unfold Hid ci; rw [ha.out, hb.out, xor_add h2]
    clear h2
    go_enter Try.func63, Try.ntmps63
    go_wp2_with (fail)
    refine hix.out.mono ?_
    rintro e w1 ⟨rfl, rfl⟩
    go_wp2_with (fail)
    refine hiy.out.mono ?_
    rintro e w1 ⟨rfl, rfl⟩
    go_wp2_with (fail)
    go_ret
    exact ⟨ret_int hfin.out, Below.refl _ _⟩
  · have hpb : ((D.p : Int) == 2) = false := by rw [beq_eq_false_iff_ne]; omega
    clear h2
    go_enter Try.func63, Try.ntmps63
    go_wp2_with (fail)
    refine hix.out.mono ?_
    rintro e w1 ⟨rfl, rfl⟩
    go_wp2_with (fail)
    refine hiy.out.mono ?_
    rintro e w1 ⟨rfl, rfl⟩
    go_wp2_with (fail)
    go_loopw [1, 2, 7, 8] (fun x y s pl wr => ∃ k X Y S P : Nat, x = .int .i64 X ∧ y = .int .i64 Y ∧ s = .int .i64 S ∧ pl = .int .i64 P ∧ k ≤ D.m ∧ X ≤ 255 ∧ Y ≤ 255 ∧ S ≤ 256 ∧ P ≤ 256 ∧
      Hid (X = a / D.p ^ k) ∧ Hid (Y = b / D.p ^ k) ∧ Hid (S = nval D.p (di (u + v)) k) ∧ Hid (P = D.p ^ k) ∧ Below w.heap.size w wr) (fun x y _ _ _ => (intOf x).toNat + (intOf y).toNat)
    case atStart => exact ⟨0, a, b, 0, 1, rfl, rfl, rfl, rfl, by omega, by omega, by omega, by omega, by omega, by simp [Hid], by simp [Hid], rfl, by simp [Hid], Below.refl _ _⟩
    case round =>
      obtain ⟨k, X, Y, S, P, rfl, rfl, rfl, rfl, hk, hX, hY, hS, hP, hXe, hYe, hSe, hPe, hbw⟩ := hrel
      have c0' := (hbw.cell (p := ⟨g, 0, none⟩) hgl).trans c0
      by_cases hz : X = 0 ∧ Y = 0
      · obtain ⟨rfl, rfl⟩ := hz
        have hfin : Hid ((S : Int) = ci (u + v)) := by
          unfold Hid ci
          rw [hSe.out, add_stop u v hk (by rw [← ha.out]; exact hXe.out.symm) (by rw [← hb.out]; exact hYe.out.symm)]
        go_wp2_with (fail)
        go_ret
        exact ⟨ret_int hfin.out, hbw⟩
      · have hkm : k < D.m := by
          rcases Nat.lt_or_ge k D.m with h | h
          · exact h
          · exfalso; apply hz
            rw [hXe.out, hYe.out, ha.out, hb.out]
            exact ⟨div_pow_zero u h, div_pow_zero v h⟩
        have hPk : D.p ^ (k + 1) ≤ 256 := Nat.le_trans (Nat.pow_le_pow_right (by omega) hkm) D.hq
        have hdig := add_digit u v hkm
        rw [← ha.out, ← hb.out, ← hXe.out, ← hYe.out] at hdig
        have hnl := nval_lt (p := D.p) (m := k + 1) (f := di (u + v)) (fun i _ => di_lt _ i)
        have hnS : nval D.p (di (u + v)) (k + 1) = S + (X % D.p + Y % D.p) % D.p * P := by
          show nval D.p (di (u + v)) k + di (u + v) k * D.p ^ k = _
          rw [hSe.out, hdig, hPe.out]
        have hPp : P * D.p = D.p ^ (k + 1) := by rw [hPe.out, Nat.pow_succ]
        have hXm := Nat.mod_lt X (show 0 < D.p by omega)
        have hYm := Nat.mod_lt Y (show 0 < D.p by omega)
        have hXd := Nat.div_le_self X D.p
        have hYd := Nat.div_le_self Y D.p
        obtain ⟨x', hx'⟩ : ∃ t, t = X % D.p := ⟨_, rfl⟩
        obtain ⟨y', hy'⟩ : ∃ t, t = Y % D.p := ⟨_, rfl⟩
        obtain ⟨z', hz'⟩ : ∃ t, t = (x' + y') % D.p := ⟨_, rfl⟩
        obtain ⟨t', ht'⟩ : ∃ t, t = z' * P := ⟨_, rfl⟩
        obtain ⟨X2, hX2⟩ : ∃ t, t = X / D.p := ⟨_, rfl⟩
        obtain ⟨Y2, hY2⟩ : ∃ t, t = Y / D.p := ⟨_, rfl⟩
        obtain ⟨P2, hP2⟩ : ∃ t, t = P * D.p := ⟨_, rfl⟩
        have hX2e : Hid (X2 = a / D.p ^ (k + 1)) := by unfold Hid; rw [hX2, hXe.out, Nat.pow_succ, Nat.div_div_eq_div_mul]
        have hY2e : Hid (Y2 = b / D.p ^ (k + 1)) := by unfold Hid; rw [hY2, hYe.out, Nat.pow_succ, Nat.div_div_eq_div_mul]
        rw [← hx', ← hy', ← hz', ← ht'] at hnS
        rw [← hP2] at hPp
        have hSn : S + t' ≤ 256 := by rw [← hnS]; omega
        have hP2n : P2 ≤ 256 := by rw [hPp]; exact hPk
        have hX2n : X2 ≤ X := by rw [hX2]; exact hXd
        have hY2n : Y2 ≤ Y := by rw [hY2]; exact hYd
        have hmx : X2 + Y2 < X + Y := by
          rw [hX2, hY2]
          have h5 : ∀ n : Nat, 0 < n → n / D.p < n := fun n hn => Nat.div_lt_self hn (by omega)
          rcases Nat.eq_zero_or_pos X with h6 | h6
          · have := h5 Y (by omega); omega
          · have := h5 X h6; omega
        have ee1 : (X : Int) % (D.p : Int) = (x' : Int) := by rw [hx']; rfl
        have ee2 : (Y : Int) % (D.p : Int) = (y' : Int) := by rw [hy']; rfl
        have ee3 : ((x' : Int) + (y' : Int)) % (D.p : Int) = (z' : Int) := by rw [hz', Int.natCast_emod, Int.natCast_add]
        have ee4 : (z' : Int) * (P : Int) = (t' : Int) := by rw [ht', Int.natCast_mul]
        have ee5 : (P : Int) * (D.p : Int) = (P2 : Int) := by rw [hP2, Int.natCast_mul]
        have ee6 : (X : Int) / (D.p : Int) = (X2 : Int) := by rw [hX2]; rfl
        have ee7 : (Y : Int) / (D.p : Int) = (Y2 : Int) := by rw [hY2]; rfl
        have hx'l : x' ≤ 256 := by rw [hx']; omega
        have hy'l : y' ≤ 256 := by rw [hy']; omega
        have hSH : Hid (S + t' = nval D.p (di (u + v)) (k + 1)) := hnS.symm
        have hPH : Hid (P2 = D.p ^ (k + 1)) := hPp
        replace ee1 := Lib.hid ee1; replace ee2 := Lib.hid ee2; replace ee3 := Lib.hid ee3; replace ee4 := Lib.hid ee4; replace ee5 := Lib.hid ee5; replace ee6 := Lib.hid ee6; replace ee7 := Lib.hid ee7
        clear hx' hy' hz' ht' hX2 hY2 hP2 hnS hPp hdig hnl hXm hYm hXd hYd hPk
        have hpos : 0 < X ∨ (X ≤ 0 ∧ 0 < Y) := by omega
        rcases hpos with hpos | ⟨hpos1, hpos2⟩
        all_goals
          go_wp2_with (fail)
          have hp0 : ¬ D.p = 0 := by omega
          have f1 : (X : Int).tmod (D.p : Int) = (x' : Int) := (Int.tmod_eq_emod_of_nonneg (by omega)).trans ee1.out
          have f2 : (Y : Int).tmod (D.p : Int) = (y' : Int) := (Int.tmod_eq_emod_of_nonneg (by omega)).trans ee2.out
          have f3 : IntKind.i64.wrap ((x' : Int) + (y' : Int)) = (x' : Int) + (y' : Int) := IntWalk.i64_in _ (by omega)
          have f4 : ((x' : Int) + (y' : Int)).tmod (D.p : Int) = (z' : Int) := (Int.tmod_eq_emod_of_nonneg (by omega)).trans ee3.out
          have f6 : IntKind.i64.wrap (t' : Int) = (t' : Int) := IntWalk.i64_in _ (by omega)
          have f7 : IntKind.i64.wrap ((S : Int) + (t' : Int)) = (S : Int) + (t' : Int) := IntWalk.i64_in _ (by omega)
          have f5 := ee4.out
          go_quiet (fail)
          clear f1 f2 f3 f4 f5 f6 f7
          have g5 := ee5.out
          have g6 := ee6.out
          have g7 := ee7.out
          go_wp2_with (fail)
          clear g5 g6 g7
          go_roundw
          case rel => exact ⟨k + 1, X2, Y2, S + t', P2, rfl, rfl, by go_num, rfl, by omega, by omega, by omega, by omega, by omega, hX2e, hY2e, hSH, hPH, below_drewN' hbw _⟩
          case measure => simp [intOf]; omega
end Go.Proofs.Ytemanlkgfhmclaa

/-! The program's Field -/
namespace Go.Proofs.Ytemanlkgfhmclaa
open Go.RowKit Cw

theorem keep3' {B g : Nat} {W w1 : World} {v0 v1 v2 : Value} (hb : Below B W w1) (hlt : g < B) (h : W.cell? ⟨g, 0, none⟩ = some v0 ∧ W.cell? ⟨g, 1, none⟩ = some v1 ∧ W.cell? ⟨g, 2, none⟩ = some v2) :
    w1.cell? ⟨g, 0, none⟩ = some v0 ∧ w1.cell? ⟨g, 1, none⟩ = some v1 ∧ w1.cell? ⟨g, 2, none⟩ = some v2 := keep3 hb hlt h

theorem set3 {w3 : World} {b : Nat} (u0 u1 u2 : Value) : Below b w3 (((w3.setCell ⟨b, 0, none⟩ u0).setCell ⟨b, 1, none⟩ u1).setCell ⟨b, 2, none⟩ u2) :=
  (((Below.refl _ _).setCell (p := ⟨b, 0, none⟩) (Nat.le_refl _) _).setCell (p := ⟨b, 1, none⟩) (Nat.le_refl _) _).setCell (p := ⟨b, 2, none⟩) (Nat.le_refl _) _
theorem own3 {B b : Nat} {X w3 : World} (hc : ∀ i, i < 3 → ∃ v, X.cell? ⟨b, i, none⟩ = some v) (hf : ∀ i, X.frozen? ⟨b, i, none⟩ = false) (hb : Below B X w3) (hlt : b < B) :
    ∃ v0 v1 v2, w3.cell? ⟨b, 0, none⟩ = some v0 ∧ w3.cell? ⟨b, 1, none⟩ = some v1 ∧ w3.cell? ⟨b, 2, none⟩ = some v2 ∧ w3.frozen? ⟨b, 0, none⟩ = false ∧ w3.frozen? ⟨b, 1, none⟩ = false ∧ w3.frozen? ⟨b, 2, none⟩ = false := by
  obtain ⟨v0, h0⟩ := hc 0 (by omega)
  obtain ⟨v1, h1⟩ := hc 1 (by omega)
  obtain ⟨v2, h2⟩ := hc 2 (by omega)
  exact ⟨v0, v1, v2, (hb.cell (p := ⟨b, 0, none⟩) hlt).trans h0, (hb.cell (p := ⟨b, 1, none⟩) hlt).trans h1, (hb.cell (p := ⟨b, 2, none⟩) hlt).trans h2,
    (hb.frozen (p := ⟨b, 0, none⟩) hlt).trans (hf 0), (hb.frozen (p := ⟨b, 1, none⟩) hlt).trans (hf 1), (hb.frozen (p := ⟨b, 2, none⟩) hlt).trans (hf 2)⟩

set_option maxHeartbeats 2000000 in
theorem gField_any (D : FD) (g : Nat) (w : World) (hg : GF w w.heap.size g D) :
    Calls Try.prog 37 #[.pointer (some ⟨g, 0, none⟩)] w fun e w' => ∃ A3 c3, e = .returned (.agg #[.int .i64 D.p, .int .i64 D.m, .slice A3 D.mod.length c3]) ∧
      Rd w' w'.heap.size A3 (modL D.toDesc) ∧ (∀ b, A3 = some b → w.heap.size ≤ b.block) ∧ Below w.heap.size w w' := by
  have hml : D.mod.length ≤ 8 := by have := D.hlen; have := D.m8; rw [D.hlen]; split <;> omega
  have c0 := hg.c0
  have c1 := hg.c1
  have hgl := hg.lt
  obtain ⟨A, c, c2, hr⟩ := hg.md
  clear hg
  obtain ⟨Z, hZ⟩ : ∃ Z, Z = w.alloc (.cells #[.int .i64 0, .int .i64 0, .slice none 0 0] 24) := ⟨_, rfl⟩
  have hZb : Below w.heap.size w Z := by rw [hZ]; exact (Below.refl _ _).alloc (Nat.le_refl _) _
  have hZs : Z.heap.size = w.heap.size + 1 := by rw [hZ]; simp
  have kz := Lib.hid (keep3 hZb hgl ⟨c0, c1, c2⟩)
  have o1 : Hid (Own (Z.alloc (.cells #[] 3)).drew (w.heap.size + 1) (.slice (some ⟨w.heap.size + 1, 0, none⟩) 0 0) []) := own_empty (by have := heap_alloc_new Z (.cells #[] 3); rw [hZs] at this; exact this) (Nat.le_refl _)
  have hX : Below w.heap.size w (Z.alloc (.cells #[] 3)).drew := (hZb.alloc (by omega) _).drew
  have k1 := Lib.hid (keep3 hX hgl ⟨c0, c1, c2⟩)
  have r1 : Hid (Rd (Z.alloc (.cells #[] 3)).drew w.heap.size A (modL D.toDesc)) := hr.below hX
  have hmn : Hid (D.mod.length = (modL D.toDesc).length) := (modL_length D.toDesc).symm
  have hmn' : Hid ((([] : List Int) ++ modL D.toDesc).length = D.mod.length) := by unfold Hid; rw [List.nil_append, modL_length]
  have hm8 : ([] : List Int).length + (modL D.toDesc).length ≤ 1000000000 := by rw [modL_length]; simp; omega
  have b1 : w.heap.size + 1 ≤ (Z.alloc (.cells #[] 3)).drew.heap.size := by simp [hZs]
  have hcz : ∀ i, i < 3 → ∃ v, Z.cell? ⟨w.heap.size, i, none⟩ = some v := fun i hi => by
    rw [hZ]
    match i, hi with
    | 0, _ => exact ⟨_, (alloc3 _ _ _ _ _).1⟩
    | 1, _ => exact ⟨_, (alloc3 _ _ _ _ _).2.1⟩
    | 2, _ => exact ⟨_, (alloc3 _ _ _ _ _).2.2⟩
  have hfz : ∀ i, Z.frozen? ⟨w.heap.size, i, none⟩ = false := fun i => by rw [hZ]; exact World.frozen?_alloc_at _ _ _ _ rfl
  have hlz : w.heap.size < Z.heap.size := by omega
  have hcx : ∀ i, i < 3 → ∃ v, (Z.alloc (.cells #[] 3)).drew.cell? ⟨w.heap.size, i, none⟩ = some v := fun i hi => by
    obtain ⟨v, hv⟩ := hcz i hi
    exact ⟨v, (((Below.refl Z.heap.size Z).alloc (Nat.le_refl _) _).cell (p := ⟨w.heap.size, i, none⟩) hlz).trans hv⟩
  have hfx : ∀ i, (Z.alloc (.cells #[] 3)).drew.frozen? ⟨w.heap.size, i, none⟩ = false := fun i =>
    (((Below.refl Z.heap.size Z).alloc (Nat.le_refl _) (.cells #[] 3)).frozen (p := ⟨w.heap.size, i, none⟩) hlz).trans (hfz i)
  replace hZ := Lib.hid hZ
  replace hcx := Lib.hid hcx
  replace hfx := Lib.hid hfx
  clear hcz hfz
  clear c0 c1 c2
  go_enter Try.func37, Try.ntmps37
  go_wp2_with (fail)
  rw [← hZ.out]
  go_region_held3 (fun w' => w'.cell? ⟨g, 0, none⟩ = some (.int .i64 D.p) ∧ w'.cell? ⟨g, 1, none⟩ = some (.int .i64 D.m) ∧ w'.cell? ⟨g, 2, none⟩ = some (.slice A D.mod.length c))
    (first | exact kz.out | exact k1.out | exact y.out | exact keep3 (b := g) (set3 _ _ _) hgl y.out)
    (first
      | (refine step_appN rfl (.tmp 13) (.tmp 18) rfl (w.heap.size + 1) _ [] w.heap.size A c (modL D.toDesc) o1.out r1.out rfl rfl hmn.out hm8 b1 ?_; intro v3 w3 hown3 hb3 hg3 hv3; obtain ⟨A3, c3, rfl, hc3, hr3, hA3⟩ := hown3.form; rw [hmn'.out]; have y := Lib.hid (keep3 (b := g) hb3 (Nat.lt_succ_of_lt hgl) k1.out); obtain ⟨z0, z1, z2, q0, q1, q2, q3, q4, q5⟩ := own3 hcx.out hfx.out hb3 (Nat.lt_succ_self _)))
  go_wp2_with (fail)
  rw [List.nil_append] at hr3
  have hbW : Below w.heap.size w (((w3.setCell ⟨w.heap.size, 0, none⟩ (.int .i64 D.p)).setCell ⟨w.heap.size, 1, none⟩ (.int .i64 D.m)).setCell ⟨w.heap.size, 2, none⟩ (.slice A3 D.mod.length c3)) := (hX.trans (hb3.mono (Nat.le_succ _))).trans (set3 _ _ _)
  have hrW : Rd (((w3.setCell ⟨w.heap.size, 0, none⟩ (.int .i64 D.p)).setCell ⟨w.heap.size, 1, none⟩ (.int .i64 D.m)).setCell ⟨w.heap.size, 2, none⟩ (.slice A3 D.mod.length c3)) w3.heap.size A3 (modL D.toDesc) := fun hn => by
    obtain ⟨b, off, e, hbl, hcell⟩ := hr3 hn
    have h8 := (hA3 _ e).1
    refine ⟨b, off, e, hbl, fun j hj => ?_⟩
    have ne : ∀ i, (⟨b, off + j, none⟩ : Addr) ≠ ⟨w.heap.size, i, none⟩ := fun i e2 => by
      have h9 := congrArg Addr.block e2
      simp at h9 h8; omega
    rw [World.cell?_setCell_other _ _ _ _ (fun e2 => ne 2 (by first | exact e2 | exact e2.symm)), World.cell?_setCell_other _ _ _ _ (fun e2 => ne 1 (by first | exact e2 | exact e2.symm)), World.cell?_setCell_other _ _ _ _ (fun e2 => ne 0 (by first | exact e2 | exact e2.symm))]
    exact hcell j hj
  have t0 := World.cell?_setCell_same w3 ⟨w.heap.size, 0, none⟩ (.int .i64 D.p) q0
  refine bodyPost_ret (v := .agg #[.int .i64 D.p, .int .i64 D.m, .slice A3 D.mod.length c3]) (by simp [results, Try.results37, go_sem, q0, q1, q2]) rfl ⟨A3, c3, rfl, hrW.more (by simp [World.setCell]), fun b hb => by have := (hA3 b hb).1; omega, hbW⟩
end Go.Proofs.Ytemanlkgfhmclaa

/-! The program's Neg, Sub, Inv -/
namespace Go.Proofs.Ytemanlkgfhmclaa
open Go.RowKit Cw
open Cw.CField (inv)

set_option maxHeartbeats 2000000 in
theorem gInv_two (D : FD) (x : Int) (g : Nat) (w : World) (hg : GF w w.heap.size g D) :
    Calls Try.prog 43 #[.pointer (some ⟨g, 0, none⟩), .int .i64 x] w fun e w' => (∃ t, e = .returned (.tuple #[.int .i64 (ci (inv (eli D.toDesc x))), .int .i64 t]) ∧ (eli D.toDesc x ≠ 0 → t = 0)) ∧ Below w.heap.size w w' := by
  have hq2 := D.q2; have hq3 := D.q256
  have hix := gin_any D x g w hg
  generalize eli D.toDesc x = u at *
  replace hix := Lib.hid hix
  have c3 := hg.c3
  obtain ⟨Ae, ce, c4, re⟩ := hg.ex
  obtain ⟨Al, cl, c5, rl⟩ := hg.lo
  clear hg
  have hu0 := ci_nonneg u; have hu1 := ci_lt u
  by_cases hu : u = 0
  · have hb : (ci u == 0) = true := by rw [beq_iff_eq]; exact ci_eq_zero.2 hu
    have hfin : Hid (ci (inv u) = 0) := by unfold Hid; rw [hu, inv_zero, ci_zero]
    have huH := Lib.hid hu
    clear hu
    go_enter Try.func43, Try.ntmps43
    go_wp2_with (fail)
    refine hix.out.mono ?_
    rintro e w1 ⟨rfl, rfl⟩
    go_wp2_with (fail)
    go_ret2
    exact ⟨⟨_, by rw [hfin.out]; rfl, fun h => absurd huH.out h⟩, Below.refl _ _⟩
  · have hb : (ci u == 0) = false := by rw [beq_eq_false_iff_ne]; exact fun h => hu (ci_eq_zero.1 h)
    obtain ⟨a, ha⟩ := Int.eq_ofNat_of_zero_le hu0
    have ha2 : a < D.q := by omega
    have har : rel D.toDesc a = u := by rw [← rel_rcode u]; congr 1; unfold ci at ha; omega
    have hll : (lgl D).length = D.q := lst_length _ _
    obtain ⟨bl, ol, rfl, hbl, hcl⟩ := rl (by rw [hll]; omega)
    have hea : (expl D).length = D.q - 1 := lst_length _ _
    obtain ⟨be, oe, rfl, hbe, hce⟩ := re (by rw [hea]; omega)
    have hla := hcl a (by rw [hll]; exact ha2)
    rw [show (lgl D)[a]?.getD 0 = (lg D u : Nat) by unfold lgl; rw [lst_get _ ha2, har]] at hla
    obtain ⟨i, hi⟩ : ∃ i, i = lg D u := ⟨_, rfl⟩
    have hil : i < D.q - 1 := by rw [hi]; exact lg_lt _ _
    rw [← hi] at hla
    obtain ⟨k, hk⟩ : ∃ k, D.q = k + 1 := ⟨D.q - 1, by omega⟩
    have hk1 : 1 ≤ k := by omega
    have hk2 : k ≤ 255 := by omega
    obtain ⟨z, hz⟩ : ∃ z, z = (k - i) % k := ⟨_, rfl⟩
    have hzk : z < k := by rw [hz]; exact Nat.mod_lt _ (by omega)
    have hex := hce z (by rw [hea]; omega)
    rw [show (expl D)[z]?.getD 0 = ci (pw D.g z) from lst_get _ (by omega)] at hex
    have hkq : D.q - 1 = k := by omega
    have hpw : pw D.g z = inv u := by
      have h1 : pw D.g ((k - i) % (D.q - 1)) = pw D.g (k - i) := pw_gen_mod (F := R D.toDesc) (k - i)
      have h2 : pw D.g ((D.q - 1) % (D.q - 1)) = pw D.g (D.q - 1) := pw_gen_mod (F := R D.toDesc) (D.q - 1)
      rw [Nat.mod_self, hkq] at h2
      rw [hkq] at h1
      rw [hz, h1]
      apply inv_unique
      have h3 : u = pw D.g i := by rw [hi, pw_lg D hu]
      rw [h3, ← pw_add, show i + (k - i) = k by omega, ← h2]; rfl
    rw [hpw] at hex
    rw [ha] at hb hix
    rw [hkq] at c4
    rw [hk] at c3 c5
    have ee4 : Hid (((k : Int) - (i : Int)) % (k : Int) = (z : Int)) := by unfold Hid; rw [hz, show ((k : Int) - (i : Int)) = ((k - i : Nat) : Int) by omega]; rfl
    have ha3 : a < k + 1 := by omega
    have hik : i < k := by omega
    clear hcl hce ha hi har hpw hu hea hll hkq hz hk hq2 hq3 hu0 hu1 ha2 hil
    go_enter Try.func43, Try.ntmps43
    go_wp2_with (fail)
    refine hix.out.mono ?_
    rintro e w1 ⟨rfl, rfl⟩
    go_wp2_with (fail)
    have i1 : (a : Int) < (k : Int) + 1 := by omega
    have i3 : (0 : Int) ≤ (k : Int) - (i : Int) := by omega
    have i4 : (z : Int) < (k : Int) := by omega
    have hk0 : ¬ k = 0 := by omega
    have e1 : IntKind.i64.wrap ((k : Int) - (i : Int)) = (k : Int) - (i : Int) := IntWalk.i64_in _ (by omega)
    have e2 : IntKind.i64.wrap (k : Int) = (k : Int) := IntWalk.i64_in _ (by omega)
    have e3 : ((k : Int) - (i : Int)).tmod (k : Int) = (z : Int) := (Int.tmod_eq_emod_of_nonneg i3).trans ee4.out
    go_quiet (fail)
    clear e1 e2 e3
    go_wp2_with (fail)
    go_ret2
    exact ⟨⟨_, rfl, fun _ => rfl⟩, below_drewN' (Below.refl _ _) _⟩
theorem gInv_any (D : FD) (x : Int) (g : Nat) (w : World) (hg : GF w w.heap.size g D) :
    Calls Try.prog 43 #[.pointer (some ⟨g, 0, none⟩), .int .i64 x] w fun e w' => (∃ t, e = .returned (.tuple #[.int .i64 (ci (inv (eli D.toDesc x))), .int .i64 t])) ∧ Below w.heap.size w w' :=
  (gInv_two D x g w hg).mono fun _ _ ⟨⟨t, h, _⟩, hb⟩ => ⟨⟨t, h⟩, hb⟩
theorem gInv_ok (D : FD) (x : Int) (g : Nat) (w : World) (hg : GF w w.heap.size g D) (hx : eli D.toDesc x ≠ 0) :
    Calls Try.prog 43 #[.pointer (some ⟨g, 0, none⟩), .int .i64 x] w fun e w' => e = .returned (.tuple #[.int .i64 (ci (inv (eli D.toDesc x))), .int .i64 0]) ∧ Below w.heap.size w w' :=
  (gInv_two D x g w hg).mono fun _ _ ⟨⟨t, h, h0⟩, hb⟩ => ⟨by rw [h, h0 hx], hb⟩

set_option maxHeartbeats 2000000 in
theorem gNeg_any (D : FD) (x : Int) (g : Nat) (w : World) (hg : GF w w.heap.size g D) :
    Calls Try.prog 64 #[.pointer (some ⟨g, 0, none⟩), .int .i64 x] w fun e w' => e = .returned (.int .i64 (ci (-(eli D.toDesc x)))) ∧ Below w.heap.size w w' := by
  have hq2 := D.q2; have hq3 := D.q256; have hp2 := D.p2; have hp3 := D.p256
  have hix := gin_any D x g w hg
  generalize eli D.toDesc x = u at *
  have c0 := hg.c0
  have hgl := hg.lt
  clear hg
  obtain ⟨a, ha⟩ : ∃ a, a = rcode u := ⟨_, rfl⟩
  have hal : a < D.q := by rw [ha]; exact rcode_lt u
  rw [show ci u = (a : Int) by rw [ha]; rfl] at hix
  replace hix := Lib.hid hix
  have hal2 : a ≤ 255 := by omega
  replace ha := Lib.hid ha
  go_enter Try.func64, Try.ntmps64
  go_wp2_with (fail)
  refine hix.out.mono ?_
  rintro e w1 ⟨rfl, rfl⟩
  go_wp2_with (fail)
  go_loopw [1, 5, 6] (fun x s pl wr => ∃ k X S P : Nat, x = .int .i64 X ∧ s = .int .i64 S ∧ pl = .int .i64 P ∧ k ≤ D.m ∧ X ≤ 255 ∧ S ≤ 256 ∧ P ≤ 256 ∧
    Hid (X = a / D.p ^ k) ∧ Hid (S = nval D.p (di (-u)) k) ∧ Hid (P = D.p ^ k) ∧ Below w.heap.size w wr) (fun x _ _ _ => (intOf x).toNat)
  case atStart => exact ⟨0, a, 0, 1, rfl, rfl, rfl, by omega, by omega, by omega, by omega, by simp [Hid], rfl, by simp [Hid], Below.refl _ _⟩
  case round =>
    obtain ⟨k, X, S, P, rfl, rfl, rfl, hk, hX, hS, hP, hXe, hSe, hPe, hbw⟩ := hrel
    have c0' := (hbw.cell (p := ⟨g, 0, none⟩) hgl).trans c0
    by_cases hz : X = 0
    · subst hz
      have hfin : Hid ((S : Int) = ci (-u)) := by
        unfold Hid ci
        rw [hSe.out, neg_stop u hk (by rw [← ha.out]; exact hXe.out.symm)]
      go_wp2_with (fail)
      go_ret
      exact ⟨ret_int hfin.out, hbw⟩
    · have hkm : k < D.m := by
        rcases Nat.lt_or_ge k D.m with h | h
        · exact h
        · exfalso; apply hz
          rw [hXe.out, ha.out]
          exact div_pow_zero u h
      have hPk : D.p ^ (k + 1) ≤ 256 := Nat.le_trans (Nat.pow_le_pow_right (by omega) hkm) D.hq
      have hdig := neg_digit u hkm
      rw [← ha.out, ← hXe.out] at hdig
      have hnl := nval_lt (p := D.p) (m := k + 1) (f := di (-u)) (fun i _ => di_lt _ i)
      have hnS : nval D.p (di (-u)) (k + 1) = S + (D.p - X % D.p) % D.p * P := by
        show nval D.p (di (-u)) k + di (-u) k * D.p ^ k = _
        rw [hSe.out, hdig, hPe.out]
      have hPp : P * D.p = D.p ^ (k + 1) := by rw [hPe.out, Nat.pow_succ]
      have hXm := Nat.mod_lt X (show 0 < D.p by omega)
      have hXd := Nat.div_le_self X D.p
      obtain ⟨x', hx'⟩ : ∃ t, t = X % D.p := ⟨_, rfl⟩
      obtain ⟨z', hz'⟩ : ∃ t, t = (D.p - x') % D.p := ⟨_, rfl⟩
      obtain ⟨t', ht'⟩ : ∃ t, t = z' * P := ⟨_, rfl⟩
      obtain ⟨X2, hX2⟩ : ∃ t, t = X / D.p := ⟨_, rfl⟩
      obtain ⟨P2, hP2⟩ : ∃ t, t = P * D.p := ⟨_, rfl⟩
      have hX2e : Hid (X2 = a / D.p ^ (k + 1)) := by unfold Hid; rw [hX2, hXe.out, Nat.pow_succ, Nat.div_div_eq_div_mul]
      rw [← hx', ← hz', ← ht'] at hnS
      rw [← hP2] at hPp
      have hSn : S + t' ≤ 256 := by rw [← hnS]; omega
      have hP2n : P2 ≤ 256 := by rw [hPp]; exact hPk
      have hX2n : X2 ≤ X := by rw [hX2]; exact hXd
      have hmx : X2 < X := by rw [hX2]; exact Nat.div_lt_self (by omega) (by omega)
      have hx'p : x' < D.p := by rw [hx']; exact hXm
      have ee1 : (X : Int) % (D.p : Int) = (x' : Int) := by rw [hx']; rfl
      have ee3 : ((D.p : Int) - (x' : Int)) % (D.p : Int) = (z' : Int) := by rw [hz', show ((D.p : Int) - (x' : Int)) = ((D.p - x' : Nat) : Int) by omega]; rfl
      have ee4 : (z' : Int) * (P : Int) = (t' : Int) := by rw [ht', Int.natCast_mul]
      have ee5 : (P : Int) * (D.p : Int) = (P2 : Int) := by rw [hP2, Int.natCast_mul]
      have ee6 : (X : Int) / (D.p : Int) = (X2 : Int) := by rw [hX2]; rfl
      have hSH : Hid (S + t' = nval D.p (di (-u)) (k + 1)) := hnS.symm
      have hPH : Hid (P2 = D.p ^ (k + 1)) := hPp
      replace ee1 := Lib.hid ee1; replace ee3 := Lib.hid ee3; replace ee4 := Lib.hid ee4; replace ee5 := Lib.hid ee5; replace ee6 := Lib.hid ee6
      clear hx' hz' ht' hX2 hP2 hnS hPp hdig hnl hXm hXd hPk
      have hpos : 0 < X := by omega
      go_wp2_with (fail)
      have hp0 : ¬ D.p = 0 := by omega
      have f1 : (X : Int).tmod (D.p : Int) = (x' : Int) := (Int.tmod_eq_emod_of_nonneg (by omega)).trans ee1.out
      have f3 : IntKind.i64.wrap ((D.p : Int) - (x' : Int)) = (D.p : Int) - (x' : Int) := IntWalk.i64_in _ (by omega)
      have f4 : ((D.p : Int) - (x' : Int)).tmod (D.p : Int) = (z' : Int) := (Int.tmod_eq_emod_of_nonneg (by omega)).trans ee3.out
      have f6 : IntKind.i64.wrap (t' : Int) = (t' : Int) := IntWalk.i64_in _ (by omega)
      have f7 : IntKind.i64.wrap ((S : Int) + (t' : Int)) = (S : Int) + (t' : Int) := IntWalk.i64_in _ (by omega)
      have f5 := ee4.out
      go_quiet (fail)
      clear f1 f3 f4 f5 f6 f7
      have g5 := ee5.out
      have g6 := ee6.out
      go_wp2_with (fail)
      clear g5 g6
      go_roundw
      case rel => exact ⟨k + 1, X2, S + t', P2, rfl, by go_num, rfl, by omega, by omega, by omega, by omega, hX2e, hSH, hPH, below_drewN' hbw _⟩
      case measure => simp [intOf]; omega

set_option maxHeartbeats 1000000 in
theorem gSub_any (D : FD) (x y : Int) (g : Nat) (w : World) (hg : GF w w.heap.size g D) :
    Calls Try.prog 42 #[.pointer (some ⟨g, 0, none⟩), .int .i64 x, .int .i64 y] w fun e w' => e = .returned (.int .i64 (ci (eli D.toDesc x - eli D.toDesc y))) ∧ Below w.heap.size w w' := by
  have hN := fun W h => Lib.hid (gNeg_any D y g W h)
  have hA := fun W h => (gAdd_any D x (ci (-(eli D.toDesc y))) g W h)
  rw [eli_ci] at hA
  replace hA := fun W h => Lib.hid (hA W h)
  have hs : Hid (ci (eli D.toDesc x + -(eli D.toDesc y)) = ci (eli D.toDesc x - eli D.toDesc y)) := by unfold Hid; first | rfl | rw [sub_eq]
  go_enter Try.func42, Try.ntmps42
  go_wp2_with (fail)
  (with_reducible refine (hN _ hg).out.mono ?_)
  rintro e w1 ⟨rfl, hb1⟩
  go_wp2_with (fail)
  (with_reducible refine (hA _ ((hg.below hb1).more hb1.size)).out.mono ?_)
  rintro e w2 ⟨rfl, hb2⟩
  go_wp2_with (fail)
  go_ret
  exact ⟨by rw [← hs.out]; rfl, hb1.trans (hb2.mono hb1.size)⟩
end Go.Proofs.Ytemanlkgfhmclaa
