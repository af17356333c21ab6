/- The program's Neg, Sub, Inv. -/
import Derived.Test.YtnbkmkeiophjoaaGfB
import Derived.Test.YtnbkmkeiophjoaaRefD
namespace Go.Proofs.Ytnbkmkeiophjoaa
open Go.RowKit Cw
open Cw.CField (inv)

set_option maxHeartbeats 2000000 in
theorem gInv_any (D : FD) (x : Int) (g : Nat) (w : World) (hg : GF w w.heap.size g D) :
    Calls Try.prog 69 #[.pointer (some ⟨g, 0, none⟩), .int .i64 x] w fun e w' => (∃ t, e = .returned (.tuple #[.int .i64 (ci (inv (eli D.toDesc x))), .int .i64 t])) ∧ Below w.heap.size w w' := by
  have hq2 := D.q2; have hq3 := D.q256
  have hix := gin_any D x g w hg
  generalize eli D.toDesc x = u at *
  replace hix := Lib.hid hix
  have c3 := hg.c3
  obtain ⟨Ae, ce, c4, re⟩ := hg.ex
  obtain ⟨Al, cl, c5, rl⟩ := hg.lo
  clear hg
  have hu0 := ci_nonneg u; have hu1 := ci_lt u
  by_cases hu : u = 0
  · have hb : (ci u == 0) = true := by rw [beq_iff_eq]; exact ci_eq_zero.2 hu
    have hfin : Hid (ci (inv u) = 0) := by unfold Hid; rw [hu, inv_zero, ci_zero]
    clear hu
    go_enter Try.func69, Try.ntmps69
    go_wp2_with (fail)
    refine hix.out.mono ?_
    rintro e w1 ⟨rfl, rfl⟩
    go_wp2_with (fail)
    go_ret2
    exact ⟨⟨_, by rw [hfin.out]; rfl⟩, Below.refl _ _⟩
  · have hb : (ci u == 0) = false := by rw [beq_eq_false_iff_ne]; exact fun h => hu (ci_eq_zero.1 h)
    obtain ⟨a, ha⟩ := Int.eq_ofNat_of_zero_le hu0
    have ha2 : a < D.q := by omega
    have har : rel D.toDesc a = u := by rw [← rel_rcode u]; congr 1; unfold ci at ha; omega
    have hll : (lgl D).length = D.q := lst_length _ _
    obtain ⟨bl, ol, rfl, hbl, hcl⟩ := rl (by rw [hll]; omega)
    have hea : (expl D).length = D.q - 1 := lst_length _ _
    obtain ⟨be, oe, rfl, hbe, hce⟩ := re (by rw [hea]; omega)
    have hla := hcl a (by rw [hll]; exact ha2)
    rw [show (lgl D)[a]?.getD 0 = (lg D u : Nat) by unfold lgl; rw [lst_get _ ha2, har]] at hla
    obtain ⟨i, hi⟩ : ∃ i, i = lg D u := ⟨_, rfl⟩
    have hil : i < D.q - 1 := by rw [hi]; exact lg_lt _ _
    rw [← hi] at hla
    obtain ⟨k, hk⟩ : ∃ k, D.q = k + 1 := ⟨D.q - 1, by omega⟩
    have hk1 : 1 ≤ k := by omega
    have hk2 : k ≤ 255 := by omega
    obtain ⟨z, hz⟩ : ∃ z, z = (k - i) % k := ⟨_, rfl⟩
    have hzk : z < k := by rw [hz]; exact Nat.mod_lt _ (by omega)
    have hex := hce z (by rw [hea]; omega)
    rw [show (expl D)[z]?.getD 0 = ci (pw D.g z) from lst_get _ (by omega)] at hex
    have hkq : D.q - 1 = k := by omega
    have hpw : pw D.g z = inv u := by
      have h1 : pw D.g ((k - i) % (D.q - 1)) = pw D.g (k - i) := pw_gen_mod (F := R D.toDesc) (k - i)
      have h2 : pw D.g ((D.q - 1) % (D.q - 1)) = pw D.g (D.q - 1) := pw_gen_mod (F := R D.toDesc) (D.q - 1)
      rw [Nat.mod_self, hkq] at h2
      rw [hkq] at h1
      rw [hz, h1]
      apply inv_unique
      have h3 : u = pw D.g i := by rw [hi, pw_lg D hu]
      rw [h3, ← pw_add, show i + (k - i) = k by omega, ← h2]; rfl
    rw [hpw] at hex
    rw [ha] at hb hix
    rw [hkq] at c4
    rw [hk] at c3 c5
    have ee4 : Hid (((k : Int) - (i : Int)) % (k : Int) = (z : Int)) := by unfold Hid; rw [hz, show ((k : Int) - (i : Int)) = ((k - i : Nat) : Int) by omega]; rfl
    have ha3 : a < k + 1 := by omega
    have hik : i < k := by omega
    clear hcl hce ha hi har hpw hu hea hll hkq hz hk hq2 hq3 hu0 hu1 ha2 hil
    go_enter Try.func69, Try.ntmps69
    go_wp2_with (fail)
    refine hix.out.mono ?_
    rintro e w1 ⟨rfl, rfl⟩
    go_wp2_with (fail)
    have i1 : (a : Int) < (k : Int) + 1 := by omega
    have i3 : (0 : Int) ≤ (k : Int) - (i : Int) := by omega
    have i4 : (z : Int) < (k : Int) := by omega
    have hk0 : ¬ k = 0 := by omega
    have e1 : IntKind.i64.wrap ((k : Int) - (i : Int)) = (k : Int) - (i : Int) := IntWalk.i64_in _ (by omega)
    have e2 : IntKind.i64.wrap (k : Int) = (k : Int) := IntWalk.i64_in _ (by omega)
    have e3 : ((k : Int) - (i : Int)).tmod (k : Int) = (z : Int) := (Int.tmod_eq_emod_of_nonneg i3).trans ee4.out
    go_quiet (fail)
    clear e1 e2 e3
    go_wp2_with (fail)
    go_ret2
    exact ⟨⟨_, rfl⟩, below_drewN' (Below.refl _ _) _⟩

set_option maxHeartbeats 2000000 in
theorem gNeg_any (D : FD) (x : Int) (g : Nat) (w : World) (hg : GF w w.heap.size g D) :
    Calls Try.prog 106 #[.pointer (some ⟨g, 0, none⟩), .int .i64 x] w fun e w' => e = .returned (.int .i64 (ci (-(eli D.toDesc x)))) ∧ Below w.heap.size w w' := by
  have hq2 := D.q2; have hq3 := D.q256; have hp2 := D.p2; have hp3 := D.p256
  have hix := gin_any D x g w hg
  generalize eli D.toDesc x = u at *
  have c0 := hg.c0
  have hgl := hg.lt
  clear hg
  obtain ⟨a, ha⟩ : ∃ a, a = rcode u := ⟨_, rfl⟩
  have hal : a < D.q := by rw [ha]; exact rcode_lt u
  rw [show ci u = (a : Int) by rw [ha]; rfl] at hix
  replace hix := Lib.hid hix
  have hal2 : a ≤ 255 := by omega
  replace ha := Lib.hid ha
  go_enter Try.func106, Try.ntmps106
  go_wp2_with (fail)
  refine hix.out.mono ?_
  rintro e w1 ⟨rfl, rfl⟩
  go_wp2_with (fail)
  go_loopw [1, 5, 6] (fun x s pl wr => ∃ k X S P : Nat, x = .int .i64 X ∧ s = .int .i64 S ∧ pl = .int .i64 P ∧ k ≤ D.m ∧ X ≤ 255 ∧ S ≤ 256 ∧ P ≤ 256 ∧
    Hid (X = a / D.p ^ k) ∧ Hid (S = nval D.p (di (-u)) k) ∧ Hid (P = D.p ^ k) ∧ Below w.heap.size w wr) (fun x _ _ _ => (intOf x).toNat)
  case atStart => exact ⟨0, a, 0, 1, rfl, rfl, rfl, by omega, by omega, by omega, by omega, by simp [Hid], rfl, by simp [Hid], Below.refl _ _⟩
  case round =>
    obtain ⟨k, X, S, P, rfl, rfl, rfl, hk, hX, hS, hP, hXe, hSe, hPe, hbw⟩ := hrel
    have c0' := (hbw.cell (p := ⟨g, 0, none⟩) hgl).trans c0
    by_cases hz : X = 0
    · subst hz
      have hfin : Hid ((S : Int) = ci (-u)) := by
        unfold Hid ci
        rw [hSe.out, neg_stop u hk (by rw [← ha.out]; exact hXe.out.symm)]
      go_wp2_with (fail)
      go_ret
      exact ⟨ret_int hfin.out, hbw⟩
    · have hkm : k < D.m := by
        rcases Nat.lt_or_ge k D.m with h | h
        · exact h
        · exfalso; apply hz
          rw [hXe.out, ha.out]
          exact div_pow_zero u h
      have hPk : D.p ^ (k + 1) ≤ 256 := Nat.le_trans (Nat.pow_le_pow_right (by omega) hkm) D.hq
      have hdig := neg_digit u hkm
      rw [← ha.out, ← hXe.out] at hdig
      have hnl := nval_lt (p := D.p) (m := k + 1) (f := di (-u)) (fun i _ => di_lt _ i)
      have hnS : nval D.p (di (-u)) (k + 1) = S + (D.p - X % D.p) % D.p * P := by
        show nval D.p (di (-u)) k + di (-u) k * D.p ^ k = _
        rw [hSe.out, hdig, hPe.out]
      have hPp : P * D.p = D.p ^ (k + 1) := by rw [hPe.out, Nat.pow_succ]
      have hXm := Nat.mod_lt X (show 0 < D.p by omega)
      have hXd := Nat.div_le_self X D.p
      obtain ⟨x', hx'⟩ : ∃ t, t = X % D.p := ⟨_, rfl⟩
      obtain ⟨z', hz'⟩ : ∃ t, t = (D.p - x') % D.p := ⟨_, rfl⟩
      obtain ⟨t', ht'⟩ : ∃ t, t = z' * P := ⟨_, rfl⟩
      obtain ⟨X2, hX2⟩ : ∃ t, t = X / D.p := ⟨_, rfl⟩
      obtain ⟨P2, hP2⟩ : ∃ t, t = P * D.p := ⟨_, rfl⟩
      have hX2e : Hid (X2 = a / D.p ^ (k + 1)) := by unfold Hid; rw [hX2, hXe.out, Nat.pow_succ, Nat.div_div_eq_div_mul]
      rw [← hx', ← hz', ← ht'] at hnS
      rw [← hP2] at hPp
      have hSn : S + t' ≤ 256 := by rw [← hnS]; omega
      have hP2n : P2 ≤ 256 := by rw [hPp]; exact hPk
      have hX2n : X2 ≤ X := by rw [hX2]; exact hXd
      have hmx : X2 < X := by rw [hX2]; exact Nat.div_lt_self (by omega) (by omega)
      have hx'p : x' < D.p := by rw [hx']; exact hXm
      have ee1 : (X : Int) % (D.p : Int) = (x' : Int) := by rw [hx']; rfl
      have ee3 : ((D.p : Int) - (x' : Int)) % (D.p : Int) = (z' : Int) := by rw [hz', show ((D.p : Int) - (x' : Int)) = ((D.p - x' : Nat) : Int) by omega]; rfl
      have ee4 : (z' : Int) * (P : Int) = (t' : Int) := by rw [ht', Int.natCast_mul]
      have ee5 : (P : Int) * (D.p : Int) = (P2 : Int) := by rw [hP2, Int.natCast_mul]
      have ee6 : (X : Int) / (D.p : Int) = (X2 : Int) := by rw [hX2]; rfl
      have hSH : Hid (S + t' = nval D.p (di (-u)) (k + 1)) := hnS.symm
      have hPH : Hid (P2 = D.p ^ (k + 1)) := hPp
      replace ee1 := Lib.hid ee1; replace ee3 := Lib.hid ee3; replace ee4 := Lib.hid ee4; replace ee5 := Lib.hid ee5; replace ee6 := Lib.hid ee6
      clear hx' hz' ht' hX2 hP2 hnS hPp hdig hnl hXm hXd hPk
      have hpos : 0 < X := by omega
      go_wp2_with (fail)
      have hp0 : ¬ D.p = 0 := by omega
      have f1 : (X : Int).tmod (D.p : Int) = (x' : Int) := (Int.tmod_eq_emod_of_nonneg (by omega)).trans ee1.out
      have f3 : IntKind.i64.wrap ((D.p : Int) - (x' : Int)) = (D.p : Int) - (x' : Int) := IntWalk.i64_in _ (by omega)
      have f4 : ((D.p : Int) - (x' : Int)).tmod (D.p : Int) = (z' : Int) := (Int.tmod_eq_emod_of_nonneg (by omega)).trans ee3.out
      have f6 : IntKind.i64.wrap (t' : Int) = (t' : Int) := IntWalk.i64_in _ (by omega)
      have f7 : IntKind.i64.wrap ((S : Int) + (t' : Int)) = (S : Int) + (t' : Int) := IntWalk.i64_in _ (by omega)
      have f5 := ee4.out
      go_quiet (fail)
      clear f1 f3 f4 f5 f6 f7
      have g5 := ee5.out
      have g6 := ee6.out
      go_wp2_with (fail)
      clear g5 g6
      go_roundw
      case rel => exact ⟨k + 1, X2, S + t', P2, rfl, by go_num, rfl, by omega, by omega, by omega, by omega, hX2e, hSH, hPH, below_drewN' hbw _⟩
      case measure => simp [intOf]; omega

set_option maxHeartbeats 1000000 in
theorem gSub_any (D : FD) (x y : Int) (g : Nat) (w : World) (hg : GF w w.heap.size g D) :
    Calls Try.prog 68 #[.pointer (some ⟨g, 0, none⟩), .int .i64 x, .int .i64 y] w fun e w' => e = .returned (.int .i64 (ci (eli D.toDesc x - eli D.toDesc y))) ∧ Below w.heap.size w w' := by
  have hN := fun W h => Lib.hid (gNeg_any D y g W h)
  have hA := fun W h => (gAdd_any D x (ci (-(eli D.toDesc y))) g W h)
  rw [eli_ci] at hA
  replace hA := fun W h => Lib.hid (hA W h)
  have hs : Hid (ci (eli D.toDesc x + -(eli D.toDesc y)) = ci (eli D.toDesc x - eli D.toDesc y)) := by unfold Hid; first | rfl | rw [sub_eq]
  go_enter Try.func68, Try.ntmps68
  go_wp2_with (fail)
  (with_reducible refine (hN _ hg).out.mono ?_)
  rintro e w1 ⟨rfl, hb1⟩
  go_wp2_with (fail)
  (with_reducible refine (hA _ ((hg.below hb1).more hb1.size)).out.mono ?_)
  rintro e w2 ⟨rfl, hb2⟩
  go_wp2_with (fail)
  go_ret
  exact ⟨by rw [← hs.out]; rfl, hb1.trans (hb2.mono hb1.size)⟩
end Go.Proofs.Ytnbkmkeiophjoaa
