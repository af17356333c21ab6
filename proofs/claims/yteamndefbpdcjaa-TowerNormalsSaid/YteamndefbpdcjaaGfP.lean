/- The program's Pow. -/
import Derived.Test.YteamndefbpdcjaaGA
namespace Go.Proofs.Yteamndefbpdcjaa
open Go.RowKit Cw

set_option maxHeartbeats 2000000 in
theorem gPow_any (D : FD) (x : Int) (n : Nat) (g : Nat) (w : World) (hg : GF w w.heap.size g D) (hn1 : 1 ≤ n) (hn2 : n ≤ 65536) :
    Calls Try.prog 60 #[.pointer (some ⟨g, 0, none⟩), .int .i64 x, .int .i64 n] w fun e w' => e = .returned (.tuple #[.int .i64 (ci (pw (eli D.toDesc x) n)), .int .i64 0]) ∧ Below w.heap.size w w' := by
  have hq2 := D.q2; have hq3 := D.q256
  have hix := gin_any D x g w hg
  generalize eli D.toDesc x = u at *
  replace hix := Lib.hid hix
  have c3 := hg.c3
  obtain ⟨Ae, ce, c4, re⟩ := hg.ex
  obtain ⟨Al, cl, c5, rl⟩ := hg.lo
  clear hg
  have hu0 := ci_nonneg u; have hu1 := ci_lt u
  have hnb : ((n : Int) == 0) = false := by rw [beq_eq_false_iff_ne]; omega
  by_cases hu : u = 0
  · have hb : (ci u == 0) = true := by rw [beq_iff_eq]; exact ci_eq_zero.2 hu
    have hfin : Hid (ci (pw u n) = 0) := by unfold Hid; rw [hu, zero_pw (by omega), ci_zero]
    clear hu
    go_enter Try.func60, Try.ntmps60
    go_wp2_with (fail)
    refine hix.out.mono ?_
    rintro e w1 ⟨rfl, rfl⟩
    go_wp2_with (fail)
    go_ret2
    exact ⟨by rw [hfin.out]; rfl, Below.refl _ _⟩
  · have hb : (ci u == 0) = false := by rw [beq_eq_false_iff_ne]; exact fun h => hu (ci_eq_zero.1 h)
    obtain ⟨a, ha⟩ := Int.eq_ofNat_of_zero_le hu0
    have ha2 : a < D.q := by omega
    have har : rel D.toDesc a = u := by rw [← rel_rcode u]; congr 1; unfold ci at ha; omega
    have hll : (lgl D).length = D.q := lst_length _ _
    obtain ⟨bl, ol, rfl, hbl, hcl⟩ := rl (by rw [hll]; omega)
    have hea : (expl D).length = D.q - 1 := lst_length _ _
    obtain ⟨be, oe, rfl, hbe, hce⟩ := re (by rw [hea]; omega)
    have hla := hcl a (by rw [hll]; exact ha2)
    rw [show (lgl D)[a]?.getD 0 = (lg D u : Nat) by unfold lgl; rw [lst_get _ ha2, har]] at hla
    obtain ⟨i, hi⟩ : ∃ i, i = lg D u := ⟨_, rfl⟩
    have hil : i < D.q - 1 := by rw [hi]; exact lg_lt _ _
    rw [← hi] at hla
    obtain ⟨k, hk⟩ : ∃ k, D.q = k + 1 := ⟨D.q - 1, by omega⟩
    have hk1 : 1 ≤ k := by omega
    have hk2 : k ≤ 255 := by omega
    obtain ⟨r, hr⟩ : ∃ r, r = n % k := ⟨_, rfl⟩
    have hrk : r < k := by rw [hr]; exact Nat.mod_lt _ (by omega)
    obtain ⟨t, ht⟩ : ∃ t, t = i * r := ⟨_, rfl⟩
    have htb : t ≤ 65536 := by rw [ht]; exact Nat.mul_le_mul (show i ≤ 256 by omega) (show r ≤ 256 by omega)
    obtain ⟨z, hz⟩ : ∃ z, z = t % k := ⟨_, rfl⟩
    have hzk : z < k := by rw [hz]; exact Nat.mod_lt _ (by omega)
    have hex := hce z (by rw [hea]; omega)
    rw [show (expl D)[z]?.getD 0 = ci (pw D.g z) from lst_get _ (by omega)] at hex
    have hkq : D.q - 1 = k := by omega
    have hpw : pw D.g z = pw u n := by
      have h1 := pw_gen_mod (F := R D.toDesc) t
      have h2 : pw D.g z = pw D.g t := by rw [hz, ← hkq]; exact h1
      have h3 := pw_mod (F := R D.toDesc) hu n
      have h4 : pw u r = pw u n := by rw [hr, ← hkq]; exact h3
      rw [h2, ht, pw_mul, hi, pw_lg D hu, h4]
    rw [hpw] at hex
    rw [ha] at hb hix
    rw [hkq] at c4
    rw [hk] at c3 c5
    have ee1 : Hid ((n : Int) % (k : Int) = (r : Int)) := by unfold Hid; rw [hr]; rfl
    have ee2 : Hid (((r : Int) + (k : Int)) % (k : Int) = (r : Int)) := by
      unfold Hid; rw [Int.add_emod_right]; exact Int.emod_eq_of_lt (by omega) (by omega)
    have ee3 : Hid ((i : Int) * (r : Int) = (t : Int)) := by unfold Hid; rw [ht, Int.natCast_mul]
    have ee4 : Hid ((t : Int) % (k : Int) = (z : Int)) := by unfold Hid; rw [hz]; rfl
    have ha3 : a < k + 1 := by omega
    have hik : i < k := by omega
    clear hcl hce ha hi har hpw hu hea hll hkq hr ht hz hk hq2 hq3 hu0 hu1 ha2 hil
    have ee1' := ee1.out
    have ee2' := ee2.out
    go_enter Try.func60, Try.ntmps60
    go_wp2_with (fail)
    refine hix.out.mono ?_
    rintro e w1 ⟨rfl, rfl⟩
    go_wp2_with (fail)
    clear ee1' ee2'
    rw [ee2.out]
    have i1 : (a : Int) < (k : Int) + 1 := by omega
    have i3 : (0 : Int) ≤ (t : Int) := by omega
    have i4 : (z : Int) < (k : Int) := by omega
    have hk0 : ¬ k = 0 := by omega
    have e1 := ee3.out
    have e2 : IntKind.i64.wrap (t : Int) = (t : Int) := IntWalk.i64_in _ (by omega)
    have e3 : (t : Int).tmod (k : Int) = (z : Int) := (Int.tmod_eq_emod_of_nonneg i3).trans ee4.out
    go_quiet (fail)
    clear e1 e2 e3
    go_wp2_with (fail)
    go_ret2
    exact ⟨rfl, below_drewN' (Below.refl _ _) _⟩
end Go.Proofs.Yteamndefbpdcjaa
