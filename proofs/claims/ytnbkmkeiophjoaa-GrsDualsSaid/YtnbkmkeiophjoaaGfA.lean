/- The program's arithmetic of a field: Is, in, Add, Mul, Pow. -/
import Derived.Test.YtnbkmkeiophjoaaP4
import Derived.Test.YtnbkmkeiophjoaaP1
namespace Go.Proofs.Ytnbkmkeiophjoaa
open Go.RowKit Cw

set_option maxHeartbeats 1000000 in
theorem gIs_any (D : FD) (x : Int) (g : Nat) (w : World) (hg : GF w w.heap.size g D) :
    Calls Try.prog 84 #[.pointer (some ⟨g, 0, none⟩), .int .i64 x] w fun e w' => e = .returned (.bool (decide (0 ≤ x ∧ x < D.q))) ∧ w = w' := by
  have hq2 := D.q256
  have c3 := hg.c3
  by_cases h0 : 0 ≤ x
  · by_cases h1 : x < D.q
    · have hfin := Lib.hid (decide_eq_true (p := 0 ≤ x ∧ x < D.q) ⟨h0, h1⟩)
      go_enter Try.func84, Try.ntmps84
      go_wp2_with (fail)
      go_ret
      exact ⟨ret_bool (by simp; omega), rfl⟩
    · have hfin := Lib.hid (decide_eq_false (p := 0 ≤ x ∧ x < D.q) fun h => h1 h.2)
      go_enter Try.func84, Try.ntmps84
      go_wp2_with (fail)
      go_ret
      exact ⟨ret_bool (by simp; omega), rfl⟩
  · have hfin := Lib.hid (decide_eq_false (p := 0 ≤ x ∧ x < D.q) fun h => h0 h.1)
    go_enter Try.func84, Try.ntmps84
    go_wp2_with (fail)
    go_ret
    exact ⟨ret_bool (by simp; omega), rfl⟩

set_option maxHeartbeats 400000 in
theorem gin_any (D : FD) (x : Int) (g : Nat) (w : World) (hg : GF w w.heap.size g D) :
    Calls Try.prog 105 #[.pointer (some ⟨g, 0, none⟩), .int .i64 x] w fun e w' => e = .returned (.int .i64 (ci (eli D.toDesc x))) ∧ w = w' := by
  have hI := Lib.hid (gIs_any D x g w hg)
  have he := Lib.hid (ci_eli (D := D.toDesc) x)
  clear hg
  by_cases h : 0 ≤ x ∧ x < D.q
  · have hd := Lib.hid (decide_eq_true h)
    go_enter Try.func105, Try.ntmps105
    go_wp2_with (go_at_call 84; refine hI.out.mono ?_; rw [hd.out]; rintro e w1 ⟨rfl, rfl⟩)
    go_ret
    exact ⟨ret_int (by rw [he.out, if_pos h]), rfl⟩
  · have hd := Lib.hid (decide_eq_false h)
    go_enter Try.func105, Try.ntmps105
    go_wp2_with (go_at_call 84; refine hI.out.mono ?_; rw [hd.out]; rintro e w1 ⟨rfl, rfl⟩)
    go_ret
    exact ⟨ret_int (by rw [he.out, if_neg h]), rfl⟩

set_option maxHeartbeats 2000000 in
theorem gMul_any (D : FD) (x y : Int) (g : Nat) (w : World) (hg : GF w w.heap.size g D) :
    Calls Try.prog 67 #[.pointer (some ⟨g, 0, none⟩), .int .i64 x, .int .i64 y] w fun e w' => e = .returned (.int .i64 (ci (eli D.toDesc x * eli D.toDesc y))) ∧ Below w.heap.size w w' := by
  have hq2 := D.q2; have hq3 := D.q256
  have hix := gin_any D x g w hg
  have hiy := gin_any D y g w hg
  generalize eli D.toDesc x = u at *
  generalize eli D.toDesc y = v at *
  replace hix := Lib.hid hix
  replace hiy := Lib.hid hiy
  have c3 := hg.c3
  obtain ⟨Ae, ce, c4, re⟩ := hg.ex
  obtain ⟨Al, cl, c5, rl⟩ := hg.lo
  clear hg
  have hu0 := ci_nonneg u; have hu1 := ci_lt u
  have hv0 := ci_nonneg v; have hv1 := ci_lt v
  by_cases hu : u = 0
  · have hb : (ci u == 0) = true := by rw [beq_iff_eq]; exact ci_eq_zero.2 hu
    have hfin : Hid (ci (u * v) = 0) := by unfold Hid; rw [hu, zero_mul, ci_zero]
    clear hu
    go_enter Try.func67, Try.ntmps67
    go_wp2_with (fail)
    refine hix.out.mono ?_
    rintro e w1 ⟨rfl, rfl⟩
    go_wp2_with (fail)
    refine hiy.out.mono ?_
    rintro e w1 ⟨rfl, rfl⟩
    go_wp2_with (fail)
    go_ret
    exact ⟨ret_int hfin.out.symm, Below.refl _ _⟩
  · by_cases hv : v = 0
    · have hb : (ci u == 0) = false := by rw [beq_eq_false_iff_ne]; exact fun h => hu (ci_eq_zero.1 h)
      have hb2 : (ci v == 0) = true := by rw [beq_iff_eq]; exact ci_eq_zero.2 hv
      have hfin : Hid (ci (u * v) = 0) := by unfold Hid; rw [hv, mul_zero, ci_zero]
      clear hu hv
      go_enter Try.func67, Try.ntmps67
      go_wp2_with (fail)
      refine hix.out.mono ?_
      rintro e w1 ⟨rfl, rfl⟩
      go_wp2_with (fail)
      refine hiy.out.mono ?_
      rintro e w1 ⟨rfl, rfl⟩
      go_wp2_with (fail)
      go_ret
      exact ⟨ret_int hfin.out.symm, Below.refl _ _⟩
    · have hb : (ci u == 0) = false := by rw [beq_eq_false_iff_ne]; exact fun h => hu (ci_eq_zero.1 h)
      have hb2 : (ci v == 0) = false := by rw [beq_eq_false_iff_ne]; exact fun h => hv (ci_eq_zero.1 h)
      obtain ⟨a, ha⟩ := Int.eq_ofNat_of_zero_le hu0
      obtain ⟨b, hb'⟩ := Int.eq_ofNat_of_zero_le hv0
      have ha2 : a < D.q := by omega
      have hb3 : b < D.q := by omega
      have har : rel D.toDesc a = u := by rw [← rel_rcode u]; congr 1; unfold ci at ha; omega
      have hbr : rel D.toDesc b = v := by rw [← rel_rcode v]; congr 1; unfold ci at hb'; omega
      have hll : (lgl D).length = D.q := lst_length _ _
      obtain ⟨bl, ol, rfl, hbl, hcl⟩ := rl (by rw [hll]; omega)
      have hea : (expl D).length = D.q - 1 := lst_length _ _
      obtain ⟨be, oe, rfl, hbe, hce⟩ := re (by rw [hea]; omega)
      have hla := hcl a (by rw [hll]; exact ha2)
      have hlb := hcl b (by rw [hll]; exact hb3)
      rw [show (lgl D)[a]?.getD 0 = (lg D u : Nat) by unfold lgl; rw [lst_get _ ha2, har]] at hla
      rw [show (lgl D)[b]?.getD 0 = (lg D v : Nat) by unfold lgl; rw [lst_get _ hb3, hbr]] at hlb
      obtain ⟨i, hi⟩ : ∃ i, i = lg D u := ⟨_, rfl⟩
      obtain ⟨j, hj⟩ : ∃ j, j = lg D v := ⟨_, rfl⟩
      have hil : i < D.q - 1 := by rw [hi]; exact lg_lt _ _
      have hjl : j < D.q - 1 := by rw [hj]; exact lg_lt _ _
      rw [← hi] at hla
      rw [← hj] at hlb
      obtain ⟨k, hk⟩ : ∃ k, D.q = k + 1 := ⟨D.q - 1, by omega⟩
      have hkm : (i + j) % k < k := Nat.mod_lt _ (by omega)
      have hex := hce ((i + j) % k) (by rw [hea]; omega)
      rw [show (expl D)[(i + j) % k]?.getD 0 = ci (pw D.g ((i + j) % k)) from lst_get _ (by omega)] at hex
      have hprod : pw D.g ((i + j) % k) = u * v := by
        rw [show k = D.q - 1 by omega]
        have h := pw_gen_mod (F := R D.toDesc) (i + j)
        refine (h : pw D.g ((i + j) % (D.q - 1)) = pw D.g (i + j)).trans ?_
        have h3 : pw D.g (lg D u) * pw D.g (lg D v) = u * v := by rw [pw_lg D hu, pw_lg D hv]
        rw [pw_add, hi, hj]; exact h3
      rw [hprod] at hex
      rw [ha] at hb hix
      rw [hb'] at hb2 hiy
      have hkq : D.q - 1 = k := by omega
      rw [hkq] at c4
      rw [hk] at c3 c5
      have hme : ((i : Int) + (j : Int)) % (k : Int) = (((i + j) % k : Nat) : Int) := by rw [Int.natCast_emod, Int.natCast_add]
      clear hcl hce ha hb' hi hj har hbr hprod hu hv hea hll hkq
      obtain ⟨z, hz⟩ : ∃ z, z = (i + j) % k := ⟨_, rfl⟩
      rw [← hz] at hme hex hkm
      replace hme := Lib.hid hme
      clear hz
      have hk1 : 1 ≤ k := by omega
      have hk2 : k ≤ 255 := by omega
      have ha3 : a < k + 1 := by omega
      have hb4 : b < k + 1 := by omega
      have hi2 : i < k := by omega
      have hj2 : j < k := by omega
      clear hk hq2 hq3 hu0 hu1 hv0 hv1 ha2 hb3 hil hjl
      go_enter Try.func67, Try.ntmps67
      go_wp2_with (fail)
      refine hix.out.mono ?_
      rintro e w1 ⟨rfl, rfl⟩
      go_wp2_with (fail)
      refine hiy.out.mono ?_
      rintro e w1 ⟨rfl, rfl⟩
      go_wp2_with (fail)
      have hme2 := hme.out
      have i1 : (a : Int) < (k : Int) + 1 := by omega
      have i2 : (b : Int) < (k : Int) + 1 := by omega
      have i3 : (0 : Int) ≤ (i : Int) + (j : Int) := by omega
      have i4 : (z : Int) < (k : Int) := by omega
      have hk0 : ¬ k = 0 := by omega
      have e1 : IntKind.i64.wrap ((i : Int) + (j : Int)) = (i : Int) + (j : Int) := IntWalk.i64_in _ (by omega)
      have e2 : IntKind.i64.wrap (k : Int) = (k : Int) := IntWalk.i64_in _ (by omega)
      have e3 : ((i : Int) + (j : Int)).tmod (k : Int) = (z : Int) := (Int.tmod_eq_emod_of_nonneg i3).trans hme2
      clear hme2
      go_quiet (fail)
      clear e1 e2 e3
      go_wp2_with (fail)
      go_ret
      exact ⟨rfl, below_drewN' (Below.refl _ _) _⟩
end Go.Proofs.Ytnbkmkeiophjoaa
