/- The program's Pow. Layer 7 of the reference: Frobenius, Divides, In. The reference of layer 7: Trace, Norm, Subfield, Conjugates. Layer 7 of the program: prime, isDegree, Frobenius, Degree. -/
import Derived.Deep.Onto
import Derived.Test.YtakonlfojblcmaaZaRF
import Derived.Test.YtakonlfojblcmaaZaGA
import Derived.Test.YtakonlfojblcmaaZaOnce
namespace Go.Proofs.Ytakonlfojblcmaa
open Go.RowKit Cw

set_option maxHeartbeats 2000000 in
theorem gPow_any (D : FD) (x : Int) (n : Nat) (g : Nat) (w : World) (hg : GF w w.heap.size g D) (hn1 : 1 ≤ n) (hn2 : n ≤ 65536) :
    Calls Try.prog 134 #[.pointer (some ⟨g, 0, none⟩), .int .i64 x, .int .i64 n] w fun e w' => e = .returned (.tuple #[.int .i64 (ci (pw (eli D.toDesc x) n)), .int .i64 0]) ∧ Below w.heap.size w w' := by
  have hq2 := D.q2; have hq3 := D.q256
  have hix := gin_any D x g w hg
  generalize eli D.toDesc x = u at *
  replace hix := Lib.hid hix
  have c3 := hg.c3
  obtain ⟨Ae, ce, c4, re⟩ := hg.ex
  obtain ⟨Al, cl, c5, rl⟩ := hg.lo
  clear hg
  have hu0 := ci_nonneg u; have hu1 := ci_lt u
  have hnb : ((n : Int) == 0) = false := by rw [beq_eq_false_iff_ne]; omega
  by_cases hu : u = 0
  · have hb : (ci u == 0) = true := by rw [beq_iff_eq]; exact ci_eq_zero.2 hu
    have hfin : Hid (ci (pw u n) = 0) := by unfold Hid; rw [hu, zero_pw (by omega), ci_zero]
    clear hu
    go_enter Try.func134, Try.ntmps134
    go_wp2_with (fail)
    refine hix.out.mono ?_
    rintro e w1 ⟨rfl, rfl⟩
    go_wp2_with (fail)
    go_ret2
    exact ⟨by rw [hfin.out]; rfl, Below.refl _ _⟩
  · have hb : (ci u == 0) = false := by rw [beq_eq_false_iff_ne]; exact fun h => hu (ci_eq_zero.1 h)
    obtain ⟨a, ha⟩ := Int.eq_ofNat_of_zero_le hu0
    have ha2 : a < D.q := by omega
    have har : rel D.toDesc a = u := by rw [← rel_rcode u]; congr 1; unfold ci at ha; omega
    have hll : (lgl D).length = D.q := lst_length _ _
    obtain ⟨bl, ol, rfl, hbl, hcl⟩ := rl (by rw [hll]; omega)
    have hea : (expl D).length = D.q - 1 := lst_length _ _
    obtain ⟨be, oe, rfl, hbe, hce⟩ := re (by rw [hea]; omega)
    have hla := hcl a (by rw [hll]; exact ha2)
    rw [show (lgl D)[a]?.getD 0 = (lg D u : Nat) by unfold lgl; rw [lst_get _ ha2, har]] at hla
    obtain ⟨i, hi⟩ : ∃ i, i = lg D u := ⟨_, rfl⟩
    have hil : i < D.q - 1 := by rw [hi]; exact lg_lt _ _
    rw [← hi] at hla
    obtain ⟨k, hk⟩ : ∃ k, D.q = k + 1 := ⟨D.q - 1, by omega⟩
    have hk1 : 1 ≤ k := by omega
    have hk2 : k ≤ 255 := by omega
    obtain ⟨r, hr⟩ : ∃ r, r = n % k := ⟨_, rfl⟩
    have hrk : r < k := by rw [hr]; exact Nat.mod_lt _ (by omega)
    obtain ⟨t, ht⟩ : ∃ t, t = i * r := ⟨_, rfl⟩
    have htb : t ≤ 65536 := by rw [ht]; exact Nat.mul_le_mul (show i ≤ 256 by omega) (show r ≤ 256 by omega)
    obtain ⟨z, hz⟩ : ∃ z, z = t % k := ⟨_, rfl⟩
    have hzk : z < k := by rw [hz]; exact Nat.mod_lt _ (by omega)
    have hex := hce z (by rw [hea]; omega)
    rw [show (expl D)[z]?.getD 0 = ci (pw D.g z) from lst_get _ (by omega)] at hex
    have hkq : D.q - 1 = k := by omega
    have hpw : pw D.g z = pw u n := by
      have h1 := pw_gen_mod (F := R D.toDesc) t
      have h2 : pw D.g z = pw D.g t := by rw [hz, ← hkq]; exact h1
      have h3 := pw_mod (F := R D.toDesc) hu n
      have h4 : pw u r = pw u n := by rw [hr, ← hkq]; exact h3
      rw [h2, ht, pw_mul, hi, pw_lg D hu, h4]
    rw [hpw] at hex
    rw [ha] at hb hix
    rw [hkq] at c4
    rw [hk] at c3 c5
    have ee1 : Hid ((n : Int) % (k : Int) = (r : Int)) := by unfold Hid; rw [hr]; rfl
    have ee2 : Hid (((r : Int) + (k : Int)) % (k : Int) = (r : Int)) := by
      unfold Hid; rw [Int.add_emod_right]; exact Int.emod_eq_of_lt (by omega) (by omega)
    have ee3 : Hid ((i : Int) * (r : Int) = (t : Int)) := by unfold Hid; rw [ht, Int.natCast_mul]
    have ee4 : Hid ((t : Int) % (k : Int) = (z : Int)) := by unfold Hid; rw [hz]; rfl
    have ha3 : a < k + 1 := by omega
    have hik : i < k := by omega
    clear hcl hce ha hi har hpw hu hea hll hkq hr ht hz hk hq2 hq3 hu0 hu1 ha2 hil
    have ee1' := ee1.out
    have ee2' := ee2.out
    go_enter Try.func134, Try.ntmps134
    go_wp2_with (fail)
    refine hix.out.mono ?_
    rintro e w1 ⟨rfl, rfl⟩
    go_wp2_with (fail)
    clear ee1' ee2'
    rw [ee2.out]
    have i1 : (a : Int) < (k : Int) + 1 := by omega
    have i3 : (0 : Int) ≤ (t : Int) := by omega
    have i4 : (z : Int) < (k : Int) := by omega
    have hk0 : ¬ k = 0 := by omega
    have e1 := ee3.out
    have e2 : IntKind.i64.wrap (t : Int) = (t : Int) := IntWalk.i64_in _ (by omega)
    have e3 : (t : Int).tmod (k : Int) = (z : Int) := (Int.tmod_eq_emod_of_nonneg i3).trans ee4.out
    go_quiet (fail)
    clear e1 e2 e3
    go_wp2_with (fail)
    go_ret2
    exact ⟨rfl, below_drewN' (Below.refl _ _) _⟩
end Go.Proofs.Ytakonlfojblcmaa

namespace Go.Proofs.Ytakonlfojblcmaa
open Go.RowKit Cw
/-- Is d a degree? -/
def divB (m : Nat) (d : Int) : Bool := decide (1 ≤ d ∧ d ≤ (m : Int) ∧ (m : Int) % d = 0)
theorem divB_nat {m : Nat} {d : Int} (h : divB m d = true) : ∃ k : Nat, d = k ∧ 1 ≤ k ∧ k ≤ m ∧ k ∣ m := by
  have h := of_decide_eq_true h
  obtain ⟨k, rfl⟩ := Int.eq_ofNat_of_zero_le (show 0 ≤ d by omega)
  refine ⟨k, rfl, by omega, by omega, ?_⟩
  exact Int.natCast_dvd_natCast.1 (Int.dvd_of_emod_eq_zero h.2.2)
theorem divB_of {m k : Nat} (h1 : 1 ≤ k) (h2 : k ∣ m) (hm : 1 ≤ m) : divB m k = true :=
  decide_eq_true ⟨by omega, by have := Nat.le_of_dvd hm h2; omega, Int.emod_eq_zero_of_dvd (Int.natCast_dvd_natCast.2 h2)⟩

end Go.Proofs.Ytakonlfojblcmaa

namespace Go.Proofs.Ytakonlfojblcmaa
open Go.RowKit Cw
open Cw.CField (inv)

noncomputable def frobs {D : FD} (d : Nat) (u : R D.toDesc) (n : Nat) : List Int := lst n fun i => ci (frob (d * i) u)

end Go.Proofs.Ytakonlfojblcmaa

namespace Go.Proofs.Ytakonlfojblcmaa
open Go.RowKit Cw

set_option maxHeartbeats 1000000 in
theorem tprime_any (D : FD) (g : Nat) (w : World) (hg : GF w w.heap.size g D) :
    Calls Try.prog 118 #[.pointer (some ⟨g, 0, none⟩)] w fun e w' => e = .returned (.tuple #[.int .i64 D.p, .int .i64 D.m]) ∧ Below w.heap.size w w' := by
  have hF := Lib.hid (gField_any D g w hg)
  clear hg
  go_enter Try.func118, Try.ntmps118
  go_wp2_with (fail)
  refine hF.out.mono ?_
  rintro e w1 ⟨A3, c3, rfl, hr, hA, hb1⟩
  have hs1 := hb1.size
  go_wp2_with (fail)
  go_quiet (fail)
  go_wp2_with (fail)
  go_ret2
  exact ⟨rfl, below_drewN' (hb1.alloc hs1 _) _⟩

set_option maxHeartbeats 1000000 in
theorem isDegree_any (D : FD) (d : Int) (g : Nat) (w : World) (hg : GF w w.heap.size g D) :
    Calls Try.prog 119 #[.pointer (some ⟨g, 0, none⟩), .int .i64 d] w fun e w' => e = .returned (.bool (divB D.m d)) ∧ Below w.heap.size w w' := by
  have hp2 := D.m8
  have hP := Lib.hid (tprime_any D g w hg)
  clear hg
  by_cases h1 : 1 ≤ d
  · by_cases h2 : d ≤ D.m
    · by_cases h3 : (D.m : Int) % d = 0
      · have hb : ((D.m : Int) % d == 0) = true := beq_iff_eq.2 h3
        have hfin : Hid (divB D.m d = true) := decide_eq_true ⟨h1, h2, h3⟩
        clear h3
        go_enter Try.func119, Try.ntmps119
        go_wp2_with (go_at_call 118; refine hP.out.mono ?_; rintro e w1 ⟨rfl, hb1⟩)
        go_ret
        exact ⟨ret_bool hfin.out.symm, hb1⟩
      · have hb : ((D.m : Int) % d == 0) = false := beq_eq_false_iff_ne.2 h3
        have hfin : Hid (divB D.m d = false) := decide_eq_false fun h => h3 h.2.2
        clear h3
        go_enter Try.func119, Try.ntmps119
        go_wp2_with (go_at_call 118; refine hP.out.mono ?_; rintro e w1 ⟨rfl, hb1⟩)
        go_ret
        exact ⟨ret_bool hfin.out.symm, hb1⟩
    · have hfin : Hid (divB D.m d = false) := decide_eq_false fun h => h2 h.2.1
      go_enter Try.func119, Try.ntmps119
      go_wp2_with (go_at_call 118; refine hP.out.mono ?_; rintro e w1 ⟨rfl, hb1⟩)
      go_ret
      exact ⟨ret_bool hfin.out.symm, hb1⟩
  · have hfin : Hid (divB D.m d = false) := decide_eq_false fun h => h1 h.1
    go_enter Try.func119, Try.ntmps119
    go_wp2_with (go_at_call 118; refine hP.out.mono ?_; rintro e w1 ⟨rfl, hb1⟩)
    go_ret
    exact ⟨ret_bool hfin.out.symm, hb1⟩

/-- The exponent k modulo M. -/
def kmod (m : Nat) (k : Int) : Nat := (k % (m : Int)).toNat
theorem kmod_eq {m : Nat} (hm : 1 ≤ m) (k : Int) : (k.tmod m + m).tmod m = (kmod m k : Int) := by
  have h1 : (0 : Int) < m := by omega
  have h2 := Int.emod_nonneg k (show (m : Int) ≠ 0 by omega)
  have h3 := Int.emod_lt_of_pos k h1
  have e : (kmod m k : Int) = k % (m : Int) := Int.toNat_of_nonneg h2
  rw [e]
  have h5 := Int.lt_tmod_of_pos k h1
  rw [Int.tmod_eq_emod_of_nonneg (by omega), Int.add_emod_right]
  rw [Int.tmod_eq_emod]
  split <;> simp

set_option maxHeartbeats 1000000 in
theorem tFrob_any (D : FD) (x k : Int) (g : Nat) (w : World) (hg : GF w w.heap.size g D) (_hk1 : -9223372036854775808 ≤ k) (_hk2 : k ≤ 9223372036854775807) :
    Calls Try.prog 125 #[.pointer (some ⟨g, 0, none⟩), .int .i64 x, .int .i64 k] w fun e w' => e = .returned (.int .i64 (ci (frob (kmod D.m k) (eli D.toDesc x)))) ∧ Below w.heap.size w w' := by
  have hp2 := D.m8; have hm1 := D.m1; have hpp := D.p2; have hp3 := D.p256
  have hP := Lib.hid (tprime_any D g w hg)
  have hkm := kmod_eq hm1 k
  have hkl : kmod D.m k ≤ 8 := by
    have h3 := Int.emod_lt_of_pos k (show (0 : Int) < D.m by omega)
    unfold kmod; omega
  have hW := fun y W hg => Lib.hid (gPow_any D y D.p g W hg (by omega) (by omega))
  have hA := fun y W hg => Lib.hid (gAdd_any D y 0 g W hg)
  have htl := Int.lt_tmod_of_pos k (show (0 : Int) < D.m by omega)
  have htu : k.tmod D.m < D.m := Int.tmod_lt_of_pos k (by omega)
  generalize kmod D.m k = K at *
  go_enter Try.func125, Try.ntmps125
  go_wp2_with (fail)
  refine hP.out.mono ?_
  rintro e w1 ⟨rfl, hb1⟩
  go_wp2_with (fail)

  have hs1 := hb1.size
  have hg1 := (hg.below hb1).more hs1
  replace hkm := Lib.hid hkm
  clear htl htu hP
  go_loopw [1, 21, 23] (fun y i _ wr => ∃ j : Nat, ∃ z : Int, j ≤ K ∧ i = .int .i64 j ∧ y = .int .i64 z ∧ Hid (eli D.toDesc z = frob j (eli D.toDesc x)) ∧ Below w.heap.size w wr ∧ Hid (GF wr wr.heap.size g D)) (fun _ i _ _ => K - (intOf i).toNat)
  case atStart => exact ⟨0, x, by omega, rfl, rfl, (frob_zero_k _).symm, hb1, hg1⟩
  case round =>
    obtain ⟨j, z, hj, rfl, rfl, hz, hbw, hgr⟩ := hrel
    by_cases hlt : j < K
    · have hW2 := Lib.hid (hW z wr hgr.out).out
      have hz2 : Hid (eli D.toDesc (ci (pw (eli D.toDesc z) D.p)) = frob (j + 1) (eli D.toDesc x)) := by
        unfold Hid; rw [eli_ci, hz.out]; exact (frob_succ j _).symm
      go_wp2_with (fail)
      refine hW2.out.mono ?_
      rintro e w2 ⟨rfl, hb2⟩
      go_wp2_with (fail)
      go_roundw
      case rel => exact ⟨j + 1, _, by omega, by go_num, rfl, hz2, hbw.trans (hb2.mono hbw.size), (hgr.out.below hb2).more hb2.size⟩
      case measure => simp [intOf]; omega
    · obtain rfl : j = K := by omega
      have hA2 := Lib.hid (hA z wr hgr.out).out
      have hfin : Hid (ci (eli D.toDesc z + eli D.toDesc 0) = ci (frob j (eli D.toDesc x))) := by
        unfold Hid; rw [eli_zero, add_zero, hz.out]
      go_wp2_with (fail)
      refine hA2.out.mono ?_
      rintro e w2 ⟨rfl, hb2⟩
      go_wp2_with (fail)
      go_ret
      exact ⟨ret_int hfin.out, hbw.trans (hb2.mono hbw.size)⟩
end Go.Proofs.Ytakonlfojblcmaa
