/- Plain algebra: a residue ring with a primitive element as a finite field; ints as elements. No Go here. -/
import Derived.Test.YtnbkmkeiophjoaaQuo
import Derived.Test.YtnbkmkeiophjoaaLst
namespace Cw

/-- A description with a primitive element. -/
structure FD extends Desc where
  g : R toDesc
  g_all : ∀ x : R toDesc, x ≠ 0 → ∃ i, i < toDesc.q - 1 ∧ x = pw g i
  g_inj : ∀ i j, i < toDesc.q - 1 → j < toDesc.q - 1 → pw g i = pw g j → i = j
  g_one : pw g (toDesc.q - 1) = 1

theorem FD.inv_ex (D : FD) (x : R D.toDesc) (h : x ≠ 0) : ∃ y : R D.toDesc, x * y = 1 := by
  obtain ⟨i, hi, rfl⟩ := D.g_all x h
  exact ⟨pw D.g (D.q - 1 - i), by rw [← pw_add, show i + (D.q - 1 - i) = D.q - 1 by omega, D.g_one]⟩
open Classical in
noncomputable def FD.inv (D : FD) (x : R D.toDesc) : R D.toDesc := if h : x ≠ 0 then Classical.choose (D.inv_ex x h) else 0

noncomputable instance (D : FD) : FF (R D.toDesc) where
  inv := D.inv
  mul_inv' a h := by
    show a * D.inv a = 1
    unfold FD.inv; rw [dif_pos h]; exact Classical.choose_spec (D.inv_ex a h)
  inv_zero' := by show D.inv 0 = 0; unfold FD.inv; rw [dif_neg (fun h => h rfl)]
  one_ne' h := by
    have h1 := rcode_one (D := D.toDesc)
    rw [h, rcode_zero] at h1; cases h1
  p := D.p
  M := D.m
  q := D.q
  prime_p := D.hp
  M_pos := D.m1
  q_eq := rfl
  char_p := char_R
  code := rcode
  el := rel D.toDesc
  code_lt := rcode_lt
  el_code := rel_rcode
  code_el _ h := rcode_rel h
  code_zero := rcode_zero
  code_one := rcode_one
  gen := D.g
  gen_all := D.g_all
  gen_inj := D.g_inj
  gen_one := D.g_one

/-- The element that an int stands for (0 outside the range). -/
def eli (D : Desc) (x : Int) : R D := if 0 ≤ x ∧ x < D.q then rel D x.toNat else 0
/-- The number of an element, as an int. -/
def ci {D : Desc} (u : R D) : Int := (rcode u : Nat)
section
variable {D : Desc}
theorem ci_nonneg (u : R D) : 0 ≤ ci u := Int.natCast_nonneg _
theorem ci_lt (u : R D) : ci u < D.q := Int.ofNat_lt.2 (rcode_lt u)
theorem Desc.q256 (D : Desc) : D.q ≤ 256 := D.hq
theorem ci_le (u : R D) : ci u ≤ 255 := by have := ci_lt u; have := D.q256; omega
theorem ci_toNat (u : R D) : (ci u).toNat = rcode u := Int.toNat_natCast _
theorem eli_ci (u : R D) : eli D (ci u) = u := by
  unfold eli; rw [if_pos ⟨ci_nonneg u, ci_lt u⟩, ci_toNat, rel_rcode]
theorem ci_inj {u w : R D} (h : ci u = ci w) : u = w := by rw [← eli_ci u, ← eli_ci w, h]
theorem ci_eli_in {x : Int} (h : 0 ≤ x ∧ x < D.q) : ci (eli D x) = x := by
  unfold eli ci; rw [if_pos h, rcode_rel (by omega)]; omega
theorem eli_out {x : Int} (h : ¬ (0 ≤ x ∧ x < D.q)) : eli D x = 0 := if_neg h
theorem ci_zero : ci (0 : R D) = 0 := by unfold ci; rw [rcode_zero]; rfl
theorem ci_one : ci (1 : R D) = 1 := by unfold ci; rw [rcode_one]; rfl
theorem ci_eq_zero {u : R D} : ci u = 0 ↔ u = 0 := ⟨fun h => ci_inj (by rw [h, ci_zero]), fun h => by rw [h, ci_zero]⟩
theorem ci_eq_one {u : R D} : ci u = 1 ↔ u = 1 := ⟨fun h => ci_inj (by rw [h, ci_one]), fun h => by rw [h, ci_one]⟩
theorem eli_zero : eli D 0 = 0 := by rw [← ci_zero (D := D), eli_ci]
theorem eli_one : eli D 1 = 1 := by rw [← ci_one (D := D), eli_ci]
theorem eli_nat {n : Nat} (h : n < D.q) : eli D n = rel D n := by
  unfold eli; rw [if_pos ⟨Int.natCast_nonneg _, Int.ofNat_lt.2 h⟩, Int.toNat_natCast]
theorem ci_rel {n : Nat} (h : n < D.q) : ci (rel D n) = n := by unfold ci; rw [rcode_rel h]
/-- What In gives. -/
theorem ci_eli (x : Int) : ci (eli D x) = if 0 ≤ x ∧ x < D.q then x else 0 := by
  by_cases h : 0 ≤ x ∧ x < D.q
  · rw [if_pos h, ci_eli_in h]
  · rw [if_neg h, eli_out h, ci_zero]
/-- Digit i of an element. -/
def di (u : R D) (i : Nat) : Nat := (u.v i).val
theorem di_lt (u : R D) (i : Nat) : di u i < D.p := Zp.lt _
theorem di_rcode (u : R D) {i : Nat} (h : i < D.m) : rcode u / D.p ^ i % D.p = di u i := by
  conv => rhs; rw [← rel_rcode u]
  unfold di; rw [rel_v h, zp_val]
theorem nval_di (f : Nat → Nat) (h : ∀ i, i < D.m → f i < D.p) : nval D.p f D.m = rcode (cut D fun i => zp D.p (f i)) := by
  unfold rcode
  exact nval_congr fun i hi => by rw [cut_v hi, zp_val, Nat.mod_eq_of_lt (h i hi)]
theorem di_add (u w : R D) (i : Nat) : di (u + w) i = (di u i + di w i) % D.p := rfl
theorem di_neg (u : R D) (i : Nat) : di (-u) i = (D.p - di u i) % D.p := rfl
theorem zp_di (u : R D) (i : Nat) : zp D.p (di u i) = u.v i := zp_of_val _
end
end Cw
