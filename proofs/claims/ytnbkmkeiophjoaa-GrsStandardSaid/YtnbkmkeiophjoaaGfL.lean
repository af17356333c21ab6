/- Plain: sums of elements digit by digit, and by exclusive or in characteristic 2. No Go here. -/
import Derived.Test.YtnbkmkeiophjoaaFld
namespace Cw
theorem nval_stop {p : Nat} {f : Nat → Nat} {m k : Nat} (hk : k ≤ m) (h : ∀ i, k ≤ i → i < m → f i = 0) : nval p f m = nval p f k := by
  induction m with
  | zero => obtain rfl : k = 0 := by omega
            rfl
  | succ m ih =>
    by_cases e : k = m + 1
    · subst e; rfl
    · show nval p f m + f m * p ^ m = _
      rw [ih (by omega) (fun i h1 h2 => h i h1 (by omega)), h m (by omega) (by omega), Nat.zero_mul, Nat.add_zero]
theorem nval_two (f : Nat → Nat) (h : ∀ i, f i < 2) (m i : Nat) : (nval 2 f m).testBit i = (decide (i < m) && decide (f i = 1)) := by
  by_cases hi : i < m
  · rw [Nat.testBit_eq_decide_div_mod_eq, nval_digit (by decide) (fun j _ => h j) hi]; simp [hi]
  · have hlt := nval_lt (p := 2) (m := m) (f := f) (fun j _ => h j)
    rw [Nat.testBit_lt_two_pow (Nat.lt_of_lt_of_le hlt (Nat.pow_le_pow_right (by decide) (by omega)))]
    simp [hi]
section
variable {D : Desc}
theorem xor_add (h2 : D.p = 2) (u v : R D) : rcode u ^^^ rcode v = rcode (u + v) := by
  apply Nat.eq_of_testBit_eq
  intro i
  have key : ∀ w : R D, rcode w = nval 2 (di w) D.m := fun w => by
    show nval D.p (di w) D.m = _; rw [h2]
  have hlt : ∀ (w : R D) (j : Nat), di w j < 2 := fun w j => by have := di_lt w j; omega
  rw [Nat.testBit_xor, key, key, key, nval_two _ (hlt u), nval_two _ (hlt v), nval_two _ (hlt (u + v)), di_add, h2]
  have h1 := hlt u i
  have h3 := hlt v i
  by_cases hi : i < D.m
  · have a1 : di u i = 0 ∨ di u i = 1 := by omega
    have a2 : di v i = 0 ∨ di v i = 1 := by omega
    rcases a1 with a1 | a1 <;> rcases a2 with a2 | a2 <;> simp [hi, a1, a2]
  · simp [hi]
theorem div_pow_zero (u : R D) {k : Nat} (h : D.m ≤ k) : rcode u / D.p ^ k = 0 := by
  apply Nat.div_eq_of_lt
  exact Nat.lt_of_lt_of_le (rcode_lt u) (Nat.pow_le_pow_right (by have := D.p2; omega) h)
/-- Where both numbers have run out the sum is whole. -/
theorem add_stop (u v : R D) {k : Nat} (hk : k ≤ D.m) (h1 : rcode u / D.p ^ k = 0) (h2 : rcode v / D.p ^ k = 0) : nval D.p (di (u + v)) k = rcode (u + v) := by
  have z : ∀ (w : R D) (i : Nat), rcode w / D.p ^ k = 0 → k ≤ i → i < D.m → di w i = 0 := fun w i h hi hm => by
    rw [← di_rcode w hm]
    obtain ⟨t, rfl⟩ : ∃ t, i = k + t := ⟨i - k, by omega⟩
    rw [Nat.pow_add, ← Nat.div_div_eq_div_mul, h, Nat.zero_div, Nat.zero_mod]
  exact (nval_stop hk fun i hi hm => by rw [di_add, z u i h1 hi hm, z v i h2 hi hm, Nat.zero_add, Nat.zero_mod]).symm
theorem add_digit (u v : R D) {k : Nat} (hk : k < D.m) : (rcode u / D.p ^ k % D.p + rcode v / D.p ^ k % D.p) % D.p = di (u + v) k := by
  rw [di_rcode u hk, di_rcode v hk, di_add]
theorem neg_stop (u : R D) {k : Nat} (hk : k ≤ D.m) (h1 : rcode u / D.p ^ k = 0) : nval D.p (di (-u)) k = rcode (-u) := by
  have z : ∀ (i : Nat), k ≤ i → i < D.m → di (-u) i = 0 := fun i hi hm => by
    have : di u i = 0 := by
      rw [← di_rcode u hm]
      obtain ⟨t, rfl⟩ : ∃ t, i = k + t := ⟨i - k, by omega⟩
      rw [Nat.pow_add, ← Nat.div_div_eq_div_mul, h1, Nat.zero_div, Nat.zero_mod]
    rw [di_neg, this, Nat.sub_zero, Nat.mod_self]
  exact (nval_stop hk fun i hi hm => z i hi hm).symm
theorem neg_digit (u : R D) {k : Nat} (hk : k < D.m) : (D.p - rcode u / D.p ^ k % D.p) % D.p = di (-u) k := by
  rw [di_rcode u hk, di_neg]
end
end Cw
