/- Plain: binomial coefficients as products; powers by squaring. No Go here. -/
import Derived.Test.YtemanlkgfhmclaaNatL
namespace Cw
theorem ch_step : ∀ (n i : Nat), i ≤ n → ch n (i + 1) * (i + 1) = ch n i * (n - i)
  | 0, i, h => by
    obtain rfl : i = 0 := by omega
    rfl
  | n + 1, 0, _ => by
    have h := ch_mul n 0
    rw [ch_zero] at h ⊢
    omega
  | n + 1, j + 1, h => by
    have h1 := ch_mul n j
    have h2 := ch_mul n (j + 1)
    have ih := ch_step n j (by omega)
    rw [show n + 1 - (j + 1) = n - j by omega]
    refine Nat.eq_of_mul_eq_mul_left (show 0 < j + 1 by omega) ?_
    calc (j + 1) * (ch (n + 1) (j + 1 + 1) * (j + 1 + 1)) = (j + 1) * ((j + 1 + 1) * ch (n + 1) (j + 1 + 1)) := by rw [Nat.mul_comm (ch _ _)]
      _ = (j + 1) * ((n + 1) * ch n (j + 1)) := by rw [h2]
      _ = (n + 1) * (ch n (j + 1) * (j + 1)) := by rw [Nat.mul_left_comm, Nat.mul_comm (j + 1)]
      _ = (n + 1) * (ch n j * (n - j)) := by rw [ih]
      _ = ((n + 1) * ch n j) * (n - j) := by rw [Nat.mul_assoc]
      _ = ((j + 1) * ch (n + 1) (j + 1)) * (n - j) := by rw [h1]
      _ = (j + 1) * (ch (n + 1) (j + 1) * (n - j)) := by rw [Nat.mul_assoc]
theorem ch_symm : ∀ (n k : Nat), k ≤ n → ch n k = ch n (n - k)
  | 0, k, h => by
    obtain rfl : k = 0 := by omega
    rfl
  | n + 1, 0, _ => by rw [ch_zero, Nat.sub_zero, ch_self]
  | n + 1, k + 1, h => by
    by_cases e : k = n
    · subst e; rw [ch_self, Nat.sub_self, ch_zero]
    · have h1 := ch_symm n k (by omega)
      have h2 := ch_symm n (k + 1) (by omega)
      rw [show n + 1 - (k + 1) = (n - (k + 1)) + 1 by omega, ch_succ, ch_succ, ← h2, show n - (k + 1) + 1 = n - k by omega, ← h1, Nat.add_comm]
/-- The product that the loop divides. -/
theorem ch_div {n i : Nat} (h : i ≤ n) : ch n i * (n - i) / (i + 1) = ch n (i + 1) := by
  rw [← ch_step n i h]
  exact Nat.mul_div_cancel _ (Nat.succ_pos i)
theorem ch_min {n k : Nat} (h : k ≤ n) : ch n (min k (n - k)) = ch n k := by
  rcases Nat.le_total k (n - k) with e | e
  · rw [Nat.min_eq_left e]
  · rw [Nat.min_eq_right e, ← ch_symm n k h]
theorem pow_half (s n : Nat) : s ^ n = s ^ (n % 2) * (s * s) ^ (n / 2) := by
  rw [← Nat.pow_two, ← Nat.pow_mul, ← Nat.pow_add]
  congr 1
  omega
theorem ch_pos : ∀ (n k : Nat), k ≤ n → 0 < ch n k
  | n, 0, _ => by rw [ch_zero]; exact Nat.one_pos
  | 0, k + 1, h => absurd h (by omega)
  | n + 1, k + 1, h => by rw [ch_succ]; have := ch_pos n k (by omega); omega
/-- Numbers of at most a few limbs. -/
theorem nlen_le {v i : Nat} (h : v < nB ^ i) : nlen v ≤ i := by
  obtain ⟨_, h2⟩ := nlen_spec v
  rcases h2 with h2 | h2
  · omega
  · have h3 := Nat.lt_of_le_of_lt h2 h
    have := (Nat.pow_lt_pow_iff_right nB_gt).1 h3
    omega
theorem nlen_zero : nlen 0 = 0 := rfl
theorem nL_zero : nL 0 = [] := rfl
theorem nL_small {v : Nat} (h : v < nB) (h0 : 0 < v) : nL v = [v] := by
  have : nlen v = 1 := (nlen_uniq (by rw [Nat.pow_one]; exact h) (.inr (by rw [Nat.sub_self, Nat.pow_zero]; omega))).symm
  unfold nL
  rw [this]
  show [v / nB ^ 0 % nB] = [v]
  rw [Nat.pow_zero, Nat.div_one, Nat.mod_eq_of_lt h]
end Cw
