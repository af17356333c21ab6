/- Plain: the numbers that grs.Weights computes: each is the count of the words of its weight, their sum is q^K; bounds. No Go here. -/
import Derived.Test.YtemanlkgfhmclaaMdsF
import Derived.Test.YtemanlkgfhmclaaNatC
namespace Cw
/-- The sums of the formula after j steps. -/
def parJ (q w e r j : Nat) : Nat := nsum j fun i => if i % 2 = r then ch w i * (q ^ (e - i) - 1) else 0
theorem parJ_zero (q w e r : Nat) : parJ q w e r 0 = 0 := rfl
theorem parJ_succ (q w e r j : Nat) : parJ q w e r (j + 1) = parJ q w e r j + if j % 2 = r then ch w j * (q ^ (e - j) - 1) else 0 := rfl
theorem parJ_full (q w e r : Nat) : parJ q w e r e = parS q w e r := rfl
theorem parJ_hit {q w e r j : Nat} (h : j % 2 = r) : parJ q w e r (j + 1) = parJ q w e r j + ch w j * (q ^ (e - j) - 1) := by rw [parJ_succ, if_pos h]
theorem parJ_miss {q w e r j : Nat} (h : j % 2 ≠ r) : parJ q w e r (j + 1) = parJ q w e r j := by rw [parJ_succ, if_neg h, Nat.add_zero]
theorem ch_le2 : ∀ n k : Nat, ch n k ≤ 2 ^ n
  | 0, 0 => by decide
  | 0, k + 1 => by rw [ch_gt 0 (k + 1) (by omega)]; exact Nat.zero_le _
  | n + 1, 0 => by rw [ch_zero]; exact Nat.pow_pos (by decide)
  | n + 1, k + 1 => by
    rw [ch_succ, Nat.pow_succ]
    have h1 := ch_le2 n k; have h2 := ch_le2 n (k + 1)
    omega
theorem nsum_le {n b : Nat} {f : Nat → Nat} (h : ∀ i, i < n → f i ≤ b) : nsum n f ≤ n * b := by
  induction n with
  | zero => rw [Nat.zero_mul]; exact Nat.le_refl _
  | succ n ih => show nsum n f + f n ≤ _; rw [Nat.succ_mul]; exact Nat.add_le_add (ih fun i hi => h i (by omega)) (h n (by omega))
theorem parJ_le {q w e r j : Nat} (hq : 1 ≤ q) : parJ q w e r j ≤ j * (2 ^ w * q ^ e) := by
  refine nsum_le fun i _ => ?_
  split
  · exact Nat.mul_le_mul (ch_le2 _ _) (Nat.le_trans (Nat.sub_le _ _) (Nat.pow_le_pow_right hq (Nat.sub_le _ _)))
  · exact Nat.zero_le _
/-- A power of at most 256, to at most 255. -/
theorem pow_lt64 {q e : Nat} (hq1 : 1 ≤ q) (hq : q ≤ 256) (he : e ≤ 255) : q ^ e ≤ nB ^ 64 := by
  refine Nat.le_trans (Nat.pow_le_pow_right hq1 (show e ≤ 4 * 64 by omega)) ?_
  rw [Nat.pow_mul]
  refine Nat.pow_le_pow_left (Nat.le_trans (Nat.pow_le_pow_left hq 4) ?_) 64
  rw [nB_eq]; decide
theorem two_lt8 {w : Nat} (hw : w ≤ 256) : 2 ^ w ≤ nB ^ 8 := by
  rw [nB_pow]; exact Nat.pow_le_pow_right (by decide) (by omega)
theorem parJ_lt {q w e r j : Nat} (hq1 : 1 ≤ q) (hq : q ≤ 256) (hw : w ≤ 255) (he : e ≤ 255) (hj : j ≤ 256) : parJ q w e r j < nB ^ 73 := by
  refine Nat.lt_of_le_of_lt (parJ_le hq1) ?_
  refine Nat.lt_of_le_of_lt (Nat.mul_le_mul hj (Nat.mul_le_mul (two_lt8 (by omega)) (pow_lt64 hq1 hq he))) ?_
  rw [← Nat.pow_add, show nB ^ 73 = nB * nB ^ (8 + 64) from Nat.pow_succ'.trans rfl]
  exact Nat.mul_lt_mul_of_pos_right (by rw [nB_eq]; decide) (nBp_pos _)
/-- The number in the place w. -/
def aW (q n K w : Nat) : Nat := if w = 0 then 1 else if n < w + K then ch n w * (parS q w (w + K - n) 0 - parS q w (w + K - n) 1) else 0
theorem aW_zero (q n K : Nat) : aW q n K 0 = 1 := if_pos rfl
theorem aW_low {q n K w : Nat} (h1 : 1 ≤ w) (h : w + K ≤ n) : aW q n K w = 0 := by
  unfold aW; rw [if_neg (by omega), if_neg (by omega)]
theorem aW_high {q n K w : Nat} (h1 : 1 ≤ w) (h : n < w + K) : aW q n K w = ch n w * (parS q w (w + K - n) 0 - parS q w (w + K - n) 1) := by
  unfold aW; rw [if_neg (by omega), if_pos h]
section
variable {F : Type} [FF F]
open FF (q)
theorem aW_par {K n w : Nat} {L : List F} (hL : L.Nodup) (hn : L.length = n) (hw1 : 1 ≤ w) (hw : w ≤ n) (hK : K ≤ n) (hd : n < w + K) : parS (q F) w (w + K - n) 1 ≤ parS (q F) w (w + K - n) 0 := by
  rw [weight_form K n w L hL hn hw1 hw hK hd]; exact Nat.le_add_right _ _
theorem aW_en {K n w : Nat} {L : List F} (hL : L.Nodup) (hn : L.length = n) (hw : w ≤ n) (hK : K ≤ n) : aW (q F) n K w = ch n w * eN (q F) K (n - w) w := by
  by_cases h0 : w = 0
  · subst h0; rw [aW_zero, ch_zero, Nat.sub_zero, weight_zero K n hK]
  · by_cases hd : n < w + K
    · rw [aW_high (by omega) hd, weight_form K n w L hL hn (by omega) hw hK hd, Nat.add_sub_cancel_left]
    · rw [aW_low (by omega) (by omega), weight_low K n w L hL hn (by omega) (by omega), Nat.mul_zero]
theorem aW_cnt {K n w : Nat} {L : List F} (hL : L.Nodup) (hn : L.length = n) (hw : w ≤ n) (hK : K ≤ n) : aW (q F) n K w = cnt (q F ^ K) (fun c => wtN K c L = w) := by
  rw [aW_en hL hn hw hK]; subst hn; exact (wt_count K L hL hw).symm
theorem aW_sum {K n : Nat} {L : List F} (hL : L.Nodup) (hn : L.length = n) (hK : K ≤ n) : nsum (n + 1) (aW (q F) n K) = q F ^ K := by
  subst hn
  rw [← wt_total K L hL]
  exact nsum_congr fun w hw => aW_en hL rfl (by omega) hK
theorem nsum_mono {a b : Nat} {f : Nat → Nat} (h : a ≤ b) : nsum a f ≤ nsum b f := by
  induction h with
  | refl => exact Nat.le_refl _
  | step _ ih => exact Nat.le_trans ih (Nat.le_add_right _ _)
end
end Cw
