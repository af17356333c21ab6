/- Plain law of layer 38: Gao's decoder, over coefficients. No Go here. -/
import Derived.Test.YtpflgmbcmfllgaaZdP1
namespace Cw
section
variable {R : Type} [CRing R]
theorem rsum_tail {n m : Nat} (h : n ≤ m) {f : Nat → R} (hz : ∀ i, n ≤ i → i < m → f i = 0) : rsum m f = rsum n f := by
  obtain ⟨d, rfl⟩ : ∃ d, m = n + d := ⟨m - n, by omega⟩
  rw [rsum_split, rsum_eq_zero (n := d) fun i hi => hz (n + i) (by omega) (by omega), add_zero]
theorem rsum_rev : ∀ (n : Nat) (f : Nat → R), rsum n f = rsum n fun i => f (n - 1 - i)
  | 0, _ => rfl
  | n + 1, f => by
    rw [rsum_succ_left n (fun i => f (n + 1 - 1 - i)), rsum_succ, rsum_rev n f, add_c]
    congr 1
    exact rsum_congr fun i _ => by rw [show n + 1 - 1 - (i + 1) = n - 1 - i by omega]
/-- The coefficients at n and above are 0. -/
def LtD (f : Nat → R) (n : Nat) : Prop := ∀ t, n ≤ t → f t = 0
theorem LtD.mono {f : Nat → R} {n m : Nat} (h : LtD f n) (hn : n ≤ m) : LtD f m := fun t ht => h t (Nat.le_trans hn ht)
/-- The value of the polynomial with the coefficients f below n. -/
def vl (f : Nat → R) (n : Nat) (x : R) : R := rsum n fun t => f t * pw x t
theorem vl_more {f : Nat → R} {n m : Nat} (h : LtD f n) (hm : n ≤ m) (x : R) : vl f m x = vl f n x := rsum_tail hm fun i h1 _ => by rw [h i h1, zero_mul]
theorem conv_sum {f g : Nat → R} {M : Nat} (hf : LtD f M) (t : Nat) : conv f g t = rsum M fun s => if s ≤ t then f s * g (t - s) else 0 := by
  rw [← convP_full f g hf t]; unfold convP; rw [if_neg (by omega), add_zero]
theorem vl_conv {f g : Nat → R} {M N : Nat} (hf : LtD f M) (hg : LtD g N) (x : R) : vl (conv f g) (M + N) x = vl f M x * vl g N x := by
  unfold vl
  refine (rsum_congr (g := fun t => rsum M fun s => (if s ≤ t then f s * g (t - s) else 0) * pw x t) fun t _ => by rw [conv_sum hf t, rsum_mul_right]).trans ?_
  rw [rsum_swap, ← rsum_mul_right]
  refine rsum_congr fun s hs => ?_
  rw [show M + N = s + (M + N - s) by omega, rsum_split, rsum_eq_zero (n := s) fun i hi => by rw [if_neg (by omega), zero_mul], zero_add, ← rsum_mul_left]
  refine (rsum_tail (n := N) (by omega) fun i h1 _ => by rw [show s + i - s = i by omega, hg i h1, mul_zero]; by_cases e : s ≤ s + i <;> simp only [e, if_true, if_false, zero_mul]).trans ?_
  exact rsum_congr fun i _ => by rw [if_pos (by omega), show s + i - s = i by omega, pw_add]; ac_rfl
theorem conv_comm (f g : Nat → R) (t : Nat) : conv f g t = conv g f t := by
  unfold conv
  rw [rsum_rev]
  exact rsum_congr fun i hi => by rw [show t + 1 - 1 - i = t - i by omega, show t - (t - i) = i by omega, mul_c]
theorem conv_sub (f g h : Nat → R) (t : Nat) : conv f (fun s => g s - h s) t = conv f g t - conv f h t := by
  unfold conv
  rw [← rsum_sub]
  exact rsum_congr fun i _ => mul_sub _ _ _
theorem conv_zero (f g : Nat → R) (h : ∀ s, g s = 0) (t : Nat) : conv f g t = 0 := rsum_eq_zero fun i _ => by rw [h, mul_zero]
theorem conv_lead {f g : Nat → R} {a b : Nat} (hf : LtD f (a + 1)) (hg : LtD g (b + 1)) : conv f g (a + b) = f a * g b := by
  unfold conv
  rw [rsum_single (k := a) (by omega) fun i hi hne => ?_, show a + b - a = b by omega]
  rcases Nat.lt_or_ge a i with h | h
  · rw [hf i h, zero_mul]
  · rw [hg (a + b - i) (by omega), mul_zero]
theorem LtD.conv {f g : Nat → R} {M N : Nat} (hf : LtD f M) (hg : LtD g N) : LtD (conv f g) (M + N - 1) := fun t ht => conv_high hf hg (by omega)
theorem LtD.sub {f g : Nat → R} {M N L : Nat} (hf : LtD f M) (hg : LtD g N) (h1 : M ≤ L) (h2 : N ≤ L) : LtD (fun s => f s - g s) L := fun t ht => by
  show f t - g t = 0
  rw [hf t (by omega), hg t (by omega), sub_self]
theorem vl_sub (f g : Nat → R) (n : Nat) (x : R) : vl (fun s => f s - g s) n x = vl f n x - vl g n x := by
  unfold vl
  rw [← rsum_sub]
  exact rsum_congr fun i _ => sub_mul _ _ _
end
section
variable {F : Type} [CField F]
/-- A product with a polynomial of degree a that is 0 from a on is 0. -/
theorem conv_short {f g : Nat → F} {a : Nat} (hf : f a ≠ 0) (hfl : LtD f (a + 1)) (h : ∀ t, a ≤ t → conv f g t = 0) : ∀ N, LtD g N → ∀ t, g t = 0
  | 0, hg, t => hg t (Nat.zero_le _)
  | N + 1, hg, t => by
    have h1 := h (a + N) (by omega)
    rw [conv_lead hfl hg] at h1
    rcases mul_eq_zero h1 with e | e
    · exact absurd e hf
    · exact conv_short hf hfl h N (fun s hs => by
        by_cases e2 : s = N
        · rw [e2]; exact e
        · exact hg s (by omega)) t
/-- The quotient and the remainder are the only ones. -/
theorem div_uniq {t P q r b : Nat → F} {a N : Nat} (ht : t a ≠ 0) (htl : LtD t (a + 1)) (h1 : ∀ s, conv t P s = b s) (h2 : ∀ s, b s = conv q t s + r s) (hr : LtD r a) (hP : LtD P N) (hq : LtD q N) : (∀ s, P s = q s) ∧ ∀ s, r s = 0 := by
  have h3 : ∀ s, conv t (fun s => P s - q s) s = r s := fun s => by
    rw [conv_sub, h1, h2, conv_comm q t, add_c, add_sub_cancel]
  have h4 := conv_short (g := fun s => P s - q s) ht htl (fun s hs => by rw [h3, hr s hs]) N (hP.sub hq (Nat.le_refl _) (Nat.le_refl _))
  exact ⟨fun s => sub_eq_zero (h4 s), fun s => by rw [← h3, conv_zero _ _ h4]⟩
theorem filter_both (p : Nat → Bool) (n : Nat) : ((List.range n).filter p).length + ((List.range n).filter fun i => !p i).length = n := by
  induction n with
  | zero => rfl
  | succ n ih =>
    rw [List.range_succ, List.filter_append, List.filter_append, List.length_append, List.length_append]
    have e : ([n].filter p).length + ([n].filter fun i => !p i).length = 1 := by cases h : p n <;> simp [h]
    omega
/-- A polynomial below L that is 0 at L or more of n different points is 0. -/
theorem zero_of_roots {n L : Nat} {X : Nat → F} (hX : ∀ i j, i < n → j < n → X i = X j → i = j) {f : Nat → F} (hf : LtD f L) (p : Nat → Bool) (hc : L ≤ ((List.range n).filter p).length) (h : ∀ i, i < n → p i = true → vl f L (X i) = 0) (s : Nat) : f s = 0 := by
  by_cases hs : s < L
  · refine pev_roots (((List.range n).filter p).map X) ((List.range L).map f) (by rw [List.length_map, List.length_map, List.length_range]; exact hc) ?_ ?_ (f s) (List.mem_map.2 ⟨s, List.mem_range.2 hs, rfl⟩)
    · refine List.pairwise_map.2 (List.Pairwise.imp_of_mem ?_ (List.Pairwise.filter _ (List.nodup_range (n := n))))
      intro x y hx hy hne e
      exact hne (hX x y (List.mem_range.1 (List.mem_filter.1 hx).1) (List.mem_range.1 (List.mem_filter.1 hy).1) e)
    · intro x hx
      obtain ⟨i, hi, rfl⟩ := List.mem_map.1 hx
      have hi2 := List.mem_filter.1 hi
      rw [pev_map]
      exact h i (List.mem_range.1 hi2.1) hi2.2
  · exact hf s (by omega)
/-- Gao's key: where few values are wrong, the remainder is the product of the cofactor and the polynomial. -/
theorem gao_key {n k dt B : Nat} {X Y : Nat → F} (hX : ∀ i j, i < n → j < n → X i = X j → i = j) {P t b : Nat → F} (hP : LtD P k) (ht : LtD t (dt + 1)) (h2 : 2 * dt + k ≤ n) (hb : LtD b B) (hB : 2 * B ≤ n + k + 1)
    (hv : ∀ i, i < n → vl t (dt + 1) (X i) * Y i = vl b B (X i)) (p : Nat → Bool) (hp : ∀ i, i < n → p i = true → vl P k (X i) = Y i) (hE : 2 * ((List.range n).filter fun i => !p i).length + k ≤ n) (s : Nat) : conv t P s = b s := by
  obtain ⟨L, hL⟩ : ∃ L, L = max (dt + k) B := ⟨_, rfl⟩
  have hl1 : LtD (conv t P) (dt + k) := (ht.conv hP).mono (by omega)
  have hN : LtD (fun s => conv t P s - b s) L := hl1.sub hb (by omega) (by omega)
  have hf := filter_both p n
  refine sub_eq_zero (zero_of_roots hX hN p (by omega) (fun i hi hpi => ?_) s)
  rw [vl_sub, vl_more hb (by omega), ← hv i hi, vl_more hl1 (by omega), ← vl_more hl1 (show dt + k ≤ dt + 1 + k by omega), vl_conv ht hP, hp i hi hpi, sub_self]
end
end Cw
