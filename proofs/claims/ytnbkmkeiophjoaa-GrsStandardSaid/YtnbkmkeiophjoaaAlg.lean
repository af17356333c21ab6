/- Plain algebra: commutative rings, finite sums and products, powers, the binomial theorem and the Frobenius map. No Go here. -/
namespace Cw

/-- A commutative ring with one. -/
class CRing (R : Type) extends Add R, Mul R, Neg R, Zero R, One R where
  add_assoc' : ∀ a b c : R, a + b + c = a + (b + c)
  add_comm' : ∀ a b : R, a + b = b + a
  zero_add' : ∀ a : R, 0 + a = a
  neg_add' : ∀ a : R, -a + a = 0
  mul_assoc' : ∀ a b c : R, a * b * c = a * (b * c)
  mul_comm' : ∀ a b : R, a * b = b * a
  one_mul' : ∀ a : R, 1 * a = a
  mul_add' : ∀ a b c : R, a * (b + c) = a * b + a * c

section ring
variable {R : Type} [CRing R]

instance : Sub R := ⟨fun a b => a + -b⟩
instance : Std.Associative (α := R) (· + ·) := ⟨CRing.add_assoc'⟩
instance : Std.Commutative (α := R) (· + ·) := ⟨CRing.add_comm'⟩
instance : Std.Associative (α := R) (· * ·) := ⟨CRing.mul_assoc'⟩
instance : Std.Commutative (α := R) (· * ·) := ⟨CRing.mul_comm'⟩

theorem sub_d (a b : R) : a - b = a + -b := rfl
theorem add_a (a b c : R) : a + b + c = a + (b + c) := CRing.add_assoc' a b c
theorem add_c (a b : R) : a + b = b + a := CRing.add_comm' a b
theorem add_lc (a b c : R) : a + (b + c) = b + (a + c) := by ac_rfl
theorem mul_a (a b c : R) : a * b * c = a * (b * c) := CRing.mul_assoc' a b c
theorem mul_c (a b : R) : a * b = b * a := CRing.mul_comm' a b
theorem mul_lc (a b c : R) : a * (b * c) = b * (a * c) := by ac_rfl
theorem zero_add (a : R) : 0 + a = a := CRing.zero_add' a
theorem add_zero (a : R) : a + 0 = a := by rw [add_c]; exact zero_add a
theorem neg_add (a : R) : -a + a = 0 := CRing.neg_add' a
theorem add_neg (a : R) : a + -a = 0 := by rw [add_c]; exact neg_add a
theorem one_mul (a : R) : 1 * a = a := CRing.one_mul' a
theorem mul_one (a : R) : a * 1 = a := by rw [mul_c]; exact one_mul a
theorem mul_add (a b c : R) : a * (b + c) = a * b + a * c := CRing.mul_add' a b c
theorem add_mul (a b c : R) : (a + b) * c = a * c + b * c := by rw [mul_c, mul_add, mul_c c a, mul_c c b]
theorem add_left_cancel {a b c : R} (h : a + b = a + c) : b = c := by
  have : -a + (a + b) = -a + (a + c) := by rw [h]
  rwa [← add_a, ← add_a, neg_add, zero_add, zero_add] at this
theorem add_right_cancel {a b c : R} (h : b + a = c + a) : b = c := by
  rw [add_c b, add_c c] at h; exact add_left_cancel h
theorem mul_zero (a : R) : a * 0 = 0 := by
  have h : a * 0 + a * 0 = a * 0 + 0 := by rw [← mul_add, zero_add, add_zero]
  exact add_left_cancel h
theorem zero_mul (a : R) : 0 * a = 0 := by rw [mul_c]; exact mul_zero a
theorem neg_unique {a b : R} (h : a + b = 0) : b = -a := by
  apply add_left_cancel (a := a); rw [h, add_neg]
theorem neg_neg (a : R) : - -a = a := (neg_unique (neg_add a)).symm
theorem neg_zero : -(0 : R) = 0 := (neg_unique (zero_add 0)).symm
theorem neg_mul (a b : R) : -a * b = -(a * b) := neg_unique (by rw [← add_mul, add_neg, zero_mul])
theorem mul_neg (a b : R) : a * -b = -(a * b) := by rw [mul_c, neg_mul, mul_c]
theorem neg_add_d (a b : R) : -(a + b) = -a + -b := (neg_unique (by
  rw [show a + b + (-a + -b) = (a + -a) + (b + -b) by ac_rfl, add_neg, add_neg, zero_add])).symm
theorem sub_self (a : R) : a - a = 0 := add_neg a
theorem sub_zero (a : R) : a - 0 = a := by rw [sub_d, neg_zero, add_zero]
theorem zero_sub (a : R) : 0 - a = -a := by rw [sub_d, zero_add]
theorem sub_add_cancel (a b : R) : a - b + b = a := by rw [sub_d, add_a, neg_add, add_zero]
theorem add_sub_cancel (a b : R) : a + b - b = a := by rw [sub_d, add_a, add_neg, add_zero]
theorem sub_eq_zero {a b : R} (h : a - b = 0) : a = b := by
  have := sub_add_cancel a b; rw [h, zero_add] at this; exact this.symm
theorem sub_eq_iff {a b c : R} : a - b = c ↔ a = c + b :=
  ⟨fun h => by rw [← h, sub_add_cancel], fun h => by rw [h, add_sub_cancel]⟩
theorem mul_sub (a b c : R) : a * (b - c) = a * b - a * c := by rw [sub_d, mul_add, mul_neg, sub_d]
theorem sub_mul (a b c : R) : (a - b) * c = a * c - b * c := by rw [sub_d, add_mul, neg_mul, sub_d]
theorem neg_sub (a b : R) : -(a - b) = b - a := by rw [sub_d, neg_add_d, neg_neg, sub_d, add_c]

/-! ### sums and products over the numbers below n -/
def rsum : Nat → (Nat → R) → R
  | 0, _ => 0
  | n+1, f => rsum n f + f n
def rprod : Nat → (Nat → R) → R
  | 0, _ => 1
  | n+1, f => rprod n f * f n
theorem rsum_zero (f : Nat → R) : rsum 0 f = 0 := rfl
theorem rsum_succ (n : Nat) (f : Nat → R) : rsum (n+1) f = rsum n f + f n := rfl
theorem rprod_zero (f : Nat → R) : rprod 0 f = 1 := rfl
theorem rprod_succ (n : Nat) (f : Nat → R) : rprod (n+1) f = rprod n f * f n := rfl
theorem rsum_congr {n : Nat} {f g : Nat → R} (h : ∀ i, i < n → f i = g i) : rsum n f = rsum n g := by
  induction n with
  | zero => rfl
  | succ n ih => rw [rsum_succ, rsum_succ, ih (fun i hi => h i (by omega)), h n (by omega)]
theorem rprod_congr {n : Nat} {f g : Nat → R} (h : ∀ i, i < n → f i = g i) : rprod n f = rprod n g := by
  induction n with
  | zero => rfl
  | succ n ih => rw [rprod_succ, rprod_succ, ih (fun i hi => h i (by omega)), h n (by omega)]
theorem rsum_const0 (n : Nat) : rsum n (fun _ => (0 : R)) = 0 := by
  induction n with
  | zero => rfl
  | succ n ih => rw [rsum_succ, ih, zero_add]
theorem rsum_eq_zero {n : Nat} {f : Nat → R} (h : ∀ i, i < n → f i = 0) : rsum n f = 0 := by
  rw [rsum_congr h, rsum_const0]
theorem rsum_add (n : Nat) (f g : Nat → R) : rsum n (fun i => f i + g i) = rsum n f + rsum n g := by
  induction n with
  | zero => exact (zero_add 0).symm
  | succ n ih => rw [rsum_succ, rsum_succ, rsum_succ, ih]; ac_rfl
theorem rsum_neg (n : Nat) (f : Nat → R) : rsum n (fun i => - f i) = - rsum n f := by
  induction n with
  | zero => exact neg_zero.symm
  | succ n ih => rw [rsum_succ, rsum_succ, ih, neg_add_d]
theorem rsum_sub (n : Nat) (f g : Nat → R) : rsum n (fun i => f i - g i) = rsum n f - rsum n g := by
  rw [sub_d, ← rsum_neg, ← rsum_add]; rfl
theorem rsum_mul_left (n : Nat) (c : R) (f : Nat → R) : rsum n (fun i => c * f i) = c * rsum n f := by
  induction n with
  | zero => exact (mul_zero c).symm
  | succ n ih => rw [rsum_succ, rsum_succ, ih, mul_add]
theorem rsum_mul_right (n : Nat) (c : R) (f : Nat → R) : rsum n (fun i => f i * c) = rsum n f * c := by
  rw [mul_c, ← rsum_mul_left]; exact rsum_congr fun i _ => mul_c _ _
theorem rsum_swap (n m : Nat) (f : Nat → Nat → R) : rsum n (fun i => rsum m (f i)) = rsum m (fun j => rsum n (fun i => f i j)) := by
  induction n with
  | zero => exact (rsum_const0 m).symm
  | succ n ih => rw [rsum_succ, ih, ← rsum_add]; rfl
theorem rsum_succ_left (n : Nat) (f : Nat → R) : rsum (n+1) f = f 0 + rsum n (fun i => f (i+1)) := by
  induction n with
  | zero => rw [rsum_succ, rsum_zero, zero_add, rsum_zero, add_zero]
  | succ n ih => rw [rsum_succ, ih, rsum_succ, add_a]
theorem rprod_succ_left (n : Nat) (f : Nat → R) : rprod (n+1) f = f 0 * rprod n (fun i => f (i+1)) := by
  induction n with
  | zero => rw [rprod_succ, rprod_zero, one_mul, rprod_zero, mul_one]
  | succ n ih => rw [rprod_succ, ih, rprod_succ, mul_a]
theorem rsum_split (m n : Nat) (f : Nat → R) : rsum (m + n) f = rsum m f + rsum n (fun i => f (m + i)) := by
  induction n with
  | zero => rw [rsum_zero, add_zero]; rfl
  | succ n ih => rw [← Nat.add_assoc, rsum_succ, ih, rsum_succ, add_a]
theorem rprod_split (m n : Nat) (f : Nat → R) : rprod (m + n) f = rprod m f * rprod n (fun i => f (m + i)) := by
  induction n with
  | zero => rw [rprod_zero, mul_one]; rfl
  | succ n ih => rw [← Nat.add_assoc, rprod_succ, ih, rprod_succ, mul_a]
theorem rprod_mul (n : Nat) (f g : Nat → R) : rprod n (fun i => f i * g i) = rprod n f * rprod n g := by
  induction n with
  | zero => exact (one_mul 1).symm
  | succ n ih => rw [rprod_succ, rprod_succ, rprod_succ, ih]; ac_rfl
theorem rprod_one (n : Nat) : rprod n (fun _ => (1 : R)) = 1 := by
  induction n with
  | zero => rfl
  | succ n ih => rw [rprod_succ, ih, mul_one]
theorem rprod_eq_zero {n : Nat} {f : Nat → R} {i : Nat} (hi : i < n) (h : f i = 0) : rprod n f = 0 := by
  induction n with
  | zero => omega
  | succ n ih =>
    rw [rprod_succ]
    by_cases e : i = n
    · subst e; rw [h, mul_zero]
    · rw [ih (by omega), zero_mul]
/-- A sum with one term that may differ from 0. -/
theorem rsum_single {n : Nat} {f : Nat → R} {k : Nat} (hk : k < n) (h : ∀ i, i < n → i ≠ k → f i = 0) : rsum n f = f k := by
  induction n with
  | zero => omega
  | succ n ih =>
    rw [rsum_succ]
    by_cases e : k = n
    · subst e
      rw [rsum_eq_zero (fun i hi => h i (by omega) (by omega)), zero_add]
    · rw [ih (by omega) (fun i hi hne => h i (by omega) hne), h n (by omega) (by omega), add_zero]
/-- The first term handed round: the sum from the second term on, and f n = f 0 behind. -/
theorem rsum_rotate (n : Nat) (f : Nat → R) (h : f n = f 0) : rsum n (fun i => f (i+1)) = rsum n f := by
  have h1 := rsum_succ_left n f
  rw [rsum_succ, h, add_c] at h1
  exact (add_left_cancel h1).symm
theorem rprod_rotate (n : Nat) (f : Nat → R) (h : f n = f 0) : f 0 * rprod n (fun i => f (i+1)) = f 0 * rprod n f := by
  have h1 := rprod_succ_left n f
  rw [rprod_succ, h, mul_c] at h1
  exact h1.symm

/-! ### multiples and powers -/
def nsm : Nat → R → R
  | 0, _ => 0
  | n+1, x => nsm n x + x
def pw (x : R) : Nat → R
  | 0 => 1
  | n+1 => pw x n * x
theorem nsm_zero (x : R) : nsm 0 x = 0 := rfl
theorem nsm_succ (n : Nat) (x : R) : nsm (n+1) x = nsm n x + x := rfl
theorem pw_zero (x : R) : pw x 0 = 1 := rfl
theorem pw_succ (x : R) (n : Nat) : pw x (n+1) = pw x n * x := rfl
theorem pw_one (x : R) : pw x 1 = x := one_mul x
theorem nsm_one (x : R) : nsm 1 x = x := zero_add x
theorem nsm_add (m n : Nat) (x : R) : nsm (m + n) x = nsm m x + nsm n x := by
  induction n with
  | zero => rw [nsm_zero, add_zero]; rfl
  | succ n ih => rw [← Nat.add_assoc, nsm_succ, ih, nsm_succ, add_a]
theorem nsm_mul (n : Nat) (x : R) : nsm n x = nsm n 1 * x := by
  induction n with
  | zero => rw [nsm_zero, nsm_zero, zero_mul]
  | succ n ih => rw [nsm_succ, nsm_succ, add_mul, one_mul, ← ih]
theorem nsm_mul_right (n : Nat) (x y : R) : nsm n (x * y) = nsm n x * y := by
  rw [nsm_mul n (x*y), nsm_mul n x, mul_a]
theorem nsm_nsm (m n : Nat) (x : R) : nsm (m * n) x = nsm m (nsm n x) := by
  induction m with
  | zero => rw [Nat.zero_mul]; rfl
  | succ m ih => rw [Nat.succ_mul, nsm_add, ih, nsm_succ]
theorem pw_add (x : R) (m n : Nat) : pw x (m + n) = pw x m * pw x n := by
  induction n with
  | zero => rw [pw_zero, mul_one]; rfl
  | succ n ih => rw [← Nat.add_assoc, pw_succ, ih, pw_succ, mul_a]
theorem pw_mul (x : R) (m n : Nat) : pw x (m * n) = pw (pw x m) n := by
  induction n with
  | zero => rfl
  | succ n ih => rw [Nat.mul_succ, pw_add, ih, pw_succ]
theorem mul_pw (x y : R) (n : Nat) : pw (x * y) n = pw x n * pw y n := by
  induction n with
  | zero => exact (one_mul 1).symm
  | succ n ih => rw [pw_succ, pw_succ, pw_succ, ih]; ac_rfl
theorem one_pw (n : Nat) : pw (1 : R) n = 1 := by
  induction n with
  | zero => rfl
  | succ n ih => rw [pw_succ, ih, one_mul]
theorem zero_pw {n : Nat} (h : 0 < n) : pw (0 : R) n = 0 := by
  obtain ⟨k, rfl⟩ : ∃ k, n = k + 1 := ⟨n - 1, by omega⟩
  exact mul_zero _
theorem pw_succ' (x : R) (n : Nat) : pw x (n+1) = x * pw x n := by rw [pw_succ, mul_c]

/-! ### the binomial theorem -/
def ch : Nat → Nat → Nat
  | _, 0 => 1
  | 0, _+1 => 0
  | n+1, k+1 => ch n k + ch n (k+1)
theorem ch_zero (n : Nat) : ch n 0 = 1 := by cases n <;> rfl
theorem ch_succ (n k : Nat) : ch (n+1) (k+1) = ch n k + ch n (k+1) := rfl
theorem ch_gt : ∀ (n k : Nat), n < k → ch n k = 0
  | _, 0, h => by omega
  | 0, k+1, _ => rfl
  | n+1, k+1, h => by rw [ch_succ, ch_gt n k (by omega), ch_gt n (k+1) (by omega)]
theorem ch_self : ∀ n : Nat, ch n n = 1
  | 0 => rfl
  | n+1 => by rw [ch_succ, ch_self n, ch_gt n (n+1) (by omega)]
theorem ch_mul : ∀ (n k : Nat), (k+1) * ch (n+1) (k+1) = (n+1) * ch n k
  | 0, 0 => rfl
  | 0, k+1 => by rw [ch_succ, ch_gt 0 (k+1) (by omega), ch_gt 0 (k+2) (by omega)]; simp
  | n+1, 0 => by
    have h := ch_mul n 0
    rw [ch_zero] at h
    rw [ch_succ (n+1) 0, ch_zero]
    simp only [Nat.zero_add, Nat.one_mul, Nat.mul_one] at *
    omega
  | n+1, k+1 => by
    have h1 := ch_mul n k
    have h2 := ch_mul n (k+1)
    rw [ch_succ (n+1) (k+1), Nat.mul_add, h2]
    have e : (k+1+1) * ch (n+1) (k+1) = (k+1) * ch (n+1) (k+1) + ch (n+1) (k+1) := by rw [Nat.add_mul]; omega
    rw [e, h1, show (n+1+1) * ch (n+1) (k+1) = (n+1) * ch (n+1) (k+1) + ch (n+1) (k+1) by rw [Nat.add_mul (n+1) 1]; omega]
    rw [ch_succ n k, Nat.mul_add (n+1)]
    omega
theorem binomial (x y : R) (n : Nat) : pw (x + y) n = rsum (n+1) (fun k => nsm (ch n k) (pw x k * pw y (n-k))) := by
  induction n with
  | zero => rw [rsum_succ, rsum_zero, zero_add]; show (1:R) = nsm 1 (pw x 0 * pw y 0); rw [nsm_one, pw_zero, pw_zero, one_mul]
  | succ n ih =>
    rw [pw_succ, ih, mul_add, ← rsum_mul_right, ← rsum_mul_right, rsum_succ_left (n+1)]
    have e1 : rsum (n+1) (fun i => nsm (ch (n+1) (i+1)) (pw x (i+1) * pw y (n+1-(i+1)))) =
        rsum (n+1) (fun k => nsm (ch n k) (pw x k * pw y (n-k)) * x) + rsum (n+1) (fun i => nsm (ch n (i+1)) (pw x (i+1) * pw y (n-i))) := by
      rw [← rsum_add]
      refine rsum_congr fun i hi => ?_
      rw [ch_succ, nsm_add, show n+1-(i+1) = n-i by omega, ← nsm_mul_right, pw_succ]
      congr 2; ac_rfl
    have e2 : rsum (n+1) (fun k => nsm (ch n k) (pw x k * pw y (n-k)) * y) =
        nsm (ch (n+1) 0) (pw x 0 * pw y (n+1-0)) + rsum (n+1) (fun i => nsm (ch n (i+1)) (pw x (i+1) * pw y (n-i))) := by
      rw [rsum_succ_left, rsum_succ n (fun i => nsm (ch n (i+1)) (pw x (i+1) * pw y (n-i))), ch_gt n (n+1) (by omega), nsm_zero, add_zero, ch_zero, ch_zero]
      congr 1
      · rw [← nsm_mul_right, nsm_one, nsm_one, mul_a, ← pw_succ]; rfl
      · refine rsum_congr fun i hi => ?_
        rw [← nsm_mul_right, mul_a, ← pw_succ, show n - (i+1) + 1 = n - i by omega]
    rw [e1, e2]; ac_rfl

/-- A prime number. -/
def Prime (p : Nat) : Prop := 2 ≤ p ∧ ∀ d, d ∣ p → d = 1 ∨ d = p
theorem Prime.dvd_ch {p k : Nat} (hp : Prime p) (h0 : 0 < k) (hk : k < p) : p ∣ ch p k := by
  obtain ⟨n, rfl⟩ : ∃ n, p = n + 1 := ⟨p - 1, by omega⟩
  obtain ⟨j, rfl⟩ : ∃ j, k = j + 1 := ⟨k - 1, by omega⟩
  have h := ch_mul n j
  have hc : Nat.Coprime (n+1) (j+1) := by
    have hg := hp.2 (Nat.gcd (n+1) (j+1)) (Nat.gcd_dvd_left _ _)
    have hl := Nat.le_of_dvd (by omega) (Nat.gcd_dvd_right (n+1) (j+1))
    rcases hg with h | h
    · exact h
    · omega
  exact hc.dvd_of_dvd_mul_left ⟨_, h⟩
theorem nsm_dvd {p n : Nat} (hp : nsm p (1 : R) = 0) (h : p ∣ n) (x : R) : nsm n x = 0 := by
  obtain ⟨k, rfl⟩ := h
  rw [Nat.mul_comm, nsm_nsm, nsm_mul p, hp, zero_mul, nsm_mul, mul_zero]
/-- In characteristic p the p-th power is additive. -/
theorem pw_add_char {p : Nat} (hp : Prime p) (hc : nsm p (1 : R) = 0) (x y : R) : pw (x + y) p = pw x p + pw y p := by
  obtain ⟨n, rfl⟩ : ∃ n, p = n + 2 := ⟨p - 2, by have := hp.1; omega⟩
  rw [binomial, rsum_succ, rsum_succ_left, rsum_eq_zero (fun i hi => nsm_dvd hc (hp.dvd_ch (by omega) (by omega)) _), add_zero, ch_zero, ch_self,
    nsm_one, nsm_one, Nat.sub_self, pw_zero, pw_zero, mul_one, one_mul, Nat.sub_zero, add_c]
end ring

end Cw
