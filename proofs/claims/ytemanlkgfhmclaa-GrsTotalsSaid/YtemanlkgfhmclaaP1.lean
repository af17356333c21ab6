/- Plain algebra: commutative rings, finite sums and products, powers, the binomial theorem and the Frobenius map. No Go here. Plain algebra: finite fields whose elements are numbered; the Frobenius map, degrees, subfields. No Go here. Plain lemmas on lists of ints that a loop fills. No Go here. Plain algebra: integers modulo p, and the residues of polynomials over them modulo a monic polynomial; how residues are numbered. No Go here. Plain algebra: a residue ring with a primitive element as a finite field; ints as elements. No Go here. Plain algebra: lists of coefficients as residues; one step of a product, one step of a reduction. No Go here. Plain algebra: a residue whose powers are all residues other than 0; pigeonholes. No Go here. Plain: what the reference's long division computes. No Go here. Plain: sums of elements digit by digit, and by exclusive or in characteristic 2. No Go here. Plain algebra: roots of polynomials, the number of elements of a subfield, Hilbert's theorem 90. No Go here. Plain algebra: a finite commutative ring in which all elements other than 0 have inverses has a primitive element. No Go here. Plain algebra: the residues have a primitive element just if the long division finds no divisor of the modulus. No Go here. Plain algebra: products of linear factors, Lagrange's identity. No Go here. Plain: canonical lists of coefficients. No Go here. -/
/-! Plain algebra: commutative rings, finite sums and products, powers, the binomial theorem and the Frobenius map. No Go here -/
namespace Cw

/-- A commutative ring with one. -/
class CRing (R : Type) extends Add R, Mul R, Neg R, Zero R, One R where
  add_assoc' : ∀ a b c : R, a + b + c = a + (b + c)
  add_comm' : ∀ a b : R, a + b = b + a
  zero_add' : ∀ a : R, 0 + a = a
  neg_add' : ∀ a : R, -a + a = 0
  mul_assoc' : ∀ a b c : R, a * b * c = a * (b * c)
  mul_comm' : ∀ a b : R, a * b = b * a
  one_mul' : ∀ a : R, 1 * a = a
  mul_add' : ∀ a b c : R, a * (b + c) = a * b + a * c

section ring
variable {R : Type} [CRing R]

instance : Sub R := ⟨fun a b => a + -b⟩
instance : Std.Associative (α := R) (· + ·) := ⟨CRing.add_assoc'⟩
instance : Std.Commutative (α := R) (· + ·) := ⟨CRing.add_comm'⟩
instance : Std.Associative (α := R) (· * ·) := ⟨CRing.mul_assoc'⟩
instance : Std.Commutative (α := R) (· * ·) := ⟨CRing.mul_comm'⟩

theorem sub_d (a b : R) : a - b = a + -b := rfl
theorem add_a (a b c : R) : a + b + c = a + (b + c) := CRing.add_assoc' a b c
theorem add_c (a b : R) : a + b = b + a := CRing.add_comm' a b
theorem add_lc (a b c : R) : a + (b + c) = b + (a + c) := by ac_rfl
theorem mul_a (a b c : R) : a * b * c = a * (b * c) := CRing.mul_assoc' a b c
theorem mul_c (a b : R) : a * b = b * a := CRing.mul_comm' a b
theorem mul_lc (a b c : R) : a * (b * c) = b * (a * c) := by ac_rfl
theorem zero_add (a : R) : 0 + a = a := CRing.zero_add' a
theorem add_zero (a : R) : a + 0 = a := by rw [add_c]; exact zero_add a
theorem neg_add (a : R) : -a + a = 0 := CRing.neg_add' a
theorem add_neg (a : R) : a + -a = 0 := by rw [add_c]; exact neg_add a
theorem one_mul (a : R) : 1 * a = a := CRing.one_mul' a
theorem mul_one (a : R) : a * 1 = a := by rw [mul_c]; exact one_mul a
theorem mul_add (a b c : R) : a * (b + c) = a * b + a * c := CRing.mul_add' a b c
theorem add_mul (a b c : R) : (a + b) * c = a * c + b * c := by rw [mul_c, mul_add, mul_c c a, mul_c c b]
theorem add_left_cancel {a b c : R} (h : a + b = a + c) : b = c := by
  have : -a + (a + b) = -a + (a + c) := by rw [h]
  rwa [← add_a, ← add_a, neg_add, zero_add, zero_add] at this
theorem add_right_cancel {a b c : R} (h : b + a = c + a) : b = c := by
  rw [add_c b, add_c c] at h; exact add_left_cancel h
theorem mul_zero (a : R) : a * 0 = 0 := by
  have h : a * 0 + a * 0 = a * 0 + 0 := by rw [← mul_add, zero_add, add_zero]
  exact add_left_cancel h
theorem zero_mul (a : R) : 0 * a = 0 := by rw [mul_c]; exact mul_zero a
theorem neg_unique {a b : R} (h : a + b = 0) : b = -a := by
  apply add_left_cancel (a := a); rw [h, add_neg]
theorem neg_neg (a : R) : - -a = a := (neg_unique (neg_add a)).symm
theorem neg_zero : -(0 : R) = 0 := (neg_unique (zero_add 0)).symm
theorem neg_mul (a b : R) : -a * b = -(a * b) := neg_unique (by rw [← add_mul, add_neg, zero_mul])
theorem mul_neg (a b : R) : a * -b = -(a * b) := by rw [mul_c, neg_mul, mul_c]
theorem neg_add_d (a b : R) : -(a + b) = -a + -b := (neg_unique (by
  rw [show a + b + (-a + -b) = (a + -a) + (b + -b) by ac_rfl, add_neg, add_neg, zero_add])).symm
theorem sub_self (a : R) : a - a = 0 := add_neg a
theorem sub_zero (a : R) : a - 0 = a := by rw [sub_d, neg_zero, add_zero]
theorem zero_sub (a : R) : 0 - a = -a := by rw [sub_d, zero_add]
theorem sub_add_cancel (a b : R) : a - b + b = a := by rw [sub_d, add_a, neg_add, add_zero]
theorem add_sub_cancel (a b : R) : a + b - b = a := by rw [sub_d, add_a, add_neg, add_zero]
theorem sub_eq_zero {a b : R} (h : a - b = 0) : a = b := by
  have := sub_add_cancel a b; rw [h, zero_add] at this; exact this.symm
theorem sub_eq_iff {a b c : R} : a - b = c ↔ a = c + b :=
  ⟨fun h => by rw [← h, sub_add_cancel], fun h => by rw [h, add_sub_cancel]⟩
theorem mul_sub (a b c : R) : a * (b - c) = a * b - a * c := by rw [sub_d, mul_add, mul_neg, sub_d]
theorem sub_mul (a b c : R) : (a - b) * c = a * c - b * c := by rw [sub_d, add_mul, neg_mul, sub_d]
theorem neg_sub (a b : R) : -(a - b) = b - a := by rw [sub_d, neg_add_d, neg_neg, sub_d, add_c]

/-! ### sums and products over the numbers below n -/
def rsum : Nat → (Nat → R) → R
  | 0, _ => 0
  | n+1, f => rsum n f + f n
def rprod : Nat → (Nat → R) → R
  | 0, _ => 1
  | n+1, f => rprod n f * f n
theorem rsum_zero (f : Nat → R) : rsum 0 f = 0 := rfl
theorem rsum_succ (n : Nat) (f : Nat → R) : rsum (n+1) f = rsum n f + f n := rfl
theorem rprod_zero (f : Nat → R) : rprod 0 f = 1 := rfl
theorem rprod_succ (n : Nat) (f : Nat → R) : rprod (n+1) f = rprod n f * f n := rfl
theorem rsum_congr {n : Nat} {f g : Nat → R} (h : ∀ i, i < n → f i = g i) : rsum n f = rsum n g := by
  induction n with
  | zero => rfl
  | succ n ih => rw [rsum_succ, rsum_succ, ih (fun i hi => h i (by omega)), h n (by omega)]
theorem rprod_congr {n : Nat} {f g : Nat → R} (h : ∀ i, i < n → f i = g i) : rprod n f = rprod n g := by
  induction n with
  | zero => rfl
  | succ n ih => rw [rprod_succ, rprod_succ, ih (fun i hi => h i (by omega)), h n (by omega)]
theorem rsum_const0 (n : Nat) : rsum n (fun _ => (0 : R)) = 0 := by
  induction n with
  | zero => rfl
  | succ n ih => rw [rsum_succ, ih, zero_add]
theorem rsum_eq_zero {n : Nat} {f : Nat → R} (h : ∀ i, i < n → f i = 0) : rsum n f = 0 := by
  rw [rsum_congr h, rsum_const0]
theorem rsum_add (n : Nat) (f g : Nat → R) : rsum n (fun i => f i + g i) = rsum n f + rsum n g := by
  induction n with
  | zero => exact (zero_add 0).symm
  | succ n ih => rw [rsum_succ, rsum_succ, rsum_succ, ih]; ac_rfl
theorem rsum_neg (n : Nat) (f : Nat → R) : rsum n (fun i => - f i) = - rsum n f := by
  induction n with
  | zero => exact neg_zero.symm
  | succ n ih => rw [rsum_succ, rsum_succ, ih, neg_add_d]
theorem rsum_sub (n : Nat) (f g : Nat → R) : rsum n (fun i => f i - g i) = rsum n f - rsum n g := by
  rw [sub_d, ← rsum_neg, ← rsum_add]; rfl
theorem rsum_mul_left (n : Nat) (c : R) (f : Nat → R) : rsum n (fun i => c * f i) = c * rsum n f := by
  induction n with
  | zero => exact (mul_zero c).symm
  | succ n ih => rw [rsum_succ, rsum_succ, ih, mul_add]
theorem rsum_mul_right (n : Nat) (c : R) (f : Nat → R) : rsum n (fun i => f i * c) = rsum n f * c := by
  rw [mul_c, ← rsum_mul_left]; exact rsum_congr fun i _ => mul_c _ _
theorem rsum_swap (n m : Nat) (f : Nat → Nat → R) : rsum n (fun i => rsum m (f i)) = rsum m (fun j => rsum n (fun i => f i j)) := by
  induction n with
  | zero => exact (rsum_const0 m).symm
  | succ n ih => rw [rsum_succ, ih, ← rsum_add]; rfl
theorem rsum_succ_left (n : Nat) (f : Nat → R) : rsum (n+1) f = f 0 + rsum n (fun i => f (i+1)) := by
  induction n with
  | zero => rw [rsum_succ, rsum_zero, zero_add, rsum_zero, add_zero]
  | succ n ih => rw [rsum_succ, ih, rsum_succ, add_a]
theorem rprod_succ_left (n : Nat) (f : Nat → R) : rprod (n+1) f = f 0 * rprod n (fun i => f (i+1)) := by
  induction n with
  | zero => rw [rprod_succ, rprod_zero, one_mul, rprod_zero, mul_one]
  | succ n ih => rw [rprod_succ, ih, rprod_succ, mul_a]
theorem rsum_split (m n : Nat) (f : Nat → R) : rsum (m + n) f = rsum m f + rsum n (fun i => f (m + i)) := by
  induction n with
  | zero => rw [rsum_zero, add_zero]; rfl
  | succ n ih => rw [← Nat.add_assoc, rsum_succ, ih, rsum_succ, add_a]
theorem rprod_split (m n : Nat) (f : Nat → R) : rprod (m + n) f = rprod m f * rprod n (fun i => f (m + i)) := by
  induction n with
  | zero => rw [rprod_zero, mul_one]; rfl
  | succ n ih => rw [← Nat.add_assoc, rprod_succ, ih, rprod_succ, mul_a]
theorem rprod_mul (n : Nat) (f g : Nat → R) : rprod n (fun i => f i * g i) = rprod n f * rprod n g := by
  induction n with
  | zero => exact (one_mul 1).symm
  | succ n ih => rw [rprod_succ, rprod_succ, rprod_succ, ih]; ac_rfl
theorem rprod_one (n : Nat) : rprod n (fun _ => (1 : R)) = 1 := by
  induction n with
  | zero => rfl
  | succ n ih => rw [rprod_succ, ih, mul_one]
theorem rprod_eq_zero {n : Nat} {f : Nat → R} {i : Nat} (hi : i < n) (h : f i = 0) : rprod n f = 0 := by
  induction n with
  | zero => omega
  | succ n ih =>
    rw [rprod_succ]
    by_cases e : i = n
    · subst e; rw [h, mul_zero]
    · rw [ih (by omega), zero_mul]
/-- A sum with one term that may differ from 0. -/
theorem rsum_single {n : Nat} {f : Nat → R} {k : Nat} (hk : k < n) (h : ∀ i, i < n → i ≠ k → f i = 0) : rsum n f = f k := by
  induction n with
  | zero => omega
  | succ n ih =>
    rw [rsum_succ]
    by_cases e : k = n
    · subst e
      rw [rsum_eq_zero (fun i hi => h i (by omega) (by omega)), zero_add]
    · rw [ih (by omega) (fun i hi hne => h i (by omega) hne), h n (by omega) (by omega), add_zero]
/-- The first term handed round: the sum from the second term on, and f n = f 0 behind. -/
theorem rsum_rotate (n : Nat) (f : Nat → R) (h : f n = f 0) : rsum n (fun i => f (i+1)) = rsum n f := by
  have h1 := rsum_succ_left n f
  rw [rsum_succ, h, add_c] at h1
  exact (add_left_cancel h1).symm
theorem rprod_rotate (n : Nat) (f : Nat → R) (h : f n = f 0) : f 0 * rprod n (fun i => f (i+1)) = f 0 * rprod n f := by
  have h1 := rprod_succ_left n f
  rw [rprod_succ, h, mul_c] at h1
  exact h1.symm

/-! ### multiples and powers -/
def nsm : Nat → R → R
  | 0, _ => 0
  | n+1, x => nsm n x + x
def pw (x : R) : Nat → R
  | 0 => 1
  | n+1 => pw x n * x
theorem nsm_zero (x : R) : nsm 0 x = 0 := rfl
theorem nsm_succ (n : Nat) (x : R) : nsm (n+1) x = nsm n x + x := rfl
theorem pw_zero (x : R) : pw x 0 = 1 := rfl
theorem pw_succ (x : R) (n : Nat) : pw x (n+1) = pw x n * x := rfl
theorem pw_one (x : R) : pw x 1 = x := one_mul x
theorem nsm_one (x : R) : nsm 1 x = x := zero_add x
theorem nsm_add (m n : Nat) (x : R) : nsm (m + n) x = nsm m x + nsm n x := by
  induction n with
  | zero => rw [nsm_zero, add_zero]; rfl
  | succ n ih => rw [← Nat.add_assoc, nsm_succ, ih, nsm_succ, add_a]
theorem nsm_mul (n : Nat) (x : R) : nsm n x = nsm n 1 * x := by
  induction n with
  | zero => rw [nsm_zero, nsm_zero, zero_mul]
  | succ n ih => rw [nsm_succ, nsm_succ, add_mul, one_mul, ← ih]
theorem nsm_mul_right (n : Nat) (x y : R) : nsm n (x * y) = nsm n x * y := by
  rw [nsm_mul n (x*y), nsm_mul n x, mul_a]
theorem nsm_nsm (m n : Nat) (x : R) : nsm (m * n) x = nsm m (nsm n x) := by
  induction m with
  | zero => rw [Nat.zero_mul]; rfl
  | succ m ih => rw [Nat.succ_mul, nsm_add, ih, nsm_succ]
theorem pw_add (x : R) (m n : Nat) : pw x (m + n) = pw x m * pw x n := by
  induction n with
  | zero => rw [pw_zero, mul_one]; rfl
  | succ n ih => rw [← Nat.add_assoc, pw_succ, ih, pw_succ, mul_a]
theorem pw_mul (x : R) (m n : Nat) : pw x (m * n) = pw (pw x m) n := by
  induction n with
  | zero => rfl
  | succ n ih => rw [Nat.mul_succ, pw_add, ih, pw_succ]
theorem mul_pw (x y : R) (n : Nat) : pw (x * y) n = pw x n * pw y n := by
  induction n with
  | zero => exact (one_mul 1).symm
  | succ n ih => rw [pw_succ, pw_succ, pw_succ, ih]; ac_rfl
theorem one_pw (n : Nat) : pw (1 : R) n = 1 := by
  induction n with
  | zero => rfl
  | succ n ih => rw [pw_succ, ih, one_mul]
theorem zero_pw {n : Nat} (h : 0 < n) : pw (0 : R) n = 0 := by
  obtain ⟨k, rfl⟩ : ∃ k, n = k + 1 := ⟨n - 1, by omega⟩
  exact mul_zero _
theorem pw_succ' (x : R) (n : Nat) : pw x (n+1) = x * pw x n := by rw [pw_succ, mul_c]

/-! ### the binomial theorem -/
def ch : Nat → Nat → Nat
  | _, 0 => 1
  | 0, _+1 => 0
  | n+1, k+1 => ch n k + ch n (k+1)
theorem ch_zero (n : Nat) : ch n 0 = 1 := by cases n <;> rfl
theorem ch_succ (n k : Nat) : ch (n+1) (k+1) = ch n k + ch n (k+1) := rfl
theorem ch_gt : ∀ (n k : Nat), n < k → ch n k = 0
  | _, 0, h => by omega
  | 0, k+1, _ => rfl
  | n+1, k+1, h => by rw [ch_succ, ch_gt n k (by omega), ch_gt n (k+1) (by omega)]
theorem ch_self : ∀ n : Nat, ch n n = 1
  | 0 => rfl
  | n+1 => by rw [ch_succ, ch_self n, ch_gt n (n+1) (by omega)]
theorem ch_mul : ∀ (n k : Nat), (k+1) * ch (n+1) (k+1) = (n+1) * ch n k
  | 0, 0 => rfl
  | 0, k+1 => by rw [ch_succ, ch_gt 0 (k+1) (by omega), ch_gt 0 (k+2) (by omega)]; simp
  | n+1, 0 => by
    have h := ch_mul n 0
    rw [ch_zero] at h
    rw [ch_succ (n+1) 0, ch_zero]
    simp only [Nat.zero_add, Nat.one_mul, Nat.mul_one] at *
    omega
  | n+1, k+1 => by
    have h1 := ch_mul n k
    have h2 := ch_mul n (k+1)
    rw [ch_succ (n+1) (k+1), Nat.mul_add, h2]
    have e : (k+1+1) * ch (n+1) (k+1) = (k+1) * ch (n+1) (k+1) + ch (n+1) (k+1) := by rw [Nat.add_mul]; omega
    rw [e, h1, show (n+1+1) * ch (n+1) (k+1) = (n+1) * ch (n+1) (k+1) + ch (n+1) (k+1) by rw [Nat.add_mul (n+1) 1]; omega]
    rw [ch_succ n k, Nat.mul_add (n+1)]
    omega
theorem binomial (x y : R) (n : Nat) : pw (x + y) n = rsum (n+1) (fun k => nsm (ch n k) (pw x k * pw y (n-k))) := by
  induction n with
  | zero => rw [rsum_succ, rsum_zero, zero_add]; show (1:R) = nsm 1 (pw x 0 * pw y 0); rw [nsm_one, pw_zero, pw_zero, one_mul]
  | succ n ih =>
    rw [pw_succ, ih, mul_add, ← rsum_mul_right, ← rsum_mul_right, rsum_succ_left (n+1)]
    have e1 : rsum (n+1) (fun i => nsm (ch (n+1) (i+1)) (pw x (i+1) * pw y (n+1-(i+1)))) =
        rsum (n+1) (fun k => nsm (ch n k) (pw x k * pw y (n-k)) * x) + rsum (n+1) (fun i => nsm (ch n (i+1)) (pw x (i+1) * pw y (n-i))) := by
      rw [← rsum_add]
      refine rsum_congr fun i hi => ?_
      rw [ch_succ, nsm_add, show n+1-(i+1) = n-i by omega, ← nsm_mul_right, pw_succ]
      congr 2; ac_rfl
    have e2 : rsum (n+1) (fun k => nsm (ch n k) (pw x k * pw y (n-k)) * y) =
        nsm (ch (n+1) 0) (pw x 0 * pw y (n+1-0)) + rsum (n+1) (fun i => nsm (ch n (i+1)) (pw x (i+1) * pw y (n-i))) := by
      rw [rsum_succ_left, rsum_succ n (fun i => nsm (ch n (i+1)) (pw x (i+1) * pw y (n-i))), ch_gt n (n+1) (by omega), nsm_zero, add_zero, ch_zero, ch_zero]
      congr 1
      · rw [← nsm_mul_right, nsm_one, nsm_one, mul_a, ← pw_succ]; rfl
      · refine rsum_congr fun i hi => ?_
        rw [← nsm_mul_right, mul_a, ← pw_succ, show n - (i+1) + 1 = n - i by omega]
    rw [e1, e2]; ac_rfl

/-- A prime number. -/
def Prime (p : Nat) : Prop := 2 ≤ p ∧ ∀ d, d ∣ p → d = 1 ∨ d = p
theorem Prime.dvd_ch {p k : Nat} (hp : Prime p) (h0 : 0 < k) (hk : k < p) : p ∣ ch p k := by
  obtain ⟨n, rfl⟩ : ∃ n, p = n + 1 := ⟨p - 1, by omega⟩
  obtain ⟨j, rfl⟩ : ∃ j, k = j + 1 := ⟨k - 1, by omega⟩
  have h := ch_mul n j
  have hc : Nat.Coprime (n+1) (j+1) := by
    have hg := hp.2 (Nat.gcd (n+1) (j+1)) (Nat.gcd_dvd_left _ _)
    have hl := Nat.le_of_dvd (by omega) (Nat.gcd_dvd_right (n+1) (j+1))
    rcases hg with h | h
    · exact h
    · omega
  exact hc.dvd_of_dvd_mul_left ⟨_, h⟩
theorem nsm_dvd {p n : Nat} (hp : nsm p (1 : R) = 0) (h : p ∣ n) (x : R) : nsm n x = 0 := by
  obtain ⟨k, rfl⟩ := h
  rw [Nat.mul_comm, nsm_nsm, nsm_mul p, hp, zero_mul, nsm_mul, mul_zero]
/-- In characteristic p the p-th power is additive. -/
theorem pw_add_char {p : Nat} (hp : Prime p) (hc : nsm p (1 : R) = 0) (x y : R) : pw (x + y) p = pw x p + pw y p := by
  obtain ⟨n, rfl⟩ : ∃ n, p = n + 2 := ⟨p - 2, by have := hp.1; omega⟩
  rw [binomial, rsum_succ, rsum_succ_left, rsum_eq_zero (fun i hi => nsm_dvd hc (hp.dvd_ch (by omega) (by omega)) _), add_zero, ch_zero, ch_self,
    nsm_one, nsm_one, Nat.sub_self, pw_zero, pw_zero, mul_one, one_mul, Nat.sub_zero, add_c]
end ring

end Cw

/-! Plain algebra: finite fields whose elements are numbered; the Frobenius map, degrees, subfields. No Go here -/
namespace Cw

class CField (F : Type) extends CRing F where
  inv : F → F
  mul_inv' : ∀ a : F, a ≠ 0 → a * inv a = 1
  inv_zero' : inv 0 = 0
  one_ne' : (1 : F) ≠ 0

section cfield
variable {F : Type} [CField F]
open CField (inv)
theorem one_ne : (1 : F) ≠ 0 := CField.one_ne'
theorem mul_inv {a : F} (h : a ≠ 0) : a * inv a = 1 := CField.mul_inv' a h
theorem inv_mul {a : F} (h : a ≠ 0) : inv a * a = 1 := by rw [mul_c]; exact mul_inv h
theorem inv_zero : inv (0 : F) = 0 := CField.inv_zero'
theorem mul_left_cancel {a b c : F} (h : a ≠ 0) (e : a * b = a * c) : b = c := by
  have : inv a * (a * b) = inv a * (a * c) := by rw [e]
  rwa [← mul_a, ← mul_a, inv_mul h, one_mul, one_mul] at this
theorem mul_eq_zero {a b : F} (h : a * b = 0) : a = 0 ∨ b = 0 := by
  by_cases ha : a = 0
  · exact .inl ha
  · exact .inr (mul_left_cancel ha (by rw [h, mul_zero]))
theorem mul_ne_zero {a b : F} (ha : a ≠ 0) (hb : b ≠ 0) : a * b ≠ 0 := fun h => (mul_eq_zero h).elim ha hb
theorem inv_ne_zero {a : F} (h : a ≠ 0) : inv a ≠ 0 := fun e => by
  have := mul_inv h; rw [e, mul_zero] at this; exact one_ne this.symm
theorem inv_unique {a b : F} (h : a * b = 1) : b = inv a := by
  have ha : a ≠ 0 := fun e => by rw [e, zero_mul] at h; exact one_ne h.symm
  exact mul_left_cancel ha (by rw [h, mul_inv ha])
theorem inv_inv (a : F) : inv (inv a) = a := by
  by_cases h : a = 0
  · rw [h, inv_zero, inv_zero]
  · exact (inv_unique (inv_mul h)).symm
theorem inv_mul_d (a b : F) : inv (a * b) = inv a * inv b := by
  by_cases ha : a = 0
  · rw [ha, zero_mul, inv_zero, zero_mul]
  by_cases hb : b = 0
  · rw [hb, mul_zero, inv_zero, mul_zero]
  refine (inv_unique ?_).symm
  rw [show a * b * (inv a * inv b) = (a * inv a) * (b * inv b) by ac_rfl, mul_inv ha, mul_inv hb, mul_one]
theorem inv_one : inv (1 : F) = 1 := (inv_unique (mul_one 1)).symm
theorem pw_ne_zero {a : F} (h : a ≠ 0) (n : Nat) : pw a n ≠ 0 := by
  induction n with
  | zero => exact one_ne
  | succ n ih => exact mul_ne_zero ih h
theorem pw_eq_zero {a : F} {n : Nat} (h : pw a n = 0) : a = 0 := Classical.byContradiction fun e => pw_ne_zero e n h
theorem rprod_ne_zero {n : Nat} {f : Nat → F} (h : ∀ i, i < n → f i ≠ 0) : rprod n f ≠ 0 := by
  induction n with
  | zero => exact one_ne
  | succ n ih => exact mul_ne_zero (ih fun i hi => h i (by omega)) (h n (by omega))
end cfield

/-- A finite field: its elements are numbered by `code` and `el`; `gen` is a primitive element. -/
class FF (F : Type) extends CField F where
  p : Nat
  M : Nat
  q : Nat
  prime_p : Prime p
  M_pos : 1 ≤ M
  q_eq : q = p ^ M
  char_p : nsm p (1 : F) = 0
  code : F → Nat
  el : Nat → F
  code_lt : ∀ x, code x < q
  el_code : ∀ x, el (code x) = x
  code_el : ∀ n, n < q → code (el n) = n
  code_zero : code 0 = 0
  code_one : code 1 = 1
  gen : F
  gen_all : ∀ x : F, x ≠ 0 → ∃ i, i < q - 1 ∧ x = pw gen i
  gen_inj : ∀ i j, i < q - 1 → j < q - 1 → pw gen i = pw gen j → i = j
  gen_one : pw gen (q - 1) = 1

section ff
variable {F : Type} [FF F]
open FF
open CField (inv)

theorem code_inj {x y : F} (h : code x = code y) : x = y := by rw [← el_code x, ← el_code y, h]
instance : DecidableEq F := fun x y => if h : code x = code y then .isTrue (code_inj h) else .isFalse fun e => h (by rw [e])
theorem el_zero : (el 0 : F) = 0 := by rw [← code_zero (F := F), el_code]
theorem el_one : (el 1 : F) = 1 := by rw [← code_one (F := F), el_code]
theorem code_eq_zero {x : F} : code x = 0 ↔ x = 0 := ⟨fun h => code_inj (by rw [h, code_zero]), fun h => by rw [h, code_zero]⟩
theorem code_eq_one {x : F} : code x = 1 ↔ x = 1 := ⟨fun h => code_inj (by rw [h, code_one]), fun h => by rw [h, code_one]⟩
theorem p_two : 2 ≤ p F := (prime_p (F := F)).1
theorem q_pos : 1 ≤ q F := by rw [q_eq]; exact Nat.pow_pos (by have := p_two (F := F); omega)
theorem q_two : 2 ≤ q F := by
  have h := Nat.pow_le_pow_right (n := p F) (by have := p_two (F := F); omega) (M_pos (F := F))
  rw [← q_eq, Nat.pow_one] at h; have := p_two (F := F); omega
theorem gen_ne : (gen : F) ≠ 0 := fun h => by
  have h1 := gen_one (F := F)
  have h2 := q_two (F := F)
  rw [h, zero_pw (by omega)] at h1
  exact one_ne h1.symm
theorem pw_gen_mod (i : Nat) : pw (gen : F) (i % (q F - 1)) = pw gen i := by
  conv => rhs; rw [← Nat.mod_add_div i (q F - 1)]
  rw [pw_add, pw_mul, gen_one, one_pw, mul_one]
theorem pw_gen_eq_one (i : Nat) : pw (gen : F) i = 1 ↔ (q F - 1) ∣ i := by
  have h2 := q_two (F := F)
  constructor
  · intro h
    rw [← pw_gen_mod, ← pw_zero gen] at h
    exact Nat.dvd_of_mod_eq_zero (gen_inj _ _ (Nat.mod_lt _ (by omega)) (by omega) h)
  · rintro ⟨k, rfl⟩
    rw [pw_mul, gen_one, one_pw]
theorem pw_q1 {x : F} (h : x ≠ 0) : pw x (q F - 1) = 1 := by
  obtain ⟨i, _, rfl⟩ := gen_all x h
  rw [← pw_mul, Nat.mul_comm, pw_mul, gen_one, one_pw]
theorem pw_q (x : F) : pw x (q F) = x := by
  have h2 := q_two (F := F)
  by_cases h : x = 0
  · rw [h, zero_pw (by omega)]
  · rw [show q F = (q F - 1) + 1 by omega, pw_succ, pw_q1 h, one_mul]
/-- Exponents count modulo q-1. -/
theorem pw_mod {x : F} (h : x ≠ 0) (i : Nat) : pw x (i % (q F - 1)) = pw x i := by
  conv => rhs; rw [← Nat.mod_add_div i (q F - 1)]
  rw [pw_add, pw_mul, pw_q1 h, one_pw, mul_one]
theorem inv_pw (x : F) : inv x = pw x (q F - 2) ∨ x = 0 := by
  have h2 := q_two (F := F)
  by_cases h : x = 0
  · exact .inr h
  · refine .inl (inv_unique ?_).symm
    rw [← pw_succ', show q F - 2 + 1 = q F - 1 by omega, pw_q1 h]

/-! ### the Frobenius map -/
def frob (k : Nat) (x : F) : F := pw x (p F ^ k)
theorem frob_zero_k (x : F) : frob 0 x = x := by unfold frob; rw [Nat.pow_zero, pw_one]
theorem frob_one_k (x : F) : frob 1 x = pw x (p F) := by unfold frob; rw [Nat.pow_one]
theorem frob_frob (j k : Nat) (x : F) : frob j (frob k x) = frob (j + k) x := by
  unfold frob; rw [← pw_mul, Nat.pow_add, Nat.mul_comm]
theorem frob_succ (k : Nat) (x : F) : frob (k + 1) x = pw (frob k x) (p F) := by
  rw [Nat.add_comm, ← frob_frob, frob_one_k]
theorem frob_add (k : Nat) (x y : F) : frob k (x + y) = frob k x + frob k y := by
  induction k with
  | zero => rw [frob_zero_k, frob_zero_k, frob_zero_k]
  | succ k ih => rw [frob_succ, frob_succ, frob_succ, ih, pw_add_char prime_p char_p]
theorem frob_mul (k : Nat) (x y : F) : frob k (x * y) = frob k x * frob k y := mul_pw _ _ _
theorem frob_zero (k : Nat) : frob k (0 : F) = 0 := zero_pw (Nat.pow_pos (by have := p_two (F := F); omega))
theorem frob_one (k : Nat) : frob k (1 : F) = 1 := one_pw _
theorem frob_neg (k : Nat) (x : F) : frob k (-x) = - frob k x := neg_unique (by rw [← frob_add, add_neg, frob_zero])
theorem frob_sub (k : Nat) (x y : F) : frob k (x - y) = frob k x - frob k y := by rw [sub_d, frob_add, frob_neg, sub_d]
theorem frob_inv (k : Nat) (x : F) : frob k (inv x) = inv (frob k x) := by
  by_cases h : x = 0
  · rw [h, inv_zero, frob_zero, inv_zero]
  · exact inv_unique (by rw [← frob_mul, mul_inv h, frob_one])
theorem frob_M (x : F) : frob (M F) x = x := by unfold frob; rw [← q_eq, pw_q]
theorem frob_Mmul (k : Nat) (x : F) : frob (M F * k) x = x := by
  induction k with
  | zero => exact frob_zero_k x
  | succ k ih => rw [Nat.mul_succ, Nat.add_comm, ← frob_frob, ih, frob_M]
theorem frob_mod (k : Nat) (x : F) : frob (k % M F) x = frob k x := by
  conv => rhs; rw [← Nat.mod_add_div k (M F), ← frob_frob, frob_Mmul]
theorem frob_inj {k : Nat} {x y : F} (h : frob k x = frob k y) : x = y := by
  have hM := M_pos (F := F)
  have h1 : frob (M F * k - k) (frob k x) = frob (M F * k - k) (frob k y) := by rw [h]
  have hk : k ≤ M F * k := Nat.le_mul_of_pos_left k (by omega)
  rwa [frob_frob, frob_frob, Nat.sub_add_cancel hk, frob_Mmul, frob_Mmul] at h1
theorem frob_eq_zero {k : Nat} {x : F} (h : frob k x = 0) : x = 0 := frob_inj (k := k) (by rw [h, frob_zero])
theorem frob_ne_zero {k : Nat} {x : F} (h : x ≠ 0) : frob k x ≠ 0 := fun e => h (frob_eq_zero e)
theorem frob_rsum (k n : Nat) (f : Nat → F) : frob k (rsum n f) = rsum n (fun i => frob k (f i)) := by
  induction n with
  | zero => exact frob_zero k
  | succ n ih => rw [rsum_succ, frob_add, ih, rsum_succ]
theorem frob_rprod (k n : Nat) (f : Nat → F) : frob k (rprod n f) = rprod n (fun i => frob k (f i)) := by
  induction n with
  | zero => exact frob_one k
  | succ n ih => rw [rprod_succ, frob_mul, ih, rprod_succ]

/-! ### degrees and subfields -/
/-- d is the degree of x over the prime field. -/
def IsDeg (x : F) (d : Nat) : Prop := 1 ≤ d ∧ frob d x = x ∧ ∀ j, 1 ≤ j → j < d → frob j x ≠ x
theorem frob_fix_mul {d : Nat} {x : F} (h : frob d x = x) (k : Nat) : frob (d * k) x = x := by
  induction k with
  | zero => exact frob_zero_k x
  | succ k ih => rw [Nat.mul_succ, Nat.add_comm, ← frob_frob, ih, h]
theorem frob_fix_dvd {d k : Nat} {x : F} (h : frob d x = x) (hd : d ∣ k) : frob k x = x := by
  obtain ⟨t, rfl⟩ := hd; exact frob_fix_mul h t
theorem IsDeg.dvd {x : F} {d k : Nat} (h : IsDeg x d) (hk : frob k x = x) : d ∣ k := by
  obtain ⟨h1, h2, h3⟩ := h
  have e : frob (k % d) x = x := by
    have := hk
    rw [← Nat.mod_add_div k d, ← frob_frob, frob_fix_mul h2] at this
    exact this
  apply Nat.dvd_of_mod_eq_zero
  rcases Nat.eq_zero_or_pos (k % d) with h0 | h0
  · exact h0
  · exact absurd e (h3 _ h0 (Nat.mod_lt _ (by omega)))
theorem IsDeg.fix_iff {x : F} {d k : Nat} (h : IsDeg x d) : frob k x = x ↔ d ∣ k := ⟨h.dvd, frob_fix_dvd h.2.1⟩
theorem IsDeg.dvd_M {x : F} {d : Nat} (h : IsDeg x d) : d ∣ M F := h.dvd (frob_M x)
theorem IsDeg.le_M {x : F} {d : Nat} (h : IsDeg x d) : d ≤ M F := Nat.le_of_dvd (M_pos (F := F)) h.dvd_M

/-- x is in the subfield of degree d. -/
def InSub (d : Nat) (x : F) : Prop := frob d x = x
theorem InSub.add {d : Nat} {x y : F} (hx : InSub d x) (hy : InSub d y) : InSub d (x + y) := by unfold InSub at *; rw [frob_add, hx, hy]
theorem InSub.mul {d : Nat} {x y : F} (hx : InSub d x) (hy : InSub d y) : InSub d (x * y) := by unfold InSub at *; rw [frob_mul, hx, hy]
theorem InSub.neg {d : Nat} {x : F} (hx : InSub d x) : InSub d (-x) := by unfold InSub at *; rw [frob_neg, hx]
theorem InSub.sub {d : Nat} {x y : F} (hx : InSub d x) (hy : InSub d y) : InSub d (x - y) := by unfold InSub at *; rw [frob_sub, hx, hy]
theorem InSub.inv {d : Nat} {x : F} (hx : InSub d x) : InSub d (inv x) := by unfold InSub at *; rw [frob_inv, hx]
theorem InSub.zero (d : Nat) : InSub d (0 : F) := frob_zero d
theorem InSub.one (d : Nat) : InSub d (1 : F) := frob_one d
theorem InSub.mono {d e : Nat} {x : F} (h : InSub d x) (hd : d ∣ e) : InSub e x := frob_fix_dvd h hd
theorem InSub.rsum {d n : Nat} {f : Nat → F} (h : ∀ i, i < n → InSub d (f i)) : InSub d (rsum n f) := by
  unfold InSub; rw [frob_rsum]; exact rsum_congr h
theorem InSub.rprod {d n : Nat} {f : Nat → F} (h : ∀ i, i < n → InSub d (f i)) : InSub d (rprod n f) := by
  unfold InSub; rw [frob_rprod]; exact rprod_congr h

/-! ### traces and norms -/
def tr (d : Nat) (x : F) : F := rsum (M F / d) (fun i => frob (d * i) x)
def nm (d : Nat) (x : F) : F := rprod (M F / d) (fun i => frob (d * i) x)
theorem tr_add (d : Nat) (x y : F) : tr d (x + y) = tr d x + tr d y := by
  unfold tr; rw [← rsum_add]; exact rsum_congr fun i _ => frob_add _ _ _
theorem nm_mul (d : Nat) (x y : F) : nm d (x * y) = nm d x * nm d y := by
  unfold nm; rw [← rprod_mul]; exact rprod_congr fun i _ => frob_mul _ _ _
theorem tr_frob {d : Nat} (hd : d ∣ M F) (x : F) : frob d (tr d x) = tr d x := by
  unfold tr
  rw [frob_rsum]
  have e : ∀ i, frob d (frob (d * i) x) = frob (d * (i + 1)) x := fun i => by rw [frob_frob, Nat.mul_succ, Nat.add_comm]
  simp only [e]
  refine rsum_rotate (M F / d) (fun i => frob (d * i) x) ?_
  show frob (d * (M F / d)) x = frob (d * 0) x
  rw [Nat.mul_div_cancel' hd, frob_M, Nat.mul_zero, frob_zero_k]
theorem nm_frob {d : Nat} (hd : d ∣ M F) (x : F) : frob d (nm d x) = nm d x := by
  by_cases hx : x = 0
  · have h0 : 0 < M F / d := Nat.div_pos (Nat.le_of_dvd (M_pos (F := F)) hd) (Nat.pos_of_dvd_of_pos hd (M_pos (F := F)))
    have : nm d x = 0 := by unfold nm; exact rprod_eq_zero h0 (by rw [hx, frob_zero])
    rw [this, frob_zero]
  unfold nm
  rw [frob_rprod]
  have e : ∀ i, frob d (frob (d * i) x) = frob (d * (i + 1)) x := fun i => by rw [frob_frob, Nat.mul_succ, Nat.add_comm]
  simp only [e]
  refine mul_left_cancel (a := frob (d * 0) x) (frob_ne_zero hx) (rprod_rotate (M F / d) (fun i => frob (d * i) x) ?_)
  show frob (d * (M F / d)) x = frob (d * 0) x
  rw [Nat.mul_div_cancel' hd, frob_M, Nat.mul_zero, frob_zero_k]
theorem tr_inSub {d : Nat} (hd : d ∣ M F) (x : F) : InSub d (tr d x) := tr_frob hd x
theorem nm_inSub {d : Nat} (hd : d ∣ M F) (x : F) : InSub d (nm d x) := nm_frob hd x
theorem rsum_mulk {R : Type} [CRing R] (a b : Nat) (f : Nat → R) : rsum (a * b) f = rsum b (fun i => rsum a (fun j => f (a * i + j))) := by
  induction b with
  | zero => rfl
  | succ b ih => rw [Nat.mul_succ, rsum_split, ih, rsum_succ]
theorem rprod_mulk {R : Type} [CRing R] (a b : Nat) (f : Nat → R) : rprod (a * b) f = rprod b (fun i => rprod a (fun j => f (a * i + j))) := by
  induction b with
  | zero => rfl
  | succ b ih => rw [Nat.mul_succ, rprod_split, ih, rprod_succ]
theorem tr_trans {d e : Nat} (hd : d ∣ M F) (he : e ∣ d) (x : F) : tr e x = rsum (d / e) (fun i => frob (e * i) (tr d x)) := by
  obtain ⟨k, rfl⟩ := he
  obtain ⟨m, hm⟩ := hd
  have hM := M_pos (F := F)
  have he0 : 0 < e := by
    rcases Nat.eq_zero_or_pos e with h | h
    · rw [h] at hm; simp at hm; omega
    · exact h
  have hk0 : 0 < k := by
    rcases Nat.eq_zero_or_pos k with h | h
    · rw [h] at hm; simp at hm; omega
    · exact h
  have e1 : M F / e = k * m := by rw [hm, Nat.mul_assoc, Nat.mul_div_cancel_left _ he0]
  have e2 : M F / (e * k) = m := by rw [hm, Nat.mul_div_cancel_left _ (Nat.mul_pos he0 hk0)]
  unfold tr
  rw [e1, e2, Nat.mul_div_cancel_left _ he0, rsum_mulk, rsum_swap]
  refine rsum_congr fun i hi => ?_
  rw [frob_rsum]
  refine rsum_congr fun j hj => ?_
  rw [frob_frob]
  congr 1
  rw [Nat.mul_add, Nat.mul_assoc]; omega
theorem rprod_swap {R : Type} [CRing R] (n m : Nat) (f : Nat → Nat → R) : rprod n (fun i => rprod m (f i)) = rprod m (fun j => rprod n (fun i => f i j)) := by
  induction n with
  | zero => exact (rprod_one m).symm
  | succ n ih => rw [rprod_succ, ih, ← rprod_mul]; rfl
theorem nm_trans {d e : Nat} (hd : d ∣ M F) (he : e ∣ d) (x : F) : nm e x = rprod (d / e) (fun i => frob (e * i) (nm d x)) := by
  obtain ⟨k, rfl⟩ := he
  obtain ⟨m, hm⟩ := hd
  have hM := M_pos (F := F)
  have he0 : 0 < e := by
    rcases Nat.eq_zero_or_pos e with h | h
    · rw [h] at hm; simp at hm; omega
    · exact h
  have hk0 : 0 < k := by
    rcases Nat.eq_zero_or_pos k with h | h
    · rw [h] at hm; simp at hm; omega
    · exact h
  have e1 : M F / e = k * m := by rw [hm, Nat.mul_assoc, Nat.mul_div_cancel_left _ he0]
  have e2 : M F / (e * k) = m := by rw [hm, Nat.mul_div_cancel_left _ (Nat.mul_pos he0 hk0)]
  unfold nm
  rw [e1, e2, Nat.mul_div_cancel_left _ he0, rprod_mulk, rprod_swap]
  refine rprod_congr fun i hi => ?_
  rw [frob_rprod]
  refine rprod_congr fun j hj => ?_
  rw [frob_frob]
  congr 1
  rw [Nat.mul_add, Nat.mul_assoc]; omega
end ff

end Cw

/-! Plain lemmas on lists of ints that a loop fills. No Go here -/
namespace Cw
/-- The list of length n with f below k and 0 from k on. -/
def upd (n k : Nat) (f : Nat → Int) : List Int := (List.range n).map fun i => if i < k then f i else 0
theorem upd_length (n k : Nat) (f : Nat → Int) : (upd n k f).length = n := by simp [upd]
theorem upd_zero (n : Nat) (f : Nat → Int) : upd n 0 f = List.replicate n 0 := by
  apply List.ext_getElem
  · simp [upd]
  · intro i h1 h2; simp [upd]
theorem upd_set (n k : Nat) (f : Nat → Int) : (upd n k f).set k (f k) = upd n (k+1) f := by
  apply List.ext_getElem
  · simp [upd]
  · intro i h1 h2
    simp only [upd, List.getElem_set, List.getElem_map, List.getElem_range]
    by_cases h : k = i
    · subst h; simp
    · rw [if_neg h]
      by_cases h3 : i < k
      · rw [if_pos h3, if_pos (by omega)]
      · rw [if_neg h3, if_neg (by omega)]
theorem upd_get {n k i : Nat} (f : Nat → Int) (hi : i < n) : (upd n k f)[i]?.getD 0 = if i < k then f i else 0 := by
  simp [upd, hi]
def lst (n : Nat) (f : Nat → Int) : List Int := (List.range n).map f
theorem lst_length (n : Nat) (f : Nat → Int) : (lst n f).length = n := by simp [lst]
theorem upd_full (n : Nat) (f : Nat → Int) : upd n n f = lst n f := by
  apply List.ext_getElem
  · simp [upd, lst]
  · intro i h1 h2
    have : i < n := by simpa [upd] using h1
    simp [upd, lst, this]
theorem lst_get {n i : Nat} (f : Nat → Int) (hi : i < n) : (lst n f)[i]?.getD 0 = f i := by simp [lst, hi]
theorem lst_succ (n : Nat) (f : Nat → Int) : lst (n+1) f = lst n f ++ [f n] := by simp [lst, List.range_succ]
theorem lst_congr {n : Nat} {f g : Nat → Int} (h : ∀ i, i < n → f i = g i) : lst n f = lst n g := by
  apply List.ext_getElem
  · simp [lst]
  · intro i h1 h2
    have : i < n := by simpa [lst] using h1
    simp [lst, h i this]
theorem lst_set (n k : Nat) (f : Nat → Int) (v : Int) : (lst n f).set k v = lst n (fun i => if i = k then v else f i) := by
  apply List.ext_getElem
  · simp [lst]
  · intro i h1 h2
    simp only [lst, List.getElem_set, List.getElem_map, List.getElem_range]
    by_cases h : k = i
    · subst h; simp
    · rw [if_neg h, if_neg (fun e => h e.symm)]
theorem lst_zero (n : Nat) : List.replicate n (0 : Int) = lst n (fun _ => 0) := by
  apply List.ext_getElem
  · simp [lst]
  · intro i h1 h2; simp [lst]
theorem eq_lst (l : List Int) : l = lst l.length (fun i => l[i]?.getD 0) := by
  apply List.ext_getElem
  · simp [lst]
  · intro i h1 h2; simp [lst, h1]
theorem lst_take {n k : Nat} (f : Nat → Int) (h : k ≤ n) : (lst n f).take k = lst k f := by
  apply List.ext_getElem
  · simp [lst]; omega
  · intro i h1 h2; simp [lst]
/-- f below k, h from k on. -/
def mix (n k : Nat) (f h : Nat → Int) : List Int := lst n fun i => if i < k then f i else h i
theorem mix_length (n k : Nat) (f h : Nat → Int) : (mix n k f h).length = n := lst_length _ _
theorem mix_zero (n : Nat) (f h : Nat → Int) : mix n 0 f h = lst n h := lst_congr fun i _ => by simp
theorem mix_full (n : Nat) (f h : Nat → Int) : mix n n f h = lst n f := lst_congr fun i hi => by simp [hi]
theorem mix_get {n k i : Nat} (f h : Nat → Int) (hi : i < n) : (mix n k f h)[i]?.getD 0 = if i < k then f i else h i := lst_get _ hi
theorem mix_get_at {n k : Nat} (f h : Nat → Int) (hk : k < n) : (mix n k f h)[k]?.getD 0 = h k := by rw [mix_get _ _ hk]; simp
theorem mix_set (n k : Nat) (f h : Nat → Int) : (mix n k f h).set k (f k) = mix n (k+1) f h := by
  unfold mix
  rw [lst_set]
  refine lst_congr fun i _ => ?_
  by_cases e : i = k
  · subst e; simp
  · rw [if_neg e]
    by_cases h1 : i < k
    · rw [if_pos h1, if_pos (by omega)]
    · rw [if_neg h1, if_neg (by omega)]
end Cw

/-! Plain algebra: integers modulo p, and the residues of polynomials over them modulo a monic polynomial; how residues are numbered. No Go here -/
namespace Cw

/-! ### integers modulo p -/
def Zp (p : Nat) : Type := Fin p
section zp
variable {p : Nat} [NeZero p]
theorem pos_of_ne (p : Nat) [h : NeZero p] : 0 < p := Nat.pos_of_ne_zero h.out
def zp (p : Nat) [NeZero p] (n : Nat) : Zp p := ⟨n % p, Nat.mod_lt _ (pos_of_ne p)⟩
def Zp.val (a : Zp p) : Nat := Fin.val a
omit [NeZero p] in
theorem Zp.lt (a : Zp p) : a.val < p := Fin.isLt a
omit [NeZero p] in
theorem Zp.ext {a b : Zp p} (h : a.val = b.val) : a = b := Fin.ext h
theorem zp_val (n : Nat) : (zp p n).val = n % p := rfl
theorem zp_of_val (a : Zp p) : zp p a.val = a := Zp.ext (Nat.mod_eq_of_lt a.lt)
theorem zp_eq {a b : Nat} (h : a % p = b % p) : zp p a = zp p b := Zp.ext h
instance : CRing (Zp p) where
  add a b := zp p (a.val + b.val)
  mul a b := zp p (a.val * b.val)
  neg a := zp p (p - a.val)
  zero := zp p 0
  one := zp p 1
  add_assoc' a b c := Zp.ext (by
    show ((a.val + b.val) % p + c.val) % p = (a.val + (b.val + c.val) % p) % p
    rw [Nat.mod_add_mod, Nat.add_mod_mod, Nat.add_assoc])
  add_comm' a b := zp_eq (by rw [Nat.add_comm])
  zero_add' a := Zp.ext (by
    show (0 % p + a.val) % p = a.val
    rw [Nat.mod_add_mod, Nat.zero_add, Nat.mod_eq_of_lt a.lt])
  neg_add' a := zp_eq (by
    rw [zp_val, Nat.mod_add_mod, Nat.sub_add_cancel (Nat.le_of_lt a.lt), Nat.mod_self, Nat.zero_mod])
  mul_assoc' a b c := Zp.ext (by
    show ((a.val * b.val) % p * c.val) % p = (a.val * ((b.val * c.val) % p)) % p
    rw [Nat.mod_mul_mod, Nat.mul_mod_mod, Nat.mul_assoc])
  mul_comm' a b := zp_eq (by rw [Nat.mul_comm])
  one_mul' a := Zp.ext (by
    show (1 % p * a.val) % p = a.val
    rw [Nat.mod_mul_mod, Nat.one_mul, Nat.mod_eq_of_lt a.lt])
  mul_add' a b c := Zp.ext (by
    show (a.val * ((b.val + c.val) % p)) % p = ((a.val * b.val) % p + (a.val * c.val) % p) % p
    rw [Nat.mul_mod_mod, Nat.mod_add_mod, Nat.add_mod_mod, Nat.mul_add])
theorem Zp.add_val (a b : Zp p) : (a + b).val = (a.val + b.val) % p := rfl
theorem Zp.mul_val (a b : Zp p) : (a * b).val = (a.val * b.val) % p := rfl
theorem Zp.neg_val (a : Zp p) : (-a).val = (p - a.val) % p := rfl
theorem Zp.zero_val : (0 : Zp p).val = 0 := Nat.zero_mod p
theorem zp_add (a b : Nat) : zp p (a + b) = zp p a + zp p b := zp_eq (by rw [zp_val, zp_val, Nat.mod_add_mod, Nat.add_mod_mod])
theorem zp_mul (a b : Nat) : zp p (a * b) = zp p a * zp p b := zp_eq (by rw [zp_val, zp_val, Nat.mod_mul_mod, Nat.mul_mod_mod])
theorem zp_zero : zp p 0 = 0 := rfl
theorem zp_one : zp p 1 = 1 := rfl
theorem zp_p : zp p p = 0 := zp_eq (by rw [Nat.mod_self, Nat.zero_mod])
theorem zp_mod (n : Nat) : zp p (n % p) = zp p n := zp_eq (Nat.mod_mod _ _)
theorem zp_neg {a : Nat} (h : a ≤ p) : zp p (p - a) = - zp p a := by
  apply neg_unique
  rw [← zp_add, Nat.add_sub_cancel' h, zp_p]
theorem zp_nsm (n : Nat) : nsm n (1 : Zp p) = zp p n := by
  induction n with
  | zero => rfl
  | succ n ih => rw [nsm_succ, ih, zp_add, zp_one]
instance : DecidableEq (Zp p) := inferInstanceAs (DecidableEq (Fin p))
end zp

/-! ### the description of a residue ring -/
/-- p prime, m from 1 to 8, p^m at most 256; the coefficients of the monic modulus (none at m = 1: the modulus is X). -/
structure Desc where
  p : Nat
  m : Nat
  mod : List Nat
  hp : Prime p
  m1 : 1 ≤ m
  m8 : m ≤ 8
  hq : p ^ m ≤ 256
  hlen : mod.length = if m = 1 then 0 else m
  hmod : ∀ j, mod.getD j 0 < p
instance (D : Desc) : NeZero D.p := ⟨by have := D.hp.1; omega⟩
def Desc.c (D : Desc) (j : Nat) : Zp D.p := zp D.p (D.mod.getD j 0)
def Desc.q (D : Desc) : Nat := D.p ^ D.m
theorem Desc.p2 (D : Desc) : 2 ≤ D.p := D.hp.1
theorem Desc.p256 (D : Desc) : D.p ≤ 256 := by
  have h := Nat.pow_le_pow_right (n := D.p) (by have := D.p2; omega) D.m1
  have := D.hq; rw [Nat.pow_one] at h; omega

/-- Residues: coefficients below m. -/
structure R (D : Desc) where
  v : Nat → Zp D.p
  sup : ∀ i, D.m ≤ i → v i = 0

section quo
variable {D : Desc}
theorem R.ext' {u w : R D} (h : ∀ i, i < D.m → u.v i = w.v i) : u = w := by
  obtain ⟨a, ha⟩ := u
  obtain ⟨b, hb⟩ := w
  have : a = b := funext fun i => by
    by_cases hi : i < D.m
    · exact h i hi
    · rw [ha i (by omega), hb i (by omega)]
  subst this; rfl
def cut (D : Desc) (f : Nat → Zp D.p) : R D := ⟨fun i => if i < D.m then f i else 0, fun i hi => if_neg (by omega)⟩
theorem cut_v {f : Nat → Zp D.p} {i : Nat} (h : i < D.m) : (cut D f).v i = f i := if_pos h
def rzero (D : Desc) : R D := ⟨fun _ => 0, fun _ _ => rfl⟩
def radd (u w : R D) : R D := ⟨fun i => u.v i + w.v i, fun i h => by rw [u.sup i h, w.sup i h, zero_add]⟩
def rneg (u : R D) : R D := ⟨fun i => - u.v i, fun i h => by rw [u.sup i h, neg_zero]⟩
def basis (D : Desc) (k : Nat) : R D := cut D fun i => if i = k then 1 else 0
/-- Multiplication by X. -/
def T (u : R D) : R D := cut D fun i => (if i = 0 then 0 else u.v (i - 1)) - u.v (D.m - 1) * D.c i
def Tn : Nat → R D → R D
  | 0, u => u
  | k+1, u => T (Tn k u)
def act (u w : R D) : R D := cut D fun j => rsum D.m fun i => u.v i * (Tn i w).v j

theorem T_v {u : R D} {i : Nat} (h : i < D.m) : (T u).v i = (if i = 0 then 0 else u.v (i - 1)) - u.v (D.m - 1) * D.c i := cut_v h
theorem act_v {u w : R D} {j : Nat} (h : j < D.m) : (act u w).v j = rsum D.m fun i => u.v i * (Tn i w).v j := cut_v h
theorem T_radd (u w : R D) : T (radd u w) = radd (T u) (T w) := R.ext' fun i hi => by
  show (T (radd u w)).v i = (T u).v i + (T w).v i
  rw [T_v hi, T_v hi, T_v hi]
  show (if i = 0 then 0 else u.v (i-1) + w.v (i-1)) - (u.v (D.m-1) + w.v (D.m-1)) * D.c i = _
  rw [add_mul, sub_d, sub_d, sub_d, neg_add_d]
  by_cases h : i = 0
  · rw [if_pos h, if_pos h, if_pos h, zero_add, zero_add, zero_add]
  · rw [if_neg h, if_neg h, if_neg h]; ac_rfl
theorem Tn_radd (k : Nat) (u w : R D) : Tn k (radd u w) = radd (Tn k u) (Tn k w) := by
  induction k with
  | zero => rfl
  | succ k ih => show T (Tn k (radd u w)) = _; rw [ih, T_radd]; rfl
theorem Tn_T (k : Nat) (u : R D) : Tn k (T u) = T (Tn k u) := by
  induction k with
  | zero => rfl
  | succ k ih => show T (Tn k (T u)) = _; rw [ih]; rfl
theorem Tn_Tn (j k : Nat) (u : R D) : Tn j (Tn k u) = Tn (j + k) u := by
  induction j with
  | zero => rw [Nat.zero_add]; rfl
  | succ j ih => rw [Nat.succ_add]; show T (Tn j (Tn k u)) = T (Tn (j + k) u); rw [ih]
theorem T_act (u w : R D) : T (act u w) = act u (T w) := R.ext' fun j hj => by
  have hm := D.m1
  have e : (T (act u w)).v j = rsum D.m fun i => u.v i * (T (Tn i w)).v j := by
    rw [T_v hj, act_v (by omega : D.m - 1 < D.m)]
    by_cases h : j = 0
    · rw [if_pos h, zero_sub, ← rsum_mul_right, ← rsum_neg]
      refine rsum_congr fun i _ => ?_
      rw [T_v hj, if_pos h, zero_sub, mul_neg, mul_a]
    · rw [if_neg h, act_v (by omega), ← rsum_mul_right, ← rsum_sub]
      refine rsum_congr fun i _ => ?_
      rw [T_v hj, if_neg h, mul_sub, mul_a]
  rw [e, act_v hj]
  exact rsum_congr fun i _ => by rw [Tn_T]
theorem Tn_act (k : Nat) (u w : R D) : Tn k (act u w) = act u (Tn k w) := by
  induction k with
  | zero => rfl
  | succ k ih => show T (Tn k (act u w)) = _; rw [ih, T_act]; rfl
theorem act_act (u v w : R D) : act u (act v w) = act v (act u w) := R.ext' fun j hj => by
  rw [act_v hj, act_v hj]
  have e : ∀ (u v : R D) (i : Nat), u.v i * (Tn i (act v w)).v j = rsum D.m fun k => u.v i * (v.v k * (Tn (k + i) w).v j) := fun u v i => by
    rw [Tn_act, act_v hj, ← rsum_mul_left]
    exact rsum_congr fun k _ => by rw [Tn_Tn]
  rw [rsum_congr fun i _ => e u v i, rsum_congr fun i _ => e v u i, rsum_swap]
  refine rsum_congr fun i _ => rsum_congr fun k _ => ?_
  rw [Nat.add_comm, mul_lc]
theorem basis_v {k i : Nat} (hi : i < D.m) : (basis D k).v i = if i = k then 1 else 0 := cut_v hi
theorem T_basis {k : Nat} (h : k + 1 < D.m) : T (basis D k) = basis D (k + 1) := R.ext' fun i hi => by
  rw [T_v hi, basis_v hi, basis_v (by omega : D.m - 1 < D.m), if_neg (by omega : ¬ D.m - 1 = k), zero_mul, sub_zero]
  by_cases h0 : i = 0
  · rw [if_pos h0, if_neg (by omega)]
  · rw [if_neg h0, basis_v (by omega)]
    by_cases h1 : i - 1 = k
    · rw [if_pos h1, if_pos (by omega)]
    · rw [if_neg h1, if_neg (by omega)]
theorem Tn_basis {k : Nat} (h : k < D.m) : Tn k (basis D 0) = basis D k := by
  induction k with
  | zero => rfl
  | succ k ih => show T (Tn k (basis D 0)) = _; rw [ih (by omega), T_basis h]
theorem act_one (u : R D) : act u (basis D 0) = u := R.ext' fun j hj => by
  rw [act_v hj, rsum_single (k := j) hj (fun i hi hne => by rw [Tn_basis hi, basis_v hj, if_neg (fun h => hne h.symm), mul_zero]), Tn_basis hj, basis_v hj, if_pos rfl, mul_one]
theorem act_comm (u w : R D) : act u w = act w u := by
  conv => lhs; rw [← act_one w, act_act, act_one]
instance : CRing (R D) where
  add := radd
  mul := act
  neg := rneg
  zero := rzero D
  one := basis D 0
  add_assoc' a b c := R.ext' fun i _ => add_a _ _ _
  add_comm' a b := R.ext' fun i _ => add_c _ _
  zero_add' a := R.ext' fun i _ => zero_add _
  neg_add' a := R.ext' fun i _ => neg_add _
  mul_assoc' a b c := by
    show act (act a b) c = act a (act b c)
    rw [act_comm (act a b) c, act_act, act_comm c b]
  mul_comm' := act_comm
  one_mul' a := by show act (basis D 0) a = a; rw [act_comm, act_one]
  mul_add' a b c := R.ext' fun j hj => by
    show (act a (radd b c)).v j = (act a b).v j + (act a c).v j
    rw [act_v hj, act_v hj, act_v hj, ← rsum_add]
    refine rsum_congr fun i _ => ?_
    rw [Tn_radd, ← mul_add]; rfl
theorem add_v (u w : R D) (i : Nat) : (u + w).v i = u.v i + w.v i := rfl
theorem neg_v (u : R D) (i : Nat) : (-u).v i = - u.v i := rfl
theorem zero_v (i : Nat) : (0 : R D).v i = 0 := rfl
theorem mul_v (u w : R D) {j : Nat} (h : j < D.m) : (u * w).v j = rsum D.m fun i => u.v i * (Tn i w).v j := act_v h
theorem one_v {i : Nat} (hi : i < D.m) : (1 : R D).v i = if i = 0 then 1 else 0 := basis_v hi
theorem T_mul (u w : R D) : T (u * w) = u * T w := T_act u w
theorem Tn_mul (k : Nat) (u w : R D) : Tn k (u * w) = u * Tn k w := Tn_act k u w
theorem T_eq (u : R D) : T u = u * T 1 := by rw [← T_mul, mul_one]
theorem T_add (u w : R D) : T (u + w) = T u + T w := T_radd u w
theorem rsum_v (n : Nat) (f : Nat → R D) (j : Nat) : (rsum n f).v j = rsum n (fun i => (f i).v j) := by
  induction n with
  | zero => rfl
  | succ n ih => rw [rsum_succ, rsum_succ, ← ih]; rfl
theorem nsm_v (n : Nat) (u : R D) (j : Nat) : (nsm n u).v j = nsm n (u.v j) := by
  induction n with
  | zero => rfl
  | succ n ih => rw [nsm_succ, nsm_succ, ← ih]; rfl
theorem char_R : nsm D.p (1 : R D) = 0 := R.ext' fun i hi => by
  rw [nsm_v, nsm_mul, zp_nsm, zp_p, zero_mul]; rfl
/-- A number modulo p as a residue. -/
def sc (s : Zp D.p) : R D := cut D fun i => if i = 0 then s else 0
theorem sc_v (s : Zp D.p) {i : Nat} (h : i < D.m) : (sc (D := D) s).v i = if i = 0 then s else 0 := cut_v h
theorem sc_mul_v (s : Zp D.p) (u : R D) {j : Nat} (hj : j < D.m) : (sc s * u).v j = s * u.v j := by
  have hm := D.m1
  rw [mul_v _ _ hj, rsum_single (k := 0) (by omega) (fun i hi hne => by rw [sc_v _ hi, if_neg hne, zero_mul]), sc_v _ (by omega), if_pos rfl]; rfl
theorem sc_zero : sc (D := D) 0 = 0 := R.ext' fun i hi => by rw [sc_v _ hi]; by_cases h : i = 0 <;> simp only [h, if_true, if_false] <;> rfl
theorem sc_one : sc (D := D) 1 = 1 := R.ext' fun i hi => by rw [sc_v _ hi, one_v hi]
theorem sc_add (s t : Zp D.p) : sc (D := D) (s + t) = sc s + sc t := R.ext' fun i hi => by
  rw [add_v, sc_v _ hi, sc_v _ hi, sc_v _ hi]; by_cases h : i = 0 <;> simp only [h, if_true, if_false]; exact (zero_add 0).symm
theorem sc_mul (s t : Zp D.p) : sc (D := D) (s * t) = sc s * sc t := R.ext' fun i hi => by
  rw [sc_mul_v _ _ hi, sc_v _ hi, sc_v _ hi]; by_cases h : i = 0 <;> simp only [h, if_true, if_false]; exact (mul_zero s).symm
theorem sc_neg (s : Zp D.p) : sc (D := D) (-s) = - sc s := neg_unique (by rw [← sc_add, add_neg, sc_zero])
/-- Every residue is a sum of powers of X. -/
theorem R.sum_eq (u : R D) : u = rsum D.m (fun i => sc (u.v i) * pw (T 1) i) := by
  have e : ∀ i, pw (T (1 : R D)) i = Tn i 1 := fun i => by
    induction i with
    | zero => rfl
    | succ i ih => rw [pw_succ, ih, ← T_eq]; rfl
  refine R.ext' fun j hj => ?_
  rw [rsum_v, rsum_single (k := j) hj (fun i hi hne => ?_), e, sc_mul_v _ _ hj, show Tn j (1 : R D) = basis D j from Tn_basis hj, basis_v hj, if_pos rfl, mul_one]
  rw [e, sc_mul_v _ _ hj, show Tn i (1 : R D) = basis D i from Tn_basis hi, basis_v hj, if_neg (fun h => hne h.symm), mul_zero]
/-- The modulus is 0 at the class of X. -/
theorem X_root : pw (T (1 : R D)) D.m + rsum D.m (fun i => sc (D.c i) * pw (T 1) i) = 0 := by
  have e : ∀ i, pw (T (1 : R D)) i = Tn i 1 := fun i => by
    induction i with
    | zero => rfl
    | succ i ih => rw [pw_succ, ih, ← T_eq]; rfl
  have hm := D.m1
  refine R.ext' fun j hj => ?_
  rw [add_v, rsum_v, rsum_single (k := j) hj (fun i hi hne => ?_), e, e, sc_mul_v _ _ hj, show Tn j (1 : R D) = basis D j from Tn_basis hj, basis_v hj, if_pos rfl, mul_one]
  · obtain ⟨k, hk⟩ : ∃ k, D.m = k + 1 := ⟨D.m - 1, by omega⟩
    rw [hk]
    show (T (Tn k (basis D 0))).v j + _ = _
    rw [Tn_basis (by omega), T_v hj, basis_v (by omega : D.m - 1 < D.m), if_pos (by omega : D.m - 1 = k), one_mul]
    have h0 : (if j = 0 then (0 : Zp D.p) else (basis D k).v (j - 1)) = 0 := by
      by_cases h : j = 0
      · rw [if_pos h]
      · rw [if_neg h, basis_v (by omega), if_neg (by omega)]
    rw [h0, zero_sub, neg_add]; rfl
  · rw [e, sc_mul_v _ _ hj, show Tn i (1 : R D) = basis D i from Tn_basis hi, basis_v hj, if_neg (fun h => hne h.symm), mul_zero]

/-! ### numbering -/
def nval (p : Nat) (f : Nat → Nat) : Nat → Nat
  | 0 => 0
  | m+1 => nval p f m + f m * p ^ m
theorem nval_congr {p m : Nat} {f g : Nat → Nat} (h : ∀ i, i < m → f i = g i) : nval p f m = nval p g m := by
  induction m with
  | zero => rfl
  | succ m ih => show nval p f m + f m * p ^ m = nval p g m + g m * p ^ m; rw [ih fun i hi => h i (by omega), h m (by omega)]
theorem nval_lt {p m : Nat} {f : Nat → Nat} (h : ∀ i, i < m → f i < p) : nval p f m < p ^ m := by
  induction m with
  | zero => exact Nat.one_pos
  | succ m ih =>
    have h1 := ih fun i hi => h i (by omega)
    have h2 := Nat.mul_le_mul_right (p ^ m) (h m (by omega))
    rw [Nat.succ_mul] at h2
    show nval p f m + f m * p ^ m < p ^ (m+1)
    rw [Nat.pow_succ, Nat.mul_comm (p ^ m)]; omega
theorem nval_digit {p : Nat} (hp : 0 < p) {m : Nat} {f : Nat → Nat} (h : ∀ i, i < m → f i < p) {i : Nat} (hi : i < m) : nval p f m / p ^ i % p = f i := by
  induction m with
  | zero => omega
  | succ m ih =>
    show (nval p f m + f m * p ^ m) / p ^ i % p = f i
    have hpi : 0 < p ^ i := Nat.pow_pos hp
    by_cases e : i = m
    · subst e
      rw [Nat.add_mul_div_right _ _ hpi, Nat.div_eq_of_lt (nval_lt fun j hj => h j (by omega)), Nat.zero_add, Nat.mod_eq_of_lt (h i (by omega))]
    · obtain ⟨k, rfl⟩ : ∃ k, m = i + 1 + k := ⟨m - i - 1, by omega⟩
      rw [show f (i+1+k) * p ^ (i+1+k) = (f (i+1+k) * p ^ k * p) * p ^ i by rw [Nat.pow_add, Nat.pow_succ]; ac_rfl,
        Nat.add_mul_div_right _ _ hpi, Nat.add_mul_mod_self_right]
      exact ih (fun j hj => h j (by omega)) (by omega)
theorem nval_digits {p : Nat} (_hp : 0 < p) : ∀ (m n : Nat), n < p ^ m → nval p (fun i => n / p ^ i % p) m = n := by
  intro m
  suffices h : ∀ n, nval p (fun i => n / p ^ i % p) m = n % p ^ m from fun n hn => by rw [h, Nat.mod_eq_of_lt hn]
  induction m with
  | zero => intro n; rw [Nat.pow_zero, Nat.mod_one]; rfl
  | succ m ih =>
    intro n
    show nval p (fun i => n / p ^ i % p) m + n / p ^ m % p * p ^ m = n % p ^ (m+1)
    rw [ih, Nat.pow_succ, Nat.mod_mul, Nat.mul_comm (p ^ m)]

def rcode (u : R D) : Nat := nval D.p (fun i => (u.v i).val) D.m
def rel (D : Desc) (n : Nat) : R D := cut D fun i => zp D.p (n / D.p ^ i)
theorem rel_v {n i : Nat} (h : i < D.m) : (rel D n).v i = zp D.p (n / D.p ^ i) := cut_v h
theorem rcode_lt (u : R D) : rcode u < D.q := nval_lt fun _ _ => Zp.lt _
theorem rel_rcode (u : R D) : rel D (rcode u) = u := R.ext' fun i hi => by
  rw [rel_v hi]
  apply Zp.ext
  rw [zp_val]
  exact nval_digit (pos_of_ne D.p) (fun i _ => Zp.lt _) hi
theorem rcode_rel {n : Nat} (h : n < D.q) : rcode (rel D n) = n := by
  unfold rcode
  rw [nval_congr (g := fun i => n / D.p ^ i % D.p) fun i hi => by rw [rel_v hi, zp_val]]
  exact nval_digits (pos_of_ne D.p) _ _ h
theorem rcode_inj {u w : R D} (h : rcode u = rcode w) : u = w := by rw [← rel_rcode u, ← rel_rcode w, h]
theorem nval_zero (p m : Nat) : nval p (fun _ => 0) m = 0 := by
  induction m with
  | zero => rfl
  | succ m ih => show nval p (fun _ => 0) m + 0 * p ^ m = 0; rw [ih, Nat.zero_mul]
theorem rcode_zero : rcode (0 : R D) = 0 := by
  unfold rcode
  exact (nval_congr (g := fun _ => 0) fun i hi => Zp.zero_val).trans (nval_zero _ _)
theorem rel_zero : rel D 0 = 0 := by rw [← rcode_zero (D := D), rel_rcode]
theorem rel_one : rel D 1 = 1 := R.ext' fun i hi => by
  rw [rel_v hi, one_v hi]
  by_cases h : i = 0
  · rw [h, Nat.pow_zero, Nat.div_one, if_pos rfl]; rfl
  · rw [if_neg h, Nat.div_eq_of_lt (Nat.one_lt_pow h D.p2)]; rfl
theorem Desc.q2 (D : Desc) : 2 ≤ D.q := by
  have h := Nat.pow_le_pow_right (n := D.p) (by have := D.p2; omega) D.m1
  have := D.p2; rw [Nat.pow_one] at h; unfold Desc.q; omega
theorem rcode_one : rcode (1 : R D) = 1 := by rw [← rel_one, rcode_rel (by have := D.q2; omega)]
instance : DecidableEq (R D) := fun x y => if h : rcode x = rcode y then .isTrue (rcode_inj h) else .isFalse fun e => h (by rw [e])
end quo

end Cw

/-! Plain algebra: a residue ring with a primitive element as a finite field; ints as elements. No Go here -/
namespace Cw

/-- A description with a primitive element. -/
structure FD extends Desc where
  g : R toDesc
  g_all : ∀ x : R toDesc, x ≠ 0 → ∃ i, i < toDesc.q - 1 ∧ x = pw g i
  g_inj : ∀ i j, i < toDesc.q - 1 → j < toDesc.q - 1 → pw g i = pw g j → i = j
  g_one : pw g (toDesc.q - 1) = 1

theorem FD.inv_ex (D : FD) (x : R D.toDesc) (h : x ≠ 0) : ∃ y : R D.toDesc, x * y = 1 := by
  obtain ⟨i, hi, rfl⟩ := D.g_all x h
  exact ⟨pw D.g (D.q - 1 - i), by rw [← pw_add, show i + (D.q - 1 - i) = D.q - 1 by omega, D.g_one]⟩
open Classical in
noncomputable def FD.inv (D : FD) (x : R D.toDesc) : R D.toDesc := if h : x ≠ 0 then Classical.choose (D.inv_ex x h) else 0

noncomputable instance (D : FD) : FF (R D.toDesc) where
  inv := D.inv
  mul_inv' a h := by
    show a * D.inv a = 1
    unfold FD.inv; rw [dif_pos h]; exact Classical.choose_spec (D.inv_ex a h)
  inv_zero' := by show D.inv 0 = 0; unfold FD.inv; rw [dif_neg (fun h => h rfl)]
  one_ne' h := by
    have h1 := rcode_one (D := D.toDesc)
    rw [h, rcode_zero] at h1; cases h1
  p := D.p
  M := D.m
  q := D.q
  prime_p := D.hp
  M_pos := D.m1
  q_eq := rfl
  char_p := char_R
  code := rcode
  el := rel D.toDesc
  code_lt := rcode_lt
  el_code := rel_rcode
  code_el _ h := rcode_rel h
  code_zero := rcode_zero
  code_one := rcode_one
  gen := D.g
  gen_all := D.g_all
  gen_inj := D.g_inj
  gen_one := D.g_one

/-- The element that an int stands for (0 outside the range). -/
def eli (D : Desc) (x : Int) : R D := if 0 ≤ x ∧ x < D.q then rel D x.toNat else 0
/-- The number of an element, as an int. -/
def ci {D : Desc} (u : R D) : Int := (rcode u : Nat)
section
variable {D : Desc}
theorem ci_nonneg (u : R D) : 0 ≤ ci u := Int.natCast_nonneg _
theorem ci_lt (u : R D) : ci u < D.q := Int.ofNat_lt.2 (rcode_lt u)
theorem Desc.q256 (D : Desc) : D.q ≤ 256 := D.hq
theorem ci_le (u : R D) : ci u ≤ 255 := by have := ci_lt u; have := D.q256; omega
theorem ci_toNat (u : R D) : (ci u).toNat = rcode u := Int.toNat_natCast _
theorem eli_ci (u : R D) : eli D (ci u) = u := by
  unfold eli; rw [if_pos ⟨ci_nonneg u, ci_lt u⟩, ci_toNat, rel_rcode]
theorem ci_inj {u w : R D} (h : ci u = ci w) : u = w := by rw [← eli_ci u, ← eli_ci w, h]
theorem ci_eli_in {x : Int} (h : 0 ≤ x ∧ x < D.q) : ci (eli D x) = x := by
  unfold eli ci; rw [if_pos h, rcode_rel (by omega)]; omega
theorem eli_out {x : Int} (h : ¬ (0 ≤ x ∧ x < D.q)) : eli D x = 0 := if_neg h
theorem ci_zero : ci (0 : R D) = 0 := by unfold ci; rw [rcode_zero]; rfl
theorem ci_one : ci (1 : R D) = 1 := by unfold ci; rw [rcode_one]; rfl
theorem ci_eq_zero {u : R D} : ci u = 0 ↔ u = 0 := ⟨fun h => ci_inj (by rw [h, ci_zero]), fun h => by rw [h, ci_zero]⟩
theorem ci_eq_one {u : R D} : ci u = 1 ↔ u = 1 := ⟨fun h => ci_inj (by rw [h, ci_one]), fun h => by rw [h, ci_one]⟩
theorem eli_zero : eli D 0 = 0 := by rw [← ci_zero (D := D), eli_ci]
theorem eli_one : eli D 1 = 1 := by rw [← ci_one (D := D), eli_ci]
theorem eli_nat {n : Nat} (h : n < D.q) : eli D n = rel D n := by
  unfold eli; rw [if_pos ⟨Int.natCast_nonneg _, Int.ofNat_lt.2 h⟩, Int.toNat_natCast]
theorem ci_rel {n : Nat} (h : n < D.q) : ci (rel D n) = n := by unfold ci; rw [rcode_rel h]
/-- What In gives. -/
theorem ci_eli (x : Int) : ci (eli D x) = if 0 ≤ x ∧ x < D.q then x else 0 := by
  by_cases h : 0 ≤ x ∧ x < D.q
  · rw [if_pos h, ci_eli_in h]
  · rw [if_neg h, eli_out h, ci_zero]
/-- Digit i of an element. -/
def di (u : R D) (i : Nat) : Nat := (u.v i).val
theorem di_lt (u : R D) (i : Nat) : di u i < D.p := Zp.lt _
theorem di_rcode (u : R D) {i : Nat} (h : i < D.m) : rcode u / D.p ^ i % D.p = di u i := by
  conv => rhs; rw [← rel_rcode u]
  unfold di; rw [rel_v h, zp_val]
theorem nval_di (f : Nat → Nat) (h : ∀ i, i < D.m → f i < D.p) : nval D.p f D.m = rcode (cut D fun i => zp D.p (f i)) := by
  unfold rcode
  exact nval_congr fun i hi => by rw [cut_v hi, zp_val, Nat.mod_eq_of_lt (h i hi)]
theorem di_add (u w : R D) (i : Nat) : di (u + w) i = (di u i + di w i) % D.p := rfl
theorem di_neg (u : R D) (i : Nat) : di (-u) i = (D.p - di u i) % D.p := rfl
theorem zp_di (u : R D) (i : Nat) : zp D.p (di u i) = u.v i := zp_of_val _
end
end Cw

/-! Plain algebra: lists of coefficients as residues; one step of a product, one step of a reduction. No Go here -/
namespace Cw
section
variable {D : Desc}
/-- The class of X. -/
def Xc (D : Desc) : R D := T 1
/-- The residue of the polynomial with the coefficients f below n. -/
def ev (D : Desc) (f : Nat → Nat) (n : Nat) : R D := rsum n fun k => sc (zp D.p (f k)) * pw (Xc D) k
def fup (f : Nat → Nat) (k v : Nat) : Nat → Nat := fun i => if i = k then v else f i
theorem ev_zero (n : Nat) : ev D (fun _ => 0) n = 0 := rsum_eq_zero fun i _ => by rw [zp_zero, sc_zero, zero_mul]
theorem ev_congr {f h : Nat → Nat} {n : Nat} (e : ∀ i, i < n → f i = h i) : ev D f n = ev D h n := rsum_congr fun i hi => by rw [e i hi]
theorem ev_succ (f : Nat → Nat) (n : Nat) : ev D f (n+1) = ev D f n + sc (zp D.p (f n)) * pw (Xc D) n := rfl
theorem ev_fup_ge (f : Nat → Nat) {k n : Nat} (v : Nat) (h : n ≤ k) : ev D (fup f k v) n = ev D f n := ev_congr fun i hi => if_neg (by omega)
theorem ev_fup (f : Nat → Nat) {k n : Nat} (v : Nat) (h : k < n) : ev D (fup f k v) n = ev D f n + (sc (zp D.p v) - sc (zp D.p (f k))) * pw (Xc D) k := by
  induction n with
  | zero => omega
  | succ n ih =>
    rw [ev_succ, ev_succ]
    by_cases e : k = n
    · subst e
      rw [ev_fup_ge _ _ (Nat.le_refl _), show fup f k v k = v from if_pos rfl, sub_mul, sub_d]
      rw [show ev D f k + sc (zp D.p (f k)) * pw (Xc D) k + (sc (zp D.p v) * pw (Xc D) k + -(sc (zp D.p (f k)) * pw (Xc D) k)) =
        ev D f k + sc (zp D.p v) * pw (Xc D) k + (sc (zp D.p (f k)) * pw (Xc D) k + -(sc (zp D.p (f k)) * pw (Xc D) k)) by ac_rfl, add_neg, add_zero]
    · rw [ih (by omega), show fup f k v n = f n from if_neg (by omega)]; ac_rfl
/-- c[k] = (c[k] + t) % p adds t X^k. -/
theorem ev_step (f : Nat → Nat) {k n : Nat} (t : Nat) (h : k < n) : ev D (fup f k ((f k + t) % D.p)) n = ev D f n + sc (zp D.p t) * pw (Xc D) k := by
  rw [ev_fup f _ h, zp_mod, zp_add, sc_add, add_c (sc (zp D.p (f k))), add_sub_cancel]
theorem ev_digits (u : R D) : ev D (di u) D.m = u := by
  conv => rhs; rw [R.sum_eq u]
  exact rsum_congr fun i _ => by rw [zp_di]; rfl
theorem ev_cut (f : Nat → Nat) : ev D f D.m = cut D fun i => zp D.p (f i) := by
  conv => rhs; rw [R.sum_eq (cut D fun i => zp D.p (f i))]
  exact rsum_congr fun i hi => by rw [cut_v hi]; rfl
/-- The number of the residue with m coefficients below p. -/
theorem nval_ev (f : Nat → Nat) (h : ∀ i, i < D.m → f i < D.p) : nval D.p f D.m = rcode (ev D f D.m) := by
  rw [nval_di f h, ev_cut]
/-- The product so far after i whole rounds and j steps. -/
def pp (u v : R D) (i j : Nat) : R D := ev D (di u) i * v + sc (zp D.p (di u i)) * pw (Xc D) i * ev D (di v) j
theorem pp_zero (u v : R D) : pp u v 0 0 = 0 := by
  unfold pp ev; rw [rsum_zero, rsum_zero, zero_mul, mul_zero, zero_add]
theorem pp_step (u v : R D) (i j : Nat) : pp u v i (j+1) = pp u v i j + sc (zp D.p (di u i * di v j)) * pw (Xc D) (i + j) := by
  unfold pp
  rw [ev_succ, mul_add, zp_mul, sc_mul, pw_add]; ac_rfl
theorem pp_row (u v : R D) (i : Nat) : pp u v i D.m = pp u v (i+1) 0 := by
  unfold pp
  rw [ev_digits, ev_succ, add_mul]
  show _ = _ + sc _ * pw _ _ * rsum 0 _
  rw [rsum_zero, mul_zero, add_zero]
theorem pp_full (u v : R D) : pp u v D.m 0 = u * v := by
  unfold pp
  show ev D (di u) D.m * v + sc _ * pw _ _ * rsum 0 _ = u * v
  rw [ev_digits, rsum_zero, mul_zero, add_zero]
/-- The reduction so far of c X^(s+m): after j steps. -/
def rd1 (D : Desc) (c s j : Nat) : R D := rsum j fun t => sc (zp D.p ((D.p - c) * D.mod.getD t 0)) * pw (Xc D) (s + t)
theorem rd1_zero (c s : Nat) : rd1 D c s 0 = 0 := rfl
theorem rd1_succ (c s j : Nat) : rd1 D c s (j+1) = rd1 D c s j + sc (zp D.p ((D.p - c) * D.mod.getD j 0)) * pw (Xc D) (s + j) := rfl
theorem rd1_full {c : Nat} (hc : c ≤ D.p) (s : Nat) : rd1 D c s D.m = sc (zp D.p c) * pw (Xc D) (s + D.m) := by
  unfold rd1
  have e : ∀ t, sc (zp D.p ((D.p - c) * D.mod.getD t 0)) * pw (Xc D) (s + t) = - (sc (zp D.p c) * pw (Xc D) s) * (sc (D.c t) * pw (Xc D) t) := fun t => by
    rw [zp_mul, sc_mul, zp_neg hc, sc_neg, pw_add, neg_mul, neg_mul, neg_mul]
    show -(sc (zp D.p c) * sc (D.c t) * (pw (Xc D) s * pw (Xc D) t)) = _
    congr 1; ac_rfl
  rw [rsum_congr fun t _ => e t, rsum_mul_left, neg_mul]
  have hX := X_root (D := D)
  have h2 : rsum D.m (fun i => sc (D.c i) * pw (Xc D) i) = - pw (Xc D) D.m := neg_unique hX
  rw [h2, mul_neg, neg_neg, mul_a, ← pw_add]
end
end Cw

/-! Plain algebra: a residue whose powers are all residues other than 0; pigeonholes. No Go here -/
namespace Cw

theorem nodup_len_le : ∀ (l1 l2 : List Nat), l1.Nodup → (∀ x ∈ l1, x ∈ l2) → l1.length ≤ l2.length
  | [], _, _, _ => Nat.zero_le _
  | a :: l, l2, h, hs => by
    have ha : a ∈ l2 := hs a (by simp)
    have h1 := List.nodup_cons.1 h
    have h2 := nodup_len_le l (l2.erase a) h1.2 fun x hx => by
      refine (List.mem_erase_of_ne ?_).2 (hs x (by simp [hx]))
      rintro rfl; exact h1.1 hx
    rw [List.length_erase_of_mem ha] at h2
    have := List.length_pos_of_mem ha
    simp; omega
theorem nodup_map {f : Nat → Nat} : ∀ {n : Nat}, (∀ i j, i < n → j < n → f i = f j → i = j) → ((List.range n).map f).Nodup
  | 0, _ => by simp
  | n+1, h => by
    rw [List.range_succ, List.map_append, List.nodup_append]
    refine ⟨nodup_map fun i j hi hj e => h i j (by omega) (by omega) e, by simp, fun a ha b hb e => ?_⟩
    obtain ⟨i, hi, rfl⟩ := List.mem_map.1 ha
    simp at hb hi
    have := h i n (by omega) (by omega) (by rw [e, hb])
    omega
/-- Different numbers below q: at most q of them. -/
theorem inj_le {f : Nat → Nat} {n q : Nat} (h1 : ∀ i, i < n → f i < q) (h2 : ∀ i j, i < n → j < n → f i = f j → i = j) : n ≤ q := by
  have h := nodup_len_le _ (List.range q) (nodup_map h2) fun x hx => by
    obtain ⟨i, hi, rfl⟩ := List.mem_map.1 hx
    exact List.mem_range.2 (h1 i (List.mem_range.1 hi))
  simpa using h
/-- As many different numbers below q as there are: all of them. -/
theorem inj_all {f : Nat → Nat} {q : Nat} (h1 : ∀ i, i < q → f i < q) (h2 : ∀ i j, i < q → j < q → f i = f j → i = j) {x : Nat} (hx : x < q) : ∃ i, i < q ∧ f i = x := by
  apply Classical.byContradiction
  intro hno
  have h := inj_le (f := fun i => if i < q then f i else x) (n := q + 1) (q := q) (fun i hi => by
    by_cases e : i < q
    · simp only [e, if_true]; exact h1 i e
    · simp only [e, if_false]; exact hx) (fun i j hi hj e => by
    by_cases hi' : i < q <;> by_cases hj' : j < q <;> simp only [hi', hj', if_true, if_false] at e
    · exact h2 i j hi' hj' e
    · exact absurd ⟨i, hi', e⟩ hno
    · exact absurd ⟨j, hj', e.symm⟩ hno
    · omega)
  omega

section
variable {D : Desc}
/-- The powers of u below q-1 differ, and the power q-1 is 1. -/
def IsGen (u : R D) : Prop := (∀ i j, i < D.q - 1 → j < D.q - 1 → pw u i = pw u j → i = j) ∧ pw u (D.q - 1) = 1
theorem one_ne_R : (1 : R D) ≠ 0 := fun h => by
  have h1 := rcode_one (D := D)
  rw [h, rcode_zero] at h1; cases h1
theorem IsGen.ne {u : R D} (h : IsGen u) {i : Nat} (hi : i ≤ D.q - 1) : pw u i ≠ 0 := fun e => by
  have h1 := h.2
  rw [show D.q - 1 = i + (D.q - 1 - i) by omega, pw_add, e, zero_mul] at h1
  exact one_ne_R h1.symm
theorem IsGen.all {u : R D} (h : IsGen u) (x : R D) (hx : x ≠ 0) : ∃ i, i < D.q - 1 ∧ x = pw u i := by
  have pos : ∀ {y : R D}, y ≠ 0 → 1 ≤ rcode y := fun {y} hy => by
    rcases Nat.eq_zero_or_pos (rcode y) with h0 | h0
    · exact absurd (rcode_inj (h0.trans rcode_zero.symm)) hy
    · exact h0
  obtain ⟨i, hi, e⟩ := inj_all (f := fun i => rcode (pw u i) - 1) (q := D.q - 1) (fun i hi => by
      have h1 := rcode_lt (pw u i)
      have h2 := pos (h.ne (Nat.le_of_lt hi))
      show rcode (pw u i) - 1 < D.q - 1
      omega) (fun i j hi hj e => h.1 i j hi hj (rcode_inj (by
      have h1 := pos (h.ne (Nat.le_of_lt hi))
      have h2 := pos (h.ne (Nat.le_of_lt hj))
      have h3 : rcode (pw u i) - 1 = rcode (pw u j) - 1 := e
      omega))) (x := rcode x - 1) (by have h1 := rcode_lt x; have h2 := pos hx; omega)
  refine ⟨i, hi, rcode_inj ?_⟩
  have h1 := pos hx
  have h2 := pos (h.ne (Nat.le_of_lt hi))
  have h3 : rcode (pw u i) - 1 = rcode x - 1 := e
  omega
/-- The field of a description with a primitive element. -/
def mkFD (D : Desc) (u : R D) (h : IsGen u) : FD := ⟨D, u, h.all, h.1, h.2⟩
/-- The powers of u from 0 on, till one repeats or is 0. -/
def PwList (u : R D) (N : Nat) : Prop := 1 ≤ N ∧ (∀ i j, i < N → j < N → pw u i = pw u j → i = j) ∧ (∀ i, i < N → pw u i ≠ 0)
def PwStop (u : R D) (N : Nat) : Prop := pw u N = 0 ∨ ∃ i, i < N ∧ pw u N = pw u i
theorem PwList.le {u : R D} {N : Nat} (h : PwList u N) : N ≤ D.q - 1 := by
  have pos : ∀ {y : R D}, y ≠ 0 → 1 ≤ rcode y := fun {y} hy => by
    rcases Nat.eq_zero_or_pos (rcode y) with h0 | h0
    · exact absurd (rcode_inj (h0.trans rcode_zero.symm)) hy
    · exact h0
  exact inj_le (f := fun i => rcode (pw u i) - 1) (fun i hi => by
      have h1 := rcode_lt (pw u i)
      have h2 := pos (h.2.2 i hi)
      show rcode (pw u i) - 1 < D.q - 1
      omega) (fun i j hi hj e => h.2.1 i j hi hj (rcode_inj (by
      have h1 := pos (h.2.2 i hi)
      have h2 := pos (h.2.2 j hj)
      have h3 : rcode (pw u i) - 1 = rcode (pw u j) - 1 := e
      omega)))
theorem PwList.one (u : R D) : PwList u 1 := ⟨Nat.le_refl _, fun i j hi hj _ => by omega, fun i hi => by
  obtain rfl : i = 0 := by omega
  exact one_ne_R⟩
theorem PwList.succ {u : R D} {N : Nat} (h : PwList u N) (hs : ¬ PwStop u N) : PwList u (N + 1) := by
  refine ⟨by omega, fun i j hi hj e => ?_, fun i hi => ?_⟩
  · by_cases h1 : i = N
    · by_cases h2 : j = N
      · omega
      · exact absurd (.inr ⟨j, by omega, by rw [← h1]; exact e⟩) hs
    · by_cases h2 : j = N
      · exact absurd (.inr ⟨i, by omega, by rw [← h2]; exact e.symm⟩) hs
      · exact h.2.1 i j (by omega) (by omega) e
  · by_cases h1 : i = N
    · subst h1; exact fun e => hs (.inl e)
    · exact h.2.2 i (by omega)
theorem PwList.gen {u : R D} (h : PwList u (D.q - 1)) (h1 : pw u (D.q - 1) = 1) : IsGen u := ⟨h.2.1, h1⟩
theorem IsGen.pwlist {u : R D} (h : IsGen u) {N : Nat} (hl : PwList u N) (hs : PwStop u N) : N = D.q - 1 := by
  have hle := hl.le
  rcases Nat.lt_or_ge N (D.q - 1) with hlt | hge
  · rcases hs with h0 | ⟨i, hi, e⟩
    · exact absurd h0 (h.ne (Nat.le_of_lt hlt))
    · have := h.1 N i hlt (by omega) e; omega
  · omega
end
end Cw

/-! Plain: what the reference's long division computes. No Go here -/
namespace Cw
/-- The inner loop of the division: j steps at the place s with the leading coefficient c. -/
def dIn (p c s : Nat) (low : Nat → Nat) : Nat → (Nat → Nat) → (Nat → Nat)
  | 0, r => r
  | j+1, r => fup (dIn p c s low j r) (s + j) ((dIn p c s low j r (s + j) + (p - c) * low j) % p)
/-- The outer loop: t rounds, from place m down. -/
def dOut (p d m : Nat) (low : Nat → Nat) : Nat → (Nat → Nat) → (Nat → Nat)
  | 0, r => r
  | t+1, r => fup (dIn p (dOut p d m low t r (m - t)) (m - t - d) low d (dOut p d m low t r)) (m - t) 0
/-- The monic polynomial with the low coefficients mod. -/
def mon (m : Nat) (mod : Nat → Nat) : Nat → Nat := fun i => if i < m then mod i else 1
/-- Does the division leave nothing? -/
def dvB (p d m : Nat) (low mod : Nat → Nat) : Bool := decide (∀ k, k < m + 1 → dOut p d m low (m + 1 - d) (mon m mod) k = 0)
theorem fup_lt {p : Nat} {f : Nat → Nat} (h : ∀ i, f i < p) {v : Nat} (hv : v < p) (k : Nat) : ∀ i, fup f k v i < p := fun i => by
  unfold fup
  by_cases e : i = k
  · rw [if_pos e]; exact hv
  · rw [if_neg e]; exact h i
theorem dIn_lt {p : Nat} (hp : 0 < p) (c s : Nat) (low : Nat → Nat) {r : Nat → Nat} (h : ∀ i, r i < p) : ∀ j i, dIn p c s low j r i < p
  | 0 => h
  | j+1 => fup_lt (dIn_lt hp c s low h j) (Nat.mod_lt _ hp) _
theorem dOut_lt {p : Nat} (hp : 0 < p) (d m : Nat) (low : Nat → Nat) {r : Nat → Nat} (h : ∀ i, r i < p) : ∀ t i, dOut p d m low t r i < p
  | 0 => h
  | t+1 => fup_lt (dIn_lt hp _ _ low (dOut_lt hp d m low h t) d) hp _
theorem mon_lt {p m : Nat} (hp : 2 ≤ p) {mod : Nat → Nat} (h : ∀ i, mod i < p) : ∀ i, mon m mod i < p := fun i => by
  unfold mon
  by_cases e : i < m
  · rw [if_pos e]; exact h i
  · rw [if_neg e]; omega
end Cw

/-! Plain: sums of elements digit by digit, and by exclusive or in characteristic 2. No Go here -/
namespace Cw
theorem nval_stop {p : Nat} {f : Nat → Nat} {m k : Nat} (hk : k ≤ m) (h : ∀ i, k ≤ i → i < m → f i = 0) : nval p f m = nval p f k := by
  induction m with
  | zero => obtain rfl : k = 0 := by omega
            rfl
  | succ m ih =>
    by_cases e : k = m + 1
    · subst e; rfl
    · show nval p f m + f m * p ^ m = _
      rw [ih (by omega) (fun i h1 h2 => h i h1 (by omega)), h m (by omega) (by omega), Nat.zero_mul, Nat.add_zero]
theorem nval_two (f : Nat → Nat) (h : ∀ i, f i < 2) (m i : Nat) : (nval 2 f m).testBit i = (decide (i < m) && decide (f i = 1)) := by
  by_cases hi : i < m
  · rw [Nat.testBit_eq_decide_div_mod_eq, nval_digit (by decide) (fun j _ => h j) hi]; simp [hi]
  · have hlt := nval_lt (p := 2) (m := m) (f := f) (fun j _ => h j)
    rw [Nat.testBit_lt_two_pow (Nat.lt_of_lt_of_le hlt (Nat.pow_le_pow_right (by decide) (by omega)))]
    simp [hi]
section
variable {D : Desc}
theorem xor_add (h2 : D.p = 2) (u v : R D) : rcode u ^^^ rcode v = rcode (u + v) := by
  apply Nat.eq_of_testBit_eq
  intro i
  have key : ∀ w : R D, rcode w = nval 2 (di w) D.m := fun w => by
    show nval D.p (di w) D.m = _; rw [h2]
  have hlt : ∀ (w : R D) (j : Nat), di w j < 2 := fun w j => by have := di_lt w j; omega
  rw [Nat.testBit_xor, key, key, key, nval_two _ (hlt u), nval_two _ (hlt v), nval_two _ (hlt (u + v)), di_add, h2]
  have h1 := hlt u i
  have h3 := hlt v i
  by_cases hi : i < D.m
  · have a1 : di u i = 0 ∨ di u i = 1 := by omega
    have a2 : di v i = 0 ∨ di v i = 1 := by omega
    rcases a1 with a1 | a1 <;> rcases a2 with a2 | a2 <;> simp [hi, a1, a2]
  · simp [hi]
theorem div_pow_zero (u : R D) {k : Nat} (h : D.m ≤ k) : rcode u / D.p ^ k = 0 := by
  apply Nat.div_eq_of_lt
  exact Nat.lt_of_lt_of_le (rcode_lt u) (Nat.pow_le_pow_right (by have := D.p2; omega) h)
/-- Where both numbers have run out the sum is whole. -/
theorem add_stop (u v : R D) {k : Nat} (hk : k ≤ D.m) (h1 : rcode u / D.p ^ k = 0) (h2 : rcode v / D.p ^ k = 0) : nval D.p (di (u + v)) k = rcode (u + v) := by
  have z : ∀ (w : R D) (i : Nat), rcode w / D.p ^ k = 0 → k ≤ i → i < D.m → di w i = 0 := fun w i h hi hm => by
    rw [← di_rcode w hm]
    obtain ⟨t, rfl⟩ : ∃ t, i = k + t := ⟨i - k, by omega⟩
    rw [Nat.pow_add, ← Nat.div_div_eq_div_mul, h, Nat.zero_div, Nat.zero_mod]
  exact (nval_stop hk fun i hi hm => by rw [di_add, z u i h1 hi hm, z v i h2 hi hm, Nat.zero_add, Nat.zero_mod]).symm
theorem add_digit (u v : R D) {k : Nat} (hk : k < D.m) : (rcode u / D.p ^ k % D.p + rcode v / D.p ^ k % D.p) % D.p = di (u + v) k := by
  rw [di_rcode u hk, di_rcode v hk, di_add]
theorem neg_stop (u : R D) {k : Nat} (hk : k ≤ D.m) (h1 : rcode u / D.p ^ k = 0) : nval D.p (di (-u)) k = rcode (-u) := by
  have z : ∀ (i : Nat), k ≤ i → i < D.m → di (-u) i = 0 := fun i hi hm => by
    have : di u i = 0 := by
      rw [← di_rcode u hm]
      obtain ⟨t, rfl⟩ : ∃ t, i = k + t := ⟨i - k, by omega⟩
      rw [Nat.pow_add, ← Nat.div_div_eq_div_mul, h1, Nat.zero_div, Nat.zero_mod]
    rw [di_neg, this, Nat.sub_zero, Nat.mod_self]
  exact (nval_stop hk fun i hi hm => z i hi hm).symm
theorem neg_digit (u : R D) {k : Nat} (hk : k < D.m) : (D.p - rcode u / D.p ^ k % D.p) % D.p = di (-u) k := by
  rw [di_rcode u hk, di_neg]
end
end Cw

/-! Plain algebra: roots of polynomials, the number of elements of a subfield, Hilbert's theorem 90. No Go here -/
namespace Cw

/-! ### polynomials as lists of coefficients -/
section poly
variable {F : Type} [CField F]
open CField (inv)
/-- The value of the polynomial with the coefficients l, constant first. -/
def pev : List F → F → F
  | [], _ => 0
  | c :: l, x => c + x * pev l x
/-- The quotient by X - a. -/
def pqt (a : F) : List F → List F
  | [] => []
  | [_] => []
  | _ :: c :: l => pev (c :: l) a :: pqt a (c :: l)
theorem pqt_length (a : F) : ∀ l : List F, (pqt a l).length = l.length - 1
  | [] => rfl
  | [_] => rfl
  | _ :: c :: l => by
    show (pqt a (c :: l)).length + 1 = _
    rw [pqt_length a (c :: l)]; simp
theorem pev_qt (a x : F) : ∀ l : List F, pev l x = pev l a + (x - a) * pev (pqt a l) x
  | [] => by show (0 : F) = 0 + (x - a) * 0; rw [mul_zero, add_zero]
  | [c] => by
    show c + x * 0 = c + a * 0 + (x - a) * 0
    rw [mul_zero, mul_zero, mul_zero, add_zero, add_zero]
  | b :: c :: l => by
    have ih := pev_qt a x (c :: l)
    show b + x * pev (c :: l) x = b + a * pev (c :: l) a + (x - a) * (pev (c :: l) a + x * pev (pqt a (c :: l)) x)
    generalize pev (pqt a (c :: l)) x = s at *
    generalize pev (c :: l) a = t at *
    rw [ih, mul_add x, mul_add (x - a), sub_mul x a t, sub_d (x * t)]
    rw [show b + a * t + (x * t + -(a * t) + (x - a) * (x * s)) = b + (x * t + x * ((x - a) * s)) + (a * t + -(a * t)) by ac_rfl, add_neg, add_zero]
/-- A polynomial that is 0 at as many elements as it has coefficients is 0. -/
theorem pev_roots : ∀ (r : List F) (l : List F), l.length ≤ r.length → r.Nodup → (∀ x ∈ r, pev l x = 0) → ∀ c ∈ l, c = 0
  | [], l, hl, _, _, c, hc => by
    have : l = [] := List.eq_nil_of_length_eq_zero (by simpa using hl)
    rw [this] at hc; cases hc
  | a :: r, [], _, _, _, c, hc => by cases hc
  | a :: r, [b], _, _, h0, c, hc => by
    have h1 := h0 a (by simp)
    have h2 : b + a * 0 = 0 := h1
    rw [mul_zero, add_zero] at h2
    simp at hc; rw [hc, h2]
  | a :: r, b :: b' :: l, hl, hnd, h0, c, hc => by
    have hn := List.nodup_cons.1 hnd
    have ha := h0 a (by simp)
    have hq := pev_roots r (pqt a (b :: b' :: l)) (by rw [pqt_length]; simp at hl ⊢; omega) hn.2 fun x hx => by
      have h1 := h0 x (by simp [hx])
      rw [pev_qt a x, ha, zero_add] at h1
      rcases mul_eq_zero h1 with h2 | h2
      · exact absurd (sub_eq_zero h2) (fun e => hn.1 (e ▸ hx))
      · exact h2
    have key : ∀ l : List F, (∀ c ∈ pqt a l, c = 0) → pev l a = 0 → ∀ c ∈ l, c = 0 := fun l => by
      induction l with
      | nil => intro _ _ c hc; cases hc
      | cons b l ih =>
        intro h1 h2 c hc
        cases l with
        | nil =>
          have h3 : b + a * 0 = 0 := h2
          rw [mul_zero, add_zero] at h3
          simp at hc; rw [hc, h3]
        | cons b' l =>
          have h3 : pev (b' :: l) a = 0 := h1 _ (by simp [pqt])
          have h4 : b + a * pev (b' :: l) a = 0 := h2
          rw [h3, mul_zero, add_zero] at h4
          rcases List.mem_cons.1 hc with e | e
          · rw [e, h4]
          · exact ih (fun c hc => h1 c (by simp only [pqt, List.mem_cons]; exact .inr hc)) h3 c e
    exact key _ hq ha c hc
theorem pev_append (l l' : List F) (x : F) : pev (l ++ l') x = pev l x + pw x l.length * pev l' x := by
  induction l with
  | nil => show pev l' x = 0 + 1 * pev l' x; rw [zero_add, one_mul]
  | cons c l ih =>
    show c + x * pev (l ++ l') x = c + x * pev l x + pw x (l.length + 1) * pev l' x
    rw [ih, mul_add, pw_succ', add_a, mul_a]
theorem pev_map (f : Nat → F) (x : F) : ∀ n, pev ((List.range n).map f) x = rsum n (fun i => f i * pw x i)
  | 0 => rfl
  | n + 1 => by
    rw [List.range_succ, List.map_append, pev_append, pev_map f x n, rsum_succ]
    congr 1
    show pw x _ * (f n + x * 0) = _
    rw [mul_zero, add_zero, List.length_map, List.length_range, mul_c]
/-- Coefficients below n of a function that is 0 at n different elements. -/
theorem rsum_roots {n : Nat} {f : Nat → F} {a : Nat → F} (hinj : ∀ i j, i < n → j < n → a i = a j → i = j) (h : ∀ k, k < n → rsum n (fun i => f i * pw (a k) i) = 0) {i : Nat} (hi : i < n) : f i = 0 := by
  refine pev_roots ((List.range n).map a) ((List.range n).map f) (by simp) ?_ ?_ (f i) (List.mem_map.2 ⟨i, List.mem_range.2 hi, rfl⟩)
  · refine List.pairwise_map.2 (List.Pairwise.imp_of_mem ?_ (List.nodup_range (n := n)))
    intro x y hx hy hne e
    exact hne (hinj x y (List.mem_range.1 hx) (List.mem_range.1 hy) e)
  · intro x hx
    obtain ⟨k, hk, rfl⟩ := List.mem_map.1 hx
    rw [pev_map]
    exact h k (List.mem_range.1 hk)
end poly

/-! ### subfields -/
def geo (Q : Nat) : Nat → Nat
  | 0 => 0
  | n + 1 => geo Q n + Q ^ n
theorem geo_mul {Q : Nat} (hQ : 1 ≤ Q) : ∀ n, (Q - 1) * geo Q n + 1 = Q ^ n
  | 0 => by simp [geo]
  | n + 1 => by
    show (Q - 1) * (geo Q n + Q ^ n) + 1 = Q ^ (n + 1)
    have ih := geo_mul hQ n
    rw [Nat.mul_add, Nat.pow_succ]
    have h2 : (Q - 1) * Q ^ n + Q ^ n = Q ^ n * Q := by
      rw [← Nat.succ_mul, Nat.mul_comm]; congr 1; omega
    omega

section ff
variable {F : Type} [FF F]
open FF
open CField (inv)
theorem q_geo {d : Nat} (hd : d ∣ M F) : (p F ^ d - 1) * geo (p F ^ d) (M F / d) + 1 = q F := by
  rw [geo_mul (Nat.pow_pos (by have := p_two (F := F); omega)), ← Nat.pow_mul, Nat.mul_div_cancel' hd, q_eq]
theorem pd_two {d : Nat} (h1 : 1 ≤ d) : 2 ≤ p F ^ d := by
  have h := Nat.pow_le_pow_right (n := p F) (by have := p_two (F := F); omega) h1
  have := p_two (F := F); rw [Nat.pow_one] at h; omega
theorem geo_pos {d : Nat} (hd : d ∣ M F) : 1 ≤ geo (p F ^ d) (M F / d) := by
  have h := q_geo (F := F) hd
  have := q_two (F := F)
  rcases Nat.eq_zero_or_pos (geo (p F ^ d) (M F / d)) with h0 | h0
  · rw [h0, Nat.mul_zero] at h; omega
  · exact h0
/-- A power of the primitive element is in the subfield just if the exponent is a multiple of (q-1)/(p^d-1). -/
theorem gen_fix {d : Nat} (hd : d ∣ M F) (h1 : 1 ≤ d) (i : Nat) : frob d (pw (gen : F) i) = pw gen i ↔ geo (p F ^ d) (M F / d) ∣ i := by
  have hq := q_geo (F := F) hd
  have h2 := pd_two (F := F) h1
  obtain ⟨Q, hQ⟩ : ∃ Q, Q = p F ^ d := ⟨_, rfl⟩
  obtain ⟨e, he⟩ : ∃ e, e = geo (p F ^ d) (M F / d) := ⟨_, rfl⟩
  have he1 : 1 ≤ e := by rw [he]; exact geo_pos hd
  rw [← he] at hq ⊢
  unfold frob
  rw [← hQ] at hq h2 ⊢
  have hne : pw (gen : F) i ≠ 0 := pw_ne_zero gen_ne i
  have hsp : pw (pw (gen : F) i) Q = pw gen (i * (Q - 1)) * pw gen i := by
    rw [← pw_mul, ← pw_add]; congr 1
    rw [← Nat.mul_succ]; congr 1; omega
  have hq1 : q F - 1 = (Q - 1) * e := by omega
  rw [hsp]
  constructor
  · intro h
    have h3 : pw (gen : F) (i * (Q - 1)) = 1 := by
      rw [mul_c] at h
      exact mul_left_cancel hne (by rw [h, mul_one])
    rw [pw_gen_eq_one, hq1, Nat.mul_comm i] at h3
    exact Nat.dvd_of_mul_dvd_mul_left (by omega) h3
  · rintro ⟨k, rfl⟩
    have h3 : pw (gen : F) (e * k * (Q - 1)) = 1 := by
      rw [pw_gen_eq_one, hq1]
      exact ⟨k, by ac_rfl⟩
    rw [h3, one_mul]
theorem code_inj_iff {x y : F} : code x = code y ↔ x = y := ⟨code_inj, fun h => by rw [h]⟩
/-- The subfield of degree d has p^d elements. -/
theorem sub_count {d : Nat} (hd : d ∣ M F) (h1 : 1 ≤ d) : ((List.range (q F)).filter fun n => decide (frob d (el n : F) = el n)).length = p F ^ d := by
  have hq := q_geo (F := F) hd
  have h2 := pd_two (F := F) h1
  have he1 := geo_pos (F := F) hd
  have hfx := gen_fix (F := F) hd h1
  obtain ⟨e, he⟩ : ∃ e, e = geo (p F ^ d) (M F / d) := ⟨_, rfl⟩
  obtain ⟨Q, hQ⟩ : ∃ Q, Q = p F ^ d := ⟨_, rfl⟩
  rw [← he] at hfx he1
  rw [← he, ← hQ] at hq
  rw [← hQ] at h2 ⊢
  have hlt : ∀ t, t < Q - 1 → e * t < q F - 1 := fun t ht => by
    have : e * (t + 1) ≤ e * (Q - 1) := Nat.mul_le_mul_left e ht
    rw [Nat.mul_comm e (Q - 1), Nat.mul_succ] at this
    omega
  have hnd : (0 :: (List.range (Q - 1)).map fun t => code (pw (gen : F) (e * t))).Nodup := by
    refine List.nodup_cons.2 ⟨fun h => ?_, nodup_map fun i j hi hj h => ?_⟩
    · obtain ⟨t, -, h⟩ := List.mem_map.1 h
      exact pw_ne_zero (gen_ne (F := F)) _ (code_eq_zero.1 h)
    · have h3 := gen_inj (F := F) _ _ (hlt i hi) (hlt j hj) (code_inj h)
      exact Nat.eq_of_mul_eq_mul_left he1 h3
  have hlen : (0 :: (List.range (Q - 1)).map fun t => code (pw (gen : F) (e * t))).length = Q := by simp; omega
  rw [← hlen]
  apply Nat.le_antisymm
  · refine nodup_len_le _ _ (List.Nodup.sublist List.filter_sublist List.nodup_range) fun n hn => ?_
    obtain ⟨hn1, hn2⟩ := List.mem_filter.1 hn
    replace hn1 := List.mem_range.1 hn1
    replace hn2 := of_decide_eq_true hn2
    by_cases h0 : (el n : F) = 0
    · have : n = 0 := by rw [← code_el (F := F) n hn1, h0, code_zero]
      simp [this]
    · obtain ⟨i, hi, hx⟩ := gen_all (el n : F) h0
      rw [hx, hfx] at hn2
      obtain ⟨t, rfl⟩ := hn2
      refine List.mem_cons.2 (.inr (List.mem_map.2 ⟨t, List.mem_range.2 ?_, ?_⟩))
      · rw [show q F - 1 = e * (Q - 1) by rw [Nat.mul_comm]; omega] at hi
        exact Nat.lt_of_mul_lt_mul_left hi
      · rw [← hx, code_el _ hn1]
  · refine nodup_len_le _ _ hnd fun n hn => ?_
    rcases List.mem_cons.1 hn with rfl | hn
    · refine List.mem_filter.2 ⟨List.mem_range.2 (by have := q_two (F := F); omega), decide_eq_true ?_⟩
      rw [el_zero, frob_zero]
    · obtain ⟨t, ht, rfl⟩ := List.mem_map.1 hn
      refine List.mem_filter.2 ⟨List.mem_range.2 (code_lt _), decide_eq_true ?_⟩
      rw [el_code, hfx]
      exact ⟨t, rfl⟩

/-! ### Hilbert's theorem 90 -/
theorem nm_pw (d : Nat) (x : F) : nm d x = pw x (geo (p F ^ d) (M F / d)) := by
  unfold nm
  generalize M F / d = n
  induction n with
  | zero => rfl
  | succ n ih =>
    rw [rprod_succ, ih]
    show _ = pw x (geo (p F ^ d) n + (p F ^ d) ^ n)
    rw [pw_add, ← Nat.pow_mul]; rfl
theorem nm_ne_zero {d : Nat} {x : F} (h : x ≠ 0) : nm d x ≠ 0 := by rw [nm_pw]; exact pw_ne_zero h _
theorem nm_frob_in (d j : Nat) (x : F) : nm d (frob j x) = frob j (nm d x) := by
  unfold nm
  rw [frob_rprod]
  exact rprod_congr fun i _ => by rw [frob_frob, frob_frob, Nat.add_comm]
theorem tr_frob_in (d j : Nat) (x : F) : tr d (frob j x) = frob j (tr d x) := by
  unfold tr
  rw [frob_rsum]
  exact rsum_congr fun i _ => by rw [frob_frob, frob_frob, Nat.add_comm]
/-- The elements of norm 1 are the quotients. -/
theorem hilbert_nm {d : Nat} (hd : d ∣ M F) (h1 : 1 ≤ d) (x : F) : nm d x = 1 ↔ ∃ y : F, y ≠ 0 ∧ x * y = frob d y := by
  constructor
  · intro h
    have hx : x ≠ 0 := fun e => by
      rw [nm_pw, e, zero_pw (geo_pos hd)] at h
      exact one_ne h.symm
    obtain ⟨i, -, rfl⟩ := gen_all x hx
    have hq := q_geo (F := F) hd
    have h2 := pd_two (F := F) h1
    have he := geo_pos (F := F) hd
    rw [nm_pw, ← pw_mul, pw_gen_eq_one] at h
    rw [show q F - 1 = (p F ^ d - 1) * geo (p F ^ d) (M F / d) by omega] at h
    obtain ⟨k, rfl⟩ := Nat.dvd_of_mul_dvd_mul_right he h
    refine ⟨pw gen k, pw_ne_zero gen_ne _, ?_⟩
    unfold frob
    rw [← pw_add, ← pw_mul]
    congr 1
    rw [← Nat.succ_mul, Nat.mul_comm]; congr 1; omega
  · rintro ⟨y, hy, e⟩
    have h3 : nm d x * nm d y = nm d y := by
      rw [← nm_mul, e, nm_frob_in, nm_frob hd]
    rw [mul_c] at h3
    exact mul_left_cancel (nm_ne_zero (d := d) hy) (by rw [h3, mul_one])
theorem tr_neg (d : Nat) (x : F) : tr d (-x) = - tr d x := neg_unique (by
  rw [← tr_add, add_neg]
  unfold tr
  exact rsum_eq_zero fun i _ => frob_zero _)
theorem tr_sub (d : Nat) (x y : F) : tr d (x - y) = tr d x - tr d y := by rw [sub_d, tr_add, tr_neg]; rfl
/-- Some element has a trace other than 0. -/
theorem tr_onto {d : Nat} (hd : d ∣ M F) (h1 : 1 ≤ d) : ∃ x : F, tr d x ≠ 0 := by
  apply Classical.byContradiction
  intro hno
  have hz : ∀ x : F, tr d x = 0 := fun x => Classical.byContradiction fun h => hno ⟨x, h⟩
  have h2 := pd_two (F := F) h1
  have hn1 : 1 ≤ M F / d := Nat.div_pos (Nat.le_of_dvd (M_pos (F := F)) hd) h1
  have hpq : ∀ j, j < M F / d → p F ^ (d * j) < q F := fun j hj => by
    rw [q_eq]
    refine Nat.pow_lt_pow_right (by have := p_two (F := F); omega) ?_
    have : d * (j + 1) ≤ d * (M F / d) := Nat.mul_le_mul_left d hj
    rw [Nat.mul_div_cancel' hd, Nat.mul_succ] at this
    omega
  have key := rsum_roots (n := q F) (f := fun i => rsum (M F / d) fun j => if i = p F ^ (d * j) then (1 : F) else 0) (a := fun n => (el n : F))
    (fun i j hi hj h => by rw [← code_el (F := F) i hi, ← code_el (F := F) j hj]; exact congrArg code h)
    (fun k _ => by
      show rsum (q F) (fun i => rsum (M F / d) (fun j => if i = p F ^ (d * j) then (1 : F) else 0) * pw (el k) i) = 0
      refine Eq.trans ?_ (hz (el k))
      unfold tr
      rw [rsum_congr fun i _ => (rsum_mul_right (M F / d) (pw (el k : F) i) (fun j => if i = p F ^ (d * j) then (1 : F) else 0)).symm, rsum_swap]
      refine rsum_congr fun j hj => ?_
      rw [rsum_single (k := p F ^ (d * j)) (hpq j hj) fun i _ hne => by rw [if_neg hne, zero_mul], if_pos rfl, one_mul]
      rfl) (i := 1) (by have := q_two (F := F); omega)
  have k2 : rsum (M F / d) (fun j => if 1 = p F ^ (d * j) then (1 : F) else 0) = 1 := by
    rw [rsum_single (k := 0) hn1 fun j _ hne => if_neg ?_, Nat.mul_zero, Nat.pow_zero, if_pos rfl]
    intro e
    have hj : 1 ≤ d * j := Nat.mul_pos h1 (Nat.pos_of_ne_zero hne)
    have h3 := pd_two (F := F) hj
    omega
  exact one_ne (k2.symm.trans key)
/-- The elements of trace 0 are the differences. -/
theorem hilbert_tr {d : Nat} (hd : d ∣ M F) (h1 : 1 ≤ d) (x : F) : tr d x = 0 ↔ ∃ y : F, frob d y - y = x := by
  constructor
  · intro hx
    obtain ⟨t, ht⟩ := tr_onto (F := F) hd h1
    have hn1 : 1 ≤ M F / d := Nat.div_pos (Nat.le_of_dvd (M_pos (F := F)) hd) h1
    obtain ⟨S, hS⟩ : ∃ S : Nat → F, S = fun k => rsum k fun j => frob (d * j) x := ⟨_, rfl⟩
    have hSs : ∀ k, frob d (S k) = S (k + 1) - x := fun k => by
      rw [hS]
      show frob d (rsum k fun j => frob (d * j) x) = rsum (k + 1) (fun j => frob (d * j) x) - x
      rw [rsum_succ_left, Nat.mul_zero, frob_zero_k, add_c, add_sub_cancel, frob_rsum]
      exact rsum_congr fun j _ => by rw [frob_frob]; congr 1; rw [Nat.mul_succ]; omega
    have hSn : S (M F / d) = 0 := by rw [hS]; exact hx
    have hS0 : S 0 = 0 := by rw [hS]; rfl
    have hcyc : frob (d * (M F / d)) t = t := by rw [Nat.mul_div_cancel' hd]; exact frob_M t
    have hY : frob d (rsum (M F / d) fun k => S k * frob (d * k) t) = (rsum (M F / d) fun k => S k * frob (d * k) t) - x * tr d t := by
      rw [frob_rsum]
      rw [rsum_congr (g := fun k => S (k + 1) * frob (d * (k + 1)) t - x * frob (d * (k + 1)) t) fun k _ => by
        rw [frob_mul, hSs, frob_frob, sub_mul, show d + d * k = d * (k + 1) by rw [Nat.mul_succ]; omega]]
      rw [rsum_sub]
      congr 1
      · exact rsum_rotate (M F / d) (fun k => S k * frob (d * k) t) (by rw [hSn, hS0, zero_mul, zero_mul])
      · rw [rsum_mul_left]
        congr 1
        exact rsum_rotate (M F / d) (fun k => frob (d * k) t) (by rw [hcyc, Nat.mul_zero, frob_zero_k])
    refine ⟨-(inv (tr d t) * rsum (M F / d) fun k => S k * frob (d * k) t), ?_⟩
    rw [frob_neg, frob_mul, frob_inv, tr_frob hd, hY, sub_d, neg_neg, mul_sub, neg_sub, sub_add_cancel, mul_lc, inv_mul ht, mul_one]
  · rintro ⟨y, rfl⟩
    rw [tr_sub, tr_frob_in, tr_frob hd, sub_self]
end ff
end Cw

/-! Plain algebra: a finite commutative ring in which all elements other than 0 have inverses has a primitive element. No Go here -/
namespace Cw

/-! ### orders -/
section ord
variable {F : Type} [CField F]
open CField (inv)
/-- n is the order of x. -/
def IsOrd (x : F) (n : Nat) : Prop := 1 ≤ n ∧ pw x n = 1 ∧ ∀ k, pw x k = 1 → n ∣ k
theorem IsOrd.of_least {x : F} {n : Nat} (h1 : 1 ≤ n) (h2 : pw x n = 1) (h3 : ∀ k, 1 ≤ k → k < n → pw x k ≠ 1) : IsOrd x n := by
  refine ⟨h1, h2, fun k hk => ?_⟩
  have e : pw x (k % n) = 1 := by
    have h := Nat.div_add_mod k n
    rw [← h, pw_add, pw_mul, h2, one_pw, one_mul] at hk
    exact hk
  rcases Nat.eq_zero_or_pos (k % n) with h0 | h0
  · exact Nat.dvd_of_mod_eq_zero h0
  · exact absurd e (h3 _ h0 (Nat.mod_lt _ h1))
theorem IsOrd.exists {x : F} {n : Nat} (h1 : 1 ≤ n) (h2 : pw x n = 1) : ∃ m, m ≤ n ∧ IsOrd x m := by
  induction n using Nat.strongRecOn with
  | ind n ih =>
    by_cases h : ∃ k, 1 ≤ k ∧ k < n ∧ pw x k = 1
    · obtain ⟨k, k1, k2, k3⟩ := h
      obtain ⟨m, m1, m2⟩ := ih k k2 k1 k3
      exact ⟨m, by omega, m2⟩
    · exact ⟨n, Nat.le_refl _, IsOrd.of_least h1 h2 fun k k1 k2 k3 => h ⟨k, k1, k2, k3⟩⟩
theorem IsOrd.pow {x : F} {n d : Nat} (h : IsOrd x n) (hd : d ∣ n) : IsOrd (pw x d) (n / d) := by
  obtain ⟨e, rfl⟩ := hd
  have h1 := h.1
  have hd0 : 0 < d := Nat.pos_of_ne_zero fun e0 => by rw [e0, Nat.zero_mul] at h1; omega
  have he0 : 0 < e := Nat.pos_of_ne_zero fun e0 => by rw [e0, Nat.mul_zero] at h1; omega
  rw [Nat.mul_div_cancel_left _ hd0]
  refine ⟨he0, by rw [← pw_mul]; exact h.2.1, fun k hk => ?_⟩
  rw [← pw_mul] at hk
  exact Nat.dvd_of_mul_dvd_mul_left hd0 (h.2.2 _ hk)
theorem IsOrd.mul {x y : F} {m n : Nat} (hx : IsOrd x m) (hy : IsOrd y n) (hc : Nat.Coprime m n) : IsOrd (x * y) (m * n) := by
  refine ⟨Nat.mul_pos hx.1 hy.1, ?_, fun k hk => ?_⟩
  · rw [mul_pw, pw_mul, hx.2.1, one_pw, one_mul, Nat.mul_comm, pw_mul, hy.2.1, one_pw]
  · rw [mul_pw] at hk
    have h1 : n ∣ m * k := hy.2.2 _ (by
      have e : pw (pw x k * pw y k) m = 1 := by rw [hk, one_pw]
      rw [mul_pw, ← pw_mul, ← pw_mul, Nat.mul_comm k m, pw_mul x, hx.2.1, one_pw, one_mul] at e
      exact e)
    have h2 : m ∣ n * k := hx.2.2 _ (by
      have e : pw (pw x k * pw y k) n = 1 := by rw [hk, one_pw]
      rw [mul_pw, ← pw_mul, ← pw_mul, Nat.mul_comm k n, pw_mul y, hy.2.1, one_pw, mul_one] at e
      exact e)
    exact Nat.Coprime.mul_dvd_of_dvd_of_dvd hc (hc.dvd_of_dvd_mul_left h2) (hc.symm.dvd_of_dvd_mul_left h1)
end ord

/-! ### numbers -/
theorem prime_factor : ∀ n : Nat, 2 ≤ n → ∃ r, Prime r ∧ r ∣ n := fun n hn => by
  induction n using Nat.strongRecOn with
  | ind n ih =>
    by_cases h : ∃ d, d ∣ n ∧ d ≠ 1 ∧ d ≠ n
    · obtain ⟨d, d1, d2, d3⟩ := h
      have hd0 : d ≠ 0 := fun e => by rw [e] at d1; have := Nat.eq_zero_of_zero_dvd d1; omega
      have hdn := Nat.le_of_dvd (by omega) d1
      obtain ⟨r, r1, r2⟩ := ih d (by omega) (by omega)
      exact ⟨r, r1, Nat.dvd_trans r2 d1⟩
    · exact ⟨n, ⟨hn, fun d hd => Classical.byContradiction fun hne => h ⟨d, hd, fun e => hne (.inl e), fun e => hne (.inr e)⟩⟩, Nat.dvd_refl _⟩
theorem exact_power {r : Nat} (hr : 2 ≤ r) : ∀ n : Nat, 1 ≤ n → ∃ e, r ^ e ∣ n ∧ ¬ r ∣ n / r ^ e := fun n hn => by
  induction n using Nat.strongRecOn with
  | ind n ih =>
    by_cases h : r ∣ n
    · obtain ⟨k, rfl⟩ := h
      have hk : 1 ≤ k := Nat.pos_of_ne_zero fun e => by rw [e] at hn; omega
      have hlt : k < r * k := by have := Nat.mul_le_mul_right k hr; omega
      obtain ⟨e, e1, e2⟩ := ih k hlt hk
      refine ⟨e + 1, ?_, ?_⟩
      · rw [Nat.pow_succ, Nat.mul_comm]; exact Nat.mul_dvd_mul_left r e1
      · rw [Nat.pow_succ, Nat.mul_comm (r ^ e), Nat.mul_div_mul_left _ _ (by omega)]; exact e2
    · exact ⟨0, by simp, by simpa using h⟩
theorem Prime.coprime {r n : Nat} (hr : Prime r) (h : ¬ r ∣ n) : Nat.Coprime n r := by
  have hg := Nat.gcd_dvd_right n r
  rcases hr.2 _ hg with h1 | h1
  · exact h1
  · exact absurd (h1 ▸ Nat.gcd_dvd_left n r) h

section cyc
variable {F : Type} [CField F]
/-- The order of an element whose order is not reached by the greatest one can be raised. -/
theorem ord_raise {g h : F} {N b : Nat} (hg : IsOrd g N) (hh : IsOrd h b) (hnd : ¬ b ∣ N) : ∃ x : F, ∃ n, IsOrd x n ∧ N < n := by
  have hb := hh.1; have hN := hg.1
  obtain ⟨c, hc⟩ : ∃ c, c = Nat.gcd b N := ⟨_, rfl⟩
  have hcb : c ∣ b := hc ▸ Nat.gcd_dvd_left b N
  have hcN : c ∣ N := hc ▸ Nat.gcd_dvd_right b N
  obtain ⟨k, hk⟩ := hcb
  have hk2 : 2 ≤ k := by
    rcases (by omega : k = 0 ∨ k = 1 ∨ 2 ≤ k) with e | e | e
    · rw [e, Nat.mul_zero] at hk; omega
    · rw [e, Nat.mul_one] at hk; exact absurd (hk ▸ hcN) hnd
    · exact e
  obtain ⟨r, hr, hrk⟩ := prime_factor k hk2
  obtain ⟨e, e1, e2⟩ := exact_power hr.1 b hb
  obtain ⟨f, f1, f2⟩ := exact_power hr.1 N hN
  have hef : f < e := by
    rcases Nat.lt_or_ge f e with h1 | h1
    · exact h1
    · have h2 : r ^ e ∣ c := hc ▸ Nat.dvd_gcd e1 (Nat.dvd_trans (Nat.pow_dvd_pow r h1) f1)
      obtain ⟨c', rfl⟩ := h2
      obtain ⟨k', rfl⟩ := hrk
      have hp : 0 < r ^ e := Nat.pow_pos (by have := hr.1; omega)
      refine absurd ?_ e2
      rw [hk, Nat.mul_assoc, Nat.mul_div_cancel_left _ hp]
      exact ⟨c' * k', by ac_rfl⟩
  have hx := hg.pow f1
  have hbr : b / r ^ e ∣ b := Nat.div_dvd_of_dvd e1
  have hy := hh.pow hbr
  have hp : 0 < r ^ e := Nat.pow_pos (by have := hr.1; omega)
  have hbe : b / (b / r ^ e) = r ^ e := by
    obtain ⟨t, rfl⟩ := e1
    have ht : 0 < t := Nat.pos_of_ne_zero fun e0 => by rw [e0] at hb; omega
    rw [Nat.mul_div_cancel_left _ hp, Nat.mul_div_cancel _ ht]
  rw [hbe] at hy
  refine ⟨_, _, hx.mul hy (Nat.Coprime.pow_right e (hr.coprime f2)), ?_⟩
  obtain ⟨t, rfl⟩ := f1
  have hpf : 0 < r ^ f := Nat.pow_pos (by have := hr.1; omega)
  rw [Nat.mul_div_cancel_left _ hpf]
  have ht : 0 < t := Nat.pos_of_ne_zero fun e0 => by rw [e0] at hN; omega
  rw [Nat.mul_comm]
  exact (Nat.mul_lt_mul_left ht).2 (Nat.pow_lt_pow_right (by have := hr.1; omega) hef)
end cyc

/-! ### a field whose elements are numbered -/
structure Num (F : Type) [CField F] (q : Nat) where
  code : F → Nat
  el : Nat → F
  lt : ∀ x, code x < q
  inj : ∀ x y, code x = code y → x = y
  code_el : ∀ n, n < q → code (el n) = n
  zero : code 0 = 0
  two : 2 ≤ q
section num
variable {F : Type} [CField F] {q : Nat}
theorem Num.pos (h : Num F q) {y : F} (hy : y ≠ 0) : 1 ≤ h.code y := by
  rcases Nat.eq_zero_or_pos (h.code y) with h0 | h0
  · exact absurd (h.inj _ _ (h0.trans h.zero.symm)) hy
  · exact h0
theorem pw_cancel {x : F} (hx : x ≠ 0) {i k : Nat} (e : pw x i = pw x (i + k)) : pw x k = 1 := by
  rw [pw_add] at e
  exact (mul_left_cancel (pw_ne_zero hx i) (by rw [mul_one]; exact e)).symm
theorem Num.pow_one (h : Num F q) {x : F} (hx : x ≠ 0) : ∃ n, 1 ≤ n ∧ pw x n = 1 := by
  apply Classical.byContradiction
  intro hno
  have key : ∀ i j, i ≤ j → pw x i = pw x j → i = j := fun i j hij e => by
    obtain ⟨k, rfl⟩ : ∃ k, j = i + k := ⟨j - i, by omega⟩
    have h1 := pw_cancel hx e
    rcases Nat.eq_zero_or_pos k with h0 | h0
    · omega
    · exact absurd ⟨k, h0, h1⟩ hno
  have hinj : ∀ i j, i < q + 1 → j < q + 1 → h.code (pw x i) = h.code (pw x j) → i = j := by
    intro i j _ _ e
    rcases Nat.le_total i j with h1 | h1
    · exact key i j h1 (h.inj _ _ e)
    · exact (key j i h1 (h.inj _ _ e).symm).symm
  have := inj_le (q := q) (fun i _ => h.lt (pw x i)) hinj
  omega
theorem IsOrd.ne {x : F} {n : Nat} (hx : IsOrd x n) : x ≠ 0 := fun e => by
  have h2 := hx.2.1
  rw [e, zero_pw hx.1] at h2
  exact one_ne h2.symm
theorem IsOrd.inj {x : F} {n : Nat} (hx : IsOrd x n) {i j : Nat} (hi : i < n) (hj : j < n) (e : pw x i = pw x j) : i = j := by
  have key : ∀ i j, j < n → i ≤ j → pw x i = pw x j → i = j := fun i j hj hij e => by
    obtain ⟨k, rfl⟩ : ∃ k, j = i + k := ⟨j - i, by omega⟩
    have := hx.2.2 _ (pw_cancel hx.ne e)
    rcases Nat.eq_zero_or_pos k with h0 | h0
    · omega
    · have := Nat.le_of_dvd h0 this; omega
  rcases Nat.le_total i j with h5 | h5
  · exact key i j hj h5 e
  · exact (key j i hi h5 e.symm).symm
theorem Num.ord_le (h : Num F q) {x : F} {n : Nat} (hx : IsOrd x n) : n ≤ q - 1 :=
  inj_le (f := fun i => h.code (pw x i) - 1) (fun i _ => by
      have h1 := h.lt (pw x i)
      have h2 := h.pos (pw_ne_zero hx.ne i)
      show h.code (pw x i) - 1 < q - 1
      omega) (fun i j hi hj e => by
      have h1 := h.pos (pw_ne_zero hx.ne i)
      have h2 := h.pos (pw_ne_zero hx.ne j)
      have h3 : h.code (pw x i) - 1 = h.code (pw x j) - 1 := e
      exact hx.inj hi hj (h.inj _ _ (by omega)))
theorem Num.top_ord (h : Num F q) : ∃ g : F, ∃ N, IsOrd g N ∧ ∀ x : F, ∀ n, IsOrd x n → n ≤ N := by
  apply Classical.byContradiction
  intro hno
  have key : ∀ k, ∃ g : F, ∃ N, IsOrd g N ∧ k ≤ N := fun k => by
    induction k with
    | zero => exact ⟨1, 1, ⟨Nat.le_refl _, one_pw 1, fun k _ => Nat.one_dvd k⟩, by omega⟩
    | succ k ih =>
      obtain ⟨g, N, h1, h2⟩ := ih
      apply Classical.byContradiction
      intro h3
      refine hno ⟨g, N, h1, fun x n hx => ?_⟩
      rcases Nat.lt_or_ge N n with h4 | h4
      · exact absurd ⟨x, n, hx, by omega⟩ h3
      · exact h4
  obtain ⟨g, N, h1, h2⟩ := key q
  have := h.ord_le h1
  have := h.two
  omega
/-- A primitive element. -/
theorem Num.gen (h : Num F q) : ∃ u : F, (∀ i j, i < q - 1 → j < q - 1 → pw u i = pw u j → i = j) ∧ pw u (q - 1) = 1 := by
  obtain ⟨g, N, hg, hmax⟩ := h.top_ord
  have hall : ∀ x : F, x ≠ 0 → pw x N = 1 := fun x hx => by
    obtain ⟨n, n1, n2⟩ := h.pow_one hx
    obtain ⟨b, -, hb⟩ := IsOrd.exists n1 n2
    have hdv : b ∣ N := Classical.byContradiction fun hnd => by
      obtain ⟨y, m, hy, hlt⟩ := ord_raise hg hb hnd
      have := hmax y m hy
      omega
    obtain ⟨t, rfl⟩ := hdv
    rw [pw_mul, hb.2.1, one_pw]
  have hle := h.ord_le hg
  have hN := hg.1
  have hge : q - 1 ≤ N := by
    rcases Nat.lt_or_ge N (q - 1) with hlt | hge
    · exfalso
      have hz := rsum_roots (F := F) (n := N + 1) (f := fun i => if i = N then 1 else if i = 0 then -1 else 0) (a := fun k => h.el (k + 1))
        (fun i j hi hj e => by
          have e2 := congrArg h.code e
          have h1 := h.code_el (i + 1) (by omega)
          have h2 := h.code_el (j + 1) (by omega)
          have e3 : h.code (h.el (i + 1)) = h.code (h.el (j + 1)) := e2
          omega)
        (fun k hk => by
          have hne : h.el (k + 1) ≠ 0 := fun e => by
            have h1 := h.code_el (k + 1) (by omega)
            rw [e, h.zero] at h1; omega
          show rsum (N + 1) (fun i => (if i = N then (1 : F) else if i = 0 then -1 else 0) * pw (h.el (k + 1)) i) = 0
          rw [rsum_succ, if_pos rfl, one_mul, hall _ hne]
          rw [rsum_single (k := 0) (by omega) fun i hi hne => by rw [if_neg (by omega), if_neg hne, zero_mul], if_neg (by omega), if_pos rfl, pw_zero, mul_one, neg_add]) (i := N) (by omega)
      have h1 : (if N = N then (1 : F) else if N = 0 then -1 else 0) = 0 := hz
      rw [if_pos rfl] at h1
      exact one_ne h1
    · exact hge
  obtain rfl : N = q - 1 := by omega
  exact ⟨g, fun i j hi hj e => hg.inj hi hj e, hg.2.1⟩
end num

/-! ### the residues -/
section res
variable {D : Desc}
/-- All elements other than 0 have inverses. -/
def AllInv (D : Desc) : Prop := ∀ u : R D, u ≠ 0 → ∃ v : R D, u * v = 1
open Classical in
theorem gen_of_inv (h : AllInv D) : ∃ u : R D, IsGen u := by
  let i : CField (R D) := {
    inv := fun u => if hu : u ≠ 0 then Classical.choose (h u hu) else 0
    mul_inv' := fun a ha => by
      show a * (if hu : a ≠ 0 then Classical.choose (h a hu) else 0) = 1
      rw [dif_pos ha]; exact Classical.choose_spec (h a ha)
    inv_zero' := dif_neg fun h => h rfl
    one_ne' := one_ne_R }
  exact @Num.gen (R D) i D.q ⟨rcode, rel D, rcode_lt, fun _ _ => rcode_inj, fun _ => rcode_rel, rcode_zero, D.q2⟩
end res
end Cw

/-! Plain algebra: the residues have a primitive element just if the long division finds no divisor of the modulus. No Go here -/
namespace Cw

theorem dIn_congr (p c s : Nat) {low low' : Nat → Nat} (r : Nat → Nat) : ∀ j, (∀ i, i < j → low i = low' i) → dIn p c s low j r = dIn p c s low' j r
  | 0, _ => rfl
  | j + 1, h => by
    show fup _ _ _ = fup _ _ _
    rw [dIn_congr p c s r j (fun i hi => h i (by omega)), h j (by omega)]
theorem dOut_congr (p d m : Nat) {low low' : Nat → Nat} (r : Nat → Nat) (h : ∀ i, i < d → low i = low' i) : ∀ t, dOut p d m low t r = dOut p d m low' t r
  | 0 => rfl
  | t + 1 => by
    show fup (dIn _ _ _ _ _ _) _ _ = fup (dIn _ _ _ _ _ _) _ _
    rw [dOut_congr p d m r h t, dIn_congr p _ _ _ d h]
theorem dvB_congr {p d m : Nat} {low low' mod : Nat → Nat} (h : ∀ i, i < d → low i = low' i) : dvB p d m low mod = dvB p d m low' mod := by
  unfold dvB; rw [dOut_congr p d m _ h]
theorem dIn_out (p c s : Nat) (low r : Nat → Nat) : ∀ j i, s + j ≤ i ∨ i < s → dIn p c s low j r i = r i
  | 0, _, _ => rfl
  | j + 1, i, h => by
    show (if i = s + j then _ else dIn p c s low j r i) = r i
    rw [if_neg (by omega), dIn_out p c s low r j i (by omega)]

section
variable {D : Desc}
theorem pwX {k : Nat} (h : k < D.m) : pw (Xc D) k = basis D k := by
  induction k with
  | zero => rfl
  | succ k ih =>
    rw [pw_succ, ih (by omega), ← T_basis h]
    exact (T_eq _).symm
theorem scX_v (s : Zp D.p) {k i : Nat} (hk : k < D.m) (hi : i < D.m) : (sc s * pw (Xc D) k).v i = if i = k then s else 0 := by
  rw [sc_mul_v _ _ hi, pwX hk, basis_v hi]
  by_cases h : i = k
  · rw [if_pos h, if_pos h, mul_one]
  · rw [if_neg h, if_neg h, mul_zero]
theorem ev_dIn {c s : Nat} (hc : c ≤ D.p) (low r : Nat → Nat) {n : Nat} : ∀ j, s + j ≤ n → ev D (dIn D.p c s low j r) n = ev D r n - sc (zp D.p c) * pw (Xc D) s * ev D low j
  | 0, _ => by
    show ev D r n = ev D r n - _ * rsum 0 _
    rw [rsum_zero, mul_zero, sub_zero]
  | j + 1, h => by
    show ev D (fup (dIn D.p c s low j r) (s + j) ((dIn D.p c s low j r (s + j) + (D.p - c) * low j) % D.p)) n = _
    rw [ev_step _ _ (by omega), ev_dIn hc low r j (by omega), ev_succ, mul_add, zp_mul, sc_mul, zp_neg hc, sc_neg, pw_add]
    rw [sub_d, sub_d, neg_add_d, add_a]
    congr 2
    rw [neg_mul, neg_mul]
    congr 1
    ac_rfl
/-- The long division of the modulus by a monic polynomial of degree d, in the residues. -/
theorem div_ev (d : Nat) (hd1 : 1 ≤ d) (hdm : d ≤ D.m) (low : Nat → Nat) (hmod : ∀ i, D.mod.getD i 0 < D.p) :
    ∀ t, t ≤ D.m + 1 - d → ∃ Q : R D, ev D (mon D.m fun i => D.mod.getD i 0) (D.m + 1) = Q * (ev D low d + pw (Xc D) d) + ev D (dOut D.p d D.m low t (mon D.m fun i => D.mod.getD i 0)) (D.m + 1) ∧
      (∀ i, i < D.m → D.m - d < i → Q.v i = 0) ∧ (1 ≤ t → Q.v (D.m - d) = 1) ∧ (t = 0 → Q = 0) ∧ (∀ i, D.m - t < i → i ≤ D.m → dOut D.p d D.m low t (mon D.m fun i => D.mod.getD i 0) i = 0)
  | 0, _ => ⟨0, by show _ = _ + ev D _ _; rw [zero_mul, zero_add]; rfl, fun i _ _ => rfl, fun h => by omega, fun _ => rfl, fun i h1 h2 => by omega⟩
  | t + 1, ht => by
    obtain ⟨Q, h1, h2, h3, hQ0, h4⟩ := div_ev d hd1 hdm low hmod t (by omega)
    have hlt := dOut_lt (p := D.p) (by have := D.p2; omega) d D.m low (mon_lt (m := D.m) D.p2 hmod) t
    generalize hr : dOut D.p d D.m low t (mon D.m fun i => D.mod.getD i 0) = r at *
    have hc : r (D.m - t) ≤ D.p := Nat.le_of_lt (hlt _)
    have hstep : dOut D.p d D.m low (t + 1) (mon D.m fun i => D.mod.getD i 0) = fup (dIn D.p (r (D.m - t)) (D.m - t - d) low d r) (D.m - t) 0 := by
      rw [← hr]; rfl
    rw [hstep]
    have hout : dIn D.p (r (D.m - t)) (D.m - t - d) low d r (D.m - t) = r (D.m - t) := dIn_out _ _ _ _ _ _ _ (by omega)
    have hsm : D.m - t - d < D.m := by omega
    refine ⟨Q + sc (zp D.p (r (D.m - t))) * pw (Xc D) (D.m - t - d), ?_, fun i hi h => ?_, fun _ => ?_, fun h => by omega, fun i hi1 hi2 => ?_⟩
    · rw [ev_fup _ _ (by omega), hout, ev_dIn hc low r d (by omega), zp_zero, sc_zero, zero_sub, h1]
      generalize sc (zp D.p (r (D.m - t))) = C
      have e : pw (Xc D) (D.m - t) = pw (Xc D) (D.m - t - d) * pw (Xc D) d := by rw [← pw_add]; congr 1; omega
      rw [e]
      generalize pw (Xc D) (D.m - t - d) = S
      generalize pw (Xc D) d = Y
      generalize ev D low d = L
      generalize ev D r (D.m + 1) = E
      rw [add_mul, mul_add (C * S), neg_mul, ← mul_a, sub_d]
      rw [show Q * (L + Y) + (C * S * L + C * S * Y) + (E + -(C * S * L) + -(C * S * Y)) = Q * (L + Y) + E + (C * S * L + -(C * S * L)) + (C * S * Y + -(C * S * Y)) by ac_rfl, add_neg, add_neg, add_zero, add_zero]
    · rw [add_v, h2 i hi h, scX_v _ hsm hi, if_neg (by omega), zero_add]
    · rw [add_v, scX_v _ hsm (by omega)]
      by_cases h0 : t = 0
      · subst h0
        rw [if_pos (by omega), hQ0 rfl, ← hr]
        show 0 + zp D.p (if D.m < D.m then _ else 1) = 1
        rw [if_neg (Nat.lt_irrefl _), zero_add]; rfl
      · rw [h3 (by omega), if_neg (by omega), add_zero]
    · show (if i = D.m - t then 0 else dIn D.p (r (D.m - t)) (D.m - t - d) low d r i) = 0
      by_cases e : i = D.m - t
      · rw [if_pos e]
      · rw [if_neg e, dIn_out _ _ _ _ _ _ _ (by omega)]
        exact h4 i (by omega) hi2

theorem mon_ev : ev D (mon D.m fun i => D.mod.getD i 0) (D.m + 1) = 0 := by
  rw [ev_succ, show mon D.m (fun i => D.mod.getD i 0) D.m = 1 from if_neg (Nat.lt_irrefl _), zp_one, sc_one, one_mul, ev_congr (f := mon D.m fun i => D.mod.getD i 0) (h := fun i => D.mod.getD i 0) (fun i hi => if_pos hi), add_c]
  exact X_root
theorem ev_zero_from {f : Nat → Nat} {k : Nat} : ∀ n, k ≤ n → (∀ i, k ≤ i → i < n → f i = 0) → ev D f n = ev D f k
  | 0, hk, _ => by rw [show k = 0 by omega]
  | n + 1, hk, h => by
    by_cases e : k = n + 1
    · rw [e]
    · rw [ev_succ, h n (by omega) (by omega), zp_zero, sc_zero, zero_mul, add_zero]
      exact ev_zero_from n (by omega) fun i h1 h2 => h i h1 (by omega)
/-- What the whole division gives. -/
theorem div_full (d : Nat) (hd1 : 1 ≤ d) (hdm : d ≤ D.m) (low : Nat → Nat) (hmod : ∀ i, D.mod.getD i 0 < D.p) :
    ∃ Q : R D, ∃ r : Nat → Nat, (∀ i, r i < D.p) ∧ 0 = Q * (ev D low d + pw (Xc D) d) + ev D r d ∧ (∀ i, i < D.m → D.m - d < i → Q.v i = 0) ∧ Q.v (D.m - d) = 1 ∧
      (dvB D.p d D.m low (fun i => D.mod.getD i 0) = true ↔ ∀ k, k < d → r k = 0) := by
  obtain ⟨Q, h1, h2, h3, -, h4⟩ := div_ev d hd1 hdm low hmod (D.m + 1 - d) (Nat.le_refl _)
  have hlt := dOut_lt (p := D.p) (by have := D.p2; omega) d D.m low (mon_lt (m := D.m) D.p2 hmod) (D.m + 1 - d)
  have hdv : dvB D.p d D.m low (fun i => D.mod.getD i 0) = decide (∀ k, k < D.m + 1 → dOut D.p d D.m low (D.m + 1 - d) (mon D.m fun i => D.mod.getD i 0) k = 0) := rfl
  rw [mon_ev] at h1
  generalize dOut D.p d D.m low (D.m + 1 - d) (mon D.m fun i => D.mod.getD i 0) = r at *
  have h5 : ∀ i, d ≤ i → i < D.m + 1 → r i = 0 := fun i a b => h4 i (by omega) (by omega)
  refine ⟨Q, r, hlt, ?_, h2, h3 (by omega), ?_⟩
  · rw [h1, ev_zero_from (D.m + 1) (by omega) h5]
  · rw [hdv, decide_eq_true_iff]
    constructor
    · intro h k hk; exact h k (by omega)
    · intro h k hk
      by_cases e : k < d
      · exact h k e
      · exact h5 k (by omega) hk
theorem ev_v {f : Nat → Nat} {n : Nat} (hn : n ≤ D.m) {i : Nat} (hi : i < D.m) : (ev D f n).v i = if i < n then zp D.p (f i) else 0 := by
  unfold ev
  rw [rsum_v]
  by_cases h : i < n
  · rw [if_pos h, rsum_single (k := i) h fun j hj hne => by rw [scX_v _ (by omega) hi, if_neg (fun e => hne e.symm)], scX_v _ hi hi, if_pos rfl]
  · rw [if_neg h]
    exact rsum_eq_zero fun j hj => by rw [scX_v _ (by omega) hi, if_neg (by omega)]

/-! ### elements other than 0 that divide 0 -/
def ZD (u : R D) : Prop := u ≠ 0 ∧ ∃ v : R D, v ≠ 0 ∧ u * v = 0
/-- The degree. -/
def HasDeg (u : R D) (d : Nat) : Prop := d < D.m ∧ u.v d ≠ 0 ∧ ∀ i, i < D.m → d < i → u.v i = 0
theorem hasDeg (u : R D) (hu : u ≠ 0) : ∃ d, HasDeg u d := by
  apply Classical.byContradiction
  intro hno
  have key : ∀ k, k ≤ D.m → ∀ i, i < D.m → D.m - k ≤ i → u.v i = 0 := fun k => by
    induction k with
    | zero => intro _ i h1 h2; omega
    | succ k ih =>
      intro hk i h1 h2
      by_cases e : i = D.m - (k + 1)
      · apply Classical.byContradiction
        intro hne
        exact hno ⟨i, h1, hne, fun j h3 h4 => ih (by omega) j h3 (by omega)⟩
      · exact ih (by omega) i h1 (by omega)
  exact hu (R.ext' fun i hi => key D.m (Nat.le_refl _) i hi (by omega))
theorem zp_inv (a : Zp D.p) (ha : a ≠ 0) : ∃ b : Zp D.p, a * b = 1 := by
  have hp := D.hp
  have hav : a.val ≠ 0 := fun e => ha (Zp.ext (by rw [e, Zp.zero_val]))
  have hnd : ¬ D.p ∣ a.val := fun h => by have := Nat.le_of_dvd (Nat.pos_of_ne_zero hav) h; have := a.lt; omega
  have hco := hp.coprime hnd
  have hp2 := D.p2
  obtain ⟨i, hi, e⟩ := inj_all (f := fun i => a.val * i % D.p) (q := D.p) (fun i _ => Nat.mod_lt _ (by omega)) (fun i j hi hj e => by
    have key : ∀ i j, i < D.p → j < D.p → i ≤ j → a.val * i % D.p = a.val * j % D.p → i = j := fun i j hi hj hij e => by
      obtain ⟨k, rfl⟩ : ∃ k, j = i + k := ⟨j - i, by omega⟩
      have h1 : D.p ∣ a.val * k := by
        have h2 := Nat.sub_mod_eq_zero_of_mod_eq e.symm
        rw [Nat.mul_add, Nat.add_sub_cancel_left] at h2
        exact Nat.dvd_of_mod_eq_zero h2
      have h3 := hco.symm.dvd_of_dvd_mul_left h1
      rcases Nat.eq_zero_or_pos k with h0 | h0
      · omega
      · have := Nat.le_of_dvd h0 h3; omega
    rcases Nat.le_total i j with h | h
    · exact key i j hi hj h e
    · exact (key j i hj hi h e.symm).symm) (x := 1) (by omega)
  refine ⟨zp D.p i, Zp.ext ?_⟩
  rw [Zp.mul_val, zp_val, Nat.mul_mod_mod]
  have e2 : a.val * i % D.p = 1 := e
  rw [e2]
  show 1 = 1 % D.p
  rw [Nat.mod_eq_of_lt (by omega)]
theorem sc_unit {s : Zp D.p} (h : s ≠ 0) : ∃ b : R D, sc s * b = 1 := by
  obtain ⟨b, hb⟩ := zp_inv s h
  exact ⟨sc b, by rw [← sc_mul, hb, sc_one]⟩
theorem ZD.not_unit {u : R D} (h : ZD u) {b : R D} (hb : u * b = 1) : False := by
  obtain ⟨-, v, hv, e⟩ := h
  apply hv
  rw [← one_mul v, ← hb, mul_c u b, mul_a, e, mul_zero]
theorem ZD.mul_unit {u a b : R D} (h : ZD u) (hb : a * b = 1) : ZD (a * u) := by
  obtain ⟨hu, v, hv, e⟩ := h
  refine ⟨fun h0 => hu ?_, v, hv, by rw [mul_a, e, mul_zero]⟩
  rw [← one_mul u, ← hb, mul_c a b, mul_a, h0, mul_zero]
/-- Without such elements there are all inverses. -/
theorem inv_of_noZD (h : ∀ u : R D, ¬ ZD u) : AllInv D := fun u hu => by
  obtain ⟨i, hi, e⟩ := inj_all (f := fun i => rcode (u * rel D i)) (q := D.q) (fun i _ => rcode_lt _) (fun i j hi hj e => by
    have e1 : u * rel D i = u * rel D j := rcode_inj e
    have e2 : u * (rel D i - rel D j) = 0 := by rw [mul_sub, e1, sub_self]
    apply Classical.byContradiction
    intro hne
    refine h u ⟨hu, _, fun h0 => hne ?_, e2⟩
    rw [← rcode_rel hi, ← rcode_rel hj, sub_eq_zero h0]) (x := rcode (1 : R D)) (rcode_lt _)
  exact ⟨_, rcode_inj e⟩

theorem nval_dg {f : Nat → Nat} {d : Nat} (hf : ∀ i, i < d → f i < D.p) : nval D.p f d < D.p ^ d ∧ ∀ i, i < d → nval D.p f d / D.p ^ i % D.p = f i :=
  ⟨nval_lt hf, fun i hi => nval_digit (by have := D.p2; omega) hf hi⟩

/-- No divisors: all inverses. -/
theorem allInv_of_irr (hmod : ∀ i, D.mod.getD i 0 < D.p) (h : D.m = 1 ∨ ∀ d, 1 ≤ d → 2 * d ≤ D.m → ∀ v, v < D.p ^ d → dvB D.p d D.m (fun i => v / D.p ^ i % D.p) (fun i => D.mod.getD i 0) = false) : AllInv D := by
  refine inv_of_noZD fun u0 hu0 => ?_
  -- one of the least degree
  have key : ∀ d, ∀ u : R D, ZD u → HasDeg u d → False := fun d => by
    induction d using Nat.strongRecOn with
    | ind d ih =>
      intro u hu hdeg
      obtain ⟨b, hb⟩ := zp_inv _ hdeg.2.1
      have hbne : b ≠ 0 := fun e => by
        rw [e, mul_zero] at hb
        have h1 := congrArg Zp.val hb
        rw [Zp.zero_val] at h1
        have h2 : (1 : Zp D.p).val = 1 % D.p := rfl
        rw [h2, Nat.mod_eq_of_lt (by have := D.p2; omega)] at h1
        cases h1
      obtain ⟨b', hb'⟩ := sc_unit (D := D) hbne
      have hw := hu.mul_unit hb'
      obtain ⟨w, hwe⟩ : ∃ w, w = sc b * u := ⟨_, rfl⟩
      rw [← hwe] at hw
      have hw1 : w.v d = 1 := by rw [hwe, sc_mul_v _ _ hdeg.1, mul_c, hb]
      have hw0 : ∀ i, i < D.m → d < i → w.v i = 0 := fun i h1 h2 => by rw [hwe, sc_mul_v _ _ h1, hdeg.2.2 i h1 h2, mul_zero]
      have hdm := hdeg.1
      rcases Nat.eq_zero_or_pos d with h0 | h0
      · subst h0
        have : w = 1 := R.ext' fun i hi => by
          rw [one_v hi]
          by_cases e : i = 0
          · rw [e, if_pos rfl, hw1]
          · rw [if_neg e, hw0 i hi (by omega)]
        exact hw.not_unit (b := 1) (by rw [this, mul_one])
      · have hwev : ev D (di w) d + pw (Xc D) d = w := R.ext' fun i hi => by
          rw [add_v, ev_v (by omega) hi, pwX hdm, basis_v hi]
          by_cases e1 : i < d
          · rw [if_pos e1, if_neg (by omega), add_zero, zp_di]
          · by_cases e2 : i = d
            · rw [if_neg e1, if_pos e2, zero_add, e2, hw1]
            · rw [if_neg e1, if_neg e2, zero_add, hw0 i hi (by omega)]
        obtain ⟨Q, r, hr, hz, hQ0, hQ1, hdv⟩ := div_full d h0 (by omega) (di w) hmod
        rw [hwev] at hz
        obtain ⟨hw2, v, hv, hwv⟩ := hw
        have hr0 : ev D r d = 0 := by
          apply Classical.byContradiction
          intro hne
          obtain ⟨d', hd'⟩ := hasDeg _ hne
          have hlt : d' < d := by
            rcases Nat.lt_or_ge d' d with h1 | h1
            · exact h1
            · exact absurd (by rw [ev_v (by omega) hd'.1, if_neg (by omega)]) hd'.2.1
          refine ih d' hlt (ev D r d) ⟨hne, v, hv, ?_⟩ hd'
          have e : ev D r d = -(Q * w) := neg_unique hz.symm
          rw [e, neg_mul, mul_a, hwv, mul_zero, neg_zero]
        have hrk : ∀ k, k < d → r k = 0 := fun k hk => by
          have h1 : (ev D r d).v k = 0 := by rw [hr0]; rfl
          rw [ev_v (by omega) (by omega), if_pos hk] at h1
          have h2 := congrArg Zp.val h1
          rw [zp_val, Zp.zero_val, Nat.mod_eq_of_lt (hr k)] at h2
          exact h2
        have hdt := hdv.2 hrk
        rcases h with hm | hirr
        · omega
        · by_cases h2d : 2 * d ≤ D.m
          · obtain ⟨n1, n2⟩ := nval_dg (D := D) (f := di w) (d := d) (fun i _ => di_lt w i)
            have h3 := hirr d h0 h2d _ n1
            rw [dvB_congr (low' := di w) n2, hdt] at h3
            cases h3
          · have hQw : Q * w = 0 := by rw [hr0, add_zero] at hz; exact hz.symm
            refine ih (D.m - d) (by omega) Q ⟨fun e => ?_, w, hw2, hQw⟩ ⟨by omega, ?_, hQ0⟩
            · rw [e] at hQ1
              have h1 := congrArg Zp.val hQ1
              rw [show (0 : R D).v (D.m - d) = 0 from rfl, Zp.zero_val] at h1
              have h2 : (1 : Zp D.p).val = 1 % D.p := rfl
              rw [h2, Nat.mod_eq_of_lt (by have := D.p2; omega)] at h1
              cases h1
            · rw [hQ1]
              intro e
              have h1 := congrArg Zp.val e
              have h2 : (1 : Zp D.p).val = 1 % D.p := rfl
              rw [h2, Zp.zero_val, Nat.mod_eq_of_lt (by have := D.p2; omega)] at h1
              cases h1
  obtain ⟨d, hd⟩ := hasDeg u0 hu0.1
  exact key d u0 hu0 hd
/-- No divisors: a primitive element. -/
theorem gen_of_irr (hmod : ∀ i, D.mod.getD i 0 < D.p) (h : D.m = 1 ∨ ∀ d, 1 ≤ d → 2 * d ≤ D.m → ∀ v, v < D.p ^ d → dvB D.p d D.m (fun i => v / D.p ^ i % D.p) (fun i => D.mod.getD i 0) = false) : ∃ u : R D, IsGen u :=
  gen_of_inv (allInv_of_irr hmod h)
/-- A primitive element: no divisors. -/
theorem irr_of_gen (hmod : ∀ i, D.mod.getD i 0 < D.p) {u : R D} (h : IsGen u) {d v : Nat} (h1 : 1 ≤ d) (h2 : 2 * d ≤ D.m) : dvB D.p d D.m (fun i => v / D.p ^ i % D.p) (fun i => D.mod.getD i 0) = false := by
  apply Classical.byContradiction
  intro hne
  rw [Bool.not_eq_false] at hne
  obtain ⟨Q, r, -, hz, -, hQ1, hdv⟩ := div_full d h1 (by omega) (fun i => v / D.p ^ i % D.p) hmod
  have hr := hdv.1 hne
  have hr0 : ev D r d = 0 := by
    rw [ev_congr (h := fun _ => 0) hr, ev_zero]
  rw [hr0, add_zero] at hz
  have one : ¬ (1 : Zp D.p) = 0 := fun e => by
    have h1 := congrArg Zp.val e
    have h2 : (1 : Zp D.p).val = 1 % D.p := rfl
    rw [h2, Zp.zero_val, Nat.mod_eq_of_lt (by have := D.p2; omega)] at h1
    cases h1
  rcases mul_eq_zero (F := R (mkFD D u h).toDesc) hz.symm with e | e
  · rw [e] at hQ1
    exact one hQ1.symm
  · have e2 : (ev D (fun i => v / D.p ^ i % D.p) d + pw (Xc D) d).v d = 0 := by rw [e]; rfl
    rw [add_v, ev_v (by omega) (by omega), if_neg (Nat.lt_irrefl _), pwX (by omega), basis_v (by omega), if_pos rfl, zero_add] at e2
    exact one e2
end
end Cw

/-! Plain algebra: products of linear factors, Lagrange's identity. No Go here -/
namespace Cw
section lag
variable {F : Type} [CField F]
open CField (inv)

/-- The coefficients of (X - a) times a polynomial. -/
def xm (a : F) (f : Nat → F) : Nat → F := fun t => (if t = 0 then 0 else f (t - 1)) - a * f t
theorem xm_sum (a x : F) (f : Nat → F) (N : Nat) (h : f N = 0) : rsum (N + 1) (fun t => xm a f t * pw x t) = (x - a) * rsum N (fun t => f t * pw x t) := by
  have e1 : rsum (N + 1) (fun t => xm a f t * pw x t) = rsum (N + 1) (fun t => (if t = 0 then 0 else f (t - 1)) * pw x t) - rsum (N + 1) (fun t => a * (f t * pw x t)) := by
    rw [← rsum_sub]
    exact rsum_congr fun t _ => by unfold xm; rw [sub_mul, mul_a]
  rw [e1, rsum_mul_left, rsum_succ_left, if_pos rfl, zero_mul, zero_add, rsum_succ, h, zero_mul, add_zero, sub_mul]
  congr 1
  rw [← rsum_mul_left]
  refine rsum_congr fun t _ => ?_
  show (if t + 1 = 0 then 0 else f (t + 1 - 1)) * pw x (t + 1) = x * (f t * pw x t)
  rw [if_neg (by omega), show t + 1 - 1 = t by omega, pw_succ]; ac_rfl
/-- The coefficients of the product of X - a j over j below k other than i. -/
def lcf (a : Nat → F) (i : Nat) : Nat → Nat → F
  | 0 => fun t => if t = 0 then 1 else 0
  | k + 1 => if k = i then lcf a i k else xm (a k) (lcf a i k)
def ldeg (i k : Nat) : Nat := if i < k then k - 1 else k
/-- Its value at x. -/
def lval (a : Nat → F) (i : Nat) (x : F) : Nat → F
  | 0 => 1
  | k + 1 => if k = i then lval a i x k else lval a i x k * (x - a k)
theorem lcf_self (a : Nat → F) (i : Nat) : lcf a i (i + 1) = lcf a i i := if_pos rfl
theorem lcf_other (a : Nat → F) {i k : Nat} (h : k ≠ i) : lcf a i (k + 1) = xm (a k) (lcf a i k) := if_neg h
theorem lval_self (a : Nat → F) (i : Nat) (x : F) : lval a i x (i + 1) = lval a i x i := if_pos rfl
theorem lval_other (a : Nat → F) {i k : Nat} (x : F) (h : k ≠ i) : lval a i x (k + 1) = lval a i x k * (x - a k) := if_neg h
theorem ldeg_self (i : Nat) : ldeg i (i + 1) = ldeg i i := by unfold ldeg; rw [if_pos (by omega), if_neg (by omega)]; omega
theorem ldeg_other {i k : Nat} (h : k ≠ i) : ldeg i (k + 1) = ldeg i k + 1 := by
  unfold ldeg
  by_cases h2 : i < k
  · rw [if_pos (by omega), if_pos h2]; omega
  · rw [if_neg (by omega), if_neg h2]
theorem lcf_high (a : Nat → F) (i : Nat) : ∀ k t, ldeg i k < t → lcf a i k t = 0
  | 0, t, h => by
    unfold ldeg at h
    rw [if_neg (by omega)] at h
    exact if_neg (by omega)
  | k + 1, t, h => by
    by_cases e : k = i
    · subst e; rw [lcf_self]; rw [ldeg_self] at h; exact lcf_high a k k t h
    · rw [lcf_other a e]; rw [ldeg_other e] at h
      unfold xm
      rw [if_neg (by omega), lcf_high a i k (t - 1) (by omega), lcf_high a i k t (by omega), mul_zero, sub_zero]
theorem lcf_top (a : Nat → F) (i : Nat) : ∀ k, lcf a i k (ldeg i k) = 1
  | 0 => by
    unfold ldeg; rw [if_neg (by omega)]
    show (if (0 : Nat) = 0 then (1 : F) else 0) = 1
    rw [if_pos rfl]
  | k + 1 => by
    by_cases e : k = i
    · subst e; rw [lcf_self, ldeg_self]; exact lcf_top a k k
    · rw [lcf_other a e, ldeg_other e]
      unfold xm
      rw [if_neg (by omega), show ldeg i k + 1 - 1 = ldeg i k by omega, lcf_top a i k, lcf_high a i k _ (by omega), mul_zero, sub_zero]
theorem lcf_sum (a : Nat → F) (i : Nat) (x : F) : ∀ k N, ldeg i k < N → rsum N (fun t => lcf a i k t * pw x t) = lval a i x k
  | 0, N, h => by
    rw [rsum_single (k := 0) (by omega) (fun t _ ht => by rw [show lcf a i 0 t = 0 from if_neg ht, zero_mul])]
    show (if (0 : Nat) = 0 then (1 : F) else 0) * pw x 0 = 1
    rw [if_pos rfl, pw_zero, mul_one]
  | k + 1, N, h => by
    by_cases e : k = i
    · subst e; rw [lcf_self, lval_self]; rw [ldeg_self] at h; exact lcf_sum a k x k N h
    · rw [lcf_other a e, lval_other a x e]; rw [ldeg_other e] at h
      obtain ⟨N', rfl⟩ : ∃ N', N = N' + 1 := ⟨N - 1, by omega⟩
      rw [xm_sum _ _ _ _ (lcf_high a i k N' (by omega)), lcf_sum a i x k N' (by omega), mul_c]
theorem lval_zero (a : Nat → F) {i j : Nat} (hij : j ≠ i) : ∀ k, j < k → lval a i (a j) k = 0
  | 0, h => absurd h (by omega)
  | k + 1, h => by
    by_cases e : k = i
    · subst e; rw [lval_self]; exact lval_zero a hij k (by omega)
    · rw [lval_other a _ e]
      by_cases e2 : j = k
      · subst e2; rw [sub_self, mul_zero]
      · rw [lval_zero a hij k (by omega), zero_mul]
theorem lval_ne (a : Nat → F) {n i : Nat} (hinj : ∀ i j, i < n → j < n → a i = a j → i = j) (hi : i < n) : ∀ k, k ≤ n → lval a i (a i) k ≠ 0
  | 0, _ => one_ne
  | k + 1, hk => by
    by_cases e : k = i
    · subst e; rw [lval_self]; exact lval_ne a hinj hi k (by omega)
    · rw [lval_other a _ e]
      exact mul_ne_zero (lval_ne a hinj hi k (by omega)) fun h => e (hinj i k hi (by omega) (sub_eq_zero h)).symm
/-- Lagrange: the polynomial through n values has the sum of them, over the products, as its highest coefficient. -/
theorem lag_top {n : Nat} (hn : 1 ≤ n) (a : Nat → F) (hinj : ∀ i j, i < n → j < n → a i = a j → i = j) (h : Nat → F) :
    rsum n (fun i => rsum n (fun t => h t * pw (a i) t) * inv (lval a i (a i) n)) = h (n - 1) := by
  have key : ∀ t, t < n → rsum n (fun i => rsum n (fun s => h s * pw (a i) s) * inv (lval a i (a i) n) * lcf a i n t) - h t = 0 := by
    intro t ht
    refine rsum_roots (f := fun t => rsum n (fun i => rsum n (fun s => h s * pw (a i) s) * inv (lval a i (a i) n) * lcf a i n t) - h t) hinj (fun k hk => ?_) ht
    have e1 : ∀ t, (rsum n (fun i => rsum n (fun s => h s * pw (a i) s) * inv (lval a i (a i) n) * lcf a i n t) - h t) * pw (a k) t =
        rsum n (fun i => rsum n (fun s => h s * pw (a i) s) * inv (lval a i (a i) n) * (lcf a i n t * pw (a k) t)) - h t * pw (a k) t := fun t => by
      rw [sub_mul, ← rsum_mul_right]
      congr 1
      exact rsum_congr fun i _ => by rw [mul_a]
    simp only [e1]
    rw [rsum_sub, rsum_swap]
    have e2 : ∀ i, i < n → rsum n (fun t => rsum n (fun s => h s * pw (a i) s) * inv (lval a i (a i) n) * (lcf a i n t * pw (a k) t)) = rsum n (fun s => h s * pw (a i) s) * inv (lval a i (a i) n) * lval a i (a k) n := fun i hi => by
      rw [rsum_mul_left, lcf_sum a i (a k) n n (by unfold ldeg; rw [if_pos hi]; omega)]
    rw [rsum_congr e2, rsum_single hk (fun i hi hik => by rw [lval_zero a (fun e => hik e.symm) n hk, mul_zero]), mul_a, inv_mul (lval_ne a hinj hk n (Nat.le_refl _)), mul_one, sub_self]
  have h1 := sub_eq_zero (key (n - 1) (by omega))
  rw [← h1]
  exact rsum_congr fun i hi => by
    rw [show n - 1 = ldeg i n by unfold ldeg; rw [if_pos hi], lcf_top, mul_one]
theorem lag_pow {n k : Nat} (hk : k + 1 < n) (a : Nat → F) (hinj : ∀ i j, i < n → j < n → a i = a j → i = j) : rsum n (fun i => pw (a i) k * inv (lval a i (a i) n)) = 0 := by
  have h := lag_top (by omega) a hinj (fun t => if t = k then 1 else 0)
  rw [if_neg (by omega)] at h
  rw [← h]
  exact rsum_congr fun i _ => by
    rw [rsum_single (k := k) (by omega) (fun t _ ht => by rw [if_neg ht, zero_mul]), if_pos rfl, one_mul]
/-- Two polynomials of degrees that sum up to less than n - 1. -/
theorem lag_two {n K L : Nat} (hn : K + L ≤ n) (a f g : Nat → F) (hinj : ∀ i j, i < n → j < n → a i = a j → i = j) :
    rsum n (fun i => rsum K (fun s => f s * pw (a i) s) * rsum L (fun t => g t * pw (a i) t) * inv (lval a i (a i) n)) = 0 := by
  have e1 : ∀ i, i < n → rsum K (fun s => f s * pw (a i) s) * rsum L (fun t => g t * pw (a i) t) * inv (lval a i (a i) n) = rsum K (fun s => rsum L (fun t => f s * g t * (pw (a i) (s + t) * inv (lval a i (a i) n)))) := fun i _ => by
    rw [← rsum_mul_right, ← rsum_mul_right]
    refine rsum_congr fun s _ => ?_
    rw [mul_a, mul_c (rsum L _), ← mul_a, ← rsum_mul_left]
    exact rsum_congr fun t _ => by rw [pw_add]; ac_rfl
  rw [rsum_congr e1, rsum_swap]
  refine rsum_eq_zero fun s hs => ?_
  rw [rsum_swap]
  refine rsum_eq_zero fun t ht => ?_
  rw [rsum_mul_left, lag_pow (by omega) a hinj, mul_zero]
end lag
end Cw

/-! Plain: canonical lists of coefficients. No Go here -/
namespace Cw
/-- One more than the greatest index below n at which f is not 0; 0 if there is none. -/
def cdeg (f : Nat → Int) : Nat → Nat
  | 0 => 0
  | n + 1 => if f n = 0 then cdeg f n else n + 1
theorem cdeg_le (f : Nat → Int) : ∀ n, cdeg f n ≤ n
  | 0 => Nat.le_refl _
  | n + 1 => by
    show (if f n = 0 then cdeg f n else n + 1) ≤ n + 1
    have := cdeg_le f n
    split <;> omega
theorem cdeg_zero (f : Nat → Int) {i : Nat} : ∀ n, cdeg f n ≤ i → i < n → f i = 0
  | 0, _, h => absurd h (by omega)
  | n + 1, h, hi => by
    by_cases e : f n = 0
    · rw [show cdeg f (n + 1) = cdeg f n from if_pos e] at h
      by_cases e2 : i = n
      · rw [e2]; exact e
      · exact cdeg_zero f n h (by omega)
    · rw [show cdeg f (n + 1) = n + 1 from if_neg e] at h; omega
theorem cdeg_yes {f : Nat → Int} {n : Nat} (h : f n = 0) : cdeg f (n + 1) = cdeg f n := if_pos h
theorem cdeg_no {f : Nat → Int} {n : Nat} (h : f n ≠ 0) : cdeg f (n + 1) = n + 1 := if_neg h
theorem cdeg_more {f : Nat → Int} {n : Nat} : ∀ m, n ≤ m → (∀ i, n ≤ i → i < m → f i = 0) → cdeg f m = cdeg f n
  | 0, h, _ => by rw [show n = 0 by omega]
  | m + 1, h, hz => by
    by_cases e : n = m + 1
    · rw [e]
    · rw [cdeg_yes (hz m (by omega) (by omega))]
      exact cdeg_more m (by omega) fun i h1 h2 => hz i h1 (by omega)
theorem cdeg_congr {f g : Nat → Int} : ∀ n, (∀ i, i < n → f i = g i) → cdeg f n = cdeg g n
  | 0, _ => rfl
  | n + 1, h => by
    show (if f n = 0 then cdeg f n else n + 1) = if g n = 0 then cdeg g n else n + 1
    rw [h n (by omega), cdeg_congr n fun i hi => h i (by omega)]
/-- The canonical list of the coefficients f below n. -/
def canL (f : Nat → Int) (n : Nat) : List Int := lst (cdeg f n) f
theorem canL_length (f : Nat → Int) (n : Nat) : (canL f n).length = cdeg f n := lst_length _ _
theorem canL_get (f : Nat → Int) {n i : Nat} (h : i < n) : (canL f n)[i]?.getD 0 = f i := by
  by_cases e : i < cdeg f n
  · exact lst_get f e
  · rw [cdeg_zero f n (by omega) h, List.getElem?_eq_none (by rw [canL_length]; omega)]; rfl
theorem canL_out (f : Nat → Int) {n i : Nat} (h : n ≤ i) : (canL f n)[i]?.getD 0 = 0 := by
  rw [List.getElem?_eq_none (by rw [canL_length]; have := cdeg_le f n; omega)]; rfl
theorem canL_more {f : Nat → Int} {n m : Nat} (h : n ≤ m) (hz : ∀ i, n ≤ i → i < m → f i = 0) : canL f m = canL f n := by
  unfold canL; rw [cdeg_more m h hz]
theorem canL_congr {f g : Nat → Int} {n : Nat} (h : ∀ i, i < n → f i = g i) : canL f n = canL g n := by
  unfold canL
  rw [cdeg_congr n h]
  exact lst_congr fun i hi => h i (by have := cdeg_le g n; omega)
theorem canL_full {f : Nat → Int} {n : Nat} (h : f n ≠ 0) : canL f (n + 1) = lst (n + 1) f := by
  unfold canL; rw [cdeg_no h]
section
variable {R : Type} [CRing R]
/-- The coefficients of a product. -/
def conv (f g : Nat → R) : Nat → R := fun t => rsum (t + 1) fun s => f s * g (t - s)
/-- The sum of the products of the coefficients below i of f, and of those below j with the coefficient i. -/
def convP (f g : Nat → R) (i j : Nat) : Nat → R := fun t => rsum i (fun s => if s ≤ t then f s * g (t - s) else 0) + if i ≤ t ∧ t < i + j then f i * g (t - i) else 0
theorem convP_zero (f g : Nat → R) (t : Nat) : convP f g 0 0 t = 0 := by
  unfold convP
  rw [if_neg (by omega), rsum_zero, add_zero]
theorem convP_step (f g : Nat → R) (i j : Nat) : convP f g i (j + 1) (i + j) = convP f g i j (i + j) + f i * g j := by
  unfold convP
  rw [if_pos (by omega), if_neg (by omega), add_zero, Nat.add_sub_cancel_left]
theorem convP_other (f g : Nat → R) {i j t : Nat} (h : t ≠ i + j) : convP f g i (j + 1) t = convP f g i j t := by
  unfold convP
  congr 1
  by_cases e : i ≤ t ∧ t < i + j
  · rw [if_pos e, if_pos (by omega)]
  · rw [if_neg e, if_neg (by omega)]
theorem convP_row (f g : Nat → R) {i N : Nat} (hg : ∀ t, N ≤ t → g t = 0) (t : Nat) : convP f g i N t = convP f g (i + 1) 0 t := by
  unfold convP
  rw [rsum_succ, if_neg (show ¬ (i + 1 ≤ t ∧ t < i + 1 + 0) by omega), add_zero]
  congr 1
  by_cases e : i ≤ t
  · rw [if_pos e]
    by_cases e2 : t < i + N
    · rw [if_pos ⟨e, e2⟩]
    · rw [if_neg (by omega), hg _ (by omega), mul_zero]
  · rw [if_neg e, if_neg (by omega)]
theorem convP_full (f g : Nat → R) {M : Nat} (hf : ∀ t, M ≤ t → f t = 0) (t : Nat) : convP f g M 0 t = conv f g t := by
  unfold convP conv
  rw [if_neg (by omega), add_zero]
  rcases Nat.lt_or_ge t M with h | h
  · obtain ⟨d, rfl⟩ : ∃ d, M = (t + 1) + d := ⟨M - (t + 1), by omega⟩
    rw [rsum_split, rsum_eq_zero (n := d) (fun s _ => if_neg (by omega)), add_zero]
    exact rsum_congr fun s hs => if_pos (by omega)
  · obtain ⟨d, hd⟩ : ∃ d, t + 1 = M + d := ⟨t + 1 - M, by omega⟩
    rw [hd, rsum_split, rsum_eq_zero (n := d) (fun s _ => by rw [hf _ (by omega), zero_mul]), add_zero]
    exact rsum_congr fun s hs => if_pos (by omega)
theorem conv_high {f g : Nat → R} {M N : Nat} (hf : ∀ t, M ≤ t → f t = 0) (hg : ∀ t, N ≤ t → g t = 0) {t : Nat} (h : M + N ≤ t + 1) : conv f g t = 0 :=
  rsum_eq_zero fun s _ => by
    by_cases e : M ≤ s
    · rw [hf s e, zero_mul]
    · rw [hg (t - s) (by omega), mul_zero]
end
section
variable {F : Type} [CField F]
/-- A product with X - a. -/
theorem conv_xm (f g : Nat → F) (a : F) (h0 : g 0 = -a) (h1 : g 1 = 1) (h2 : ∀ s, 2 ≤ s → g s = 0) (t : Nat) : conv f g t = xm a f t := by
  unfold conv xm
  rcases Nat.eq_zero_or_pos t with h | h
  · subst h
    rw [rsum_succ, rsum_zero, Nat.sub_zero, if_pos rfl, h0, mul_neg, mul_c, zero_sub, zero_add]
  · obtain ⟨k, rfl⟩ : ∃ k, t = k + 1 := ⟨t - 1, by omega⟩
    rw [rsum_succ, rsum_succ, rsum_eq_zero (n := k) (fun s hs => by rw [h2 _ (by omega), mul_zero]), zero_add, Nat.sub_self, h0, show k + 1 - k = 1 by omega, h1, if_neg (by omega), mul_one, mul_neg, mul_c (f (k + 1)), sub_d]
    rfl
end
end Cw
