/- Plain algebra: finite fields whose elements are numbered; the Frobenius map, degrees, subfields. No Go here. -/
import Derived.Test.YtnbkmkeiophjoaaAlg
namespace Cw

class CField (F : Type) extends CRing F where
  inv : F → F
  mul_inv' : ∀ a : F, a ≠ 0 → a * inv a = 1
  inv_zero' : inv 0 = 0
  one_ne' : (1 : F) ≠ 0

section cfield
variable {F : Type} [CField F]
open CField (inv)
theorem one_ne : (1 : F) ≠ 0 := CField.one_ne'
theorem mul_inv {a : F} (h : a ≠ 0) : a * inv a = 1 := CField.mul_inv' a h
theorem inv_mul {a : F} (h : a ≠ 0) : inv a * a = 1 := by rw [mul_c]; exact mul_inv h
theorem inv_zero : inv (0 : F) = 0 := CField.inv_zero'
theorem mul_left_cancel {a b c : F} (h : a ≠ 0) (e : a * b = a * c) : b = c := by
  have : inv a * (a * b) = inv a * (a * c) := by rw [e]
  rwa [← mul_a, ← mul_a, inv_mul h, one_mul, one_mul] at this
theorem mul_eq_zero {a b : F} (h : a * b = 0) : a = 0 ∨ b = 0 := by
  by_cases ha : a = 0
  · exact .inl ha
  · exact .inr (mul_left_cancel ha (by rw [h, mul_zero]))
theorem mul_ne_zero {a b : F} (ha : a ≠ 0) (hb : b ≠ 0) : a * b ≠ 0 := fun h => (mul_eq_zero h).elim ha hb
theorem inv_ne_zero {a : F} (h : a ≠ 0) : inv a ≠ 0 := fun e => by
  have := mul_inv h; rw [e, mul_zero] at this; exact one_ne this.symm
theorem inv_unique {a b : F} (h : a * b = 1) : b = inv a := by
  have ha : a ≠ 0 := fun e => by rw [e, zero_mul] at h; exact one_ne h.symm
  exact mul_left_cancel ha (by rw [h, mul_inv ha])
theorem inv_inv (a : F) : inv (inv a) = a := by
  by_cases h : a = 0
  · rw [h, inv_zero, inv_zero]
  · exact (inv_unique (inv_mul h)).symm
theorem inv_mul_d (a b : F) : inv (a * b) = inv a * inv b := by
  by_cases ha : a = 0
  · rw [ha, zero_mul, inv_zero, zero_mul]
  by_cases hb : b = 0
  · rw [hb, mul_zero, inv_zero, mul_zero]
  refine (inv_unique ?_).symm
  rw [show a * b * (inv a * inv b) = (a * inv a) * (b * inv b) by ac_rfl, mul_inv ha, mul_inv hb, mul_one]
theorem inv_one : inv (1 : F) = 1 := (inv_unique (mul_one 1)).symm
theorem pw_ne_zero {a : F} (h : a ≠ 0) (n : Nat) : pw a n ≠ 0 := by
  induction n with
  | zero => exact one_ne
  | succ n ih => exact mul_ne_zero ih h
theorem pw_eq_zero {a : F} {n : Nat} (h : pw a n = 0) : a = 0 := Classical.byContradiction fun e => pw_ne_zero e n h
theorem rprod_ne_zero {n : Nat} {f : Nat → F} (h : ∀ i, i < n → f i ≠ 0) : rprod n f ≠ 0 := by
  induction n with
  | zero => exact one_ne
  | succ n ih => exact mul_ne_zero (ih fun i hi => h i (by omega)) (h n (by omega))
end cfield

/-- A finite field: its elements are numbered by `code` and `el`; `gen` is a primitive element. -/
class FF (F : Type) extends CField F where
  p : Nat
  M : Nat
  q : Nat
  prime_p : Prime p
  M_pos : 1 ≤ M
  q_eq : q = p ^ M
  char_p : nsm p (1 : F) = 0
  code : F → Nat
  el : Nat → F
  code_lt : ∀ x, code x < q
  el_code : ∀ x, el (code x) = x
  code_el : ∀ n, n < q → code (el n) = n
  code_zero : code 0 = 0
  code_one : code 1 = 1
  gen : F
  gen_all : ∀ x : F, x ≠ 0 → ∃ i, i < q - 1 ∧ x = pw gen i
  gen_inj : ∀ i j, i < q - 1 → j < q - 1 → pw gen i = pw gen j → i = j
  gen_one : pw gen (q - 1) = 1

section ff
variable {F : Type} [FF F]
open FF
open CField (inv)

theorem code_inj {x y : F} (h : code x = code y) : x = y := by rw [← el_code x, ← el_code y, h]
instance : DecidableEq F := fun x y => if h : code x = code y then .isTrue (code_inj h) else .isFalse fun e => h (by rw [e])
theorem el_zero : (el 0 : F) = 0 := by rw [← code_zero (F := F), el_code]
theorem el_one : (el 1 : F) = 1 := by rw [← code_one (F := F), el_code]
theorem code_eq_zero {x : F} : code x = 0 ↔ x = 0 := ⟨fun h => code_inj (by rw [h, code_zero]), fun h => by rw [h, code_zero]⟩
theorem code_eq_one {x : F} : code x = 1 ↔ x = 1 := ⟨fun h => code_inj (by rw [h, code_one]), fun h => by rw [h, code_one]⟩
theorem p_two : 2 ≤ p F := (prime_p (F := F)).1
theorem q_pos : 1 ≤ q F := by rw [q_eq]; exact Nat.pow_pos (by have := p_two (F := F); omega)
theorem q_two : 2 ≤ q F := by
  have h := Nat.pow_le_pow_right (n := p F) (by have := p_two (F := F); omega) (M_pos (F := F))
  rw [← q_eq, Nat.pow_one] at h; have := p_two (F := F); omega
theorem gen_ne : (gen : F) ≠ 0 := fun h => by
  have h1 := gen_one (F := F)
  have h2 := q_two (F := F)
  rw [h, zero_pw (by omega)] at h1
  exact one_ne h1.symm
theorem pw_gen_mod (i : Nat) : pw (gen : F) (i % (q F - 1)) = pw gen i := by
  conv => rhs; rw [← Nat.mod_add_div i (q F - 1)]
  rw [pw_add, pw_mul, gen_one, one_pw, mul_one]
theorem pw_gen_eq_one (i : Nat) : pw (gen : F) i = 1 ↔ (q F - 1) ∣ i := by
  have h2 := q_two (F := F)
  constructor
  · intro h
    rw [← pw_gen_mod, ← pw_zero gen] at h
    exact Nat.dvd_of_mod_eq_zero (gen_inj _ _ (Nat.mod_lt _ (by omega)) (by omega) h)
  · rintro ⟨k, rfl⟩
    rw [pw_mul, gen_one, one_pw]
theorem pw_q1 {x : F} (h : x ≠ 0) : pw x (q F - 1) = 1 := by
  obtain ⟨i, _, rfl⟩ := gen_all x h
  rw [← pw_mul, Nat.mul_comm, pw_mul, gen_one, one_pw]
theorem pw_q (x : F) : pw x (q F) = x := by
  have h2 := q_two (F := F)
  by_cases h : x = 0
  · rw [h, zero_pw (by omega)]
  · rw [show q F = (q F - 1) + 1 by omega, pw_succ, pw_q1 h, one_mul]
/-- Exponents count modulo q-1. -/
theorem pw_mod {x : F} (h : x ≠ 0) (i : Nat) : pw x (i % (q F - 1)) = pw x i := by
  conv => rhs; rw [← Nat.mod_add_div i (q F - 1)]
  rw [pw_add, pw_mul, pw_q1 h, one_pw, mul_one]
theorem inv_pw (x : F) : inv x = pw x (q F - 2) ∨ x = 0 := by
  have h2 := q_two (F := F)
  by_cases h : x = 0
  · exact .inr h
  · refine .inl (inv_unique ?_).symm
    rw [← pw_succ', show q F - 2 + 1 = q F - 1 by omega, pw_q1 h]

/-! ### the Frobenius map -/
def frob (k : Nat) (x : F) : F := pw x (p F ^ k)
theorem frob_zero_k (x : F) : frob 0 x = x := by unfold frob; rw [Nat.pow_zero, pw_one]
theorem frob_one_k (x : F) : frob 1 x = pw x (p F) := by unfold frob; rw [Nat.pow_one]
theorem frob_frob (j k : Nat) (x : F) : frob j (frob k x) = frob (j + k) x := by
  unfold frob; rw [← pw_mul, Nat.pow_add, Nat.mul_comm]
theorem frob_succ (k : Nat) (x : F) : frob (k + 1) x = pw (frob k x) (p F) := by
  rw [Nat.add_comm, ← frob_frob, frob_one_k]
theorem frob_add (k : Nat) (x y : F) : frob k (x + y) = frob k x + frob k y := by
  induction k with
  | zero => rw [frob_zero_k, frob_zero_k, frob_zero_k]
  | succ k ih => rw [frob_succ, frob_succ, frob_succ, ih, pw_add_char prime_p char_p]
theorem frob_mul (k : Nat) (x y : F) : frob k (x * y) = frob k x * frob k y := mul_pw _ _ _
theorem frob_zero (k : Nat) : frob k (0 : F) = 0 := zero_pw (Nat.pow_pos (by have := p_two (F := F); omega))
theorem frob_one (k : Nat) : frob k (1 : F) = 1 := one_pw _
theorem frob_neg (k : Nat) (x : F) : frob k (-x) = - frob k x := neg_unique (by rw [← frob_add, add_neg, frob_zero])
theorem frob_sub (k : Nat) (x y : F) : frob k (x - y) = frob k x - frob k y := by rw [sub_d, frob_add, frob_neg, sub_d]
theorem frob_inv (k : Nat) (x : F) : frob k (inv x) = inv (frob k x) := by
  by_cases h : x = 0
  · rw [h, inv_zero, frob_zero, inv_zero]
  · exact inv_unique (by rw [← frob_mul, mul_inv h, frob_one])
theorem frob_M (x : F) : frob (M F) x = x := by unfold frob; rw [← q_eq, pw_q]
theorem frob_Mmul (k : Nat) (x : F) : frob (M F * k) x = x := by
  induction k with
  | zero => exact frob_zero_k x
  | succ k ih => rw [Nat.mul_succ, Nat.add_comm, ← frob_frob, ih, frob_M]
theorem frob_mod (k : Nat) (x : F) : frob (k % M F) x = frob k x := by
  conv => rhs; rw [← Nat.mod_add_div k (M F), ← frob_frob, frob_Mmul]
theorem frob_inj {k : Nat} {x y : F} (h : frob k x = frob k y) : x = y := by
  have hM := M_pos (F := F)
  have h1 : frob (M F * k - k) (frob k x) = frob (M F * k - k) (frob k y) := by rw [h]
  have hk : k ≤ M F * k := Nat.le_mul_of_pos_left k (by omega)
  rwa [frob_frob, frob_frob, Nat.sub_add_cancel hk, frob_Mmul, frob_Mmul] at h1
theorem frob_eq_zero {k : Nat} {x : F} (h : frob k x = 0) : x = 0 := frob_inj (k := k) (by rw [h, frob_zero])
theorem frob_ne_zero {k : Nat} {x : F} (h : x ≠ 0) : frob k x ≠ 0 := fun e => h (frob_eq_zero e)
theorem frob_rsum (k n : Nat) (f : Nat → F) : frob k (rsum n f) = rsum n (fun i => frob k (f i)) := by
  induction n with
  | zero => exact frob_zero k
  | succ n ih => rw [rsum_succ, frob_add, ih, rsum_succ]
theorem frob_rprod (k n : Nat) (f : Nat → F) : frob k (rprod n f) = rprod n (fun i => frob k (f i)) := by
  induction n with
  | zero => exact frob_one k
  | succ n ih => rw [rprod_succ, frob_mul, ih, rprod_succ]

/-! ### degrees and subfields -/
/-- d is the degree of x over the prime field. -/
def IsDeg (x : F) (d : Nat) : Prop := 1 ≤ d ∧ frob d x = x ∧ ∀ j, 1 ≤ j → j < d → frob j x ≠ x
theorem frob_fix_mul {d : Nat} {x : F} (h : frob d x = x) (k : Nat) : frob (d * k) x = x := by
  induction k with
  | zero => exact frob_zero_k x
  | succ k ih => rw [Nat.mul_succ, Nat.add_comm, ← frob_frob, ih, h]
theorem frob_fix_dvd {d k : Nat} {x : F} (h : frob d x = x) (hd : d ∣ k) : frob k x = x := by
  obtain ⟨t, rfl⟩ := hd; exact frob_fix_mul h t
theorem IsDeg.dvd {x : F} {d k : Nat} (h : IsDeg x d) (hk : frob k x = x) : d ∣ k := by
  obtain ⟨h1, h2, h3⟩ := h
  have e : frob (k % d) x = x := by
    have := hk
    rw [← Nat.mod_add_div k d, ← frob_frob, frob_fix_mul h2] at this
    exact this
  apply Nat.dvd_of_mod_eq_zero
  rcases Nat.eq_zero_or_pos (k % d) with h0 | h0
  · exact h0
  · exact absurd e (h3 _ h0 (Nat.mod_lt _ (by omega)))
theorem IsDeg.fix_iff {x : F} {d k : Nat} (h : IsDeg x d) : frob k x = x ↔ d ∣ k := ⟨h.dvd, frob_fix_dvd h.2.1⟩
theorem IsDeg.dvd_M {x : F} {d : Nat} (h : IsDeg x d) : d ∣ M F := h.dvd (frob_M x)
theorem IsDeg.le_M {x : F} {d : Nat} (h : IsDeg x d) : d ≤ M F := Nat.le_of_dvd (M_pos (F := F)) h.dvd_M

/-- x is in the subfield of degree d. -/
def InSub (d : Nat) (x : F) : Prop := frob d x = x
theorem InSub.add {d : Nat} {x y : F} (hx : InSub d x) (hy : InSub d y) : InSub d (x + y) := by unfold InSub at *; rw [frob_add, hx, hy]
theorem InSub.mul {d : Nat} {x y : F} (hx : InSub d x) (hy : InSub d y) : InSub d (x * y) := by unfold InSub at *; rw [frob_mul, hx, hy]
theorem InSub.neg {d : Nat} {x : F} (hx : InSub d x) : InSub d (-x) := by unfold InSub at *; rw [frob_neg, hx]
theorem InSub.sub {d : Nat} {x y : F} (hx : InSub d x) (hy : InSub d y) : InSub d (x - y) := by unfold InSub at *; rw [frob_sub, hx, hy]
theorem InSub.inv {d : Nat} {x : F} (hx : InSub d x) : InSub d (inv x) := by unfold InSub at *; rw [frob_inv, hx]
theorem InSub.zero (d : Nat) : InSub d (0 : F) := frob_zero d
theorem InSub.one (d : Nat) : InSub d (1 : F) := frob_one d
theorem InSub.mono {d e : Nat} {x : F} (h : InSub d x) (hd : d ∣ e) : InSub e x := frob_fix_dvd h hd
theorem InSub.rsum {d n : Nat} {f : Nat → F} (h : ∀ i, i < n → InSub d (f i)) : InSub d (rsum n f) := by
  unfold InSub; rw [frob_rsum]; exact rsum_congr h
theorem InSub.rprod {d n : Nat} {f : Nat → F} (h : ∀ i, i < n → InSub d (f i)) : InSub d (rprod n f) := by
  unfold InSub; rw [frob_rprod]; exact rprod_congr h

/-! ### traces and norms -/
def tr (d : Nat) (x : F) : F := rsum (M F / d) (fun i => frob (d * i) x)
def nm (d : Nat) (x : F) : F := rprod (M F / d) (fun i => frob (d * i) x)
theorem tr_add (d : Nat) (x y : F) : tr d (x + y) = tr d x + tr d y := by
  unfold tr; rw [← rsum_add]; exact rsum_congr fun i _ => frob_add _ _ _
theorem nm_mul (d : Nat) (x y : F) : nm d (x * y) = nm d x * nm d y := by
  unfold nm; rw [← rprod_mul]; exact rprod_congr fun i _ => frob_mul _ _ _
theorem tr_frob {d : Nat} (hd : d ∣ M F) (x : F) : frob d (tr d x) = tr d x := by
  unfold tr
  rw [frob_rsum]
  have e : ∀ i, frob d (frob (d * i) x) = frob (d * (i + 1)) x := fun i => by rw [frob_frob, Nat.mul_succ, Nat.add_comm]
  simp only [e]
  refine rsum_rotate (M F / d) (fun i => frob (d * i) x) ?_
  show frob (d * (M F / d)) x = frob (d * 0) x
  rw [Nat.mul_div_cancel' hd, frob_M, Nat.mul_zero, frob_zero_k]
theorem nm_frob {d : Nat} (hd : d ∣ M F) (x : F) : frob d (nm d x) = nm d x := by
  by_cases hx : x = 0
  · have h0 : 0 < M F / d := Nat.div_pos (Nat.le_of_dvd (M_pos (F := F)) hd) (Nat.pos_of_dvd_of_pos hd (M_pos (F := F)))
    have : nm d x = 0 := by unfold nm; exact rprod_eq_zero h0 (by rw [hx, frob_zero])
    rw [this, frob_zero]
  unfold nm
  rw [frob_rprod]
  have e : ∀ i, frob d (frob (d * i) x) = frob (d * (i + 1)) x := fun i => by rw [frob_frob, Nat.mul_succ, Nat.add_comm]
  simp only [e]
  refine mul_left_cancel (a := frob (d * 0) x) (frob_ne_zero hx) (rprod_rotate (M F / d) (fun i => frob (d * i) x) ?_)
  show frob (d * (M F / d)) x = frob (d * 0) x
  rw [Nat.mul_div_cancel' hd, frob_M, Nat.mul_zero, frob_zero_k]
theorem tr_inSub {d : Nat} (hd : d ∣ M F) (x : F) : InSub d (tr d x) := tr_frob hd x
theorem nm_inSub {d : Nat} (hd : d ∣ M F) (x : F) : InSub d (nm d x) := nm_frob hd x
theorem rsum_mulk {R : Type} [CRing R] (a b : Nat) (f : Nat → R) : rsum (a * b) f = rsum b (fun i => rsum a (fun j => f (a * i + j))) := by
  induction b with
  | zero => rfl
  | succ b ih => rw [Nat.mul_succ, rsum_split, ih, rsum_succ]
theorem rprod_mulk {R : Type} [CRing R] (a b : Nat) (f : Nat → R) : rprod (a * b) f = rprod b (fun i => rprod a (fun j => f (a * i + j))) := by
  induction b with
  | zero => rfl
  | succ b ih => rw [Nat.mul_succ, rprod_split, ih, rprod_succ]
theorem tr_trans {d e : Nat} (hd : d ∣ M F) (he : e ∣ d) (x : F) : tr e x = rsum (d / e) (fun i => frob (e * i) (tr d x)) := by
  obtain ⟨k, rfl⟩ := he
  obtain ⟨m, hm⟩ := hd
  have hM := M_pos (F := F)
  have he0 : 0 < e := by
    rcases Nat.eq_zero_or_pos e with h | h
    · rw [h] at hm; simp at hm; omega
    · exact h
  have hk0 : 0 < k := by
    rcases Nat.eq_zero_or_pos k with h | h
    · rw [h] at hm; simp at hm; omega
    · exact h
  have e1 : M F / e = k * m := by rw [hm, Nat.mul_assoc, Nat.mul_div_cancel_left _ he0]
  have e2 : M F / (e * k) = m := by rw [hm, Nat.mul_div_cancel_left _ (Nat.mul_pos he0 hk0)]
  unfold tr
  rw [e1, e2, Nat.mul_div_cancel_left _ he0, rsum_mulk, rsum_swap]
  refine rsum_congr fun i hi => ?_
  rw [frob_rsum]
  refine rsum_congr fun j hj => ?_
  rw [frob_frob]
  congr 1
  rw [Nat.mul_add, Nat.mul_assoc]; omega
theorem rprod_swap {R : Type} [CRing R] (n m : Nat) (f : Nat → Nat → R) : rprod n (fun i => rprod m (f i)) = rprod m (fun j => rprod n (fun i => f i j)) := by
  induction n with
  | zero => exact (rprod_one m).symm
  | succ n ih => rw [rprod_succ, ih, ← rprod_mul]; rfl
theorem nm_trans {d e : Nat} (hd : d ∣ M F) (he : e ∣ d) (x : F) : nm e x = rprod (d / e) (fun i => frob (e * i) (nm d x)) := by
  obtain ⟨k, rfl⟩ := he
  obtain ⟨m, hm⟩ := hd
  have hM := M_pos (F := F)
  have he0 : 0 < e := by
    rcases Nat.eq_zero_or_pos e with h | h
    · rw [h] at hm; simp at hm; omega
    · exact h
  have hk0 : 0 < k := by
    rcases Nat.eq_zero_or_pos k with h | h
    · rw [h] at hm; simp at hm; omega
    · exact h
  have e1 : M F / e = k * m := by rw [hm, Nat.mul_assoc, Nat.mul_div_cancel_left _ he0]
  have e2 : M F / (e * k) = m := by rw [hm, Nat.mul_div_cancel_left _ (Nat.mul_pos he0 hk0)]
  unfold nm
  rw [e1, e2, Nat.mul_div_cancel_left _ he0, rprod_mulk, rprod_swap]
  refine rprod_congr fun i hi => ?_
  rw [frob_rprod]
  refine rprod_congr fun j hj => ?_
  rw [frob_frob]
  congr 1
  rw [Nat.mul_add, Nat.mul_assoc]; omega
end ff

end Cw
