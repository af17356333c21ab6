/- Plain algebra: lists of coefficients as residues; one step of a product, one step of a reduction. No Go here. -/
import Derived.Test.YtnbkmkeiophjoaaFld
namespace Cw
section
variable {D : Desc}
/-- The class of X. -/
def Xc (D : Desc) : R D := T 1
/-- The residue of the polynomial with the coefficients f below n. -/
def ev (D : Desc) (f : Nat → Nat) (n : Nat) : R D := rsum n fun k => sc (zp D.p (f k)) * pw (Xc D) k
def fup (f : Nat → Nat) (k v : Nat) : Nat → Nat := fun i => if i = k then v else f i
theorem ev_zero (n : Nat) : ev D (fun _ => 0) n = 0 := rsum_eq_zero fun i _ => by rw [zp_zero, sc_zero, zero_mul]
theorem ev_congr {f h : Nat → Nat} {n : Nat} (e : ∀ i, i < n → f i = h i) : ev D f n = ev D h n := rsum_congr fun i hi => by rw [e i hi]
theorem ev_succ (f : Nat → Nat) (n : Nat) : ev D f (n+1) = ev D f n + sc (zp D.p (f n)) * pw (Xc D) n := rfl
theorem ev_fup_ge (f : Nat → Nat) {k n : Nat} (v : Nat) (h : n ≤ k) : ev D (fup f k v) n = ev D f n := ev_congr fun i hi => if_neg (by omega)
theorem ev_fup (f : Nat → Nat) {k n : Nat} (v : Nat) (h : k < n) : ev D (fup f k v) n = ev D f n + (sc (zp D.p v) - sc (zp D.p (f k))) * pw (Xc D) k := by
  induction n with
  | zero => omega
  | succ n ih =>
    rw [ev_succ, ev_succ]
    by_cases e : k = n
    · subst e
      rw [ev_fup_ge _ _ (Nat.le_refl _), show fup f k v k = v from if_pos rfl, sub_mul, sub_d]
      rw [show ev D f k + sc (zp D.p (f k)) * pw (Xc D) k + (sc (zp D.p v) * pw (Xc D) k + -(sc (zp D.p (f k)) * pw (Xc D) k)) =
        ev D f k + sc (zp D.p v) * pw (Xc D) k + (sc (zp D.p (f k)) * pw (Xc D) k + -(sc (zp D.p (f k)) * pw (Xc D) k)) by ac_rfl, add_neg, add_zero]
    · rw [ih (by omega), show fup f k v n = f n from if_neg (by omega)]; ac_rfl
/-- c[k] = (c[k] + t) % p adds t X^k. -/
theorem ev_step (f : Nat → Nat) {k n : Nat} (t : Nat) (h : k < n) : ev D (fup f k ((f k + t) % D.p)) n = ev D f n + sc (zp D.p t) * pw (Xc D) k := by
  rw [ev_fup f _ h, zp_mod, zp_add, sc_add, add_c (sc (zp D.p (f k))), add_sub_cancel]
theorem ev_digits (u : R D) : ev D (di u) D.m = u := by
  conv => rhs; rw [R.sum_eq u]
  exact rsum_congr fun i _ => by rw [zp_di]; rfl
theorem ev_cut (f : Nat → Nat) : ev D f D.m = cut D fun i => zp D.p (f i) := by
  conv => rhs; rw [R.sum_eq (cut D fun i => zp D.p (f i))]
  exact rsum_congr fun i hi => by rw [cut_v hi]; rfl
/-- The number of the residue with m coefficients below p. -/
theorem nval_ev (f : Nat → Nat) (h : ∀ i, i < D.m → f i < D.p) : nval D.p f D.m = rcode (ev D f D.m) := by
  rw [nval_di f h, ev_cut]
/-- The product so far after i whole rounds and j steps. -/
def pp (u v : R D) (i j : Nat) : R D := ev D (di u) i * v + sc (zp D.p (di u i)) * pw (Xc D) i * ev D (di v) j
theorem pp_zero (u v : R D) : pp u v 0 0 = 0 := by
  unfold pp ev; rw [rsum_zero, rsum_zero, zero_mul, mul_zero, zero_add]
theorem pp_step (u v : R D) (i j : Nat) : pp u v i (j+1) = pp u v i j + sc (zp D.p (di u i * di v j)) * pw (Xc D) (i + j) := by
  unfold pp
  rw [ev_succ, mul_add, zp_mul, sc_mul, pw_add]; ac_rfl
theorem pp_row (u v : R D) (i : Nat) : pp u v i D.m = pp u v (i+1) 0 := by
  unfold pp
  rw [ev_digits, ev_succ, add_mul]
  show _ = _ + sc _ * pw _ _ * rsum 0 _
  rw [rsum_zero, mul_zero, add_zero]
theorem pp_full (u v : R D) : pp u v D.m 0 = u * v := by
  unfold pp
  show ev D (di u) D.m * v + sc _ * pw _ _ * rsum 0 _ = u * v
  rw [ev_digits, rsum_zero, mul_zero, add_zero]
/-- The reduction so far of c X^(s+m): after j steps. -/
def rd1 (D : Desc) (c s j : Nat) : R D := rsum j fun t => sc (zp D.p ((D.p - c) * D.mod.getD t 0)) * pw (Xc D) (s + t)
theorem rd1_zero (c s : Nat) : rd1 D c s 0 = 0 := rfl
theorem rd1_succ (c s j : Nat) : rd1 D c s (j+1) = rd1 D c s j + sc (zp D.p ((D.p - c) * D.mod.getD j 0)) * pw (Xc D) (s + j) := rfl
theorem rd1_full {c : Nat} (hc : c ≤ D.p) (s : Nat) : rd1 D c s D.m = sc (zp D.p c) * pw (Xc D) (s + D.m) := by
  unfold rd1
  have e : ∀ t, sc (zp D.p ((D.p - c) * D.mod.getD t 0)) * pw (Xc D) (s + t) = - (sc (zp D.p c) * pw (Xc D) s) * (sc (D.c t) * pw (Xc D) t) := fun t => by
    rw [zp_mul, sc_mul, zp_neg hc, sc_neg, pw_add, neg_mul, neg_mul, neg_mul]
    show -(sc (zp D.p c) * sc (D.c t) * (pw (Xc D) s * pw (Xc D) t)) = _
    congr 1; ac_rfl
  rw [rsum_congr fun t _ => e t, rsum_mul_left, neg_mul]
  have hX := X_root (D := D)
  have h2 : rsum D.m (fun i => sc (D.c i) * pw (Xc D) i) = - pw (Xc D) D.m := neg_unique hX
  rw [h2, mul_neg, neg_neg, mul_a, ← pw_add]
end
end Cw
