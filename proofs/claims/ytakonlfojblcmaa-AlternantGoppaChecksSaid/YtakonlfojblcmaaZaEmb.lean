/- Plain algebra: a field of P^d elements has an image in each field of P^M elements with d dividing M. No Go here. -/
import Derived.Test.YtakonlfojblcmaaZaP1
namespace Cw
open CField (inv)
section
variable {F : FD}
theorem nsm_modp {p : Nat} (hc : nsm p (1 : R F.toDesc) = 0) (n : Nat) : nsm (n % p) (1 : R F.toDesc) = nsm n 1 := by
  conv => rhs; rw [← Nat.div_add_mod n p]
  rw [nsm_add, nsm_dvd hc (Nat.dvd_mul_right p (n / p)), zero_add]
variable {p : Nat} [NeZero p]
/-- The image of a residue modulo the characteristic. -/
def kz (F : FD) (a : Zp p) : R F.toDesc := nsm a.val 1
theorem kz_add (hc : nsm p (1 : R F.toDesc) = 0) (a b : Zp p) : kz F (a + b) = kz F a + kz F b := by
  unfold kz; rw [Zp.add_val, nsm_modp hc, nsm_add]
theorem kz_mul (hc : nsm p (1 : R F.toDesc) = 0) (a b : Zp p) : kz F (a * b) = kz F a * kz F b := by
  unfold kz; rw [Zp.mul_val, nsm_modp hc, nsm_nsm, nsm_mul]
theorem kz_zero : kz F (0 : Zp p) = 0 := by unfold kz; rw [Zp.zero_val]; rfl
theorem kz_neg (hc : nsm p (1 : R F.toDesc) = 0) (a : Zp p) : kz F (-a) = - kz F a := neg_unique (by rw [← kz_add hc, add_neg, kz_zero])
theorem kz_sub (hc : nsm p (1 : R F.toDesc) = 0) (a b : Zp p) : kz F (a - b) = kz F a - kz F b := by rw [sub_d, kz_add hc, kz_neg hc, sub_d]
theorem kz_one (h2 : 2 ≤ p) : kz F (1 : Zp p) = 1 := by
  unfold kz
  rw [show (1 : Zp p).val = 1 from by rw [← zp_one, zp_val, Nat.mod_eq_of_lt (by omega)], nsm_one]
theorem kz_rsum (hc : nsm p (1 : R F.toDesc) = 0) (n : Nat) (f : Nat → Zp p) : kz F (rsum n f) = rsum n fun i => kz F (f i) := by
  induction n with
  | zero => exact kz_zero
  | succ n ih => rw [rsum_succ, rsum_succ, kz_add hc, ih]
end
section
variable {S F : FD}
/-- The value at r of the polynomial that stands for a residue; the value at r of the modulus. -/
def phi (S F : FD) (r : R F.toDesc) (u : R S.toDesc) : R F.toDesc := rsum S.m fun i => kz F (u.v i) * pw r i
def muV (S F : FD) (r : R F.toDesc) : R F.toDesc := pw r S.m + rsum S.m fun i => kz F (S.c i) * pw r i
theorem phi_T (hc : nsm S.p (1 : R F.toDesc) = 0) (r : R F.toDesc) (u : R S.toDesc) : phi S F r (T u) = r * phi S F r u - kz F (u.v (S.m - 1)) * muV S F r := by
  obtain ⟨m', hm'⟩ : ∃ m', S.m = m' + 1 := ⟨S.m - 1, by have := S.m1; omega⟩
  unfold phi muV
  have h1 : rsum S.m (fun i => kz F ((T u).v i) * pw r i) = rsum S.m (fun i => (if i = 0 then 0 else kz F (u.v (i - 1))) * pw r i) - kz F (u.v (S.m - 1)) * rsum S.m (fun i => kz F (S.c i) * pw r i) := by
    rw [← rsum_mul_left, ← rsum_sub]
    refine rsum_congr fun i hi => ?_
    rw [T_v hi, kz_sub hc, kz_mul hc, sub_mul, mul_a]
    congr 2
    by_cases e : i = 0
    · rw [if_pos e, if_pos e]; exact kz_zero
    · rw [if_neg e, if_neg e]
  rw [h1, hm', rsum_succ_left, if_pos rfl, zero_mul, zero_add, Nat.add_sub_cancel, rsum_succ m' (fun i => kz F (u.v i) * pw r i), mul_add, mul_add,
    show r * rsum m' (fun i => kz F (u.v i) * pw r i) = rsum m' (fun i => (if i + 1 = 0 then 0 else kz F (u.v (i + 1 - 1))) * pw r (i + 1)) from by
      rw [← rsum_mul_left]
      exact rsum_congr fun i _ => by rw [if_neg (by omega), Nat.add_sub_cancel, pw_succ', mul_lc]]
  rw [show r * (kz F (u.v m') * pw r m') = kz F (u.v m') * pw r (m' + 1) from by rw [pw_succ', mul_lc]]
  simp only [sub_d, neg_add_d]
  rw [add_a, ← add_a (kz F (u.v m') * pw r (m' + 1)), add_neg, zero_add]
theorem Tn_succ_T (n : Nat) (u : R S.toDesc) : Tn (n + 1) u = T (Tn n u) := by
  first
  | rfl
  | exact Tn_T n u
theorem phi_Tn (hc : nsm S.p (1 : R F.toDesc) = 0) {r : R F.toDesc} (h0 : muV S F r = 0) (u : R S.toDesc) : ∀ n, phi S F r (Tn n u) = pw r n * phi S F r u
  | 0 => by rw [pw_zero, one_mul]; rfl
  | n + 1 => by rw [Tn_succ_T, phi_T hc, h0, mul_zero, sub_zero, phi_Tn hc h0 u n, pw_succ', mul_a]
theorem phi_add (hc : nsm S.p (1 : R F.toDesc) = 0) (r : R F.toDesc) (u w : R S.toDesc) : phi S F r (u + w) = phi S F r u + phi S F r w := by
  unfold phi
  rw [← rsum_add]
  exact rsum_congr fun i _ => by rw [add_v, kz_add hc, add_mul]
theorem phi_mul (hc : nsm S.p (1 : R F.toDesc) = 0) {r : R F.toDesc} (h0 : muV S F r = 0) (u w : R S.toDesc) : phi S F r (u * w) = phi S F r u * phi S F r w := by
  have h1 : phi S F r (u * w) = rsum S.m fun j => rsum S.m fun i => kz F (u.v i) * (kz F ((Tn i w).v j) * pw r j) := by
    unfold phi
    refine rsum_congr fun j hj => ?_
    rw [mul_v u w hj, kz_rsum hc, ← rsum_mul_right]
    exact rsum_congr fun i _ => by rw [kz_mul hc, mul_a]
  rw [h1, rsum_swap]
  have h2 : ∀ i, (rsum S.m fun j => kz F (u.v i) * (kz F ((Tn i w).v j) * pw r j)) = kz F (u.v i) * pw r i * phi S F r w := fun i => by
    rw [rsum_mul_left, mul_a, ← phi_Tn hc h0 w i]; rfl
  rw [rsum_congr fun i _ => h2 i, rsum_mul_right]
  rfl
theorem phi_one (r : R F.toDesc) : phi S F r 1 = 1 := by
  have h1 := S.m1
  unfold phi
  rw [rsum_single (k := 0) (by omega) fun i hi hne => by rw [one_v hi, if_neg hne, kz_zero, zero_mul], one_v (by omega), if_pos rfl, kz_one S.p2, pw_zero, one_mul]
theorem phi_zero (r : R F.toDesc) : phi S F r 0 = 0 := by
  unfold phi
  exact rsum_eq_zero fun i _ => by rw [zero_v, kz_zero, zero_mul]
theorem phi_pw (hc : nsm S.p (1 : R F.toDesc) = 0) {r : R F.toDesc} (h0 : muV S F r = 0) (u : R S.toDesc) : ∀ n, phi S F r (pw u n) = pw (phi S F r u) n
  | 0 => phi_one r
  | n + 1 => by rw [pw_succ, phi_mul hc h0, phi_pw hc h0 u n, pw_succ]
theorem phi_inj (hc : nsm S.p (1 : R F.toDesc) = 0) {r : R F.toDesc} (h0 : muV S F r = 0) {u w : R S.toDesc} (h : phi S F r u = phi S F r w) : u = w := by
  refine Classical.byContradiction fun hne => ?_
  obtain ⟨y, hy⟩ := S.inv_ex (u + -w) (fun e => hne (by rw [show u = u + -w + w from by rw [add_a, neg_add, add_zero], e, zero_add]))
  have h2 : phi S F r (u + -w) = 0 := by
    have h3 := phi_add hc r (u + -w) w
    rw [add_a, neg_add, add_zero, h] at h3
    exact (add_right_cancel (show 0 + phi S F r w = phi S F r (u + -w) + phi S F r w from by rw [zero_add]; exact h3)).symm
  have h4 := phi_mul hc h0 (u + -w) y
  rw [hy, phi_one, h2, zero_mul] at h4
  exact one_ne h4
/-- The images lie in the subfield. -/
theorem phi_sub (hp : S.p = F.p) (hc : nsm S.p (1 : R F.toDesc) = 0) {r : R F.toDesc} (h0 : muV S F r = 0) (u : R S.toDesc) : InSub S.m (phi S F r u) := by
  show pw (phi S F r u) (F.p ^ S.m) = phi S F r u
  rw [← hp, ← phi_pw hc h0]
  congr 1
  exact pw_q (F := R S.toDesc) u

/-- The quotient of X^n by the modulus. -/
def glE (S F : FD) : Nat → List (R F.toDesc)
  | 0 => []
  | n + 1 => kz F ((Tn n (1 : R S.toDesc)).v (S.m - 1)) :: glE S F n
theorem glE_length (n : Nat) : (glE S F n).length = n := by
  induction n with
  | zero => rfl
  | succ n ih => show (glE S F n).length + 1 = _; rw [ih]
theorem phi_gl (hc : nsm S.p (1 : R F.toDesc) = 0) (x : R F.toDesc) : ∀ n, phi S F x (Tn n 1) = pw x n - muV S F x * pev (glE S F n) x
  | 0 => by
    show phi S F x 1 = 1 - muV S F x * 0
    rw [phi_one, mul_zero, sub_zero]
  | n + 1 => by
    rw [Tn_succ_T, phi_T hc, phi_gl hc x n, pw_succ']
    show _ = x * pw x n - muV S F x * (kz F ((Tn n (1 : R S.toDesc)).v (S.m - 1)) + x * pev (glE S F n) x)
    rw [mul_sub, mul_add, mul_c (muV S F x) (kz F _), mul_lc (muV S F x) x]
    simp only [sub_d, neg_add_d]
    ac_rfl
theorem Tn_pw (n : Nat) : Tn n (1 : R S.toDesc) = pw (T 1) n := by
  induction n with
  | zero => rfl
  | succ n ih => rw [Tn_succ_T, T_eq, ih, pw_succ]
theorem glE_get (n i : Nat) (h : i < n) : (glE S F n)[i]? = some (kz F ((Tn (n - 1 - i) (1 : R S.toDesc)).v (S.m - 1))) := by
  induction n generalizing i with
  | zero => omega
  | succ n ih =>
    cases i with
    | zero => rfl
    | succ i =>
      show (glE S F n)[i]? = _
      rw [ih i (by omega), show n + 1 - 1 - (i + 1) = n - 1 - i by omega]
/-- The modulus has a root in the subfield of its degree. -/
theorem root_ex (hp : S.p = F.p) (hc : nsm S.p (1 : R F.toDesc) = 0) (hd : S.m ∣ F.m) : ∃ x : R F.toDesc, muV S F x = 0 := by
  refine Classical.byContradiction fun hno => ?_
  have hm1 := S.m1
  have hq : 2 ≤ S.q := S.toDesc.q2
  have hqd : S.m < S.q := by
    have h2 := S.p2
    have h3 : ∀ m, m < 2 ^ m := fun m => Nat.lt_two_pow_self
    have h4 : 2 ^ S.m ≤ S.p ^ S.m := Nat.pow_le_pow_left h2 _
    exact Nat.lt_of_lt_of_le (h3 S.m) h4
  have hT : Tn S.q (1 : R S.toDesc) = Tn 1 1 := by rw [Tn_pw, Tn_pw, pw_one]; exact pw_q (F := R S.toDesc) _
  have hcnt := sub_count (F := R F.toDesc) (d := S.m) hd hm1
  obtain ⟨q', hq'⟩ : ∃ q', S.q = q' + 1 := ⟨S.q - 1, by omega⟩
  have hfix : ∀ x : R F.toDesc, frob S.m x = x → pw x S.q = x := fun x hx => by
    have h1 : pw x (F.p ^ S.m) = x := hx
    rw [← hp] at h1
    exact h1
  have key := pev_roots (((List.range (FF.q (R F.toDesc))).filter fun n => decide (frob S.m (FF.el n : R F.toDesc) = FF.el n)).map fun n => (FF.el n : R F.toDesc))
    ((kz F ((Tn q' (1 : R S.toDesc)).v (S.m - 1)) + -(kz F ((1 : R S.toDesc).v (S.m - 1)))) :: glE S F q') ?_ ?_ ?_
  · have h1 := key _ (List.mem_cons_of_mem _ (List.mem_of_getElem? (glE_get (S := S) (F := F) q' (q' - S.m) (by omega))))
    rw [show q' - 1 - (q' - S.m) = S.m - 1 by omega, show (1 : R S.toDesc) = basis S.toDesc 0 from rfl, Tn_basis (by omega), basis_v (by omega), if_pos rfl, kz_one S.p2] at h1
    exact one_ne h1
  · rw [List.length_cons, glE_length, List.length_map, hcnt]
    show q' + 1 ≤ F.p ^ S.m
    rw [← hp, ← hq']
    exact Nat.le_refl _
  · refine List.pairwise_map.2 (List.Pairwise.imp_of_mem ?_ (List.Pairwise.filter _ (List.nodup_range (n := FF.q (R F.toDesc)))))
    intro x y hx hy hne e
    have hx' := List.mem_range.1 (List.mem_filter.1 hx).1
    have hy' := List.mem_range.1 (List.mem_filter.1 hy).1
    have h3 := congrArg FF.code e
    rw [FF.code_el x hx', FF.code_el y hy'] at h3
    exact hne h3
  · intro x hx
    obtain ⟨n, hn, rfl⟩ := List.mem_map.1 hx
    have hfx := hfix _ (of_decide_eq_true (List.mem_filter.1 hn).2)
    generalize (FF.el n : R F.toDesc) = x at *
    have h1 := phi_gl (S := S) hc x S.q
    have h2 := phi_gl (S := S) hc x 1
    rw [hT, h2, hfx, pw_one] at h1
    have h3 : muV S F x * pev (glE S F S.q) x = muV S F x * pev (glE S F 1) x := by
      have h4 := h1
      rw [sub_d, sub_d] at h4
      have h5 := add_left_cancel h4
      rw [← neg_neg (muV S F x * pev (glE S F S.q) x), ← h5, neg_neg]
    have h6 := mul_left_cancel (fun e => hno ⟨x, e⟩) h3
    rw [hq'] at h6
    show kz F ((Tn q' (1 : R S.toDesc)).v (S.m - 1)) + -(kz F ((1 : R S.toDesc).v (S.m - 1))) + x * pev (glE S F q') x = 0
    have h7 : kz F ((Tn q' (1 : R S.toDesc)).v (S.m - 1)) + x * pev (glE S F q') x = kz F ((1 : R S.toDesc).v (S.m - 1)) + x * 0 := h6
    rw [mul_zero, add_zero] at h7
    have h8 : ∀ a b X : R F.toDesc, a + b + X = (a + X) + b := fun a b X => by ac_rfl
    rw [h8, h7, add_neg]
end
end Cw
