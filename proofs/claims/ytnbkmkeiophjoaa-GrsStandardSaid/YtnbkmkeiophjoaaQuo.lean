/- Plain algebra: integers modulo p, and the residues of polynomials over them modulo a monic polynomial; how residues are numbered. No Go here. -/
import Derived.Test.YtnbkmkeiophjoaaFF
namespace Cw

/-! ### integers modulo p -/
def Zp (p : Nat) : Type := Fin p
section zp
variable {p : Nat} [NeZero p]
theorem pos_of_ne (p : Nat) [h : NeZero p] : 0 < p := Nat.pos_of_ne_zero h.out
def zp (p : Nat) [NeZero p] (n : Nat) : Zp p := ⟨n % p, Nat.mod_lt _ (pos_of_ne p)⟩
def Zp.val (a : Zp p) : Nat := Fin.val a
omit [NeZero p] in
theorem Zp.lt (a : Zp p) : a.val < p := Fin.isLt a
omit [NeZero p] in
theorem Zp.ext {a b : Zp p} (h : a.val = b.val) : a = b := Fin.ext h
theorem zp_val (n : Nat) : (zp p n).val = n % p := rfl
theorem zp_of_val (a : Zp p) : zp p a.val = a := Zp.ext (Nat.mod_eq_of_lt a.lt)
theorem zp_eq {a b : Nat} (h : a % p = b % p) : zp p a = zp p b := Zp.ext h
instance : CRing (Zp p) where
  add a b := zp p (a.val + b.val)
  mul a b := zp p (a.val * b.val)
  neg a := zp p (p - a.val)
  zero := zp p 0
  one := zp p 1
  add_assoc' a b c := Zp.ext (by
    show ((a.val + b.val) % p + c.val) % p = (a.val + (b.val + c.val) % p) % p
    rw [Nat.mod_add_mod, Nat.add_mod_mod, Nat.add_assoc])
  add_comm' a b := zp_eq (by rw [Nat.add_comm])
  zero_add' a := Zp.ext (by
    show (0 % p + a.val) % p = a.val
    rw [Nat.mod_add_mod, Nat.zero_add, Nat.mod_eq_of_lt a.lt])
  neg_add' a := zp_eq (by
    rw [zp_val, Nat.mod_add_mod, Nat.sub_add_cancel (Nat.le_of_lt a.lt), Nat.mod_self, Nat.zero_mod])
  mul_assoc' a b c := Zp.ext (by
    show ((a.val * b.val) % p * c.val) % p = (a.val * ((b.val * c.val) % p)) % p
    rw [Nat.mod_mul_mod, Nat.mul_mod_mod, Nat.mul_assoc])
  mul_comm' a b := zp_eq (by rw [Nat.mul_comm])
  one_mul' a := Zp.ext (by
    show (1 % p * a.val) % p = a.val
    rw [Nat.mod_mul_mod, Nat.one_mul, Nat.mod_eq_of_lt a.lt])
  mul_add' a b c := Zp.ext (by
    show (a.val * ((b.val + c.val) % p)) % p = ((a.val * b.val) % p + (a.val * c.val) % p) % p
    rw [Nat.mul_mod_mod, Nat.mod_add_mod, Nat.add_mod_mod, Nat.mul_add])
theorem Zp.add_val (a b : Zp p) : (a + b).val = (a.val + b.val) % p := rfl
theorem Zp.mul_val (a b : Zp p) : (a * b).val = (a.val * b.val) % p := rfl
theorem Zp.neg_val (a : Zp p) : (-a).val = (p - a.val) % p := rfl
theorem Zp.zero_val : (0 : Zp p).val = 0 := Nat.zero_mod p
theorem zp_add (a b : Nat) : zp p (a + b) = zp p a + zp p b := zp_eq (by rw [zp_val, zp_val, Nat.mod_add_mod, Nat.add_mod_mod])
theorem zp_mul (a b : Nat) : zp p (a * b) = zp p a * zp p b := zp_eq (by rw [zp_val, zp_val, Nat.mod_mul_mod, Nat.mul_mod_mod])
theorem zp_zero : zp p 0 = 0 := rfl
theorem zp_one : zp p 1 = 1 := rfl
theorem zp_p : zp p p = 0 := zp_eq (by rw [Nat.mod_self, Nat.zero_mod])
theorem zp_mod (n : Nat) : zp p (n % p) = zp p n := zp_eq (Nat.mod_mod _ _)
theorem zp_neg {a : Nat} (h : a ≤ p) : zp p (p - a) = - zp p a := by
  apply neg_unique
  rw [← zp_add, Nat.add_sub_cancel' h, zp_p]
theorem zp_nsm (n : Nat) : nsm n (1 : Zp p) = zp p n := by
  induction n with
  | zero => rfl
  | succ n ih => rw [nsm_succ, ih, zp_add, zp_one]
instance : DecidableEq (Zp p) := inferInstanceAs (DecidableEq (Fin p))
end zp

/-! ### the description of a residue ring -/
/-- p prime, m from 1 to 8, p^m at most 256; the coefficients of the monic modulus (none at m = 1: the modulus is X). -/
structure Desc where
  p : Nat
  m : Nat
  mod : List Nat
  hp : Prime p
  m1 : 1 ≤ m
  m8 : m ≤ 8
  hq : p ^ m ≤ 256
  hlen : mod.length = if m = 1 then 0 else m
  hmod : ∀ j, mod.getD j 0 < p
instance (D : Desc) : NeZero D.p := ⟨by have := D.hp.1; omega⟩
def Desc.c (D : Desc) (j : Nat) : Zp D.p := zp D.p (D.mod.getD j 0)
def Desc.q (D : Desc) : Nat := D.p ^ D.m
theorem Desc.p2 (D : Desc) : 2 ≤ D.p := D.hp.1
theorem Desc.p256 (D : Desc) : D.p ≤ 256 := by
  have h := Nat.pow_le_pow_right (n := D.p) (by have := D.p2; omega) D.m1
  have := D.hq; rw [Nat.pow_one] at h; omega

/-- Residues: coefficients below m. -/
structure R (D : Desc) where
  v : Nat → Zp D.p
  sup : ∀ i, D.m ≤ i → v i = 0

section quo
variable {D : Desc}
theorem R.ext' {u w : R D} (h : ∀ i, i < D.m → u.v i = w.v i) : u = w := by
  obtain ⟨a, ha⟩ := u
  obtain ⟨b, hb⟩ := w
  have : a = b := funext fun i => by
    by_cases hi : i < D.m
    · exact h i hi
    · rw [ha i (by omega), hb i (by omega)]
  subst this; rfl
def cut (D : Desc) (f : Nat → Zp D.p) : R D := ⟨fun i => if i < D.m then f i else 0, fun i hi => if_neg (by omega)⟩
theorem cut_v {f : Nat → Zp D.p} {i : Nat} (h : i < D.m) : (cut D f).v i = f i := if_pos h
def rzero (D : Desc) : R D := ⟨fun _ => 0, fun _ _ => rfl⟩
def radd (u w : R D) : R D := ⟨fun i => u.v i + w.v i, fun i h => by rw [u.sup i h, w.sup i h, zero_add]⟩
def rneg (u : R D) : R D := ⟨fun i => - u.v i, fun i h => by rw [u.sup i h, neg_zero]⟩
def basis (D : Desc) (k : Nat) : R D := cut D fun i => if i = k then 1 else 0
/-- Multiplication by X. -/
def T (u : R D) : R D := cut D fun i => (if i = 0 then 0 else u.v (i - 1)) - u.v (D.m - 1) * D.c i
def Tn : Nat → R D → R D
  | 0, u => u
  | k+1, u => T (Tn k u)
def act (u w : R D) : R D := cut D fun j => rsum D.m fun i => u.v i * (Tn i w).v j

theorem T_v {u : R D} {i : Nat} (h : i < D.m) : (T u).v i = (if i = 0 then 0 else u.v (i - 1)) - u.v (D.m - 1) * D.c i := cut_v h
theorem act_v {u w : R D} {j : Nat} (h : j < D.m) : (act u w).v j = rsum D.m fun i => u.v i * (Tn i w).v j := cut_v h
theorem T_radd (u w : R D) : T (radd u w) = radd (T u) (T w) := R.ext' fun i hi => by
  show (T (radd u w)).v i = (T u).v i + (T w).v i
  rw [T_v hi, T_v hi, T_v hi]
  show (if i = 0 then 0 else u.v (i-1) + w.v (i-1)) - (u.v (D.m-1) + w.v (D.m-1)) * D.c i = _
  rw [add_mul, sub_d, sub_d, sub_d, neg_add_d]
  by_cases h : i = 0
  · rw [if_pos h, if_pos h, if_pos h, zero_add, zero_add, zero_add]
  · rw [if_neg h, if_neg h, if_neg h]; ac_rfl
theorem Tn_radd (k : Nat) (u w : R D) : Tn k (radd u w) = radd (Tn k u) (Tn k w) := by
  induction k with
  | zero => rfl
  | succ k ih => show T (Tn k (radd u w)) = _; rw [ih, T_radd]; rfl
theorem Tn_T (k : Nat) (u : R D) : Tn k (T u) = T (Tn k u) := by
  induction k with
  | zero => rfl
  | succ k ih => show T (Tn k (T u)) = _; rw [ih]; rfl
theorem Tn_Tn (j k : Nat) (u : R D) : Tn j (Tn k u) = Tn (j + k) u := by
  induction j with
  | zero => rw [Nat.zero_add]; rfl
  | succ j ih => rw [Nat.succ_add]; show T (Tn j (Tn k u)) = T (Tn (j + k) u); rw [ih]
theorem T_act (u w : R D) : T (act u w) = act u (T w) := R.ext' fun j hj => by
  have hm := D.m1
  have e : (T (act u w)).v j = rsum D.m fun i => u.v i * (T (Tn i w)).v j := by
    rw [T_v hj, act_v (by omega : D.m - 1 < D.m)]
    by_cases h : j = 0
    · rw [if_pos h, zero_sub, ← rsum_mul_right, ← rsum_neg]
      refine rsum_congr fun i _ => ?_
      rw [T_v hj, if_pos h, zero_sub, mul_neg, mul_a]
    · rw [if_neg h, act_v (by omega), ← rsum_mul_right, ← rsum_sub]
      refine rsum_congr fun i _ => ?_
      rw [T_v hj, if_neg h, mul_sub, mul_a]
  rw [e, act_v hj]
  exact rsum_congr fun i _ => by rw [Tn_T]
theorem Tn_act (k : Nat) (u w : R D) : Tn k (act u w) = act u (Tn k w) := by
  induction k with
  | zero => rfl
  | succ k ih => show T (Tn k (act u w)) = _; rw [ih, T_act]; rfl
theorem act_act (u v w : R D) : act u (act v w) = act v (act u w) := R.ext' fun j hj => by
  rw [act_v hj, act_v hj]
  have e : ∀ (u v : R D) (i : Nat), u.v i * (Tn i (act v w)).v j = rsum D.m fun k => u.v i * (v.v k * (Tn (k + i) w).v j) := fun u v i => by
    rw [Tn_act, act_v hj, ← rsum_mul_left]
    exact rsum_congr fun k _ => by rw [Tn_Tn]
  rw [rsum_congr fun i _ => e u v i, rsum_congr fun i _ => e v u i, rsum_swap]
  refine rsum_congr fun i _ => rsum_congr fun k _ => ?_
  rw [Nat.add_comm, mul_lc]
theorem basis_v {k i : Nat} (hi : i < D.m) : (basis D k).v i = if i = k then 1 else 0 := cut_v hi
theorem T_basis {k : Nat} (h : k + 1 < D.m) : T (basis D k) = basis D (k + 1) := R.ext' fun i hi => by
  rw [T_v hi, basis_v hi, basis_v (by omega : D.m - 1 < D.m), if_neg (by omega : ¬ D.m - 1 = k), zero_mul, sub_zero]
  by_cases h0 : i = 0
  · rw [if_pos h0, if_neg (by omega)]
  · rw [if_neg h0, basis_v (by omega)]
    by_cases h1 : i - 1 = k
    · rw [if_pos h1, if_pos (by omega)]
    · rw [if_neg h1, if_neg (by omega)]
theorem Tn_basis {k : Nat} (h : k < D.m) : Tn k (basis D 0) = basis D k := by
  induction k with
  | zero => rfl
  | succ k ih => show T (Tn k (basis D 0)) = _; rw [ih (by omega), T_basis h]
theorem act_one (u : R D) : act u (basis D 0) = u := R.ext' fun j hj => by
  rw [act_v hj, rsum_single (k := j) hj (fun i hi hne => by rw [Tn_basis hi, basis_v hj, if_neg (fun h => hne h.symm), mul_zero]), Tn_basis hj, basis_v hj, if_pos rfl, mul_one]
theorem act_comm (u w : R D) : act u w = act w u := by
  conv => lhs; rw [← act_one w, act_act, act_one]
instance : CRing (R D) where
  add := radd
  mul := act
  neg := rneg
  zero := rzero D
  one := basis D 0
  add_assoc' a b c := R.ext' fun i _ => add_a _ _ _
  add_comm' a b := R.ext' fun i _ => add_c _ _
  zero_add' a := R.ext' fun i _ => zero_add _
  neg_add' a := R.ext' fun i _ => neg_add _
  mul_assoc' a b c := by
    show act (act a b) c = act a (act b c)
    rw [act_comm (act a b) c, act_act, act_comm c b]
  mul_comm' := act_comm
  one_mul' a := by show act (basis D 0) a = a; rw [act_comm, act_one]
  mul_add' a b c := R.ext' fun j hj => by
    show (act a (radd b c)).v j = (act a b).v j + (act a c).v j
    rw [act_v hj, act_v hj, act_v hj, ← rsum_add]
    refine rsum_congr fun i _ => ?_
    rw [Tn_radd, ← mul_add]; rfl
theorem add_v (u w : R D) (i : Nat) : (u + w).v i = u.v i + w.v i := rfl
theorem neg_v (u : R D) (i : Nat) : (-u).v i = - u.v i := rfl
theorem zero_v (i : Nat) : (0 : R D).v i = 0 := rfl
theorem mul_v (u w : R D) {j : Nat} (h : j < D.m) : (u * w).v j = rsum D.m fun i => u.v i * (Tn i w).v j := act_v h
theorem one_v {i : Nat} (hi : i < D.m) : (1 : R D).v i = if i = 0 then 1 else 0 := basis_v hi
theorem T_mul (u w : R D) : T (u * w) = u * T w := T_act u w
theorem Tn_mul (k : Nat) (u w : R D) : Tn k (u * w) = u * Tn k w := Tn_act k u w
theorem T_eq (u : R D) : T u = u * T 1 := by rw [← T_mul, mul_one]
theorem T_add (u w : R D) : T (u + w) = T u + T w := T_radd u w
theorem rsum_v (n : Nat) (f : Nat → R D) (j : Nat) : (rsum n f).v j = rsum n (fun i => (f i).v j) := by
  induction n with
  | zero => rfl
  | succ n ih => rw [rsum_succ, rsum_succ, ← ih]; rfl
theorem nsm_v (n : Nat) (u : R D) (j : Nat) : (nsm n u).v j = nsm n (u.v j) := by
  induction n with
  | zero => rfl
  | succ n ih => rw [nsm_succ, nsm_succ, ← ih]; rfl
theorem char_R : nsm D.p (1 : R D) = 0 := R.ext' fun i hi => by
  rw [nsm_v, nsm_mul, zp_nsm, zp_p, zero_mul]; rfl
/-- A number modulo p as a residue. -/
def sc (s : Zp D.p) : R D := cut D fun i => if i = 0 then s else 0
theorem sc_v (s : Zp D.p) {i : Nat} (h : i < D.m) : (sc (D := D) s).v i = if i = 0 then s else 0 := cut_v h
theorem sc_mul_v (s : Zp D.p) (u : R D) {j : Nat} (hj : j < D.m) : (sc s * u).v j = s * u.v j := by
  have hm := D.m1
  rw [mul_v _ _ hj, rsum_single (k := 0) (by omega) (fun i hi hne => by rw [sc_v _ hi, if_neg hne, zero_mul]), sc_v _ (by omega), if_pos rfl]; rfl
theorem sc_zero : sc (D := D) 0 = 0 := R.ext' fun i hi => by rw [sc_v _ hi]; by_cases h : i = 0 <;> simp only [h, if_true, if_false] <;> rfl
theorem sc_one : sc (D := D) 1 = 1 := R.ext' fun i hi => by rw [sc_v _ hi, one_v hi]
theorem sc_add (s t : Zp D.p) : sc (D := D) (s + t) = sc s + sc t := R.ext' fun i hi => by
  rw [add_v, sc_v _ hi, sc_v _ hi, sc_v _ hi]; by_cases h : i = 0 <;> simp only [h, if_true, if_false]; exact (zero_add 0).symm
theorem sc_mul (s t : Zp D.p) : sc (D := D) (s * t) = sc s * sc t := R.ext' fun i hi => by
  rw [sc_mul_v _ _ hi, sc_v _ hi, sc_v _ hi]; by_cases h : i = 0 <;> simp only [h, if_true, if_false]; exact (mul_zero s).symm
theorem sc_neg (s : Zp D.p) : sc (D := D) (-s) = - sc s := neg_unique (by rw [← sc_add, add_neg, sc_zero])
/-- Every residue is a sum of powers of X. -/
theorem R.sum_eq (u : R D) : u = rsum D.m (fun i => sc (u.v i) * pw (T 1) i) := by
  have e : ∀ i, pw (T (1 : R D)) i = Tn i 1 := fun i => by
    induction i with
    | zero => rfl
    | succ i ih => rw [pw_succ, ih, ← T_eq]; rfl
  refine R.ext' fun j hj => ?_
  rw [rsum_v, rsum_single (k := j) hj (fun i hi hne => ?_), e, sc_mul_v _ _ hj, show Tn j (1 : R D) = basis D j from Tn_basis hj, basis_v hj, if_pos rfl, mul_one]
  rw [e, sc_mul_v _ _ hj, show Tn i (1 : R D) = basis D i from Tn_basis hi, basis_v hj, if_neg (fun h => hne h.symm), mul_zero]
/-- The modulus is 0 at the class of X. -/
theorem X_root : pw (T (1 : R D)) D.m + rsum D.m (fun i => sc (D.c i) * pw (T 1) i) = 0 := by
  have e : ∀ i, pw (T (1 : R D)) i = Tn i 1 := fun i => by
    induction i with
    | zero => rfl
    | succ i ih => rw [pw_succ, ih, ← T_eq]; rfl
  have hm := D.m1
  refine R.ext' fun j hj => ?_
  rw [add_v, rsum_v, rsum_single (k := j) hj (fun i hi hne => ?_), e, e, sc_mul_v _ _ hj, show Tn j (1 : R D) = basis D j from Tn_basis hj, basis_v hj, if_pos rfl, mul_one]
  · obtain ⟨k, hk⟩ : ∃ k, D.m = k + 1 := ⟨D.m - 1, by omega⟩
    rw [hk]
    show (T (Tn k (basis D 0))).v j + _ = _
    rw [Tn_basis (by omega), T_v hj, basis_v (by omega : D.m - 1 < D.m), if_pos (by omega : D.m - 1 = k), one_mul]
    have h0 : (if j = 0 then (0 : Zp D.p) else (basis D k).v (j - 1)) = 0 := by
      by_cases h : j = 0
      · rw [if_pos h]
      · rw [if_neg h, basis_v (by omega), if_neg (by omega)]
    rw [h0, zero_sub, neg_add]; rfl
  · rw [e, sc_mul_v _ _ hj, show Tn i (1 : R D) = basis D i from Tn_basis hi, basis_v hj, if_neg (fun h => hne h.symm), mul_zero]

/-! ### numbering -/
def nval (p : Nat) (f : Nat → Nat) : Nat → Nat
  | 0 => 0
  | m+1 => nval p f m + f m * p ^ m
theorem nval_congr {p m : Nat} {f g : Nat → Nat} (h : ∀ i, i < m → f i = g i) : nval p f m = nval p g m := by
  induction m with
  | zero => rfl
  | succ m ih => show nval p f m + f m * p ^ m = nval p g m + g m * p ^ m; rw [ih fun i hi => h i (by omega), h m (by omega)]
theorem nval_lt {p m : Nat} {f : Nat → Nat} (h : ∀ i, i < m → f i < p) : nval p f m < p ^ m := by
  induction m with
  | zero => exact Nat.one_pos
  | succ m ih =>
    have h1 := ih fun i hi => h i (by omega)
    have h2 := Nat.mul_le_mul_right (p ^ m) (h m (by omega))
    rw [Nat.succ_mul] at h2
    show nval p f m + f m * p ^ m < p ^ (m+1)
    rw [Nat.pow_succ, Nat.mul_comm (p ^ m)]; omega
theorem nval_digit {p : Nat} (hp : 0 < p) {m : Nat} {f : Nat → Nat} (h : ∀ i, i < m → f i < p) {i : Nat} (hi : i < m) : nval p f m / p ^ i % p = f i := by
  induction m with
  | zero => omega
  | succ m ih =>
    show (nval p f m + f m * p ^ m) / p ^ i % p = f i
    have hpi : 0 < p ^ i := Nat.pow_pos hp
    by_cases e : i = m
    · subst e
      rw [Nat.add_mul_div_right _ _ hpi, Nat.div_eq_of_lt (nval_lt fun j hj => h j (by omega)), Nat.zero_add, Nat.mod_eq_of_lt (h i (by omega))]
    · obtain ⟨k, rfl⟩ : ∃ k, m = i + 1 + k := ⟨m - i - 1, by omega⟩
      rw [show f (i+1+k) * p ^ (i+1+k) = (f (i+1+k) * p ^ k * p) * p ^ i by rw [Nat.pow_add, Nat.pow_succ]; ac_rfl,
        Nat.add_mul_div_right _ _ hpi, Nat.add_mul_mod_self_right]
      exact ih (fun j hj => h j (by omega)) (by omega)
theorem nval_digits {p : Nat} (_hp : 0 < p) : ∀ (m n : Nat), n < p ^ m → nval p (fun i => n / p ^ i % p) m = n := by
  intro m
  suffices h : ∀ n, nval p (fun i => n / p ^ i % p) m = n % p ^ m from fun n hn => by rw [h, Nat.mod_eq_of_lt hn]
  induction m with
  | zero => intro n; rw [Nat.pow_zero, Nat.mod_one]; rfl
  | succ m ih =>
    intro n
    show nval p (fun i => n / p ^ i % p) m + n / p ^ m % p * p ^ m = n % p ^ (m+1)
    rw [ih, Nat.pow_succ, Nat.mod_mul, Nat.mul_comm (p ^ m)]

def rcode (u : R D) : Nat := nval D.p (fun i => (u.v i).val) D.m
def rel (D : Desc) (n : Nat) : R D := cut D fun i => zp D.p (n / D.p ^ i)
theorem rel_v {n i : Nat} (h : i < D.m) : (rel D n).v i = zp D.p (n / D.p ^ i) := cut_v h
theorem rcode_lt (u : R D) : rcode u < D.q := nval_lt fun _ _ => Zp.lt _
theorem rel_rcode (u : R D) : rel D (rcode u) = u := R.ext' fun i hi => by
  rw [rel_v hi]
  apply Zp.ext
  rw [zp_val]
  exact nval_digit (pos_of_ne D.p) (fun i _ => Zp.lt _) hi
theorem rcode_rel {n : Nat} (h : n < D.q) : rcode (rel D n) = n := by
  unfold rcode
  rw [nval_congr (g := fun i => n / D.p ^ i % D.p) fun i hi => by rw [rel_v hi, zp_val]]
  exact nval_digits (pos_of_ne D.p) _ _ h
theorem rcode_inj {u w : R D} (h : rcode u = rcode w) : u = w := by rw [← rel_rcode u, ← rel_rcode w, h]
theorem nval_zero (p m : Nat) : nval p (fun _ => 0) m = 0 := by
  induction m with
  | zero => rfl
  | succ m ih => show nval p (fun _ => 0) m + 0 * p ^ m = 0; rw [ih, Nat.zero_mul]
theorem rcode_zero : rcode (0 : R D) = 0 := by
  unfold rcode
  exact (nval_congr (g := fun _ => 0) fun i hi => Zp.zero_val).trans (nval_zero _ _)
theorem rel_zero : rel D 0 = 0 := by rw [← rcode_zero (D := D), rel_rcode]
theorem rel_one : rel D 1 = 1 := R.ext' fun i hi => by
  rw [rel_v hi, one_v hi]
  by_cases h : i = 0
  · rw [h, Nat.pow_zero, Nat.div_one, if_pos rfl]; rfl
  · rw [if_neg h, Nat.div_eq_of_lt (Nat.one_lt_pow h D.p2)]; rfl
theorem Desc.q2 (D : Desc) : 2 ≤ D.q := by
  have h := Nat.pow_le_pow_right (n := D.p) (by have := D.p2; omega) D.m1
  have := D.p2; rw [Nat.pow_one] at h; unfold Desc.q; omega
theorem rcode_one : rcode (1 : R D) = 1 := by rw [← rel_one, rcode_rel (by have := D.q2; omega)]
instance : DecidableEq (R D) := fun x y => if h : rcode x = rcode y then .isTrue (rcode_inj h) else .isFalse fun e => h (by rw [e])
end quo

end Cw
