/- Plain: numbers as lists of limbs; sums, differences, products and quotients limb by limb. No Go here. -/
import Derived.Test.YtemanlkgfhmclaaP1
namespace Cw
section limbs
def nB : Nat := 4294967296
theorem nB_eq : nB = 2 ^ 32 := by decide
theorem nB_gt : 1 < nB := by decide
theorem nB_pos : 0 < nB := by decide
attribute [irreducible] nB
theorem nBp_pos (i : Nat) : 0 < nB ^ i := Nat.pow_pos nB_pos
/-- The value of a list of limbs. -/
def nv : List Nat → Nat
  | [] => 0
  | x :: l => x + nB * nv l
def Lm (l : List Nat) : Prop := ∀ x ∈ l, x < nB
/-- The first N limbs of a number. -/
def dgs (N v : Nat) : List Nat := (List.range N).map fun t => v / nB ^ t % nB
theorem dgs_length (N v : Nat) : (dgs N v).length = N := by simp [dgs]
theorem dgs_get {N v t : Nat} (h : t < N) : (dgs N v)[t]?.getD 0 = v / nB ^ t % nB := by simp [dgs, h]
theorem dgs_lm (N v : Nat) : Lm (dgs N v) := fun x hx => by
  obtain ⟨t, _, rfl⟩ := List.mem_map.1 hx
  exact Nat.mod_lt _ nB_pos
theorem dgs_succ (N v : Nat) : dgs (N + 1) v = v % nB :: dgs N (v / nB) := by
  unfold dgs
  rw [List.range_succ_eq_map, List.map_cons, List.map_map, Nat.pow_zero, Nat.div_one]
  refine congrArg (List.cons (v % nB)) (List.map_congr_left fun t _ => ?_)
  rw [Function.comp_apply, Nat.succ_eq_add_one]
  rw [Nat.div_div_eq_div_mul, Nat.pow_succ, Nat.mul_comm (nB ^ t)]
theorem nv_lt {l : List Nat} (h : Lm l) : nv l < nB ^ l.length := by
  induction l with
  | nil => simp [nv]
  | cons x l ih =>
    have h1 := ih fun y hy => h y (List.mem_cons_of_mem _ hy)
    have h2 := h x List.mem_cons_self
    show x + nB * nv l < nB ^ (l.length + 1)
    rw [Nat.pow_succ, Nat.mul_comm (nB ^ l.length)]
    have := Nat.mul_le_mul_left nB (show nv l + 1 ≤ nB ^ l.length from h1)
    rw [Nat.mul_add] at this
    omega
/-- A list of limbs is that of its value. -/
theorem dgs_nv {l : List Nat} (h : Lm l) : dgs l.length (nv l) = l := by
  induction l with
  | nil => rfl
  | cons x l ih =>
    have h2 := h x List.mem_cons_self
    show dgs (l.length + 1) (x + nB * nv l) = x :: l
    rw [dgs_succ, Nat.add_mul_mod_self_left, Nat.mod_eq_of_lt h2, Nat.add_mul_div_left _ _ nB_pos, Nat.div_eq_of_lt h2, Nat.zero_add, ih fun y hy => h y (List.mem_cons_of_mem _ hy)]
theorem nv_get {l : List Nat} (h : Lm l) (t : Nat) : l[t]?.getD 0 = nv l / nB ^ t % nB := by
  by_cases ht : t < l.length
  · conv => lhs; rw [← dgs_nv h]
    exact dgs_get ht
  · rw [List.getElem?_eq_none (by omega)]
    rw [Nat.div_eq_of_lt (Nat.lt_of_lt_of_le (nv_lt h) (Nat.pow_le_pow_right nB_pos (by omega))), Nat.zero_mod]
    rfl
theorem nv_dgs {N v : Nat} (h : v < nB ^ N) : nv (dgs N v) = v := by
  induction N generalizing v with
  | zero => rw [Nat.pow_zero] at h; show 0 = v; omega
  | succ N ih =>
    rw [dgs_succ]
    show v % nB + nB * nv (dgs N (v / nB)) = v
    rw [ih (Nat.div_lt_of_lt_mul (by rw [Nat.pow_succ, Nat.mul_comm] at h; exact h))]
    exact Nat.mod_add_div v nB
/-- The number of limbs of a number; its canonical list. -/
def nlen (v : Nat) : Nat := if v = 0 then 0 else Nat.log2 v / 32 + 1
def nL (v : Nat) : List Nat := dgs (nlen v) v
theorem nL_length (v : Nat) : (nL v).length = nlen v := dgs_length _ _
theorem nB_pow (i : Nat) : nB ^ i = 2 ^ (32 * i) := by rw [Nat.pow_mul, nB_eq]
theorem nlen_spec (v : Nat) : v < nB ^ nlen v ∧ (nlen v = 0 ∨ nB ^ (nlen v - 1) ≤ v) := by
  unfold nlen
  by_cases h : v = 0
  · rw [if_pos h]; exact ⟨by simp [h], .inl rfl⟩
  · rw [if_neg h, nB_pow, nB_pow]
    constructor
    · exact Nat.lt_of_lt_of_le Nat.lt_log2_self (Nat.pow_le_pow_right (by omega) (by omega))
    · right
      exact Nat.le_trans (Nat.pow_le_pow_right (by omega) (by omega)) (Nat.log2_self_le h)
theorem nlen_uniq {v n : Nat} (h1 : v < nB ^ n) (h2 : n = 0 ∨ nB ^ (n - 1) ≤ v) : n = nlen v := by
  obtain ⟨g1, g2⟩ := nlen_spec v
  generalize nlen v = k at *
  have key : ∀ a b, v < nB ^ a → (b = 0 ∨ nB ^ (b - 1) ≤ v) → b ≤ a := fun a b h h' => by
    rcases h' with h' | h'
    · omega
    · have := Nat.lt_of_le_of_lt h' h
      have := (Nat.pow_lt_pow_iff_right nB_gt).1 this
      omega
  have := key n k h1 g2
  have := key k n g1 h2
  omega
theorem nv_nL (v : Nat) : nv (nL v) = v := nv_dgs (nlen_spec v).1
theorem nL_lm (v : Nat) : Lm (nL v) := dgs_lm _ _
theorem nL_inj {a b : Nat} (h : nL a = nL b) : a = b := by rw [← nv_nL a, ← nv_nL b, h]
/-- What is left without the zeros at the end. -/
theorem nL_take {l : List Nat} (hl : Lm l) {n : Nat} (hn : n ≤ l.length) (hz : ∀ j, n ≤ j → j < l.length → l[j]?.getD 0 = 0) (hs : n = 0 ∨ l[n - 1]?.getD 0 ≠ 0) : l.take n = nL (nv l) := by
  have h1 : ∀ d, d ≤ l.length - n → nv l < nB ^ (l.length - d) := by
    intro d
    induction d with
    | zero => intro _; exact nv_lt hl
    | succ d ih =>
      intro hd
      have h := ih (by omega)
      have hg := hz (l.length - (d + 1)) (by omega) (by omega)
      rw [nv_get hl] at hg
      have e : l.length - d = (l.length - (d + 1)) + 1 := by omega
      rw [e, Nat.pow_succ] at h
      have h2 : nv l / nB ^ (l.length - (d + 1)) < nB := Nat.div_lt_of_lt_mul h
      rw [Nat.mod_eq_of_lt h2] at hg
      exact (Nat.div_eq_zero_iff.1 hg).resolve_left (by have := nBp_pos (l.length - (d + 1)); omega)
  have h2 : nv l < nB ^ n := by
    have := h1 (l.length - n) (Nat.le_refl _)
    rwa [show l.length - (l.length - n) = n by omega] at this
  have h3 : n = nlen (nv l) := nlen_uniq h2 (by
    rcases hs with hs | hs
    · exact .inl hs
    · right
      rw [nv_get hl] at hs
      by_cases hlt : nv l < nB ^ (n - 1)
      · rw [Nat.div_eq_of_lt hlt, Nat.zero_mod] at hs; exact absurd rfl hs
      · omega)
  have h4 : l.take n = dgs n (nv l) := by
    refine List.ext_getElem? fun j => ?_
    by_cases hj : j < n
    · have h5 := nv_get hl j
      rw [List.getElem?_take_of_lt hj]
      have h6 : (dgs n (nv l))[j]? = some (nv l / nB ^ j % nB) := by simp [dgs, hj]
      rw [h6, ← h5, List.getElem?_eq_getElem (by omega)]
      rfl
    · rw [List.getElem?_eq_none (by rw [List.length_take]; omega), List.getElem?_eq_none (by rw [dgs_length]; omega)]
  rw [h4]
  unfold nL
  rw [← h3]
/-- Sums, limb by limb. -/
theorem mod_pow_succ (a i : Nat) : a % nB ^ (i + 1) = a % nB ^ i + nB ^ i * (a / nB ^ i % nB) := by rw [Nat.pow_succ, Nat.mod_mul]
def carA (a b i : Nat) : Nat := (a % nB ^ i + b % nB ^ i) / nB ^ i
theorem carA_zero (a b : Nat) : carA a b 0 = 0 := by simp [carA, Nat.mod_one]
theorem carA_succ (a b i : Nat) : carA a b (i + 1) = (a / nB ^ i % nB + b / nB ^ i % nB + carA a b i) / nB := by
  unfold carA
  rw [mod_pow_succ, mod_pow_succ, Nat.pow_succ, ← Nat.div_div_eq_div_mul]
  congr 1
  rw [show a % nB ^ i + nB ^ i * (a / nB ^ i % nB) + (b % nB ^ i + nB ^ i * (b / nB ^ i % nB)) = (a % nB ^ i + b % nB ^ i) + nB ^ i * (a / nB ^ i % nB + b / nB ^ i % nB) by rw [Nat.mul_add]; omega, Nat.add_mul_div_left _ _ (nBp_pos i)]
  omega
theorem carA_le (a b i : Nat) : carA a b i ≤ 1 := by
  unfold carA
  refine Nat.le_of_lt_succ ((Nat.div_lt_iff_lt_mul (nBp_pos i)).2 ?_)
  have := Nat.mod_lt a (nBp_pos i)
  have := Nat.mod_lt b (nBp_pos i)
  omega
theorem add_dig (a b i : Nat) : (a + b) / nB ^ i % nB = (a / nB ^ i % nB + b / nB ^ i % nB + carA a b i) % nB := by
  have h : (a + b) / nB ^ i = a / nB ^ i + b / nB ^ i + carA a b i := by
    have ha := Nat.div_add_mod a (nB ^ i)
    have hb := Nat.div_add_mod b (nB ^ i)
    unfold carA
    rw [show (a + b) = (a % nB ^ i + b % nB ^ i) + nB ^ i * (a / nB ^ i + b / nB ^ i) by rw [Nat.mul_add]; omega, Nat.add_mul_div_left _ _ (nBp_pos i)]
    omega
  rw [h, Nat.add_mod (a / nB ^ i % nB + b / nB ^ i % nB), ← Nat.add_mod (a / nB ^ i), ← Nat.add_mod]
/-- A list of N limbs whose first ones are those of v, the others 0; and whose last ones are those of v. -/
def upD (N v i : Nat) : List Nat := (List.range N).map fun t => if t < i then v / nB ^ t % nB else 0
def dnD (N v i : Nat) : List Nat := (List.range N).map fun t => if i ≤ t then v / nB ^ t % nB else 0
theorem mp_set {N k x : Nat} (f : Nat → Nat) : ((List.range N).map f).set k x = (List.range N).map fun t => if t = k then x else f t := by
  refine List.ext_getElem? fun j => ?_
  rw [List.getElem?_set]
  by_cases hj : j < N
  · by_cases e : k = j
    · subst e; simp [hj]
    · simp [hj, e, Ne.symm e]
  · by_cases e : k = j
    · subst e; simp [hj]
    · simp [hj, e]
theorem mp_congr {N : Nat} {f g : Nat → Nat} (h : ∀ t, t < N → f t = g t) : (List.range N).map f = (List.range N).map g := List.map_congr_left fun t ht => h t (List.mem_range.1 ht)
theorem mp_zero (N : Nat) : List.replicate N 0 = (List.range N).map fun _ => 0 := by
  refine List.ext_getElem? fun j => ?_
  by_cases hj : j < N <;> simp [hj]
theorem upD_zero (N v : Nat) : upD N v 0 = List.replicate N 0 := by
  rw [mp_zero]
  exact mp_congr fun t _ => if_neg (Nat.not_lt_zero _)
theorem upD_full (N v : Nat) : upD N v N = dgs N v := mp_congr fun t ht => if_pos ht
theorem upD_set (N v i : Nat) : (upD N v i).set i (v / nB ^ i % nB) = upD N v (i + 1) := by
  unfold upD
  rw [mp_set]
  refine mp_congr fun t _ => ?_
  by_cases e : t = i
  · rw [if_pos e, if_pos (by omega), e]
  · rw [if_neg e]
    by_cases h : t < i
    · rw [if_pos h, if_pos (by omega)]
    · rw [if_neg h, if_neg (by omega)]
theorem dnD_start {N v i : Nat} (h : N ≤ i) : dnD N v i = List.replicate N 0 := by
  rw [mp_zero]
  exact mp_congr fun t ht => if_neg (by omega)
theorem dnD_full (N v : Nat) : dnD N v 0 = dgs N v := mp_congr fun _ _ => if_pos (Nat.zero_le _)
theorem dnD_set (N v i : Nat) : (dnD N v (i + 1)).set i (v / nB ^ i % nB) = dnD N v i := by
  unfold dnD
  rw [mp_set]
  refine mp_congr fun t _ => ?_
  by_cases e : t = i
  · rw [if_pos e, if_pos (by omega), e]
  · rw [if_neg e]
    by_cases h : i ≤ t
    · rw [if_pos h, if_pos (by omega)]
    · rw [if_neg h, if_neg (by omega)]
/-- Differences, limb by limb. -/
def borA (a b i : Nat) : Nat := if a % nB ^ i < b % nB ^ i then 1 else 0
theorem borA_zero (a b : Nat) : borA a b 0 = 0 := by unfold borA; rw [Nat.pow_zero, Nat.mod_one, Nat.mod_one]; rfl
theorem borA_le (a b i : Nat) : borA a b i ≤ 1 := by unfold borA; split <;> omega
theorem mul_gap {P x y : Nat} (h : x < y) : P * x + P ≤ P * y := by
  have := Nat.mul_le_mul_left P (show x + 1 ≤ y from h)
  rw [Nat.mul_add] at this
  omega
theorem borA_succ (a b i : Nat) : borA a b (i + 1) = if a / nB ^ i % nB < b / nB ^ i % nB + borA a b i then 1 else 0 := by
  have ha := Nat.mod_lt a (nBp_pos i)
  have hb := Nat.mod_lt b (nBp_pos i)
  unfold borA
  rw [mod_pow_succ, mod_pow_succ]
  generalize a / nB ^ i % nB = x
  generalize b / nB ^ i % nB = y
  generalize a % nB ^ i = α at *
  generalize b % nB ^ i = β at *
  generalize nB ^ i = P at *
  rcases Nat.lt_trichotomy x y with h | rfl | h
  · have := mul_gap (P := P) h
    rw [if_pos (by omega), if_pos (by omega)]
  · by_cases e : α < β
    · rw [if_pos e, if_pos (by omega), if_pos (by omega)]
    · rw [if_neg e, if_neg (by omega), if_neg (by omega)]
  · have := mul_gap (P := P) h
    rw [if_neg (by omega), if_neg]
    split <;> omega
theorem sub_dig {a b : Nat} (h : b ≤ a) (i : Nat) : (a - b) / nB ^ i % nB = if a / nB ^ i % nB < b / nB ^ i % nB + borA a b i then a / nB ^ i % nB + nB - (b / nB ^ i % nB + borA a b i) else a / nB ^ i % nB - (b / nB ^ i % nB + borA a b i) := by
  have ha := Nat.mod_lt a (nBp_pos i)
  have hb := Nat.mod_lt b (nBp_pos i)
  have da := Nat.div_add_mod a (nB ^ i)
  have db := Nat.div_add_mod b (nB ^ i)
  have hbo := borA_le a b i
  have hB := nB_gt
  have h1 : b / nB ^ i + borA a b i ≤ a / nB ^ i := by
    unfold borA
    have h0 := Nat.div_le_div_right (c := nB ^ i) h
    generalize a / nB ^ i = A at *
    generalize b / nB ^ i = C at *
    rcases Nat.lt_or_ge C A with h2 | h2
    · split <;> omega
    · obtain rfl : A = C := by omega
      rw [if_neg (by omega)]
      omega
  have h2 : (a - b) / nB ^ i = a / nB ^ i - (b / nB ^ i + borA a b i) := by
    have hbd : borA a b i = if a % nB ^ i < b % nB ^ i then 1 else 0 := rfl
    generalize borA a b i = bo at *
    generalize a % nB ^ i = α at *
    generalize b % nB ^ i = β at *
    generalize a / nB ^ i = A at *
    generalize b / nB ^ i = C at *
    generalize nB ^ i = P at *
    have h3 := Nat.mul_le_mul_left P h1
    rw [Nat.mul_add] at h3
    have h4 : P * bo = if α < β then P else 0 := by
      rw [hbd]
      split
      · rw [Nat.mul_one]
      · rw [Nat.mul_zero]
    have h5 : P * (A - (C + bo)) = P * A - (P * C + P * bo) := by rw [Nat.mul_sub, Nat.mul_add]
    refine Nat.div_eq_of_lt_le ?_ ?_
    · rw [Nat.mul_comm, h5, h4]
      rw [h4] at h3
      split
      · omega
      · omega
    · rw [Nat.succ_mul, Nat.mul_comm, h5, h4]
      rw [h4] at h3
      by_cases hc : α < β
      · rw [if_pos hc] at h3 ⊢; omega
      · rw [if_neg hc] at h3 ⊢; omega
  rw [h2]
  generalize borA a b i = bo at *
  generalize a / nB ^ i = A at *
  generalize b / nB ^ i = C at *
  clear h2 da db ha hb h
  have mA := Nat.mod_lt A nB_pos
  have mC := Nat.mod_lt C nB_pos
  have dA := Nat.div_add_mod A nB
  have dC := Nat.div_add_mod C nB
  generalize A % nB = x at *
  generalize C % nB = y at *
  generalize A / nB = X at *
  generalize C / nB = Y at *
  by_cases hc : x < y + bo
  · rw [if_pos hc]
    have hXY : Y < X := by
      rcases Nat.lt_or_ge Y X with h | h
      · exact h
      · have := Nat.mul_le_mul_left nB h
        omega
    have hg := mul_gap (P := nB) hXY
    have e : A - (C + bo) = (x + nB - (y + bo)) + nB * (X - Y - 1) := by
      rw [Nat.mul_sub, Nat.mul_sub, Nat.mul_one]
      omega
    rw [e, Nat.add_mul_mod_self_left, Nat.mod_eq_of_lt (by omega)]
  · rw [if_neg hc]
    have hXY : Y ≤ X := by
      rcases Nat.lt_or_ge X Y with h | h
      · have := mul_gap (P := nB) h
        omega
      · exact h
    have hg := Nat.mul_le_mul_left nB hXY
    have e : A - (C + bo) = (x - (y + bo)) + nB * (X - Y) := by
      rw [Nat.mul_sub]
      omega
    rw [e, Nat.add_mul_mod_self_left, Nat.mod_eq_of_lt (by omega)]
/-- Products, limb by limb: x times b is added to U from limb i on; j limbs of b are done. -/
def mS (U x b i j : Nat) : Nat := U % nB ^ (i + j) + x * nB ^ i * (b % nB ^ j)
def mL (N U x b i j : Nat) : List Nat := (List.range N).map fun t => if t < i + j then mS U x b i j / nB ^ t % nB else U / nB ^ t % nB
theorem mS_succ (U x b i j : Nat) : mS U x b i (j + 1) = mS U x b i j + nB ^ (i + j) * (U / nB ^ (i + j) % nB + x * (b / nB ^ j % nB)) := by
  unfold mS
  rw [← Nat.add_assoc, mod_pow_succ, mod_pow_succ, Nat.mul_add (x * nB ^ i), Nat.mul_add (nB ^ (i + j)), ← Nat.mul_assoc (x * nB ^ i), ← Nat.mul_assoc (nB ^ (i + j)) x, Nat.mul_comm (nB ^ (i + j)) x, Nat.pow_add, ← Nat.mul_assoc x]
  omega
theorem mS_car (U x b i j : Nat) : mS U x b i (j + 1) / nB ^ (i + (j + 1)) = (x * (b / nB ^ j % nB) + U / nB ^ (i + j) % nB + mS U x b i j / nB ^ (i + j)) / nB := by
  rw [mS_succ, ← Nat.add_assoc, Nat.pow_succ, ← Nat.div_div_eq_div_mul, Nat.add_mul_div_left _ _ (nBp_pos _)]
  congr 1
  omega
theorem mL_zero (N U x b i : Nat) : mL N U x b i 0 = dgs N U := mp_congr fun t _ => by
  by_cases h : t < i + 0
  · rw [if_pos h]
    unfold mS
    rw [Nat.pow_zero, Nat.mod_one, Nat.mul_zero, Nat.add_zero, Nat.add_zero]
    rw [show i = t + (i - t - 1 + 1) by omega, Nat.pow_add, Nat.mod_mul_right_div_self, Nat.pow_succ, Nat.mul_comm (nB ^ (i - t - 1)), Nat.mod_mul_right_mod]
  · rw [if_neg h]
theorem low_add {S Y k t : Nat} (h : t < k) : (S + nB ^ k * Y) / nB ^ t % nB = S / nB ^ t % nB := by
  have e : nB ^ k * Y = nB ^ t * (nB * (nB ^ (k - t - 1) * Y)) := by
    rw [show k = t + ((k - t - 1) + 1) by omega, Nat.pow_add, Nat.pow_succ]
    rw [show t + (k - t - 1 + 1) - t - 1 = k - t - 1 by omega, Nat.mul_comm (nB ^ (k - t - 1)), Nat.mul_assoc, Nat.mul_assoc]
  rw [e, Nat.add_mul_div_left _ _ (nBp_pos t), Nat.add_mul_mod_self_left]
theorem mL_set (N U x b i j : Nat) : (mL N U x b i j).set (i + j) ((x * (b / nB ^ j % nB) + U / nB ^ (i + j) % nB + mS U x b i j / nB ^ (i + j)) % nB) = mL N U x b i (j + 1) := by
  unfold mL
  rw [mp_set]
  refine mp_congr fun t _ => ?_
  by_cases e : t = i + j
  · rw [if_pos e, if_pos (by omega), e, mS_succ, Nat.add_mul_div_left _ _ (nBp_pos _)]
    congr 1
    omega
  · rw [if_neg e]
    by_cases h : t < i + j
    · rw [if_pos h, if_pos (by omega), mS_succ, low_add h]
    · rw [if_neg h, if_neg (by omega)]
theorem mL_get {N U x b i j : Nat} (h : i + j < N) : (mL N U x b i j)[i + j]?.getD 0 = U / nB ^ (i + j) % nB := by
  unfold mL
  simp [h]
/-- The last limb of a round. -/
theorem mL_end {N a b i k : Nat} (hb : b < nB ^ k) :
    (mL N (a % nB ^ i * b) (a / nB ^ i % nB) b i k).set (i + k) (mS (a % nB ^ i * b) (a / nB ^ i % nB) b i k / nB ^ (i + k)) = dgs N (a % nB ^ (i + 1) * b) ∧ mS (a % nB ^ i * b) (a / nB ^ i % nB) b i k / nB ^ (i + k) < nB := by
  have hP := nBp_pos i
  have hU : a % nB ^ i * b < nB ^ (i + k) := by
    rw [Nat.pow_add]
    exact Nat.lt_of_le_of_lt (Nat.mul_le_mul_left _ (Nat.le_of_lt hb)) (Nat.mul_lt_mul_of_pos_right (Nat.mod_lt _ hP) (nBp_pos k))
  have hS : mS (a % nB ^ i * b) (a / nB ^ i % nB) b i k = a % nB ^ (i + 1) * b := by
    unfold mS
    rw [Nat.mod_eq_of_lt hU, Nat.mod_eq_of_lt hb, mod_pow_succ, Nat.add_mul, Nat.mul_comm (nB ^ i)]
  have hlt : a % nB ^ (i + 1) * b < nB ^ (i + k) * nB := by
    rw [show nB ^ (i + k) * nB = nB ^ (i + 1) * nB ^ k by rw [← Nat.pow_succ, ← Nat.pow_add]; congr 1; omega]
    exact Nat.lt_of_le_of_lt (Nat.mul_le_mul_left _ (Nat.le_of_lt hb)) (Nat.mul_lt_mul_of_pos_right (Nat.mod_lt _ (nBp_pos _)) (nBp_pos k))
  have hq : mS (a % nB ^ i * b) (a / nB ^ i % nB) b i k / nB ^ (i + k) < nB := by
    rw [hS]
    exact Nat.div_lt_of_lt_mul hlt
  refine ⟨?_, hq⟩
  unfold mL
  rw [mp_set]
  refine mp_congr fun t _ => ?_
  by_cases e : t = i + k
  · rw [if_pos e, e, ← hS, Nat.mod_eq_of_lt hq]
  · rw [if_neg e]
    by_cases h : t < i + k
    · rw [if_pos h, hS]
    · rw [if_neg h]
      have h1 : nB ^ (i + k + 1) ≤ nB ^ t := Nat.pow_le_pow_right nB_pos (by omega)
      rw [Nat.pow_succ] at h1
      have h2 : nB ^ (i + k) ≤ nB ^ (i + k) * nB := Nat.le_mul_of_pos_right _ nB_pos
      rw [Nat.div_eq_of_lt (by omega), Nat.div_eq_of_lt (by omega)]
/-- Division by one limb, from the top. -/
theorem div_dig {a b : Nat} (hb : 0 < b) (i : Nat) : a / b / nB ^ i % nB = (a / nB ^ (i + 1) % b * nB + a / nB ^ i % nB) / b ∧ a / nB ^ i % b = (a / nB ^ (i + 1) % b * nB + a / nB ^ i % nB) % b := by
  have e1 : a / b / nB ^ i = a / nB ^ i / b := by rw [Nat.div_div_eq_div_mul, Nat.div_div_eq_div_mul, Nat.mul_comm]
  have e2 : a / nB ^ (i + 1) = a / nB ^ i / nB := by rw [Nat.pow_succ, Nat.div_div_eq_div_mul]
  rw [e1, e2]
  generalize a / nB ^ i = A
  have h1 := Nat.div_add_mod A nB
  have h2 := Nat.div_add_mod (A / nB) b
  have h3 := Nat.mod_lt A nB_pos
  have h4 := Nat.mod_lt (A / nB) hb
  generalize hr : A / nB % b = r at *
  generalize A / nB / b = Q at *
  have e3 : A = (r * nB + A % nB) + b * (nB * Q) := by
    have : nB * (b * Q + r) = b * (nB * Q) + r * nB := by rw [Nat.mul_add, Nat.mul_comm nB r, Nat.mul_left_comm]
    rw [h2] at this
    omega
  generalize A % nB = x at *
  have h5 : (r * nB + x) / b < nB := by
    refine Nat.div_lt_of_lt_mul ?_
    have := Nat.mul_le_mul_right nB (show r + 1 ≤ b from h4)
    rw [Nat.add_mul] at this
    omega
  constructor
  · rw [e3, Nat.add_mul_div_left _ _ hb, Nat.add_mul_mod_self_left, Nat.mod_eq_of_lt h5]
  · rw [e3, Nat.add_mul_mod_self_left]
end limbs
end Cw
