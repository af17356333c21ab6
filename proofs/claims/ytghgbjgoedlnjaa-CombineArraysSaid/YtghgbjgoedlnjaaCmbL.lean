/- Plain: interleaved rows, product rows, bursts. No Go here. -/
import Derived.Test.YtghgbjgoedlnjaaLA
namespace Cw
section cmb
variable {F : Type} [CField F]
open CField (inv)
/-- The word u at the positions k, s + k, 2 s + k .. -/
def iv (s k : Nat) (u : Nat → F) : Nat → F := fun t => if t % s = k then u (t / s) else 0
/-- The rows of an interleaved code, row after row; and place after place. -/
def ivP (s : Nat) (M : Nat → Nat → F) : Nat → Nat → F := fun t => iv s (t % s) (M (t / s))
def ivR (s K : Nat) (M : Nat → Nat → F) : Nat → Nat → F := fun t => iv s (t / K) (M (t % K))
theorem divmod_mul {b x y : Nat} (hy : y < b) : (b * x + y) / b = x ∧ (b * x + y) % b = y := by
  constructor
  · rw [Nat.mul_add_div (by omega), Nat.div_eq_of_lt hy, Nat.add_zero]
  · rw [Nat.mul_add_mod, Nat.mod_eq_of_lt hy]
theorem idx_lt {a b x y : Nat} (hx : x < a) (hy : y < b) : b * x + y < a * b := by
  have h : b * x + b ≤ a * b := by
    have := Nat.mul_le_mul_left b (show x + 1 ≤ a from hx)
    rw [Nat.mul_add, Nat.mul_one, Nat.mul_comm b a] at this
    exact this
  omega
theorem iv_same (K s N : Nat) (M : Nat → Nat → F) : SameSpan (K * s) (s * K) N (ivP s M) (ivR s K M) := by
  constructor
  · intro t ht
    have hs : 0 < s := by rcases Nat.eq_zero_or_pos s with h | h; · rw [h, Nat.mul_zero] at ht; omega
                          · exact h
    have h1 : t / s < K := Nat.div_lt_of_lt_mul (by rw [Nat.mul_comm]; exact ht)
    have h2 : t % s < s := Nat.mod_lt _ hs
    have e : ivR s K M (K * (t % s) + t / s) = ivP s M t := by
      unfold ivR ivP
      rw [(divmod_mul h1).1, (divmod_mul h1).2]
    rw [← e]
    exact Span.row _ (idx_lt h2 h1)
  · intro t ht
    have hK : 0 < K := by rcases Nat.eq_zero_or_pos K with h | h; · rw [h, Nat.mul_zero] at ht; omega
                          · exact h
    have h1 : t / K < s := Nat.div_lt_of_lt_mul (by rw [Nat.mul_comm]; exact ht)
    have h2 : t % K < K := Nat.mod_lt _ hK
    have e : ivP s M (s * (t % K) + t / K) = ivR s K M t := by
      unfold ivR ivP
      rw [(divmod_mul h1).1, (divmod_mul h1).2]
    rw [← e]
    exact Span.row _ (idx_lt h2 h1)
/-- The parts of an interleaved word are words. -/
theorem iv_part {K s n : Nat} {M : Nat → Nat → F} {w : Nat → F} (hw : Span (K * s) (n * s) (ivP s M) w) {k : Nat} (hk : k < s) : Span K n M (fun j => w (s * j + k)) := by
  obtain ⟨c, hc⟩ := hw
  refine ⟨fun i => c (s * i + k), fun j hj => ?_⟩
  dsimp only
  rw [hc _ (idx_lt hj hk), Nat.mul_comm K s, rsum_mulk s K]
  refine rsum_congr fun i hi => ?_
  rw [rsum_single (k := k) hk fun x hx hne => by
    unfold ivP iv
    rw [(divmod_mul hx).2, (divmod_mul hk).2, if_neg (Ne.symm hne), mul_zero]]
  unfold ivP iv
  rw [(divmod_mul hk).1, (divmod_mul hk).2, (divmod_mul hk).2, (divmod_mul hk).1, if_pos rfl]
/-- The rows of a product code. -/
def prodR (K n : Nat) (A B : Nat → Nat → F) : Nat → Nat → F := fun t c => A (t / K) (c / n) * B (t % K) (c % n)
theorem prodR_at {K n i j x y : Nat} {A B : Nat → Nat → F} (hj : j < K) (hy : y < n) : prodR K n A B (K * i + j) (n * x + y) = A i x * B j y := by
  unfold prodR
  rw [(divmod_mul hj).1, (divmod_mul hj).2, (divmod_mul hy).1, (divmod_mul hy).2]
theorem prod_in {K1 K2 n1 n2 : Nat} {A B : Nat → Nat → F} {w : Nat → F} (h : Span (K1 * K2) (n1 * n2) (prodR K2 n2 A B) w) :
    (∀ y, y < n2 → Span K1 n1 A (fun x => w (n2 * x + y))) ∧ (∀ x, x < n1 → Span K2 n2 B (fun y => w (n2 * x + y))) := by
  obtain ⟨c, hc⟩ := h
  have key : ∀ x y, x < n1 → y < n2 → w (n2 * x + y) = rsum K1 (fun i => rsum K2 (fun j => c (K2 * i + j) * (A i x * B j y))) := fun x y hx hy => by
    rw [hc _ (idx_lt hx hy), Nat.mul_comm K1 K2, rsum_mulk K2 K1]
    exact rsum_congr fun i hi => rsum_congr fun j hj => by rw [prodR_at hj hy]
  constructor
  · intro y hy
    refine ⟨fun i => rsum K2 fun j => c (K2 * i + j) * B j y, fun x hx => ?_⟩
    dsimp only
    rw [key x y hx hy]
    refine rsum_congr fun i hi => ?_
    rw [← rsum_mul_right]
    exact rsum_congr fun j hj => by rw [mul_c (A i x), mul_a]
  · intro x hx
    refine ⟨fun j => rsum K1 fun i => c (K2 * i + j) * A i x, fun y hy => ?_⟩
    dsimp only
    rw [key x y hx hy, rsum_swap]
    refine rsum_congr fun j hj => ?_
    rw [← rsum_mul_right]
    exact rsum_congr fun i hi => by rw [mul_a]
theorem prod_of {K1 K2 n1 n2 : Nat} {A B : Nat → Nat → F} {p q : Nat → Nat} (hA : RR n1 K1 p A) (hB : RR n2 K2 q B) {w : Nat → F}
    (h1 : ∀ y, y < n2 → Span K1 n1 A (fun x => w (n2 * x + y))) (h2 : ∀ x, x < n1 → Span K2 n2 B (fun y => w (n2 * x + y))) :
    Span (K1 * K2) (n1 * n2) (prodR K2 n2 A B) w := by
  have e2 : ∀ x y, x < n1 → y < n2 → w (n2 * x + y) = rsum K2 (fun j => w (n2 * x + q j) * B j y) := fun x y hx hy => by
    obtain ⟨c, hc⟩ := h2 x hx
    have h := hc y hy
    dsimp only at h
    rw [h]
    exact rsum_congr fun j hj => by rw [hB.coef hc hj]
  have e1 : ∀ x y, x < n1 → y < n2 → w (n2 * x + y) = rsum K1 (fun i => w (n2 * p i + y) * A i x) := fun x y hx hy => by
    obtain ⟨c, hc⟩ := h1 y hy
    have h := hc x hx
    dsimp only at h
    rw [h]
    exact rsum_congr fun i hi => by rw [hA.coef hc hi]
  refine ⟨fun t => w (n2 * p (t / K2) + q (t % K2)), fun c hc => ?_⟩
  have hn : 0 < n2 := by rcases Nat.eq_zero_or_pos n2 with h | h; · rw [h, Nat.mul_zero] at hc; omega
                         · exact h
  have hx : c / n2 < n1 := Nat.div_lt_of_lt_mul (by rw [Nat.mul_comm]; exact hc)
  have hy : c % n2 < n2 := Nat.mod_lt _ hn
  have ec : n2 * (c / n2) + c % n2 = c := Nat.div_add_mod c n2
  rw [← ec]
  dsimp only
  rw [e2 _ _ hx hy, Nat.mul_comm K1 K2, rsum_mulk K2 K1, rsum_swap]
  refine rsum_congr fun j hj => ?_
  rw [e1 _ _ hx (hB.lt j hj), ← rsum_mul_right]
  refine rsum_congr fun i hi => ?_
  rw [prodR_at hj hy, (divmod_mul hj).1, (divmod_mul hj).2, mul_a]
end cmb
/-- How many of the first n have the property. -/
def cn (P : Nat → Bool) (n : Nat) : Nat := ((List.range n).filter P).length
theorem cn_succ (P : Nat → Bool) (n : Nat) : cn P (n + 1) = cn P n + if P n = true then 1 else 0 := by
  unfold cn
  rw [List.range_succ, List.filter_append, List.length_append]
  congr 1
  by_cases h : P n = true
  · rw [if_pos h, List.filter_cons_of_pos h]; rfl
  · rw [if_neg h, List.filter_cons_of_neg h]; rfl
/-- Those that have it lie in a range at least as long as they are many. -/
theorem cn_spread {P : Nat → Bool} {a b : Nat} : ∀ n, (∀ j, j < n → P j = true → a ≤ j ∧ j ≤ b) → cn P n ≤ min n (b + 1) - a
  | 0, _ => by simp [cn]
  | n + 1, h => by
    have ih := cn_spread n fun j hj => h j (Nat.lt_succ_of_lt hj)
    rw [cn_succ]
    by_cases e : P n = true
    · have := h n (Nat.lt_succ_self n) e
      rw [if_pos e]
      omega
    · rw [if_neg e]
      omega
section burst
variable {F : Type} [CField F] [DecidableEq F]
/-- No burst: the nonzero entries of an interleaved word are far apart. -/
theorem iv_spread {K n s : Nat} {M : Nat → Nat → F} {w : Nat → F} (hw : Span (K * s) (n * s) (ivP s M) w) {d : Nat}
    (hd : ∀ v, Span K n M v → (∃ j, j < n ∧ v j ≠ 0) → d ≤ cn (fun j => decide (v j ≠ 0)) n) {p a b : Nat} (hp : p < n * s) (hne : w p ≠ 0)
    (hab : ∀ i, i < n * s → w i ≠ 0 → a ≤ i ∧ i ≤ b) : s * (d - 1) < b + 1 - a := by
  have hs : 0 < s := by rcases Nat.eq_zero_or_pos s with h | h; · rw [h, Nat.mul_zero] at hp; omega
                        · exact h
  have hk : p % s < s := Nat.mod_lt _ hs
  have hj : p / s < n := Nat.div_lt_of_lt_mul (by rw [Nat.mul_comm]; exact hp)
  have ep : s * (p / s) + p % s = p := Nat.div_add_mod p s
  have hv := iv_part hw hk
  have h1 := hd _ hv ⟨p / s, hj, by rw [ep]; exact hne⟩
  have hne2 : ∃ j, j < n ∧ w (s * j + p % s) ≠ 0 := ⟨p / s, hj, by rw [ep]; exact hne⟩
  generalize hkk : p % s = k at *
  -- the first and the last
  have h2 := cn_spread (P := fun j => decide (w (s * j + k) ≠ 0)) (a := (a + (s - 1 - k)) / s) (b := (b - k) / s) n fun j hj hh => by
    have hh := of_decide_eq_true hh
    have := hab _ (idx_lt hj hk) hh
    constructor
    · refine Nat.le_of_lt_succ ((Nat.div_lt_iff_lt_mul hs).2 ?_)
      have e : (j + 1) * s = s * j + s := by rw [Nat.add_mul, Nat.one_mul, Nat.mul_comm]
      rw [Nat.succ_eq_add_one, e]
      omega
    · refine (Nat.le_div_iff_mul_le hs).2 ?_
      rw [Nat.mul_comm]
      omega
  have hkb : k ≤ b := by
    obtain ⟨j, hj, hh⟩ := hne2
    have := (hab _ (idx_lt hj hk) hh).2
    omega
  have hab2 : a ≤ b := by
    obtain ⟨j, hj, hh⟩ := hne2
    have := hab _ (idx_lt hj hk) hh
    omega
  have h3 : d ≤ (b - k) / s + 1 - (a + (s - 1 - k)) / s := by omega
  have h4 : s * ((b - k) / s) ≤ b - k := Nat.mul_div_le _ _
  have h5 : a + (s - 1 - k) < s * ((a + (s - 1 - k)) / s) + s := by
    have := Nat.div_add_mod (a + (s - 1 - k)) s
    have := Nat.mod_lt (a + (s - 1 - k)) hs
    omega
  generalize (b - k) / s = y at *
  generalize (a + (s - 1 - k)) / s = x at *
  have h6 : s * (d - 1) ≤ s * (y - x) := Nat.mul_le_mul_left s (by omega)
  have h7 : s * (y - x) = s * y - s * x := Nat.mul_sub s y x
  rw [h7] at h6
  omega
end burst
end Cw
