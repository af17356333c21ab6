/- Plain: interleaved rows, product rows, bursts. No Go here. -/
import Derived.Test.YtpflgmbcmfllgaaZfLA
namespace Cw
section cmb
variable {F : Type} [CField F]
open CField (inv)
theorem divmod_mul {b x y : Nat} (hy : y < b) : (b * x + y) / b = x ∧ (b * x + y) % b = y := by
  constructor
  · rw [Nat.mul_add_div (by omega), Nat.div_eq_of_lt hy, Nat.add_zero]
  · rw [Nat.mul_add_mod, Nat.mod_eq_of_lt hy]
theorem idx_lt {a b x y : Nat} (hx : x < a) (hy : y < b) : b * x + y < a * b := by
  have h : b * x + b ≤ a * b := by
    have := Nat.mul_le_mul_left b (show x + 1 ≤ a from hx)
    rw [Nat.mul_add, Nat.mul_one, Nat.mul_comm b a] at this
    exact this
  omega
/-- The rows of a product code. -/
def prodR (K n : Nat) (A B : Nat → Nat → F) : Nat → Nat → F := fun t c => A (t / K) (c / n) * B (t % K) (c % n)
theorem prodR_at {K n i j x y : Nat} {A B : Nat → Nat → F} (hj : j < K) (hy : y < n) : prodR K n A B (K * i + j) (n * x + y) = A i x * B j y := by
  unfold prodR
  rw [(divmod_mul hj).1, (divmod_mul hj).2, (divmod_mul hy).1, (divmod_mul hy).2]
theorem prod_in {K1 K2 n1 n2 : Nat} {A B : Nat → Nat → F} {w : Nat → F} (h : Span (K1 * K2) (n1 * n2) (prodR K2 n2 A B) w) :
    (∀ y, y < n2 → Span K1 n1 A (fun x => w (n2 * x + y))) ∧ (∀ x, x < n1 → Span K2 n2 B (fun y => w (n2 * x + y))) := by
  obtain ⟨c, hc⟩ := h
  have key : ∀ x y, x < n1 → y < n2 → w (n2 * x + y) = rsum K1 (fun i => rsum K2 (fun j => c (K2 * i + j) * (A i x * B j y))) := fun x y hx hy => by
    rw [hc _ (idx_lt hx hy), Nat.mul_comm K1 K2, rsum_mulk K2 K1]
    exact rsum_congr fun i hi => rsum_congr fun j hj => by rw [prodR_at hj hy]
  constructor
  · intro y hy
    refine ⟨fun i => rsum K2 fun j => c (K2 * i + j) * B j y, fun x hx => ?_⟩
    dsimp only
    rw [key x y hx hy]
    refine rsum_congr fun i hi => ?_
    rw [← rsum_mul_right]
    exact rsum_congr fun j hj => by rw [mul_c (A i x), mul_a]
  · intro x hx
    refine ⟨fun j => rsum K1 fun i => c (K2 * i + j) * A i x, fun y hy => ?_⟩
    dsimp only
    rw [key x y hx hy, rsum_swap]
    refine rsum_congr fun j hj => ?_
    rw [← rsum_mul_right]
    exact rsum_congr fun i hi => by rw [mul_a]
theorem prod_of {K1 K2 n1 n2 : Nat} {A B : Nat → Nat → F} {p q : Nat → Nat} (hA : RR n1 K1 p A) (hB : RR n2 K2 q B) {w : Nat → F}
    (h1 : ∀ y, y < n2 → Span K1 n1 A (fun x => w (n2 * x + y))) (h2 : ∀ x, x < n1 → Span K2 n2 B (fun y => w (n2 * x + y))) :
    Span (K1 * K2) (n1 * n2) (prodR K2 n2 A B) w := by
  have e2 : ∀ x y, x < n1 → y < n2 → w (n2 * x + y) = rsum K2 (fun j => w (n2 * x + q j) * B j y) := fun x y hx hy => by
    obtain ⟨c, hc⟩ := h2 x hx
    have h := hc y hy
    dsimp only at h
    rw [h]
    exact rsum_congr fun j hj => by rw [hB.coef hc hj]
  have e1 : ∀ x y, x < n1 → y < n2 → w (n2 * x + y) = rsum K1 (fun i => w (n2 * p i + y) * A i x) := fun x y hx hy => by
    obtain ⟨c, hc⟩ := h1 y hy
    have h := hc x hx
    dsimp only at h
    rw [h]
    exact rsum_congr fun i hi => by rw [hA.coef hc hi]
  refine ⟨fun t => w (n2 * p (t / K2) + q (t % K2)), fun c hc => ?_⟩
  have hn : 0 < n2 := by rcases Nat.eq_zero_or_pos n2 with h | h; · rw [h, Nat.mul_zero] at hc; omega
                         · exact h
  have hx : c / n2 < n1 := Nat.div_lt_of_lt_mul (by rw [Nat.mul_comm]; exact hc)
  have hy : c % n2 < n2 := Nat.mod_lt _ hn
  have ec : n2 * (c / n2) + c % n2 = c := Nat.div_add_mod c n2
  rw [← ec]
  dsimp only
  rw [e2 _ _ hx hy, Nat.mul_comm K1 K2, rsum_mulk K2 K1, rsum_swap]
  refine rsum_congr fun j hj => ?_
  rw [e1 _ _ hx (hB.lt j hj), ← rsum_mul_right]
  refine rsum_congr fun i hi => ?_
  rw [prodR_at hj hy, (divmod_mul hj).1, (divmod_mul hj).2, mul_a]
end cmb
section burst
variable {F : Type} [CField F] [DecidableEq F]
end burst
end Cw
