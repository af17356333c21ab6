/- Plain law of layer 5: Newton's interpolation, step by step. No Go here. -/
import Derived.Test.YtpflgmbcmfllgaaZdGpoB
import Derived.Test.YtpflgmbcmfllgaaZdGpoC
namespace Go.Proofs.Ytpflgmbcmfllgaa
open Go.RowKit Cw
open Cw.CField (inv)

theorem pevI_cf (D : Desc) (l : List Int) (u : R D) {N : Nat} (hN : l.length ≤ N) : pevI D l u = rsum N fun i => cfR D l i * pw u i := by
  obtain ⟨d, rfl⟩ : ∃ d, N = l.length + d := ⟨N - l.length, by omega⟩
  unfold pevI
  rw [rsum_split, rsum_eq_zero (n := d) fun i _ => by rw [cfR_out D (by omega), zero_mul], add_zero]
  rfl
theorem pevI_comb (D : Desc) (p : List Int) (a : Int) (q : List Int) (u : R D) : pevI D (combL D p a q) u = pevI D p u + eli D a * pevI D q u := by
  have hle := combL_le D p a q
  rw [pevI_cf D _ u hle, pevI_cf D p u (Nat.le_max_left p.length q.length), pevI_cf D q u (Nat.le_max_right p.length q.length), ← rsum_mul_left, ← rsum_add, cfR_combL]
  exact rsum_congr fun i _ => by unfold combF; rw [add_mul, mul_a]
theorem prodL_le (D : Desc) (p q : List Int) : (prodL D p q).length ≤ p.length + q.length - 1 := by
  have h1 := canI_le D p
  have h2 := canI_le D q
  unfold prodL
  by_cases h : (canI D p).length = 0 ∨ (canI D q).length = 0
  · rw [if_pos h]; exact Nat.zero_le _
  · rw [if_neg h, lst_length]; omega
/-- A product with u - x. -/
theorem pevI_lin (D : Desc) (p : List Int) (x u : R D) : pevI D (prodL D p [ci (-x), 1]) u = pevI D p u * (u - x) := by
  have hle := prodL_le D p [ci (-x), 1]
  have hq : ∀ s, cfR D [ci (-x), 1] s = if s = 0 then -x else if s = 1 then 1 else 0 := fun s => by
    unfold cfR
    match s with
    | 0 => rw [if_pos rfl]; exact eli_ci _
    | 1 => rw [if_neg (by omega), if_pos rfl]; exact eli_one
    | s + 2 => rw [if_neg (by omega), if_neg (by omega)]; exact eli_zero
  have hconv : ∀ t, conv (cfR D p) (cfR D [ci (-x), 1]) t = (if t = 0 then 0 else cfR D p (t - 1)) + cfR D p t * -x := fun t => by
    unfold conv
    cases t with
    | zero => rw [rsum_succ, rsum_zero, Nat.sub_self, hq, if_pos rfl, if_pos rfl]
    | succ t =>
      rw [rsum_succ, rsum_succ, rsum_eq_zero (n := t) (fun s hs => by rw [hq, if_neg (by omega), if_neg (by omega), mul_zero]), zero_add, Nat.sub_self, hq 0, if_pos rfl, show t + 1 - t = 1 by omega, hq 1, if_neg (by omega), if_pos rfl, mul_one, if_neg (by omega)]
      rfl
  rw [pevI_cf D _ u (N := p.length + 1) (by simpa using hle), cfR_prodL, rsum_congr fun i _ => by rw [hconv i, add_mul]]
  rw [rsum_add, rsum_succ_left, if_pos rfl, zero_mul, zero_add, pevI_cf D p u (Nat.le_refl _), rsum_succ, cfR_out D (Nat.le_refl _), zero_mul, zero_mul, add_zero, sub_d, mul_add, ← rsum_mul_right, ← rsum_mul_right]
  congr 1
  · exact rsum_congr fun i _ => by rw [if_neg (by omega), Nat.add_sub_cancel, pw_succ, mul_a]
  · exact rsum_congr fun i _ => by rw [mul_a, mul_a, mul_c (-x)]
theorem elB_combL (D : Desc) (p : List Int) (a : Int) (q : List Int) : elB D (combL D p a q) = true := elB_iff.2 fun j hj => by
  unfold combL canL at *
  rw [lst_length] at hj
  rw [lst_get _ hj]
  exact ⟨ci_nonneg _, ci_lt _⟩
/-- The interpolation so far; the polynomial that is 0 at the points so far. -/
def LI (D : Desc) (X Yv : Nat → R D) (k : Nat) (l : List Int) : Prop := l.length ≤ k ∧ elB D l = true ∧ ∀ i, i < k → pevI D l (X i) = Yv i
def ZI (D : Desc) (X : Nat → R D) (k : Nat) (z : List Int) : Prop := z.length ≤ k + 1 ∧ ∀ u, pevI D z u = rprod k fun i => u - X i
theorem LI.zero (D : Desc) (X Yv : Nat → R D) : LI D X Yv 0 [] := ⟨Nat.le_refl _, elB_iff.2 fun _ hj => absurd hj (Nat.not_lt_zero _), fun _ hi => absurd hi (Nat.not_lt_zero _)⟩
theorem ZI.zero (D : Desc) (X : Nat → R D) : ZI D X 0 [1] := ⟨Nat.le_refl _, fun u => by
  rw [pevI_cf D [1] u (N := 1) (Nat.le_refl _), rsum_succ, rsum_zero, zero_add, rprod_zero]
  show eli D 1 * pw u 0 = 1
  rw [eli_one, one_mul]; rfl⟩
theorem ZI.step {D : Desc} {X : Nat → R D} {k : Nat} {z : List Int} (h : ZI D X k z) : ZI D X (k + 1) (prodL D z [ci (-(X k)), 1]) := ⟨by
  have h1 := prodL_le D z [ci (-(X k)), 1]
  have h2 := h.1
  simp at h1
  omega, fun u => by rw [pevI_lin, h.2, rprod_succ]⟩
theorem ZI.ne {F : FD} {X : Nat → R F.toDesc} {k : Nat} {z : List Int} (h : ZI F.toDesc X k z) (hd : ∀ i, i < k → X k ≠ X i) : pevI F.toDesc z (X k) ≠ 0 := by
  rw [h.2]
  exact rprod_ne_zero fun i hi e => hd i hi (sub_eq_zero e)
theorem LI.step {F : FD} {X Yv : Nat → R F.toDesc} {k : Nat} {l z : List Int} (h : LI F.toDesc X Yv k l) (hz : ZI F.toDesc X k z) (hd : ∀ i, i < k → X k ≠ X i) {a : Int} (ha : eli F.toDesc a = (Yv k - pevI F.toDesc l (X k)) * inv (pevI F.toDesc z (X k))) : LI F.toDesc X Yv (k + 1) (combL F.toDesc l a z) := by
  refine ⟨?_, elB_combL _ _ _ _, fun i hi => ?_⟩
  · have h1 := combL_le F.toDesc l a z
    have h2 := h.1
    have h3 := hz.1
    omega
  · rw [pevI_comb]
    by_cases e : i = k
    · rw [e, ha, mul_a, inv_mul (hz.ne hd), mul_one, sub_d, add_lc, add_neg, add_zero]
    · rw [hz.2 (X i), rprod_eq_zero (R := R F.toDesc) (f := fun t => X i - X t) (i := i) (by omega) (sub_self (X i)), mul_zero, add_zero]
      exact h.2.2 i (by omega)
end Go.Proofs.Ytpflgmbcmfllgaa
