/- Layer 5 of the program: combine. The reference's polynomials: Mul. Layer 5 of the program: product. Plain law of layer 5: Newton's interpolation, step by step. No Go here. Plain law of layer 5: At, Add, Scale, Sub, Power over lists; the step of a division. No Go here. -/
import Derived.IntWalk
import Derived.Test.YtakonlfojblcmaaZaGpoA
import Derived.Test.YtakonlfojblcmaaZaPoR
namespace Go.Proofs.Ytakonlfojblcmaa
open Go.RowKit Cw
attribute [local go_sem] Oper.semAt_some

/-- The coefficients of p + a q. -/
def combF (D : Desc) (p : List Int) (a : Int) (q : List Int) : Nat → R D := fun i => cfR D p i + eli D a * cfR D q i
def combL (D : Desc) (p : List Int) (a : Int) (q : List Int) : List Int := canL (fun i => ci (combF D p a q i)) (max p.length q.length)
theorem cfR_combL (D : Desc) (p : List Int) (a : Int) (q : List Int) : cfR D (combL D p a q) = combF D p a q :=
  cfR_can _ _ fun i h => by unfold combF; rw [cfR_out D (by omega), cfR_out D (by omega), mul_zero, add_zero]
theorem combL_le (D : Desc) (p : List Int) (a : Int) (q : List Int) : (combL D p a q).length ≤ max p.length q.length := by unfold combL; rw [canL_length]; exact cdeg_le _ _
theorem mix_lst {n k : Nat} {f h : Nat → Int} (e : ∀ i, k ≤ i → h i = f i) : mix n k f h = lst n f := by
  unfold mix
  exact lst_congr fun i _ => by
    by_cases e2 : i < k
    · rw [if_pos e2]
    · rw [if_neg e2, e i (by omega)]

theorem Own.of_take {w : World} {g B n N : Nat} {f : Nat → Int} (h : IB w g (lst n f)) (hN : N ≤ n) (hB : B ≤ g) (hl : n ≤ maxLen) : Own w B (.slice (some ⟨g, 0, none⟩) N n) (lst N f) := by
  unfold IB at h
  refine ⟨by simp [lst_length], .inr ⟨g, n, ((lst n f).map (Value.int .i64)).toArray, by rw [lst_length], hB, h, by rw [lst_length]; exact hN, hl, by simp [lst_length], ?_⟩⟩
  rw [lst_length, Nat.mul_one]
  show ((lst n f).map (Value.int .i64)).take N = _
  rw [← List.map_take, lst_take f hN]

end Go.Proofs.Ytakonlfojblcmaa

namespace Go.Proofs.Ytakonlfojblcmaa
open Go.RowKit Cw

/-- The product of two lists of coefficients, in canonical form. -/
def mulI (D : Desc) (p q : List Int) : List Int := canL (fun t => ci (conv (cfR D p) (cfR D q) t)) (p.length + q.length)
theorem cfR_mulI (D : Desc) (p q : List Int) : cfR D (mulI D p q) = conv (cfR D p) (cfR D q) :=
  cfR_can _ _ fun _ h => conv_high (fun _ h => cfR_out D h) (fun _ h => cfR_out D h) (by omega)
end Go.Proofs.Ytakonlfojblcmaa

namespace Go.Proofs.Ytakonlfojblcmaa
open Go.RowKit Cw
attribute [local go_sem] Oper.semAt_some

/-- The coefficients of a product, as the program lists them. -/
def prodL (D : Desc) (p q : List Int) : List Int := if (canI D p).length = 0 ∨ (canI D q).length = 0 then [] else lst ((canI D p).length + (canI D q).length - 1) fun t => ci (conv (cfR D p) (cfR D q) t)
theorem cfR_canI_out (D : Desc) {p : List Int} {t : Nat} (h : (canI D p).length ≤ t) : cfR D p t = 0 := by rw [← cfR_canI]; exact cfR_out D h
theorem cfR_prodL (D : Desc) (p q : List Int) : cfR D (prodL D p q) = conv (cfR D p) (cfR D q) := funext fun t => by
  have hP := fun t h => cfR_canI_out D (p := p) (t := t) h
  have hQ := fun t h => cfR_canI_out D (p := q) (t := t) h
  unfold prodL
  by_cases h : (canI D p).length = 0 ∨ (canI D q).length = 0
  · rw [if_pos h, cfR_out D (by simp)]
    refine (rsum_eq_zero fun s _ => ?_).symm
    rcases h with h | h
    · rw [hP s (by omega), zero_mul]
    · rw [hQ (t - s) (by omega), mul_zero]
  · rw [if_neg h]
    by_cases ht : t < (canI D p).length + (canI D q).length - 1
    · show eli D ((lst _ _)[t]?.getD 0) = _
      rw [lst_get _ ht, eli_ci]
    · rw [cfR_out D (by rw [lst_length]; omega), conv_high hP hQ (by omega)]

end Go.Proofs.Ytakonlfojblcmaa

namespace Go.Proofs.Ytakonlfojblcmaa
open Go.RowKit Cw
open Cw.CField (inv)

theorem pevI_cf (D : Desc) (l : List Int) (u : R D) {N : Nat} (hN : l.length ≤ N) : pevI D l u = rsum N fun i => cfR D l i * pw u i := by
  obtain ⟨d, rfl⟩ : ∃ d, N = l.length + d := ⟨N - l.length, by omega⟩
  unfold pevI
  rw [rsum_split, rsum_eq_zero (n := d) fun i _ => by rw [cfR_out D (by omega), zero_mul], add_zero]
  rfl
theorem pevI_comb (D : Desc) (p : List Int) (a : Int) (q : List Int) (u : R D) : pevI D (combL D p a q) u = pevI D p u + eli D a * pevI D q u := by
  have hle := combL_le D p a q
  rw [pevI_cf D _ u hle, pevI_cf D p u (Nat.le_max_left p.length q.length), pevI_cf D q u (Nat.le_max_right p.length q.length), ← rsum_mul_left, ← rsum_add, cfR_combL]
  exact rsum_congr fun i _ => by unfold combF; rw [add_mul, mul_a]
theorem prodL_le (D : Desc) (p q : List Int) : (prodL D p q).length ≤ p.length + q.length - 1 := by
  have h1 := canI_le D p
  have h2 := canI_le D q
  unfold prodL
  by_cases h : (canI D p).length = 0 ∨ (canI D q).length = 0
  · rw [if_pos h]; exact Nat.zero_le _
  · rw [if_neg h, lst_length]; omega
/-- A product with u - x. -/
theorem pevI_lin (D : Desc) (p : List Int) (x u : R D) : pevI D (prodL D p [ci (-x), 1]) u = pevI D p u * (u - x) := by
  have hle := prodL_le D p [ci (-x), 1]
  have hq : ∀ s, cfR D [ci (-x), 1] s = if s = 0 then -x else if s = 1 then 1 else 0 := fun s => by
    unfold cfR
    match s with
    | 0 => rw [if_pos rfl]; exact eli_ci _
    | 1 => rw [if_neg (by omega), if_pos rfl]; exact eli_one
    | s + 2 => rw [if_neg (by omega), if_neg (by omega)]; exact eli_zero
  have hconv : ∀ t, conv (cfR D p) (cfR D [ci (-x), 1]) t = (if t = 0 then 0 else cfR D p (t - 1)) + cfR D p t * -x := fun t => by
    unfold conv
    cases t with
    | zero => rw [rsum_succ, rsum_zero, Nat.sub_self, hq, if_pos rfl, if_pos rfl]
    | succ t =>
      rw [rsum_succ, rsum_succ, rsum_eq_zero (n := t) (fun s hs => by rw [hq, if_neg (by omega), if_neg (by omega), mul_zero]), zero_add, Nat.sub_self, hq 0, if_pos rfl, show t + 1 - t = 1 by omega, hq 1, if_neg (by omega), if_pos rfl, mul_one, if_neg (by omega)]
      rfl
  rw [pevI_cf D _ u (N := p.length + 1) (by simpa using hle), cfR_prodL, rsum_congr fun i _ => by rw [hconv i, add_mul]]
  rw [rsum_add, rsum_succ_left, if_pos rfl, zero_mul, zero_add, pevI_cf D p u (Nat.le_refl _), rsum_succ, cfR_out D (Nat.le_refl _), zero_mul, zero_mul, add_zero, sub_d, mul_add, ← rsum_mul_right, ← rsum_mul_right]
  congr 1
  · exact rsum_congr fun i _ => by rw [if_neg (by omega), Nat.add_sub_cancel, pw_succ, mul_a]
  · exact rsum_congr fun i _ => by rw [mul_a, mul_a, mul_c (-x)]
theorem elB_combL (D : Desc) (p : List Int) (a : Int) (q : List Int) : elB D (combL D p a q) = true := elB_iff.2 fun j hj => by
  unfold combL canL at *
  rw [lst_length] at hj
  rw [lst_get _ hj]
  exact ⟨ci_nonneg _, ci_lt _⟩
/-- The interpolation so far; the polynomial that is 0 at the points so far. -/
def LI (D : Desc) (X Yv : Nat → R D) (k : Nat) (l : List Int) : Prop := l.length ≤ k ∧ elB D l = true ∧ ∀ i, i < k → pevI D l (X i) = Yv i
def ZI (D : Desc) (X : Nat → R D) (k : Nat) (z : List Int) : Prop := z.length ≤ k + 1 ∧ ∀ u, pevI D z u = rprod k fun i => u - X i
theorem LI.zero (D : Desc) (X Yv : Nat → R D) : LI D X Yv 0 [] := ⟨Nat.le_refl _, elB_iff.2 fun _ hj => absurd hj (Nat.not_lt_zero _), fun _ hi => absurd hi (Nat.not_lt_zero _)⟩
theorem ZI.zero (D : Desc) (X : Nat → R D) : ZI D X 0 [1] := ⟨Nat.le_refl _, fun u => by
  rw [pevI_cf D [1] u (N := 1) (Nat.le_refl _), rsum_succ, rsum_zero, zero_add, rprod_zero]
  show eli D 1 * pw u 0 = 1
  rw [eli_one, one_mul]; rfl⟩
theorem ZI.step {D : Desc} {X : Nat → R D} {k : Nat} {z : List Int} (h : ZI D X k z) : ZI D X (k + 1) (prodL D z [ci (-(X k)), 1]) := ⟨by
  have h1 := prodL_le D z [ci (-(X k)), 1]
  have h2 := h.1
  simp at h1
  omega, fun u => by rw [pevI_lin, h.2, rprod_succ]⟩
theorem ZI.ne {F : FD} {X : Nat → R F.toDesc} {k : Nat} {z : List Int} (h : ZI F.toDesc X k z) (hd : ∀ i, i < k → X k ≠ X i) : pevI F.toDesc z (X k) ≠ 0 := by
  rw [h.2]
  exact rprod_ne_zero fun i hi e => hd i hi (sub_eq_zero e)
theorem LI.step {F : FD} {X Yv : Nat → R F.toDesc} {k : Nat} {l z : List Int} (h : LI F.toDesc X Yv k l) (hz : ZI F.toDesc X k z) (hd : ∀ i, i < k → X k ≠ X i) {a : Int} (ha : eli F.toDesc a = (Yv k - pevI F.toDesc l (X k)) * inv (pevI F.toDesc z (X k))) : LI F.toDesc X Yv (k + 1) (combL F.toDesc l a z) := by
  refine ⟨?_, elB_combL _ _ _ _, fun i hi => ?_⟩
  · have h1 := combL_le F.toDesc l a z
    have h2 := h.1
    have h3 := hz.1
    omega
  · rw [pevI_comb]
    by_cases e : i = k
    · rw [e, ha, mul_a, inv_mul (hz.ne hd), mul_one, sub_d, add_lc, add_neg, add_zero]
    · rw [hz.2 (X i), rprod_eq_zero (R := R F.toDesc) (f := fun t => X i - X t) (i := i) (by omega) (sub_self (X i)), mul_zero, add_zero]
      exact h.2.2 i (by omega)
end Go.Proofs.Ytakonlfojblcmaa

namespace Go.Proofs.Ytakonlfojblcmaa
open Go.RowKit Cw
open CField (inv)

def scaleI (D : Desc) (a : Int) (p : List Int) : List Int := canL (fun i => ci (eli D a * cfR D p i)) p.length
def addI (D : Desc) (p q : List Int) : List Int := canL (fun i => ci (cfR D p i + cfR D q i)) (max p.length q.length)
theorem cfR_scaleI (D : Desc) (a : Int) (p : List Int) : cfR D (scaleI D a p) = fun i => eli D a * cfR D p i := cfR_can _ _ fun i h => by rw [cfR_out D h, mul_zero]
theorem cfR_addI (D : Desc) (p q : List Int) : cfR D (addI D p q) = fun i => cfR D p i + cfR D q i := cfR_can _ _ fun i h => by rw [cfR_out D (by omega), cfR_out D (by omega), add_zero]
theorem canI_can {D : Desc} (f : Nat → R D) (n : Nat) (h : ∀ i, n ≤ i → f i = 0) : canI D (canL (fun i => ci (f i)) n) = canL (fun i => ci (f i)) n := by
  have e := cfR_can f n h
  unfold canI
  rw [canL_congr (g := fun i => ci (f i)) fun i _ => by unfold cfI; rw [e]]
  exact (canL_more (by rw [canL_length]; exact cdeg_le _ _) fun i h1 h2 => by
    rw [canL_length] at h1
    exact cdeg_zero (fun i => ci (f i)) n h1 h2).symm
theorem canI_lst (D : Desc) (f : Nat → R D) (n : Nat) : canI D (lst n fun i => ci (f i)) = canL (fun i => ci (f i)) n := by
  unfold canI
  rw [lst_length]
  exact canL_congr fun i hi => by unfold cfI cfR; rw [lst_get _ hi, eli_ci]
theorem canI_canI (D : Desc) (p : List Int) : canI D (canI D p) = canI D p := canI_can (cfR D p) _ fun i h => cfR_out D h
/-- The value, over any greater range. -/
theorem pevI_more (D : Desc) (p : List Int) (x : R D) {N : Nat} (h : p.length ≤ N) : rsum N (fun i => cfR D p i * pw x i) = pevI D p x := by
  rw [rsum_more h _ fun i h1 _ => by rw [cfR_out D h1, zero_mul]]; rfl
/-- The list of x^n. -/
def powI (n : Nat) : List Int := lst (n + 1) fun i => if i = n then 1 else 0
theorem powI_length (n : Nat) : (powI n).length = n + 1 := lst_length _ _
theorem cfR_powI (D : Desc) (n : Nat) : cfR D (powI n) = fun i => if i = n then 1 else 0 := funext fun i => by
  by_cases h : i < n + 1
  · unfold cfR powI
    rw [lst_get _ h]
    by_cases e : i = n
    · rw [if_pos e, if_pos e, eli_one]
    · rw [if_neg e, if_neg e, eli_zero]
  · rw [cfR_out D (by rw [powI_length]; omega), if_neg (by omega)]
theorem cfR_powI_at (D : Desc) (n i : Nat) : cfR D (powI n) i = if i = n then 1 else 0 := by rw [cfR_powI]
theorem conv_powI (D : Desc) (f : Nat → R D) (n t : Nat) : conv f (cfR D (powI n)) t = if n ≤ t then f (t - n) else 0 := by
  unfold conv
  by_cases h : n ≤ t
  · rw [if_pos h, rsum_single (k := t - n) (by omega) fun i hi hne => by rw [cfR_powI_at, if_neg (by omega), mul_zero], cfR_powI_at, if_pos (by omega), mul_one]
  · rw [if_neg h]
    exact rsum_eq_zero fun i hi => by rw [cfR_powI_at, if_neg (by omega), mul_zero]
/-- The remainder after one step: the leading coefficient is taken away. -/
def stepI (D : Desc) (r q : List Int) (a : Int) (n : Nat) : List Int := addI D r (scaleI D (ci (-(1 : R D))) (mulI D (scaleI D a q) (powI n)))
theorem cfR_stepI (D : Desc) (r q : List Int) (a : Int) (n t : Nat) : cfR D (stepI D r q a n) t = cfR D r t - if n ≤ t then eli D a * cfR D q (t - n) else 0 := by
  unfold stepI
  rw [cfR_addI]
  dsimp only
  rw [cfR_scaleI]
  dsimp only
  rw [cfR_mulI, conv_powI, cfR_scaleI, eli_ci, neg_mul, one_mul, sub_d]
theorem can_short {D : Desc} {p : List Int} (hc : canI D p = p) {n : Nat} (h : ∀ t, n ≤ t → cfR D p t = 0) : p.length ≤ n := by
  by_cases hl : n ≤ p.length
  · rw [← hc]
    unfold canI
    rw [canL_more hl fun i h1 _ => by unfold cfI; rw [h i h1, ci_zero], canL_length]
    exact cdeg_le _ _
  · omega
theorem can_lead {D : Desc} {p : List Int} (hc : canI D p = p) {n : Nat} (hn : p.length = n + 1) : cfR D p n ≠ 0 := fun h => by
  have := can_short hc (n := n) fun t ht => by
    by_cases e : t = n
    · rw [e]; exact h
    · exact cfR_out D (by omega)
  omega
end Go.Proofs.Ytakonlfojblcmaa
