/- The reference's polynomials: Canon. The reference's polynomials: Mul. The image of one field in another: the numbers that the program computes. Plain law of layer 5: At, Add, Scale, Sub, Power over lists; the step of a division. No Go here. The reference's polynomials: FromRoots. Plain law of layer 18: the codeword whose message polynomial is 0 at given points. No Go here. -/
import Derived.IntWalk
import Derived.Test.YtpflgmbcmfllgaaZdP1
import Derived.Test.YtpflgmbcmfllgaaZdEv5
import Derived.Test.YtpflgmbcmfllgaaZdMH
import Derived.Test.YtpflgmbcmfllgaaZdMI
namespace Go.Proofs.Ytpflgmbcmfllgaa
open Go.RowKit Cw

/-- The coefficients of a list, as elements and as ints. -/
def cfR (D : Desc) (p : List Int) : Nat → R D := fun i => eli D (p[i]?.getD 0)
def cfI (D : Desc) (p : List Int) : Nat → Int := fun i => ci (cfR D p i)
theorem cfR_out (D : Desc) {p : List Int} {i : Nat} (h : p.length ≤ i) : cfR D p i = 0 := by
  unfold cfR; rw [List.getElem?_eq_none h]; exact eli_zero
theorem cfI_out (D : Desc) {p : List Int} {i : Nat} (h : p.length ≤ i) : cfI D p i = 0 := by
  unfold cfI; rw [cfR_out D h, ci_zero]
theorem cfR_can {D : Desc} (f : Nat → R D) (n : Nat) (h : ∀ i, n ≤ i → f i = 0) : cfR D (canL (fun i => ci (f i)) n) = f := funext fun i => by
  unfold cfR
  by_cases hi : i < n
  · rw [canL_get _ hi, eli_ci]
  · rw [canL_out _ (by omega), h i (by omega)]; exact eli_zero
/-- The canonical form of a list. -/
def canI (D : Desc) (p : List Int) : List Int := canL (cfI D p) p.length
theorem canI_le (D : Desc) (p : List Int) : (canI D p).length ≤ p.length := by unfold canI; rw [canL_length]; exact cdeg_le _ _
theorem cfR_canI (D : Desc) (p : List Int) : cfR D (canI D p) = cfR D p := cfR_can (cfR D p) p.length fun _ h => cfR_out D h
end Go.Proofs.Ytpflgmbcmfllgaa

namespace Go.Proofs.Ytpflgmbcmfllgaa
open Go.RowKit Cw

/-- The product of two lists of coefficients, in canonical form. -/
def mulI (D : Desc) (p q : List Int) : List Int := canL (fun t => ci (conv (cfR D p) (cfR D q) t)) (p.length + q.length)
theorem cfR_mulI (D : Desc) (p q : List Int) : cfR D (mulI D p q) = conv (cfR D p) (cfR D q) :=
  cfR_can _ _ fun _ h => conv_high (fun _ h => cfR_out D h) (fun _ h => cfR_out D h) (by omega)
end Go.Proofs.Ytpflgmbcmfllgaa

namespace Go.Proofs.Ytpflgmbcmfllgaa
open Go.RowKit Cw

theorem rsum_more {K : Type} [CRing K] {n m : Nat} (h : n ≤ m) (f : Nat → K) (hz : ∀ i, n ≤ i → i < m → f i = 0) : rsum m f = rsum n f := by
  obtain ⟨d, rfl⟩ : ∃ d, m = n + d := ⟨m - n, by omega⟩
  rw [rsum_split, rsum_eq_zero (n := d) fun i hi => hz (n + i) (by omega) (by omega), add_zero]
theorem pevI_canI (D : FD) (p : List Int) (u : R D.toDesc) : pevI D.toDesc (canI D.toDesc p) u = pevI D.toDesc p u := by
  show rsum _ (fun i => cfR D.toDesc (canI D.toDesc p) i * pw u i) = rsum _ (fun i => cfR D.toDesc p i * pw u i)
  rw [cfR_canI, rsum_more (canI_le D.toDesc p) _ fun i h1 _ => by
    have h2 : cfR D.toDesc (canI D.toDesc p) i = 0 := cfR_out D.toDesc h1
    rw [cfR_canI] at h2
    rw [h2, zero_mul]]
end Go.Proofs.Ytpflgmbcmfllgaa

namespace Go.Proofs.Ytpflgmbcmfllgaa
open Go.RowKit Cw
open CField (inv)

theorem canI_can {D : Desc} (f : Nat → R D) (n : Nat) (h : ∀ i, n ≤ i → f i = 0) : canI D (canL (fun i => ci (f i)) n) = canL (fun i => ci (f i)) n := by
  have e := cfR_can f n h
  unfold canI
  rw [canL_congr (g := fun i => ci (f i)) fun i _ => by unfold cfI; rw [e]]
  exact (canL_more (by rw [canL_length]; exact cdeg_le _ _) fun i h1 h2 => by
    rw [canL_length] at h1
    exact cdeg_zero (fun i => ci (f i)) n h1 h2).symm
theorem canI_canI (D : Desc) (p : List Int) : canI D (canI D p) = canI D p := canI_can (cfR D p) _ fun i h => cfR_out D h
/-- The value, over any greater range. -/
theorem pevI_more (D : Desc) (p : List Int) (x : R D) {N : Nat} (h : p.length ≤ N) : rsum N (fun i => cfR D p i * pw x i) = pevI D p x := by
  rw [rsum_more h _ fun i h1 _ => by rw [cfR_out D h1, zero_mul]]; rfl
theorem can_short {D : Desc} {p : List Int} (hc : canI D p = p) {n : Nat} (h : ∀ t, n ≤ t → cfR D p t = 0) : p.length ≤ n := by
  by_cases hl : n ≤ p.length
  · rw [← hc]
    unfold canI
    rw [canL_more hl fun i h1 _ => by unfold cfI; rw [h i h1, ci_zero], canL_length]
    exact cdeg_le _ _
  · omega
theorem can_lead {D : Desc} {p : List Int} (hc : canI D p = p) {n : Nat} (hn : p.length = n + 1) : cfR D p n ≠ 0 := fun h => by
  have := can_short hc (n := n) fun t ht => by
    by_cases e : t = n
    · rw [e]; exact h
    · exact cfR_out D (by omega)
  omega
end Go.Proofs.Ytpflgmbcmfllgaa

namespace Go.Proofs.Ytpflgmbcmfllgaa
open Go.RowKit Cw

/-- The coefficients of the product of X - r over the first k entries of a list. -/
noncomputable def frK (F : FD) (l : List Int) (k : Nat) : List Int := lst (k + 1) fun t => ci (lcf (cfR F.toDesc l) l.length k t)
theorem frK_length (F : FD) (l : List Int) (k : Nat) : (frK F l k).length = k + 1 := lst_length _ _
theorem ldeg_le {i k : Nat} (h : k ≤ i) : ldeg i k = k := by unfold ldeg; rw [if_neg (by omega)]
theorem cfR_frK (F : FD) (l : List Int) {k : Nat} (hk : k ≤ l.length) : cfR F.toDesc (frK F l k) = lcf (cfR F.toDesc l) l.length k := funext fun i => by
  unfold frK
  by_cases hi : i < k + 1
  · show eli F.toDesc ((lst _ _)[i]?.getD 0) = _
    rw [lst_get _ hi, eli_ci]
  · rw [cfR_out _ (by rw [lst_length]; omega), lcf_high _ _ _ _ (by rw [ldeg_le hk]; omega)]
theorem frK_zero (F : FD) (l : List Int) : frK F l 0 = [1] := by
  unfold frK
  show [ci (lcf (cfR F.toDesc l) l.length 0 0)] = [1]
  have e : lcf (cfR F.toDesc l) l.length 0 0 = 1 := by
    show (if (0 : Nat) = 0 then (1 : R F.toDesc) else 0) = 1
    rw [if_pos rfl]
  rw [e, ci_one]
theorem frK_succ (F : FD) (l : List Int) {k : Nat} (hk : k < l.length) : mulI F.toDesc (frK F l k) [ci (-cfR F.toDesc l k), 1] = frK F l (k + 1) := by
  have e : conv (cfR F.toDesc (frK F l k)) (cfR F.toDesc [ci (-cfR F.toDesc l k), 1]) = lcf (cfR F.toDesc l) l.length (k + 1) := funext fun t => by
    rw [cfR_frK F l (by omega), lcf_other _ (by omega : k ≠ l.length)]
    exact conv_xm _ _ _ (eli_ci _) eli_one (fun s hs => cfR_out _ (by simpa using hs)) t
  unfold mulI
  rw [e, frK_length]
  have h1 : lcf (cfR F.toDesc l) l.length (k + 1) (k + 1) = 1 := by
    have := lcf_top (cfR F.toDesc l) l.length (k + 1)
    rwa [ldeg_le (by omega)] at this
  rw [canL_more (n := k + 1 + 1) (by simp) (fun i h2 h3 => by rw [lcf_high _ _ _ _ (by rw [ldeg_le (by omega)]; omega), ci_zero]),
    canL_full (n := k + 1) (by rw [h1, ci_one]; decide)]
  rfl

end Go.Proofs.Ytpflgmbcmfllgaa

namespace Go.Proofs.Ytpflgmbcmfllgaa
open Cw
open Cw.CField (inv)

section
variable {F : FD}
theorem lval_roots {f : Nat → R F.toDesc} {N : Nat} {x : R F.toDesc} : ∀ k, k ≤ N → (lval f N x k = 0 ↔ ∃ j, j < k ∧ x = f j)
  | 0, _ => ⟨fun h => absurd h (one_ne (F := R F.toDesc)), fun ⟨j, hj, _⟩ => absurd hj (by omega)⟩
  | k + 1, hk => by
    rw [lval_other _ _ (by omega : k ≠ N)]
    constructor
    · intro h
      rcases mul_eq_zero h with h | h
      · obtain ⟨j, hj, e⟩ := (lval_roots k (by omega)).1 h
        exact ⟨j, by omega, e⟩
      · exact ⟨k, by omega, sub_eq_zero h⟩
    · rintro ⟨j, hj, e⟩
      by_cases h : j = k
      · rw [e, h, sub_self, mul_zero]
      · rw [(lval_roots k (by omega)).2 ⟨j, by omega, e⟩, zero_mul]
theorem pev_frK (l : List Int) (x : R F.toDesc) : pev ((frK F l l.length).map (eli F.toDesc)) x = lval (cfR F.toDesc l) l.length x l.length := by
  unfold frK lst
  rw [List.map_map, pev_map]
  have e : ∀ i, i < l.length + 1 → (eli F.toDesc ∘ fun t => ci (lcf (cfR F.toDesc l) l.length l.length t)) i * pw x i = lcf (cfR F.toDesc l) l.length l.length i * pw x i := fun i _ => by
    show eli F.toDesc (ci _) * _ = _
    rw [eli_ci]
  rw [rsum_congr e]
  exact lcf_sum _ _ _ _ _ (by rw [ldeg_le (Nat.le_refl _)]; omega)
end
end Go.Proofs.Ytpflgmbcmfllgaa
