/- The reference's polynomials: FromRoots. Plain law of layer 18: the codeword whose message polynomial is 0 at given points. No Go here. -/
import Derived.Test.YtpflgmbcmfllgaaZaPol5m
import Derived.Test.YtpflgmbcmfllgaaZaAffL
namespace Go.Proofs.Ytpflgmbcmfllgaa
open Go.RowKit Cw

/-- The coefficients of the product of X - r over the first k entries of a list. -/
noncomputable def frK (F : FD) (l : List Int) (k : Nat) : List Int := lst (k + 1) fun t => ci (lcf (cfR F.toDesc l) l.length k t)
theorem frK_length (F : FD) (l : List Int) (k : Nat) : (frK F l k).length = k + 1 := lst_length _ _
theorem ldeg_le {i k : Nat} (h : k ≤ i) : ldeg i k = k := by unfold ldeg; rw [if_neg (by omega)]
theorem cfR_frK (F : FD) (l : List Int) {k : Nat} (hk : k ≤ l.length) : cfR F.toDesc (frK F l k) = lcf (cfR F.toDesc l) l.length k := funext fun i => by
  unfold frK
  by_cases hi : i < k + 1
  · show eli F.toDesc ((lst _ _)[i]?.getD 0) = _
    rw [lst_get _ hi, eli_ci]
  · rw [cfR_out _ (by rw [lst_length]; omega), lcf_high _ _ _ _ (by rw [ldeg_le hk]; omega)]
theorem frK_zero (F : FD) (l : List Int) : frK F l 0 = [1] := by
  unfold frK
  show [ci (lcf (cfR F.toDesc l) l.length 0 0)] = [1]
  have e : lcf (cfR F.toDesc l) l.length 0 0 = 1 := by
    show (if (0 : Nat) = 0 then (1 : R F.toDesc) else 0) = 1
    rw [if_pos rfl]
  rw [e, ci_one]
theorem frK_succ (F : FD) (l : List Int) {k : Nat} (hk : k < l.length) : mulI F.toDesc (frK F l k) [ci (-cfR F.toDesc l k), 1] = frK F l (k + 1) := by
  have e : conv (cfR F.toDesc (frK F l k)) (cfR F.toDesc [ci (-cfR F.toDesc l k), 1]) = lcf (cfR F.toDesc l) l.length (k + 1) := funext fun t => by
    rw [cfR_frK F l (by omega), lcf_other _ (by omega : k ≠ l.length)]
    exact conv_xm _ _ _ (eli_ci _) eli_one (fun s hs => cfR_out _ (by simpa using hs)) t
  unfold mulI
  rw [e, frK_length]
  have h1 : lcf (cfR F.toDesc l) l.length (k + 1) (k + 1) = 1 := by
    have := lcf_top (cfR F.toDesc l) l.length (k + 1)
    rwa [ldeg_le (by omega)] at this
  rw [canL_more (n := k + 1 + 1) (by simp) (fun i h2 h3 => by rw [lcf_high _ _ _ _ (by rw [ldeg_le (by omega)]; omega), ci_zero]),
    canL_full (n := k + 1) (by rw [h1, ci_one]; decide)]
  rfl

end Go.Proofs.Ytpflgmbcmfllgaa

namespace Go.Proofs.Ytpflgmbcmfllgaa
open Cw
open Cw.CField (inv)

section
variable {F : FD}
theorem lval_roots {f : Nat → R F.toDesc} {N : Nat} {x : R F.toDesc} : ∀ k, k ≤ N → (lval f N x k = 0 ↔ ∃ j, j < k ∧ x = f j)
  | 0, _ => ⟨fun h => absurd h (one_ne (F := R F.toDesc)), fun ⟨j, hj, _⟩ => absurd hj (by omega)⟩
  | k + 1, hk => by
    rw [lval_other _ _ (by omega : k ≠ N)]
    constructor
    · intro h
      rcases mul_eq_zero h with h | h
      · obtain ⟨j, hj, e⟩ := (lval_roots k (by omega)).1 h
        exact ⟨j, by omega, e⟩
      · exact ⟨k, by omega, sub_eq_zero h⟩
    · rintro ⟨j, hj, e⟩
      by_cases h : j = k
      · rw [e, h, sub_self, mul_zero]
      · rw [(lval_roots k (by omega)).2 ⟨j, by omega, e⟩, zero_mul]
theorem pev_frK (l : List Int) (x : R F.toDesc) : pev ((frK F l l.length).map (eli F.toDesc)) x = lval (cfR F.toDesc l) l.length x l.length := by
  unfold frK lst
  rw [List.map_map, pev_map]
  have e : ∀ i, i < l.length + 1 → (eli F.toDesc ∘ fun t => ci (lcf (cfR F.toDesc l) l.length l.length t)) i * pw x i = lcf (cfR F.toDesc l) l.length l.length i * pw x i := fun i _ => by
    show eli F.toDesc (ci _) * _ = _
    rw [eli_ci]
  rw [rsum_congr e]
  exact lcf_sum _ _ _ _ _ (by rw [ldeg_le (Nat.le_refl _)]; omega)
end
end Go.Proofs.Ytpflgmbcmfllgaa
