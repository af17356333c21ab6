/- The image of one field in another: the numbers that the program computes. The reference's polynomials: At, Add, Scale, Sub, Power, DivMod, Rem. -/
import Derived.Test.YtpflgmbcmfllgaaZaP1
import Derived.Test.YtpflgmbcmfllgaaZaPol5m
namespace Go.Proofs.Ytpflgmbcmfllgaa
open Go.RowKit Cw

theorem rsum_more {K : Type} [CRing K] {n m : Nat} (h : n ≤ m) (f : Nat → K) (hz : ∀ i, n ≤ i → i < m → f i = 0) : rsum m f = rsum n f := by
  obtain ⟨d, rfl⟩ : ∃ d, m = n + d := ⟨m - n, by omega⟩
  rw [rsum_split, rsum_eq_zero (n := d) fun i hi => hz (n + i) (by omega) (by omega), add_zero]
theorem pevI_canI (D : FD) (p : List Int) (u : R D.toDesc) : pevI D.toDesc (canI D.toDesc p) u = pevI D.toDesc p u := by
  show rsum _ (fun i => cfR D.toDesc (canI D.toDesc p) i * pw u i) = rsum _ (fun i => cfR D.toDesc p i * pw u i)
  rw [cfR_canI, rsum_more (canI_le D.toDesc p) _ fun i h1 _ => by
    have h2 : cfR D.toDesc (canI D.toDesc p) i = 0 := cfR_out D.toDesc h1
    rw [cfR_canI] at h2
    rw [h2, zero_mul]]
end Go.Proofs.Ytpflgmbcmfllgaa

namespace Go.Proofs.Ytpflgmbcmfllgaa
open Go.RowKit Cw
open CField (inv)
attribute [local go_sem] Oper.semAt_some

theorem canI_can {D : Desc} (f : Nat → R D) (n : Nat) (h : ∀ i, n ≤ i → f i = 0) : canI D (canL (fun i => ci (f i)) n) = canL (fun i => ci (f i)) n := by
  have e := cfR_can f n h
  unfold canI
  rw [canL_congr (g := fun i => ci (f i)) fun i _ => by unfold cfI; rw [e]]
  exact (canL_more (by rw [canL_length]; exact cdeg_le _ _) fun i h1 h2 => by
    rw [canL_length] at h1
    exact cdeg_zero (fun i => ci (f i)) n h1 h2).symm
theorem canI_canI (D : Desc) (p : List Int) : canI D (canI D p) = canI D p := canI_can (cfR D p) _ fun i h => cfR_out D h
/-- The value, over any greater range. -/
theorem pevI_more (D : Desc) (p : List Int) (x : R D) {N : Nat} (h : p.length ≤ N) : rsum N (fun i => cfR D p i * pw x i) = pevI D p x := by
  rw [rsum_more h _ fun i h1 _ => by rw [cfR_out D h1, zero_mul]]; rfl
theorem can_short {D : Desc} {p : List Int} (hc : canI D p = p) {n : Nat} (h : ∀ t, n ≤ t → cfR D p t = 0) : p.length ≤ n := by
  by_cases hl : n ≤ p.length
  · rw [← hc]
    unfold canI
    rw [canL_more hl fun i h1 _ => by unfold cfI; rw [h i h1, ci_zero], canL_length]
    exact cdeg_le _ _
  · omega
theorem can_lead {D : Desc} {p : List Int} (hc : canI D p = p) {n : Nat} (hn : p.length = n + 1) : cfR D p n ≠ 0 := fun h => by
  have := can_short hc (n := n) fun t ht => by
    by_cases e : t = n
    · rw [e]; exact h
    · exact cfR_out D (by omega)
  omega
end Go.Proofs.Ytpflgmbcmfllgaa
