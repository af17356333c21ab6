/- Plain law of layer 18: a description without some positions, its code. No Go here. -/
import Derived.Test.YtpflgmbcmfllgaaZaAffL
namespace Cw
section
variable {F : Type} [CField F] [DecidableEq F]
end
end Cw
namespace Go.Proofs.Ytpflgmbcmfllgaa
open Go.RowKit Cw

/-- The positions below k that are not named. -/
def idxL (a : List Int) : Nat → List Nat
  | 0 => []
  | k + 1 => if (k : Int) ∈ a then idxL a k else idxL a k ++ [k]
def selL (l a : List Int) (k : Nat) : List Int := (idxL a k).map fun i => l[i]?.getD 0
theorem idxL_yes {a : List Int} {k : Nat} (h : (k : Int) ∈ a) : idxL a (k + 1) = idxL a k := if_pos h
theorem idxL_no {a : List Int} {k : Nat} (h : ¬ (k : Int) ∈ a) : idxL a (k + 1) = idxL a k ++ [k] := if_neg h
theorem selL_yes {l a : List Int} {k : Nat} (h : (k : Int) ∈ a) : selL l a (k + 1) = selL l a k := by unfold selL; rw [idxL_yes h]
theorem selL_no {l a : List Int} {k : Nat} (h : ¬ (k : Int) ∈ a) : selL l a (k + 1) = selL l a k ++ [l[k]?.getD 0] := by unfold selL; rw [idxL_no h, List.map_append]; rfl
theorem selL_length (l a : List Int) (k : Nat) : (selL l a k).length = (idxL a k).length := List.length_map _
theorem idxL_le (a : List Int) : ∀ k, (idxL a k).length ≤ k
  | 0 => Nat.le_refl _
  | k + 1 => by
    have ih := idxL_le a k
    by_cases h : (k : Int) ∈ a
    · rw [idxL_yes h]; omega
    · rw [idxL_no h, List.length_append]; simp; omega
theorem idxL_mem {a : List Int} {i : Nat} : ∀ {k : Nat}, i ∈ idxL a k ↔ i < k ∧ ¬ (i : Int) ∈ a
  | 0 => ⟨fun h => (by cases h), fun h => absurd h.1 (Nat.not_lt_zero _)⟩
  | k + 1 => by
    have ih := idxL_mem (a := a) (i := i) (k := k)
    by_cases h : (k : Int) ∈ a
    · rw [idxL_yes h, ih]
      constructor
      · rintro ⟨h1, h2⟩; exact ⟨by omega, h2⟩
      · rintro ⟨h1, h2⟩
        refine ⟨?_, h2⟩
        rcases Nat.lt_or_ge i k with h3 | h3
        · exact h3
        · obtain rfl : i = k := by omega
          exact absurd h h2
    · rw [idxL_no h, List.mem_append, ih, List.mem_singleton]
      constructor
      · rintro (⟨h1, h2⟩ | rfl)
        · exact ⟨by omega, h2⟩
        · exact ⟨by omega, h⟩
      · rintro ⟨h1, h2⟩
        by_cases e : i = k
        · exact .inr e
        · exact .inl ⟨by omega, h2⟩
theorem idxL_nodup (a : List Int) : ∀ k, (idxL a k).Nodup
  | 0 => List.nodup_nil
  | k + 1 => by
    have ih := idxL_nodup a k
    by_cases h : (k : Int) ∈ a
    · rw [idxL_yes h]; exact ih
    · rw [idxL_no h, List.nodup_append]
      refine ⟨ih, by simp, fun x hx y hy e => ?_⟩
      have h1 := (idxL_mem.1 hx).1
      have h2 : y = k := by simpa using hy
      omega
theorem idxL_get {a : List Int} {k j : Nat} (hj : j < (idxL a k).length) : (idxL a k)[j]?.getD 0 < k := by
  rw [List.getElem?_eq_getElem hj, Option.getD_some]
  exact (idxL_mem.1 (List.getElem_mem hj)).1
theorem selL_get {l a : List Int} {k j : Nat} (hj : j < (idxL a k).length) : (selL l a k)[j]?.getD 0 = l[(idxL a k)[j]?.getD 0]?.getD 0 := by
  unfold selL
  rw [List.getElem?_map, List.getElem?_eq_getElem hj]
  rfl
end Go.Proofs.Ytpflgmbcmfllgaa
