/- The field of 4 elements of the chapters' examples. -/
import Derived.Test.YtemanlkgfhmclaaP1
import Derived.Test.YtemanlkgfhmclaaRG
namespace Go.Proofs.Ytemanlkgfhmclaa
open Go.RowKit Cw

def D4 : Desc where
  p := 2
  m := 2
  mod := [1, 1]
  hp := ⟨by decide, fun d h2 => by
    have : d ≤ 2 := Nat.le_of_dvd (by decide) h2
    have : d ≠ 0 := fun h => by rw [h] at h2; have := Nat.eq_zero_of_zero_dvd h2; omega
    omega⟩
  m1 := by decide
  m8 := by decide
  hq := by decide
  hlen := by decide
  hmod := fun j => by
    match j with
    | 0 => decide
    | 1 => decide
    | j + 2 => simp
theorem irr4 : irrB D4.p D4.m (fun i => D4.mod.getD i 0) = true := by
  have e1 : ∀ v : Fin 2, dvB 2 1 2 (dg 2 v.val) (fun i => D4.mod.getD i 0) = false := by decide +kernel
  refine irrB_true fun d h1 h2 v hv => ?_
  have h3 : 2 * d ≤ 2 := h2
  have h4 : d = 1 := by omega
  subst h4
  exact e1 ⟨v, hv⟩
theorem good4 : Good D4.p D4.m (modL D4) := ⟨D4, rfl, rfl, rfl, .inr irr4⟩
end Go.Proofs.Ytemanlkgfhmclaa
