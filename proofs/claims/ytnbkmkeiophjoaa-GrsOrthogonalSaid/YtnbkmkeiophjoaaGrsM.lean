/- Plain law of layer 18: the dual description and its dual. No Go here. -/
import Derived.Test.YtnbkmkeiophjoaaGrsL
namespace Go.Proofs.Ytnbkmkeiophjoaa
open Cw
open Cw.CField (inv)

theorem dualL_length (F : FD) (pts mul : List Int) : (dualL F pts mul).length = pts.length := lst_length _ _
theorem dprod_mul (D : Desc) (pts : List Int) (i : Nat) (u : R D) : ∀ k, dprod D pts i u k = u * dprod D pts i 1 k
  | 0 => (mul_one u).symm
  | k + 1 => by
    by_cases h : k = i
    · rw [show dprod D pts i u (k + 1) = dprod D pts i u k from if_pos h, show dprod D pts i 1 (k + 1) = dprod D pts i 1 k from if_pos h, dprod_mul D pts i u k]
    · rw [dprod_other _ _ _ h, dprod_other _ _ _ h, dprod_mul D pts i u k, mul_a]
theorem dualL_eq {F F' : FD} (h : F'.toDesc = F.toDesc) (pts mul : List Int) : dualL F' pts mul = dualL F pts mul := by
  obtain ⟨D, g, a, b, c⟩ := F
  obtain ⟨D', g', a', b', c'⟩ := F'
  dsimp only at h
  subst h
  rfl

section
variable {F : FD}
theorem dprod_ne {pts : List Int} (hp : elB F.toDesc pts = true) (ht : twB pts = false) {i : Nat} (hi : i < pts.length) : ∀ k, k ≤ pts.length → dprod F.toDesc pts i 1 k ≠ 0
  | 0, _ => one_ne (F := R F.toDesc)
  | k + 1, hk => by
    have ih := dprod_ne hp ht hi k (by omega)
    by_cases h : k = i
    · rw [show dprod F.toDesc pts i 1 (k + 1) = dprod F.toDesc pts i 1 k from if_pos h]; exact ih
    · rw [dprod_other _ _ _ h]
      refine mul_ne_zero (F := R F.toDesc) ih fun e => h ?_
      exact (nodup_get ht hi (by omega) (eli_inj (elB_iff.1 hp i hi) (elB_iff.1 hp k (by omega)) (sub_eq_zero e))).symm
theorem dualV_ne {K : Int} {pts mul : List Int} (hz : gchkD F.toDesc K pts mul = 0) {i : Nat} (hi : i < pts.length) : dprod F.toDesc pts i (eli F.toDesc (mul[i]?.getD 0)) pts.length ≠ 0 := by
  obtain ⟨-, -, hlen, hp, hm, ht, h0, -, -⟩ := gchkD_zero hz
  rw [dprod_mul]
  exact mul_ne_zero (F := R F.toDesc) (eli_ne (elB_iff.1 hm i (by omega)) fun e => h0 (e ▸ mem_get (by omega))) (dprod_ne hp ht hi _ (Nat.le_refl _))
theorem dualL_get {pts mul : List Int} {i : Nat} (hi : i < pts.length) : (dualL F pts mul)[i]?.getD 0 = dualV F pts mul i := lst_get _ hi
/-- The dual of the dual is the description itself. -/
theorem dual_dual {K : Int} {pts mul : List Int} (hz : gchkD F.toDesc K pts mul = 0) : dualL F pts (dualL F pts mul) = mul := by
  obtain ⟨-, -, hlen, hp, hm, ht, h0, -, -⟩ := gchkD_zero hz
  rw [eq_lst mul, hlen]
  refine lst_congr fun i hi => ?_
  rw [← hlen, ← eq_lst]
  have hP := dprod_ne hp ht hi _ (Nat.le_refl _)
  have hv := dualV_ne hz hi
  have hmi := elB_iff.1 hm i (by omega)
  have hm0 : eli F.toDesc (mul[i]?.getD 0) ≠ 0 := eli_ne hmi fun e => h0 (e ▸ mem_get (by omega))
  unfold dualV
  rw [dualL_get hi]
  unfold dualV
  rw [eli_ci, dprod_mul F.toDesc pts i (inv _), dprod_mul F.toDesc pts i (eli F.toDesc _)]
  generalize dprod F.toDesc pts i 1 pts.length = P at *
  have e : inv (eli F.toDesc (mul[i]?.getD 0) * P) * P = inv (eli F.toDesc (mul[i]?.getD 0)) := by
    rw [inv_mul_d, mul_a, inv_mul hP, mul_one]
  rw [e, inv_inv, ci_eli_in hmi]
/-- The dual description describes a code. -/
theorem dual_chk {K : Int} {pts mul : List Int} (hz : gchkD F.toDesc K pts mul = 0) : gchkD F.toDesc ((pts.length : Int) - K) pts (dualL F pts mul) = 0 := by
  obtain ⟨h1, h64, hlen, hp, hm, ht, h0, hK0, hKn⟩ := gchkD_zero hz
  unfold gchkD
  rw [dualL_length, if_neg (by omega), if_neg (by omega), if_neg, if_neg (by rw [ht]; simp), if_neg, if_neg (by omega)]
  · intro hmem
    obtain ⟨i, hi, hi2⟩ := List.mem_map.1 (show (0 : Int) ∈ (List.range pts.length).map (dualV F pts mul) from hmem)
    exact inv_ne_zero (dualV_ne hz (List.mem_range.1 hi)) (ci_eq_zero.1 hi2)
  · rintro (h3 | h3)
    · rw [hp] at h3; cases h3
    · rw [elB_iff.2 fun j hj => ?_] at h3
      · cases h3
      · rw [dualL_length] at hj
        rw [dualL_get hj]
        exact ⟨ci_nonneg _, ci_lt _⟩
end
end Go.Proofs.Ytnbkmkeiophjoaa
