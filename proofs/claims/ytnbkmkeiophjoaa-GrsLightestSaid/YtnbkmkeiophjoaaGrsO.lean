/- Plain law of layer 18: codewords are orthogonal to those of the dual description. No Go here. -/
import Derived.Test.YtnbkmkeiophjoaaGrsM
import Derived.Test.YtnbkmkeiophjoaaP1
namespace Go.Proofs.Ytnbkmkeiophjoaa
open Cw
open Cw.CField (inv)
section
variable {F : FD}
theorem dprod_lval (pts : List Int) (i : Nat) : ∀ k, dprod F.toDesc pts i 1 k = lval (fun j => eli F.toDesc (pts[j]?.getD 0)) i (eli F.toDesc (pts[i]?.getD 0)) k
  | 0 => rfl
  | k + 1 => by
    by_cases h : k = i
    · rw [show dprod F.toDesc pts i 1 (k + 1) = dprod F.toDesc pts i 1 k from if_pos h, show lval (fun j => eli F.toDesc (pts[j]?.getD 0)) i (eli F.toDesc (pts[i]?.getD 0)) (k + 1) = lval (fun j => eli F.toDesc (pts[j]?.getD 0)) i (eli F.toDesc (pts[i]?.getD 0)) k from if_pos h]
      exact dprod_lval pts i k
    · rw [dprod_other _ _ _ h, lval_other _ _ h, dprod_lval pts i k]
theorem pts_inj {pts : List Int} (hp : elB F.toDesc pts = true) (ht : twB pts = false) : ∀ i j, i < pts.length → j < pts.length → eli F.toDesc (pts[i]?.getD 0) = eli F.toDesc (pts[j]?.getD 0) → i = j :=
  fun i j hi hj e => nodup_get ht hi hj (eli_inj (elB_iff.1 hp i hi) (elB_iff.1 hp j hj) e)
theorem dot_dual {K : Int} {pts mul l1 l2 : List Int} (hz : gchkD F.toDesc K pts mul = 0) (h1 : (l1.length : Int) = K) (h2 : (l2.length : Int) = (pts.length : Int) - K) :
    rsum pts.length (fun i => eli F.toDesc ((wordL F.toDesc pts mul l1)[i]?.getD 0) * eli F.toDesc ((wordL F.toDesc pts (dualL F pts mul) l2)[i]?.getD 0)) = 0 := by
  obtain ⟨hn1, -, hlen, hp, hm, ht, h0, hK0, hKn⟩ := gchkD_zero hz
  have h := lag_two (F := R F.toDesc) (n := pts.length) (K := l1.length) (L := l2.length) (by omega) (fun j => eli F.toDesc (pts[j]?.getD 0)) (fun j => eli F.toDesc (l1[j]?.getD 0)) (fun j => eli F.toDesc (l2[j]?.getD 0)) (pts_inj hp ht)
  rw [← h]
  refine rsum_congr fun i hi => ?_
  have hmi : eli F.toDesc (mul[i]?.getD 0) ≠ 0 := eli_ne (elB_iff.1 hm i (by omega)) fun e => h0 (e ▸ mem_get (by omega))
  have e1 : eli F.toDesc ((wordL F.toDesc pts mul l1)[i]?.getD 0) = eli F.toDesc (mul[i]?.getD 0) * pevI F.toDesc l1 (eli F.toDesc (pts[i]?.getD 0)) := by
    unfold wordL; rw [lst_get _ hi, eli_ci]
  have e2 : eli F.toDesc ((wordL F.toDesc pts (dualL F pts mul) l2)[i]?.getD 0) = inv (eli F.toDesc (mul[i]?.getD 0)) * inv (lval (fun j => eli F.toDesc (pts[j]?.getD 0)) i (eli F.toDesc (pts[i]?.getD 0)) pts.length) * pevI F.toDesc l2 (eli F.toDesc (pts[i]?.getD 0)) := by
    unfold wordL
    rw [lst_get _ hi, eli_ci, dualL_get hi]
    unfold dualV
    rw [eli_ci, dprod_mul, dprod_lval, inv_mul_d]
  rw [e1, e2]
  show _ = pevI F.toDesc l1 (eli F.toDesc (pts[i]?.getD 0)) * pevI F.toDesc l2 (eli F.toDesc (pts[i]?.getD 0)) * _
  generalize pevI F.toDesc l1 (eli F.toDesc (pts[i]?.getD 0)) = u
  generalize pevI F.toDesc l2 (eli F.toDesc (pts[i]?.getD 0)) = v
  generalize inv (lval (fun j => eli F.toDesc (pts[j]?.getD 0)) i (eli F.toDesc (pts[i]?.getD 0)) pts.length) = P
  generalize eli F.toDesc (mul[i]?.getD 0) = m at *
  rw [show m * u * (inv m * P * v) = (m * inv m) * (u * v * P) by ac_rfl, mul_inv hmi, one_mul]
end
end Go.Proofs.Ytnbkmkeiophjoaa
