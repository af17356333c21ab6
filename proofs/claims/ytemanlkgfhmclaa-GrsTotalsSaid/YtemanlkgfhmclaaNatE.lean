/- Package nat: one limb of a sum, of a product. -/
import Derived.Test.YtemanlkgfhmclaaNatD
namespace Go.Proofs.Ytemanlkgfhmclaa
open Go.RowKit Cw
attribute [local go_sem] Oper.semAt_some

/-- One limb of a sum, as the loop computes it. -/
theorem add_limb {a b i x y z s : Nat} (hx : a / nB ^ i % nB = x) (hy : b / nB ^ i % nB = y) (hz : carA a b i = z) (hs : s = x + z + y) :
    s < 8589934592 ∧ s % 4294967296 = (a + b) / nB ^ i % nB ∧ s / 4294967296 = carA a b (i + 1) := by
  have hB := nB_eq
  have h1 := Nat.mod_lt (a / nB ^ i) nB_pos
  have h2 := Nat.mod_lt (b / nB ^ i) nB_pos
  have h3 := carA_le a b i
  rw [add_dig, carA_succ, hx, hy, hz]
  rw [hx] at h1; rw [hy] at h2; rw [hz] at h3
  rw [hB] at h1 h2 ⊢
  subst hs
  refine ⟨by omega, ?_, ?_⟩
  · rw [show x + z + y = x + y + z by omega]
  · rw [show x + z + y = x + y + z by omega]
/-- The carry of a product's round is one limb; so the sum fits. -/
theorem mul_fit {x y u z : Nat} (hx : x < 4294967296) (hy : y < 4294967296) (hu : u < 4294967296) (hz : z < 4294967296) : x * y + u + z < 18446744073709551616 := by
  have h1 : x * y ≤ 4294967295 * 4294967295 := Nat.mul_le_mul (by omega) (by omega)
  omega
theorem mul_car_lt {x y u z : Nat} (hx : x < 4294967296) (hy : y < 4294967296) (hu : u < 4294967296) (hz : z < 4294967296) : (x * y + u + z) / 4294967296 < 4294967296 := by
  have := mul_fit hx hy hu hz
  omega
end Go.Proofs.Ytemanlkgfhmclaa
