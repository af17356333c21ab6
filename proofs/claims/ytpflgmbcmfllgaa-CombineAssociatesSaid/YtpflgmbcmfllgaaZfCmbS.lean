/- Rows of combined codes, as lists. -/
import Derived.Test.YtpflgmbcmfllgaaZfRowL
import Derived.Test.YtpflgmbcmfllgaaZfCmbL
namespace Go.Proofs.Ytpflgmbcmfllgaa
open Go.RowKit Cw
/-- u and behind it v. -/
def joinF {X : Type} (n : Nat) (u v : Nat → X) : Nat → X := fun j => if j < n then u j else v (j - n)
theorem lst_join (n m : Nat) (u v : Nat → Int) : lst n u ++ lst m v = lst (n + m) (joinF n u v) := by
  unfold lst joinF
  rw [List.range_add, List.map_append, List.map_map]
  congr 1
  · exact List.map_congr_left fun j hj => by rw [if_pos (List.mem_range.1 hj)]
  · exact List.map_congr_left fun j _ => by
      show v j = if n + j < n then u (n + j) else v (n + j - n)
      rw [if_neg (by omega), Nat.add_sub_cancel_left]
theorem rowL_join (D : Desc) (n m : Nat) (u v : Nat → R D) : rowL D n u ++ rowL D m v = rowL D (n + m) (joinF n u v) := by
  unfold rowL
  rw [lst_join]
  exact lst_congr fun j _ => by unfold joinF; split <;> rfl
theorem rowL_zero (D : Desc) (n : Nat) : List.replicate n (0 : Int) = rowL D n (fun _ => 0) := by
  unfold rowL
  rw [lst_zero]
  exact lst_congr fun j _ => ci_zero.symm
/-- Rows of the first matrix, then those of the second one. -/
def stackR {X : Type} (K : Nat) (A B : Nat → X) : Nat → X := fun i => if i < K then A i else B (i - K)
theorem stackR_lo {X : Type} {K i : Nat} (A B : Nat → X) (h : i < K) : stackR K A B i = A i := if_pos h
theorem stackR_hi {X : Type} {K i : Nat} (A B : Nat → X) : stackR K A B (K + i) = B i := by unfold stackR; rw [if_neg (by omega), Nat.add_sub_cancel_left]
/-- The rows of a direct sum, of the words (u, u + v), of words side by side. -/
def sumR {F : Type} [CField F] (K n : Nat) (A B : Nat → Nat → F) : Nat → Nat → F := stackR K (fun i => joinF n (A i) fun _ => 0) (fun i => joinF n (fun _ => 0) (B i))
def ploR {F : Type} [CField F] (K n : Nat) (A B : Nat → Nat → F) : Nat → Nat → F := stackR K (fun i => joinF n (A i) (A i)) (fun i => joinF n (fun _ => 0) (B i))
end Go.Proofs.Ytpflgmbcmfllgaa
