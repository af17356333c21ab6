/- Plain: interleaved rows, product rows, bursts. No Go here. Rows of combined codes, as lists. -/
import Derived.Test.YtkmhopefnfaecaaZgLA
import Derived.Test.YtkmhopefnfaecaaZgRowL
namespace Cw
section cmb
variable {F : Type} [CField F]
open CField (inv)
/-- The word u at the positions k, s + k, 2 s + k .. -/
def iv (s k : Nat) (u : Nat → F) : Nat → F := fun t => if t % s = k then u (t / s) else 0
/-- The rows of an interleaved code, row after row; and place after place. -/
def ivP (s : Nat) (M : Nat → Nat → F) : Nat → Nat → F := fun t => iv s (t % s) (M (t / s))
theorem divmod_mul {b x y : Nat} (hy : y < b) : (b * x + y) / b = x ∧ (b * x + y) % b = y := by
  constructor
  · rw [Nat.mul_add_div (by omega), Nat.div_eq_of_lt hy, Nat.add_zero]
  · rw [Nat.mul_add_mod, Nat.mod_eq_of_lt hy]
theorem idx_lt {a b x y : Nat} (hx : x < a) (hy : y < b) : b * x + y < a * b := by
  have h : b * x + b ≤ a * b := by
    have := Nat.mul_le_mul_left b (show x + 1 ≤ a from hx)
    rw [Nat.mul_add, Nat.mul_one, Nat.mul_comm b a] at this
    exact this
  omega
/-- The parts of an interleaved word are words. -/
theorem iv_part {K s n : Nat} {M : Nat → Nat → F} {w : Nat → F} (hw : Span (K * s) (n * s) (ivP s M) w) {k : Nat} (hk : k < s) : Span K n M (fun j => w (s * j + k)) := by
  obtain ⟨c, hc⟩ := hw
  refine ⟨fun i => c (s * i + k), fun j hj => ?_⟩
  dsimp only
  rw [hc _ (idx_lt hj hk), Nat.mul_comm K s, rsum_mulk s K]
  refine rsum_congr fun i hi => ?_
  rw [rsum_single (k := k) hk fun x hx hne => by
    unfold ivP iv
    rw [(divmod_mul hx).2, (divmod_mul hk).2, if_neg (Ne.symm hne), mul_zero]]
  unfold ivP iv
  rw [(divmod_mul hk).1, (divmod_mul hk).2, (divmod_mul hk).2, (divmod_mul hk).1, if_pos rfl]
end cmb
section burst
variable {F : Type} [CField F] [DecidableEq F]
end burst
end Cw

namespace Go.Proofs.Ytkmhopefnfaecaa
open Go.RowKit Cw
/-- u and behind it v. -/
def joinF {X : Type} (n : Nat) (u v : Nat → X) : Nat → X := fun j => if j < n then u j else v (j - n)
theorem lst_join (n m : Nat) (u v : Nat → Int) : lst n u ++ lst m v = lst (n + m) (joinF n u v) := by
  unfold lst joinF
  rw [List.range_add, List.map_append, List.map_map]
  congr 1
  · exact List.map_congr_left fun j hj => by rw [if_pos (List.mem_range.1 hj)]
  · exact List.map_congr_left fun j _ => by
      show v j = if n + j < n then u (n + j) else v (n + j - n)
      rw [if_neg (by omega), Nat.add_sub_cancel_left]
theorem rowL_join (D : Desc) (n m : Nat) (u v : Nat → R D) : rowL D n u ++ rowL D m v = rowL D (n + m) (joinF n u v) := by
  unfold rowL
  rw [lst_join]
  exact lst_congr fun j _ => by unfold joinF; split <;> rfl
theorem rowL_zero (D : Desc) (n : Nat) : List.replicate n (0 : Int) = rowL D n (fun _ => 0) := by
  unfold rowL
  rw [lst_zero]
  exact lst_congr fun j _ => ci_zero.symm
/-- Rows of the first matrix, then those of the second one. -/
def stackR {X : Type} (K : Nat) (A B : Nat → X) : Nat → X := fun i => if i < K then A i else B (i - K)
theorem stackR_lo {X : Type} {K i : Nat} (A B : Nat → X) (h : i < K) : stackR K A B i = A i := if_pos h
theorem stackR_hi {X : Type} {K i : Nat} (A B : Nat → X) : stackR K A B (K + i) = B i := by unfold stackR; rw [if_neg (by omega), Nat.add_sub_cancel_left]
/-- The rows of a direct sum, of the words (u, u + v), of words side by side. -/
def sumR {F : Type} [CField F] (K n : Nat) (A B : Nat → Nat → F) : Nat → Nat → F := stackR K (fun i => joinF n (A i) fun _ => 0) (fun i => joinF n (fun _ => 0) (B i))
def ploR {F : Type} [CField F] (K n : Nat) (A B : Nat → Nat → F) : Nat → Nat → F := stackR K (fun i => joinF n (A i) (A i)) (fun i => joinF n (fun _ => 0) (B i))
/-- A row of an interleaved code while it is filled: the first i entries of l are in place. -/
def ivL (s k N : Nat) (l : List Int) (i : Nat) : List Int := lst N fun t => if t % s = k ∧ t / s < i then l[t / s]?.getD 0 else 0
theorem ivL_zero (s k N : Nat) (l : List Int) : ivL s k N l 0 = List.replicate N 0 := by
  unfold ivL
  rw [lst_zero]
  exact lst_congr fun t _ => if_neg fun h => Nat.not_lt_zero _ h.2
theorem ivL_length (s k N : Nat) (l : List Int) (i : Nat) : (ivL s k N l i).length = N := lst_length _ _
theorem ivL_set {s k N : Nat} (l : List Int) {i : Nat} (hk : k < s) : (ivL s k N l i).set (i * s + k) (l[i]?.getD 0) = ivL s k N l (i + 1) := by
  unfold ivL
  rw [lst_set]
  refine lst_congr fun t _ => ?_
  have hm : (i * s + k) % s = k ∧ (i * s + k) / s = i := by
    have := divmod_mul (x := i) hk
    rw [Nat.mul_comm] at this
    exact ⟨this.2, this.1⟩
  by_cases e : t = i * s + k
  · rw [if_pos e, e, hm.1, hm.2, if_pos ⟨rfl, Nat.lt_succ_self _⟩]
  · rw [if_neg e]
    by_cases h : t % s = k ∧ t / s < i
    · rw [if_pos h, if_pos ⟨h.1, Nat.lt_succ_of_lt h.2⟩]
    · rw [if_neg h, if_neg]
      rintro ⟨h1, h2⟩
      by_cases h3 : t / s = i
      · have := Nat.div_add_mod t s
        rw [h1, h3, Nat.mul_comm] at this
        exact e this.symm
      · exact h ⟨h1, by omega⟩
theorem ivL_full (D : FD) (s k n : Nat) (u : Nat → R D.toDesc) : ivL s k (n * s) (rowL D.toDesc n u) n = rowL D.toDesc (n * s) (iv s k u) := by
  unfold ivL
  conv => rhs; unfold rowL
  refine lst_congr fun t ht => ?_
  have h1 : t / s < n := Nat.div_lt_of_lt_mul (by rw [Nat.mul_comm]; exact ht)
  unfold iv
  by_cases h : t % s = k
  · rw [if_pos ⟨h, h1⟩, if_pos h, rowL_get _ _ h1]
  · rw [if_neg (fun c => h c.1), if_neg h, ci_zero]
end Go.Proofs.Ytkmhopefnfaecaa
