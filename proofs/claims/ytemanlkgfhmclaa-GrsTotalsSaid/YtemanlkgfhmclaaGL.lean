/- Plain law of layer 18: the weights of codewords, the dual description. No Go here. Plain law of layer 18: the dual description and its dual. No Go here. Plain law of layer 18: codewords are orthogonal to those of the dual description. No Go here. -/
import Derived.Test.YtemanlkgfhmclaaGrsH
import Derived.Test.YtemanlkgfhmclaaP1
/-! Plain law of layer 18: the weights of codewords, the dual description. No Go here -/
namespace Go.Proofs.Ytemanlkgfhmclaa
open Cw
open Cw.CField (inv)

/-- How many entries are not 0. -/
def wgt (l : List Int) : Nat := (l.filter fun x => x != 0).length
theorem wgt_append (l m : List Int) : wgt (l ++ m) = wgt l + wgt m := by unfold wgt; rw [List.filter_append, List.length_append]
theorem wgt_zero {l : List Int} (h : ∀ x ∈ l, x = 0) : wgt l = 0 := by
  unfold wgt
  rw [List.filter_eq_nil_iff.2 (fun x hx => by simp [h x hx])]; rfl
theorem wgt_take (l : List Int) {k : Nat} (h : k < l.length) : wgt (l.take (k + 1)) = wgt (l.take k) + if l[k]?.getD 0 = 0 then 0 else 1 := by
  rw [List.take_succ_eq_append_getElem h, wgt_append]
  congr 1
  rw [List.getElem?_eq_getElem h]
  unfold wgt
  by_cases e : l[k] = 0 <;> simp [e]
theorem wgt_le (l : List Int) : wgt l ≤ l.length := List.length_filter_le _ _
/-- The places where f is 0. -/
def zrs (n : Nat) (f : Nat → Int) : List Nat := (List.range n).filter fun i => f i == 0
theorem wgt_lst (n : Nat) (f : Nat → Int) : wgt (lst n f) + (zrs n f).length = n := by
  induction n with
  | zero => rfl
  | succ n ih =>
    unfold zrs at *
    rw [lst_succ, wgt_append, List.range_succ, List.filter_append, List.length_append]
    have e : wgt [f n] + (List.filter (fun i => f i == 0) [n]).length = 1 := by
      unfold wgt
      by_cases h : f n = 0 <;> simp [h]
    omega
theorem eli_inj {D : Desc} {x y : Int} (hx : 0 ≤ x ∧ x < D.q) (hy : 0 ≤ y ∧ y < D.q) (h : eli D x = eli D y) : x = y := by rw [← ci_eli_in hx, ← ci_eli_in hy, h]
theorem eli_ne {D : Desc} {x : Int} (hx : 0 ≤ x ∧ x < D.q) (h : x ≠ 0) : eli D x ≠ 0 := fun e => h (by rw [← ci_eli_in hx, e, ci_zero])
theorem nodup_get {l : List Int} (h : twB l = false) {i j : Nat} (hi : i < l.length) (hj : j < l.length) (e : l[i]?.getD 0 = l[j]?.getD 0) : i = j := by
  rcases Nat.lt_trichotomy i j with h1 | h1 | h1
  · rw [twB_yes h1 hj e.symm] at h; cases h
  · exact h1
  · rw [twB_yes h1 hi e] at h; cases h
theorem mem_get {l : List Int} {i : Nat} (hi : i < l.length) : l[i]?.getD 0 ∈ l := by rw [List.getElem?_eq_getElem hi]; exact List.getElem_mem _

section
variable {F : FD}
theorem pevI_pev (l : List Int) (u : R F.toDesc) : pevI F.toDesc l u = pev (l.map (eli F.toDesc)) u := by
  have e : l.map (eli F.toDesc) = (List.range l.length).map (fun i => eli F.toDesc (l[i]?.getD 0)) := by
    apply List.ext_getElem
    · simp
    · intro i h1 h2
      have : i < l.length := by simpa using h1
      simp [this]
  rw [e, pev_map]
  rfl

/-- The places where a codeword is 0 are those of the roots among the points. -/
theorem word_zero {K : Int} {pts mul msg : List Int} (hz : gchkD F.toDesc K pts mul = 0) {i : Nat} (hi : i < pts.length) :
    ci (eli F.toDesc (mul[i]?.getD 0) * pevI F.toDesc msg (eli F.toDesc (pts[i]?.getD 0))) = 0 ↔ pev (msg.map (eli F.toDesc)) (eli F.toDesc (pts[i]?.getD 0)) = 0 := by
  obtain ⟨-, -, hlen, -, hm, -, h0, -, -⟩ := gchkD_zero hz
  have h1 := elB_iff.1 hm i (by omega)
  have h2 : mul[i]?.getD 0 ≠ 0 := fun e => h0 (e ▸ mem_get (by omega))
  rw [ci_eq_zero, pevI_pev]
  constructor
  · intro h
    rcases mul_eq_zero h with h | h
    · exact absurd h (eli_ne h1 h2)
    · exact h
  · intro h
    rw [h]; exact mul_zero _
theorem roots_of_word {K : Int} {pts mul msg : List Int} (hz : gchkD F.toDesc K pts mul = 0) (he : elErr F.toDesc msg K 3 = 0) (hw : wgt msg ≠ 0) :
    (zrs pts.length fun i => ci (eli F.toDesc (mul[i]?.getD 0) * pevI F.toDesc msg (eli F.toDesc (pts[i]?.getD 0)))).length < msg.length := by
  obtain ⟨-, -, hlen, hp, hm, ht, h0, -, -⟩ := gchkD_zero hz
  have hel : elB F.toDesc msg = true := by
    unfold elErr at he
    by_cases h1 : (msg.length : Int) ≠ K
    · rw [if_pos h1] at he; cases he
    · rw [if_neg h1] at he
      by_cases h2 : elB F.toDesc msg = false
      · rw [if_pos h2] at he; cases he
      · exact Bool.not_eq_false _ ▸ h2
  apply Classical.byContradiction
  intro hge
  apply hw
  have key := pev_roots ((zrs pts.length fun i => ci (eli F.toDesc (mul[i]?.getD 0) * pevI F.toDesc msg (eli F.toDesc (pts[i]?.getD 0)))).map fun i => eli F.toDesc (pts[i]?.getD 0)) (msg.map (eli F.toDesc)) (by rw [List.length_map, List.length_map]; omega) ?_ ?_
  · refine wgt_zero fun x hx => ?_
    have h1 := key (eli F.toDesc x) (List.mem_map.2 ⟨x, hx, rfl⟩)
    obtain ⟨j, hj, rfl⟩ := List.getElem_of_mem hx
    have h2 := elB_iff.1 hel j hj
    rw [List.getElem?_eq_getElem hj] at h2
    exact Classical.byContradiction fun h3 => eli_ne h2 h3 h1
  · refine List.pairwise_map.2 (List.Pairwise.imp_of_mem ?_ (List.Pairwise.filter _ (List.nodup_range (n := pts.length))))
    intro x y hx hy hne e
    have hx' : x < pts.length := List.mem_range.1 (List.mem_filter.1 hx).1
    have hy' : y < pts.length := List.mem_range.1 (List.mem_filter.1 hy).1
    exact hne (nodup_get ht hx' hy' (eli_inj (elB_iff.1 hp x hx') (elB_iff.1 hp y hy') e))
  · intro x hx
    obtain ⟨i, hi, rfl⟩ := List.mem_map.1 hx
    have hi2 := List.mem_filter.1 hi
    exact (word_zero hz (List.mem_range.1 hi2.1)).1 (by simpa using hi2.2)
/-- A nonzero codeword has a weight of at least n - K + 1. -/
theorem word_wgt {K : Int} {pts mul msg : List Int} (hz : gchkD F.toDesc K pts mul = 0) (he : elErr F.toDesc msg K 3 = 0) (hw : wgt msg ≠ 0) :
    (pts.length : Int) - K + 1 ≤ wgt (wordL F.toDesc pts mul msg) := by
  have h1 := roots_of_word hz he hw
  have h2 := wgt_lst pts.length fun i => ci (eli F.toDesc (mul[i]?.getD 0) * pevI F.toDesc msg (eli F.toDesc (pts[i]?.getD 0)))
  have h3 : (msg.length : Int) = K := by
    unfold elErr at he
    by_cases h1 : (msg.length : Int) ≠ K
    · rw [if_pos h1] at he; cases he
    · exact Classical.not_not.1 h1
  unfold wordL
  omega
end
end Go.Proofs.Ytemanlkgfhmclaa

/-! Plain law of layer 18: the dual description and its dual. No Go here -/
namespace Go.Proofs.Ytemanlkgfhmclaa
open Cw
open Cw.CField (inv)

theorem dualL_length (F : FD) (pts mul : List Int) : (dualL F pts mul).length = pts.length := lst_length _ _
theorem dprod_mul (D : Desc) (pts : List Int) (i : Nat) (u : R D) : ∀ k, dprod D pts i u k = u * dprod D pts i 1 k
  | 0 => (mul_one u).symm
  | k + 1 => by
    by_cases h : k = i
    · rw [show dprod D pts i u (k + 1) = dprod D pts i u k from if_pos h, show dprod D pts i 1 (k + 1) = dprod D pts i 1 k from if_pos h, dprod_mul D pts i u k]
    · rw [dprod_other _ _ _ h, dprod_other _ _ _ h, dprod_mul D pts i u k, mul_a]
theorem dualL_eq {F F' : FD} (h : F'.toDesc = F.toDesc) (pts mul : List Int) : dualL F' pts mul = dualL F pts mul := by
  obtain ⟨D, g, a, b, c⟩ := F
  obtain ⟨D', g', a', b', c'⟩ := F'
  dsimp only at h
  subst h
  rfl

section
variable {F : FD}
theorem dprod_ne {pts : List Int} (hp : elB F.toDesc pts = true) (ht : twB pts = false) {i : Nat} (hi : i < pts.length) : ∀ k, k ≤ pts.length → dprod F.toDesc pts i 1 k ≠ 0
  | 0, _ => one_ne (F := R F.toDesc)
  | k + 1, hk => by
    have ih := dprod_ne hp ht hi k (by omega)
    by_cases h : k = i
    · rw [show dprod F.toDesc pts i 1 (k + 1) = dprod F.toDesc pts i 1 k from if_pos h]; exact ih
    · rw [dprod_other _ _ _ h]
      refine mul_ne_zero (F := R F.toDesc) ih fun e => h ?_
      exact (nodup_get ht hi (by omega) (eli_inj (elB_iff.1 hp i hi) (elB_iff.1 hp k (by omega)) (sub_eq_zero e))).symm
theorem dualV_ne {K : Int} {pts mul : List Int} (hz : gchkD F.toDesc K pts mul = 0) {i : Nat} (hi : i < pts.length) : dprod F.toDesc pts i (eli F.toDesc (mul[i]?.getD 0)) pts.length ≠ 0 := by
  obtain ⟨-, -, hlen, hp, hm, ht, h0, -, -⟩ := gchkD_zero hz
  rw [dprod_mul]
  exact mul_ne_zero (F := R F.toDesc) (eli_ne (elB_iff.1 hm i (by omega)) fun e => h0 (e ▸ mem_get (by omega))) (dprod_ne hp ht hi _ (Nat.le_refl _))
theorem dualL_get {pts mul : List Int} {i : Nat} (hi : i < pts.length) : (dualL F pts mul)[i]?.getD 0 = dualV F pts mul i := lst_get _ hi
/-- The dual of the dual is the description itself. -/
theorem dual_dual {K : Int} {pts mul : List Int} (hz : gchkD F.toDesc K pts mul = 0) : dualL F pts (dualL F pts mul) = mul := by
  obtain ⟨-, -, hlen, hp, hm, ht, h0, -, -⟩ := gchkD_zero hz
  rw [eq_lst mul, hlen]
  refine lst_congr fun i hi => ?_
  rw [← hlen, ← eq_lst]
  have hP := dprod_ne hp ht hi _ (Nat.le_refl _)
  have hv := dualV_ne hz hi
  have hmi := elB_iff.1 hm i (by omega)
  have hm0 : eli F.toDesc (mul[i]?.getD 0) ≠ 0 := eli_ne hmi fun e => h0 (e ▸ mem_get (by omega))
  unfold dualV
  rw [dualL_get hi]
  unfold dualV
  rw [eli_ci, dprod_mul F.toDesc pts i (inv _), dprod_mul F.toDesc pts i (eli F.toDesc _)]
  generalize dprod F.toDesc pts i 1 pts.length = P at *
  have e : inv (eli F.toDesc (mul[i]?.getD 0) * P) * P = inv (eli F.toDesc (mul[i]?.getD 0)) := by
    rw [inv_mul_d, mul_a, inv_mul hP, mul_one]
  rw [e, inv_inv, ci_eli_in hmi]
/-- The dual description describes a code. -/
theorem dual_chk {K : Int} {pts mul : List Int} (hz : gchkD F.toDesc K pts mul = 0) : gchkD F.toDesc ((pts.length : Int) - K) pts (dualL F pts mul) = 0 := by
  obtain ⟨h1, h64, hlen, hp, hm, ht, h0, hK0, hKn⟩ := gchkD_zero hz
  unfold gchkD
  rw [dualL_length, if_neg (by omega), if_neg (by omega), if_neg, if_neg (by rw [ht]; simp), if_neg, if_neg (by omega)]
  · intro hmem
    obtain ⟨i, hi, hi2⟩ := List.mem_map.1 (show (0 : Int) ∈ (List.range pts.length).map (dualV F pts mul) from hmem)
    exact inv_ne_zero (dualV_ne hz (List.mem_range.1 hi)) (ci_eq_zero.1 hi2)
  · rintro (h3 | h3)
    · rw [hp] at h3; cases h3
    · rw [elB_iff.2 fun j hj => ?_] at h3
      · cases h3
      · rw [dualL_length] at hj
        rw [dualL_get hj]
        exact ⟨ci_nonneg _, ci_lt _⟩
end
end Go.Proofs.Ytemanlkgfhmclaa

/-! Plain law of layer 18: codewords are orthogonal to those of the dual description. No Go here -/
namespace Go.Proofs.Ytemanlkgfhmclaa
open Cw
open Cw.CField (inv)
section
variable {F : FD}
theorem dprod_lval (pts : List Int) (i : Nat) : ∀ k, dprod F.toDesc pts i 1 k = lval (fun j => eli F.toDesc (pts[j]?.getD 0)) i (eli F.toDesc (pts[i]?.getD 0)) k
  | 0 => rfl
  | k + 1 => by
    by_cases h : k = i
    · rw [show dprod F.toDesc pts i 1 (k + 1) = dprod F.toDesc pts i 1 k from if_pos h, show lval (fun j => eli F.toDesc (pts[j]?.getD 0)) i (eli F.toDesc (pts[i]?.getD 0)) (k + 1) = lval (fun j => eli F.toDesc (pts[j]?.getD 0)) i (eli F.toDesc (pts[i]?.getD 0)) k from if_pos h]
      exact dprod_lval pts i k
    · rw [dprod_other _ _ _ h, lval_other _ _ h, dprod_lval pts i k]
theorem pts_inj {pts : List Int} (hp : elB F.toDesc pts = true) (ht : twB pts = false) : ∀ i j, i < pts.length → j < pts.length → eli F.toDesc (pts[i]?.getD 0) = eli F.toDesc (pts[j]?.getD 0) → i = j :=
  fun i j hi hj e => nodup_get ht hi hj (eli_inj (elB_iff.1 hp i hi) (elB_iff.1 hp j hj) e)
theorem dot_dual {K : Int} {pts mul l1 l2 : List Int} (hz : gchkD F.toDesc K pts mul = 0) (h1 : (l1.length : Int) = K) (h2 : (l2.length : Int) = (pts.length : Int) - K) :
    rsum pts.length (fun i => eli F.toDesc ((wordL F.toDesc pts mul l1)[i]?.getD 0) * eli F.toDesc ((wordL F.toDesc pts (dualL F pts mul) l2)[i]?.getD 0)) = 0 := by
  obtain ⟨hn1, -, hlen, hp, hm, ht, h0, hK0, hKn⟩ := gchkD_zero hz
  have h := lag_two (F := R F.toDesc) (n := pts.length) (K := l1.length) (L := l2.length) (by omega) (fun j => eli F.toDesc (pts[j]?.getD 0)) (fun j => eli F.toDesc (l1[j]?.getD 0)) (fun j => eli F.toDesc (l2[j]?.getD 0)) (pts_inj hp ht)
  rw [← h]
  refine rsum_congr fun i hi => ?_
  have hmi : eli F.toDesc (mul[i]?.getD 0) ≠ 0 := eli_ne (elB_iff.1 hm i (by omega)) fun e => h0 (e ▸ mem_get (by omega))
  have e1 : eli F.toDesc ((wordL F.toDesc pts mul l1)[i]?.getD 0) = eli F.toDesc (mul[i]?.getD 0) * pevI F.toDesc l1 (eli F.toDesc (pts[i]?.getD 0)) := by
    unfold wordL; rw [lst_get _ hi, eli_ci]
  have e2 : eli F.toDesc ((wordL F.toDesc pts (dualL F pts mul) l2)[i]?.getD 0) = inv (eli F.toDesc (mul[i]?.getD 0)) * inv (lval (fun j => eli F.toDesc (pts[j]?.getD 0)) i (eli F.toDesc (pts[i]?.getD 0)) pts.length) * pevI F.toDesc l2 (eli F.toDesc (pts[i]?.getD 0)) := by
    unfold wordL
    rw [lst_get _ hi, eli_ci, dualL_get hi]
    unfold dualV
    rw [eli_ci, dprod_mul, dprod_lval, inv_mul_d]
  rw [e1, e2]
  show _ = pevI F.toDesc l1 (eli F.toDesc (pts[i]?.getD 0)) * pevI F.toDesc l2 (eli F.toDesc (pts[i]?.getD 0)) * _
  generalize pevI F.toDesc l1 (eli F.toDesc (pts[i]?.getD 0)) = u
  generalize pevI F.toDesc l2 (eli F.toDesc (pts[i]?.getD 0)) = v
  generalize inv (lval (fun j => eli F.toDesc (pts[j]?.getD 0)) i (eli F.toDesc (pts[i]?.getD 0)) pts.length) = P
  generalize eli F.toDesc (mul[i]?.getD 0) = m at *
  rw [show m * u * (inv m * P * v) = (m * inv m) * (u * v * P) by ac_rfl, mul_inv hmi, one_mul]
end
end Go.Proofs.Ytemanlkgfhmclaa
