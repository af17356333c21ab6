/- Plain law of layer 39: what is decoded is unique; shifts; erased positions. No Go here. -/
import Derived.Test.YtpflgmbcmfllgaaZdBndP
namespace Go.Proofs.Ytpflgmbcmfllgaa
open Go.RowKit Cw
open Cw.CField (inv)

theorem filter_and (a b : Nat → Bool) (n : Nat) : ((List.range n).filter fun i => !(a i && b i)).length ≤ ((List.range n).filter fun i => !a i).length + ((List.range n).filter fun i => !b i).length := by
  induction n with
  | zero => exact Nat.le_refl _
  | succ n ih =>
    rw [List.range_succ, List.filter_append, List.filter_append, List.filter_append, List.length_append, List.length_append, List.length_append]
    have e : ([n].filter fun i => !(a i && b i)).length ≤ ([n].filter fun i => !a i).length + ([n].filter fun i => !b i).length := by cases h1 : a n <;> cases h2 : b n <;> simp [h1, h2]
    omega
section
variable {F : FD} {kn : Nat} {pts mul w er : List Int}
theorem wr_uniq {n : Nat} {X Y : Nat → R F.toDesc} (hX : ∀ i j, i < n → j < n → X i = X j → i = j) {m m' : List Int} (h1 : m.length ≤ kn) (h2 : m'.length ≤ kn) (h3 : 2 * wr F.toDesc n X Y m + kn ≤ n) (h4 : 2 * wr F.toDesc n X Y m' + kn ≤ n) (x : R F.toDesc) : pevI F.toDesc m x = pevI F.toDesc m' x := by
  have hd := ((cfR_lt F.toDesc m).mono h1).sub ((cfR_lt F.toDesc m').mono h2) (Nat.le_refl kn) (Nat.le_refl kn)
  have hc := filter_and (fun i => ci (pevI F.toDesc m (X i)) == ci (Y i)) (fun i => ci (pevI F.toDesc m' (X i)) == ci (Y i)) n
  have hb := filter_both (fun i => (ci (pevI F.toDesc m (X i)) == ci (Y i)) && (ci (pevI F.toDesc m' (X i)) == ci (Y i))) n
  have h5 : ((List.range n).filter fun i => !(ci (pevI F.toDesc m (X i)) == ci (Y i))).length = wr F.toDesc n X Y m := rfl
  have h6 : ((List.range n).filter fun i => !(ci (pevI F.toDesc m' (X i)) == ci (Y i))).length = wr F.toDesc n X Y m' := rfl
  rw [pevI_vl F.toDesc m x h1, pevI_vl F.toDesc m' x h2]
  refine sub_eq_zero ?_
  rw [← vl_sub]
  refine rsum_eq_zero fun s _ => ?_
  show (cfR F.toDesc m s - cfR F.toDesc m' s) * pw x s = 0
  rw [zero_of_roots hX hd (fun i => (ci (pevI F.toDesc m (X i)) == ci (Y i)) && (ci (pevI F.toDesc m' (X i)) == ci (Y i))) (by omega) (fun i hi hp => ?_) s, zero_mul]
  rw [vl_sub, ← pevI_vl F.toDesc m _ h1, ← pevI_vl F.toDesc m' _ h2]
  rw [Bool.and_eq_true, beq_iff_eq, beq_iff_eq] at hp
  rw [ci_inj (hp.1.trans hp.2.symm), sub_self]
theorem dec_uniq (hz : gchkD F.toDesc kn pts mul = 0) (hw : w.length = pts.length) (hel : elB F.toDesc w = true) (hr : ∀ x ∈ er, 0 ≤ x ∧ x < (pts.length : Int)) (hd : er.Nodup) {m m' : List Int} (h1 : m.length ≤ kn) (h2 : m'.length ≤ kn)
    (h3 : 2 * (errL (wordL F.toDesc pts mul m) w er pts.length).length + er.length + kn ≤ pts.length) (h4 : 2 * (errL (wordL F.toDesc pts mul m') w er pts.length).length + er.length + kn ≤ pts.length) : wordL F.toDesc pts mul m = wordL F.toDesc pts mul m' := by
  have hc := idxL_count hr hd
  rw [← wr_err hz hw hel m] at h3
  rw [← wr_err hz hw hel m'] at h4
  obtain ⟨N, hN⟩ : ∃ N, N = (idxL er pts.length).length := ⟨_, rfl⟩
  rw [← hN] at h3 h4 hc
  have h5 : 2 * wr F.toDesc N (xsP F pts er) (ysP F pts mul w er) m + kn ≤ N := by omega
  have h6 : 2 * wr F.toDesc N (xsP F pts er) (ysP F pts mul w er) m' + kn ≤ N := by omega
  exact wordL_congr F.toDesc pts mul (wr_uniq (hN ▸ xsP_inj hz) h1 h2 h5 h6)
theorem errL_congr {c w c' w' er : List Int} {n : Nat} (h : ∀ i, i < n → ¬ (i : Int) ∈ er → (c[i]?.getD 0 = w[i]?.getD 0 ↔ c'[i]?.getD 0 = w'[i]?.getD 0)) : ∀ k, k ≤ n → errL c w er k = errL c' w' er k
  | 0, _ => rfl
  | k + 1, hk => by
    have ih := errL_congr h k (by omega)
    by_cases h1 : (k : Int) ∈ er
    · rw [errL_in h1, errL_in h1, ih]
    · by_cases h2 : c[k]?.getD 0 = w[k]?.getD 0
      · rw [errL_eq h2, errL_eq ((h k (by omega) h1).1 h2), ih]
      · rw [errL_ne h1 h2, errL_ne h1 (fun e => h2 ((h k (by omega) h1).2 e)), ih]
/-- The sum of two words, entry by entry. -/
def plusL (D : Desc) (n : Nat) (a b : List Int) : List Int := lst n fun i => ci (eli D (a[i]?.getD 0) + eli D (b[i]?.getD 0))
theorem wordL_get (D : Desc) {pts mul m : List Int} {i : Nat} (h : i < pts.length) : (wordL D pts mul m)[i]?.getD 0 = ci (eli D (mul[i]?.getD 0) * pevI D m (eli D (pts[i]?.getD 0))) := lst_get _ h
theorem wordL_comb (D : Desc) (pts mul m : List Int) (a : Int) (m' : List Int) {i : Nat} (h : i < pts.length) : eli D ((wordL D pts mul (combL D m a m'))[i]?.getD 0) = eli D ((wordL D pts mul m)[i]?.getD 0) + eli D a * eli D ((wordL D pts mul m')[i]?.getD 0) := by
  rw [wordL_get D h, wordL_get D h, wordL_get D h, eli_ci, eli_ci, eli_ci, pevI_comb, mul_add, mul_lc]
theorem wordL_plus (D : Desc) (pts mul m m' : List Int) : wordL D pts mul (combL D m 1 m') = plusL D pts.length (wordL D pts mul m) (wordL D pts mul m') := by
  refine lst_congr fun i hi => ?_
  have h := wordL_comb D pts mul m 1 m' hi
  rw [eli_one, one_mul] at h
  rw [← h, wordL_get D hi, eli_ci]
/-- The error positions, where a codeword is added to both. -/
theorem err_shift (hw : w.length = pts.length) (hel : elB F.toDesc w = true) (m m0 : List Int) : errL (wordL F.toDesc pts mul (combL F.toDesc m 1 m0)) (plusL F.toDesc pts.length w (wordL F.toDesc pts mul m0)) er pts.length = errL (wordL F.toDesc pts mul m) w er pts.length := by
  refine errL_congr (fun i hi _ => ?_) _ (Nat.le_refl _)
  rw [wordL_plus]
  unfold plusL
  rw [lst_get _ hi, lst_get _ hi]
  constructor
  · intro h
    have h1 := add_right_cancel (ci_inj h)
    rw [← ci_eli_in (elB_iff.1 hel i (by omega)), ← h1, wordL_get F.toDesc hi, eli_ci]
  · intro h
    rw [h]
theorem plusL_length (D : Desc) (n : Nat) (a b : List Int) : (plusL D n a b).length = n := lst_length _ _
theorem plusL_elB (D : Desc) (n : Nat) (a b : List Int) : elB D (plusL D n a b) = true := elB_iff.2 fun j hj => by
  rw [plusL_length] at hj
  unfold plusL
  rw [lst_get _ hj]
  exact ⟨ci_nonneg _, ci_lt _⟩
theorem no_shift (hw : w.length = pts.length) (hel : elB F.toDesc w = true) {m0 : List Int} (h0 : m0.length ≤ kn) (h : DecNo F.toDesc kn pts mul w er) : DecNo F.toDesc kn pts mul (plusL F.toDesc pts.length w (wordL F.toDesc pts mul m0)) er := fun m hm => by
  have h1 := h (combL F.toDesc m (ci (-(1 : R F.toDesc))) m0) (by have := combL_le F.toDesc m (ci (-(1 : R F.toDesc))) m0; omega)
  rw [← err_shift (er := er) (mul := mul) hw hel _ m0] at h1
  have e : wordL F.toDesc pts mul (combL F.toDesc (combL F.toDesc m (ci (-(1 : R F.toDesc))) m0) 1 m0) = wordL F.toDesc pts mul m := wordL_congr F.toDesc pts mul fun x => by
    rw [pevI_comb, pevI_comb, eli_one, eli_ci, one_mul, neg_mul, one_mul, add_a, neg_add, add_zero]
  rw [e] at h1
  exact h1
end
section
variable {F : FD} {kn : Nat} {pts mul w er : List Int}
theorem shift_no (hw : w.length = pts.length) (hel : elB F.toDesc w = true) {m0 : List Int} (h0 : m0.length ≤ kn) (h : DecNo F.toDesc kn pts mul w er) {m : List Int} (hm : DecOK F.toDesc kn pts mul (plusL F.toDesc pts.length w (wordL F.toDesc pts mul m0)) er m) : False := by
  have h1 := no_shift hw hel h0 h m (Nat.le_of_eq hm.1)
  have h2 := hm.2.2
  omega
theorem comb_len {m m0 : List Int} (a : Int) (h1 : m.length ≤ kn) (h0 : m0.length ≤ kn) : (combL F.toDesc m a m0).length ≤ kn := by have := combL_le F.toDesc m a m0; omega
theorem shift_ok (hw : w.length = pts.length) (hel : elB F.toDesc w = true) {m0 : List Int} (h0 : m0.length ≤ kn) {m : List Int} (hm : DecOK F.toDesc kn pts mul w er m) : ¬ DecNo F.toDesc kn pts mul (plusL F.toDesc pts.length w (wordL F.toDesc pts mul m0)) er := fun h => by
  have h1 := h _ (comb_len (F := F) 1 (Nat.le_of_eq hm.1) h0)
  rw [err_shift hw hel m m0] at h1
  have := hm.2.2
  omega
theorem shift_same (hz : gchkD F.toDesc kn pts mul = 0) (hw : w.length = pts.length) (hel : elB F.toDesc w = true) (hr : ∀ x ∈ er, 0 ≤ x ∧ x < (pts.length : Int)) (hd : er.Nodup) {m0 : List Int} (h0 : m0.length ≤ kn) {m m' : List Int} (hm : DecOK F.toDesc kn pts mul w er m)
    (hm' : DecOK F.toDesc kn pts mul (plusL F.toDesc pts.length w (wordL F.toDesc pts mul m0)) er m') :
    wordL F.toDesc pts mul m' = plusL F.toDesc pts.length (wordL F.toDesc pts mul m) (wordL F.toDesc pts mul m0) ∧ errL (wordL F.toDesc pts mul m') (plusL F.toDesc pts.length w (wordL F.toDesc pts mul m0)) er pts.length = errL (wordL F.toDesc pts mul m) w er pts.length := by
  have e1 := err_shift (er := er) (mul := mul) hw hel m m0
  have e2 := dec_uniq hz (plusL_length F.toDesc pts.length w (wordL F.toDesc pts mul m0)) (plusL_elB _ _ _ _) hr hd (Nat.le_of_eq hm'.1) (comb_len (F := F) 1 (Nat.le_of_eq hm.1) h0) hm'.2.2 (by rw [e1]; exact hm.2.2)
  refine ⟨by rw [e2, wordL_plus], by rw [e2, e1]⟩
end
end Go.Proofs.Ytpflgmbcmfllgaa
