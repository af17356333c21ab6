/- Plain law of layer 39: what is decoded is unique; shifts; erased positions. No Go here. -/
import Derived.Test.YtpflgmbcmfllgaaZcBndP
namespace Go.Proofs.Ytpflgmbcmfllgaa
open Go.RowKit Cw
open Cw.CField (inv)

theorem filter_and (a b : Nat → Bool) (n : Nat) : ((List.range n).filter fun i => !(a i && b i)).length ≤ ((List.range n).filter fun i => !a i).length + ((List.range n).filter fun i => !b i).length := by
  induction n with
  | zero => exact Nat.le_refl _
  | succ n ih =>
    rw [List.range_succ, List.filter_append, List.filter_append, List.filter_append, List.length_append, List.length_append, List.length_append]
    have e : ([n].filter fun i => !(a i && b i)).length ≤ ([n].filter fun i => !a i).length + ([n].filter fun i => !b i).length := by cases h1 : a n <;> cases h2 : b n <;> simp [h1, h2]
    omega
section
variable {F : FD} {kn : Nat} {pts mul w er : List Int}
theorem wr_uniq {n : Nat} {X Y : Nat → R F.toDesc} (hX : ∀ i j, i < n → j < n → X i = X j → i = j) {m m' : List Int} (h1 : m.length ≤ kn) (h2 : m'.length ≤ kn) (h3 : 2 * wr F.toDesc n X Y m + kn ≤ n) (h4 : 2 * wr F.toDesc n X Y m' + kn ≤ n) (x : R F.toDesc) : pevI F.toDesc m x = pevI F.toDesc m' x := by
  have hd := ((cfR_lt F.toDesc m).mono h1).sub ((cfR_lt F.toDesc m').mono h2) (Nat.le_refl kn) (Nat.le_refl kn)
  have hc := filter_and (fun i => ci (pevI F.toDesc m (X i)) == ci (Y i)) (fun i => ci (pevI F.toDesc m' (X i)) == ci (Y i)) n
  have hb := filter_both (fun i => (ci (pevI F.toDesc m (X i)) == ci (Y i)) && (ci (pevI F.toDesc m' (X i)) == ci (Y i))) n
  have h5 : ((List.range n).filter fun i => !(ci (pevI F.toDesc m (X i)) == ci (Y i))).length = wr F.toDesc n X Y m := rfl
  have h6 : ((List.range n).filter fun i => !(ci (pevI F.toDesc m' (X i)) == ci (Y i))).length = wr F.toDesc n X Y m' := rfl
  rw [pevI_vl F.toDesc m x h1, pevI_vl F.toDesc m' x h2]
  refine sub_eq_zero ?_
  rw [← vl_sub]
  refine rsum_eq_zero fun s _ => ?_
  show (cfR F.toDesc m s - cfR F.toDesc m' s) * pw x s = 0
  rw [zero_of_roots hX hd (fun i => (ci (pevI F.toDesc m (X i)) == ci (Y i)) && (ci (pevI F.toDesc m' (X i)) == ci (Y i))) (by omega) (fun i hi hp => ?_) s, zero_mul]
  rw [vl_sub, ← pevI_vl F.toDesc m _ h1, ← pevI_vl F.toDesc m' _ h2]
  rw [Bool.and_eq_true, beq_iff_eq, beq_iff_eq] at hp
  rw [ci_inj (hp.1.trans hp.2.symm), sub_self]
theorem dec_uniq (hz : gchkD F.toDesc kn pts mul = 0) (hw : w.length = pts.length) (hel : elB F.toDesc w = true) (hr : ∀ x ∈ er, 0 ≤ x ∧ x < (pts.length : Int)) (hd : er.Nodup) {m m' : List Int} (h1 : m.length ≤ kn) (h2 : m'.length ≤ kn)
    (h3 : 2 * (errL (wordL F.toDesc pts mul m) w er pts.length).length + er.length + kn ≤ pts.length) (h4 : 2 * (errL (wordL F.toDesc pts mul m') w er pts.length).length + er.length + kn ≤ pts.length) : wordL F.toDesc pts mul m = wordL F.toDesc pts mul m' := by
  have hc := idxL_count hr hd
  rw [← wr_err hz hw hel m] at h3
  rw [← wr_err hz hw hel m'] at h4
  obtain ⟨N, hN⟩ : ∃ N, N = (idxL er pts.length).length := ⟨_, rfl⟩
  rw [← hN] at h3 h4 hc
  have h5 : 2 * wr F.toDesc N (xsP F pts er) (ysP F pts mul w er) m + kn ≤ N := by omega
  have h6 : 2 * wr F.toDesc N (xsP F pts er) (ysP F pts mul w er) m' + kn ≤ N := by omega
  exact wordL_congr F.toDesc pts mul (wr_uniq (hN ▸ xsP_inj hz) h1 h2 h5 h6)
theorem errL_congr {c w c' w' er : List Int} {n : Nat} (h : ∀ i, i < n → ¬ (i : Int) ∈ er → (c[i]?.getD 0 = w[i]?.getD 0 ↔ c'[i]?.getD 0 = w'[i]?.getD 0)) : ∀ k, k ≤ n → errL c w er k = errL c' w' er k
  | 0, _ => rfl
  | k + 1, hk => by
    have ih := errL_congr h k (by omega)
    by_cases h1 : (k : Int) ∈ er
    · rw [errL_in h1, errL_in h1, ih]
    · by_cases h2 : c[k]?.getD 0 = w[k]?.getD 0
      · rw [errL_eq h2, errL_eq ((h k (by omega) h1).1 h2), ih]
      · rw [errL_ne h1 h2, errL_ne h1 (fun e => h2 ((h k (by omega) h1).2 e)), ih]
end
section
variable {F : FD} {kn : Nat} {pts mul w er : List Int}
/-- Two words that agree outside the erased positions. -/
def Agr (n : Nat) (er w w' : List Int) : Prop := ∀ i, i < n → ¬ (i : Int) ∈ er → w[i]?.getD 0 = w'[i]?.getD 0
theorem agr_err {w' : List Int} {n : Nat} (h : Agr n er w w') (c : List Int) : errL c w er n = errL c w' er n := errL_congr (fun i hi hn => by rw [h i hi hn]) n (Nat.le_refl n)
theorem agr_no {w' : List Int} (h : Agr pts.length er w w') (hn : DecNo F.toDesc kn pts mul w er) {m : List Int} (hm : DecOK F.toDesc kn pts mul w' er m) : False := by
  have h1 := hn m (Nat.le_of_eq hm.1)
  rw [agr_err h] at h1
  have := hm.2.2
  omega
theorem agr_ok {w' : List Int} (h : Agr pts.length er w w') {m : List Int} (hm : DecOK F.toDesc kn pts mul w er m) (hn : DecNo F.toDesc kn pts mul w' er) : False := by
  have h1 := hn m (Nat.le_of_eq hm.1)
  rw [← agr_err h] at h1
  have := hm.2.2
  omega
theorem agr_same {w' : List Int} (h : Agr pts.length er w w') (hz : gchkD F.toDesc kn pts mul = 0) (hw : w.length = pts.length) (hel : elB F.toDesc w = true) (hr : ∀ x ∈ er, 0 ≤ x ∧ x < (pts.length : Int)) (hd : er.Nodup) {m m' : List Int} (hm : DecOK F.toDesc kn pts mul w er m) (hm' : DecOK F.toDesc kn pts mul w' er m') :
    wordL F.toDesc pts mul m' = wordL F.toDesc pts mul m ∧ errL (wordL F.toDesc pts mul m') w' er pts.length = errL (wordL F.toDesc pts mul m) w er pts.length := by
  have e := dec_uniq hz hw hel hr hd (Nat.le_of_eq hm'.1) (Nat.le_of_eq hm.1) (by rw [agr_err h]; exact hm'.2.2) hm.2.2
  exact ⟨e, by rw [e, agr_err h]⟩
end
end Go.Proofs.Ytpflgmbcmfllgaa
