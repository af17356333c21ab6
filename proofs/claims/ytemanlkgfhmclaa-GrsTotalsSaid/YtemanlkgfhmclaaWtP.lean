/- Plain: the weights of the codewords of a description are those that the formula counts. No Go here. -/
import Derived.Test.YtemanlkgfhmclaaGL
import Derived.Test.YtemanlkgfhmclaaWtL
namespace Go.Proofs.Ytemanlkgfhmclaa
open Cw
open Cw.CField (inv)

/-- The message with the number i. -/
def msgL (q K i : Nat) : List Int := lst K fun t => ((i / q ^ t % q : Nat) : Int)
theorem msgL_length (q K i : Nat) : (msgL q K i).length = K := lst_length _ _
section
variable {F : FD}
theorem pts_nodup {K : Int} {pts mul : List Int} (hz : gchkD F.toDesc K pts mul = 0) : (pts.map (eli F.toDesc)).Nodup := by
  obtain ⟨-, -, -, hp, -, ht, -, -, -⟩ := gchkD_zero hz
  refine List.pairwise_iff_getElem.2 fun i j hi hj hij e => ?_
  rw [List.length_map] at hi hj
  rw [List.getElem_map, List.getElem_map] at e
  have h1 : pts[i]?.getD 0 = pts[i] := by rw [List.getElem?_eq_getElem hi]; rfl
  have h2 : pts[j]?.getD 0 = pts[j] := by rw [List.getElem?_eq_getElem hj]; rfl
  have := nodup_get ht hi hj (eli_inj (elB_iff.1 hp i hi) (elB_iff.1 hp j hj) (by rw [h1, h2]; exact e))
  omega
theorem eli_nat {n : Nat} (h : n < F.q) : eli F.toDesc (n : Int) = FF.el n := by
  unfold eli; rw [if_pos ⟨by omega, by exact_mod_cast h⟩]; rfl
theorem pevI_msg (K i : Nat) (u : R F.toDesc) : pevI F.toDesc (msgL F.q K i) u = evN K i u := by
  unfold pevI evN
  rw [msgL_length]
  refine rsum_congr fun t ht => ?_
  unfold msgL mgN
  rw [lst_get _ ht, eli_nat (Nat.mod_lt _ (by have := F.toDesc.q2; omega))]
  rfl
theorem word_wt {K : Int} {pts mul : List Int} (hz : gchkD F.toDesc K pts mul = 0) (k i : Nat) : wgt (wordL F.toDesc pts mul (msgL F.q k i)) = wtN k i (pts.map (eli F.toDesc)) := by
  have h2 := wgt_lst pts.length fun t => ci (eli F.toDesc (mul[t]?.getD 0) * pevI F.toDesc (msgL F.q k i) (eli F.toDesc (pts[t]?.getD 0)))
  have e : zrs pts.length (fun t => ci (eli F.toDesc (mul[t]?.getD 0) * pevI F.toDesc (msgL F.q k i) (eli F.toDesc (pts[t]?.getD 0)))) = (List.range pts.length).filter fun t => decide (evN k i (eli F.toDesc (pts[t]?.getD 0)) = 0) := by
    unfold zrs
    refine List.filter_congr fun t ht => ?_
    have h1 := word_zero (msg := msgL F.q k i) hz (List.mem_range.1 ht)
    rw [← pevI_pev, pevI_msg] at h1
    show (ci (eli F.toDesc (mul[t]?.getD 0) * pevI F.toDesc (msgL F.q k i) (eli F.toDesc (pts[t]?.getD 0))) == 0) = _
    rw [pevI_msg, show ∀ z : Int, (z == 0) = decide (z = 0) from fun _ => rfl]
    exact decide_eq_decide.2 h1
  have e2 : pts.map (eli F.toDesc) = (List.range pts.length).map fun t => eli F.toDesc (pts[t]?.getD 0) := by
    apply List.ext_getElem
    · simp
    · intro j h1 h2
      have : j < pts.length := by simpa using h1
      simp [this]
  have e3 : wtN k i (pts.map (eli F.toDesc)) = ((List.range pts.length).filter fun t => !decide (evN k i (eli F.toDesc (pts[t]?.getD 0)) = 0)).length := by
    unfold wtN
    rw [e2, List.filter_map, List.length_map]
    congr 1
    refine List.filter_congr fun t _ => ?_
    simp
  have e4 := filter_split (l := List.range pts.length) (fun _ => true) fun t => decide (evN k i (eli F.toDesc (pts[t]?.getD 0)) = 0)
  rw [e] at h2
  rw [e3]
  have e5 : (List.range pts.length).filter (fun _ => true) = List.range pts.length := List.filter_eq_self.2 fun _ _ => rfl
  simp only [Bool.true_and, e5, List.length_range] at e4
  unfold wordL
  omega
/-- The counts after i messages. -/
noncomputable def cwL (F : FD) (k : Nat) (pts : List Int) (i : Nat) : List Int := lst (pts.length + 1) fun w => ((cnt i fun c => wtN k c (pts.map (eli F.toDesc)) = w : Nat) : Int)
open Classical in
theorem cnt_succ (N : Nat) (P : Nat → Prop) : cnt (N + 1) P = cnt N P + (cnt (N + 1) P - cnt N P) ∧ (P N → cnt (N + 1) P = cnt N P + 1) ∧ (¬ P N → cnt (N + 1) P = cnt N P) := by
  have h : cnt (N + 1) P = cnt N P + (if P N then 1 else 0) := by
    unfold cnt
    rw [List.range_succ, List.filter_append, List.length_append]
    by_cases h : P N <;> simp [h]
  refine ⟨by omega, fun hp => by rw [h, if_pos hp], fun hp => by rw [h, if_neg hp, Nat.add_zero]⟩
theorem cwL_length (F : FD) (k : Nat) (pts : List Int) (i : Nat) : (cwL F k pts i).length = pts.length + 1 := lst_length _ _
theorem cwL_zero (F : FD) (k : Nat) (pts : List Int) : cwL F k pts 0 = List.replicate (pts.length + 1) 0 := by
  rw [lst_zero]; exact lst_congr fun _ _ => rfl
theorem cwL_get (F : FD) (k : Nat) (pts : List Int) (i : Nat) {w : Nat} (hw : w ≤ pts.length) : (cwL F k pts i)[w]?.getD 0 = ((cnt i fun c => wtN k c (pts.map (eli F.toDesc)) = w : Nat) : Int) := lst_get _ (by omega)
theorem cwL_set (F : FD) (k : Nat) (pts : List Int) (i : Nat) : (cwL F k pts i).set (wtN k i (pts.map (eli F.toDesc))) (((cnt i fun c => wtN k c (pts.map (eli F.toDesc)) = wtN k i (pts.map (eli F.toDesc)) : Nat) : Int) + 1) = cwL F k pts (i + 1) := by
  unfold cwL
  rw [lst_set]
  refine lst_congr fun w _ => ?_
  by_cases e : w = wtN k i (pts.map (eli F.toDesc))
  · rw [if_pos e, e, (cnt_succ i fun c => wtN k c (pts.map (eli F.toDesc)) = wtN k i (pts.map (eli F.toDesc))).2.1 rfl]; omega
  · rw [if_neg e, (cnt_succ i fun c => wtN k c (pts.map (eli F.toDesc)) = w).2.2 (fun h => e h.symm)]
open Classical in
theorem cnt_le (N : Nat) (P : Nat → Prop) : cnt N P ≤ N := by
  unfold cnt
  have := List.length_filter_le (fun i => decide (P i)) (List.range N)
  rwa [List.length_range] at this
theorem cwL_full {K : Int} {pts mul : List Int} (hz : gchkD F.toDesc K pts mul = 0) {w : Nat} (hw : w ≤ pts.length) : (cnt (F.q ^ K.toNat) fun c => wtN K.toNat c (pts.map (eli F.toDesc)) = w) = aW F.q pts.length K.toNat w := by
  obtain ⟨-, -, -, -, -, -, -, h0, hn⟩ := gchkD_zero hz
  exact (aW_cnt (F := R F.toDesc) (K := K.toNat) (n := pts.length) (w := w) (pts_nodup hz) (List.length_map _) hw (by omega)).symm
theorem gws_par {K : Int} {pts mul : List Int} (hz : gchkD F.toDesc K pts mul = 0) {w : Nat} (h1 : 1 ≤ w) (hw : w ≤ pts.length) (hd : pts.length < w + K.toNat) : parS F.q w (w + K.toNat - pts.length) 1 ≤ parS F.q w (w + K.toNat - pts.length) 0 := by
  obtain ⟨-, -, -, -, -, -, -, h0, hn⟩ := gchkD_zero hz
  exact aW_par (F := R F.toDesc) (pts_nodup hz) (List.length_map _) h1 hw (by omega) hd
theorem gws_sum {K : Int} {pts mul : List Int} (hz : gchkD F.toDesc K pts mul = 0) : nsum (pts.length + 1) (aW F.q pts.length K.toNat) = F.q ^ K.toNat := by
  obtain ⟨-, -, -, -, -, -, -, h0, hn⟩ := gchkD_zero hz
  exact aW_sum (F := R F.toDesc) (pts_nodup hz) (List.length_map _) (by omega)
end
theorem aW_lt {q n k w : Nat} (hq1 : 1 ≤ q) (hq : q ≤ 256) (hn : n ≤ 64) (hw : w ≤ n) (hk : k ≤ n) : aW q n k w < nB ^ 82 := by
  unfold aW
  by_cases h0 : w = 0
  · rw [if_pos h0]; exact Nat.one_lt_pow (by omega) nB_gt
  rw [if_neg h0]
  by_cases h1 : n < w + k
  · rw [if_pos h1]
    have hc : ch n w < nB ^ 9 := Nat.lt_of_le_of_lt (Nat.le_trans (ch_le2 n w) (two_lt8 (by omega))) (Nat.pow_lt_pow_right nB_gt (by decide))
    have hp : parS q w (w + k - n) 0 < nB ^ 73 := parJ_lt (e := w + k - n) (r := 0) (j := w + k - n) hq1 hq (by omega) (by omega) (by omega)
    have hm := Nat.mul_lt_mul'' hc (Nat.lt_of_le_of_lt (Nat.sub_le _ (parS q w (w + k - n) 1)) hp)
    rwa [← Nat.pow_add] at hm
  · rw [if_neg h1]; exact nBp_pos _
end Go.Proofs.Ytemanlkgfhmclaa
