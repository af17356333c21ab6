/- The image of one field in another: the numbers that the program computes. -/
import Derived.Test.YteamndefbpdcjaaEmb
import Derived.Test.YteamndefbpdcjaaPol5
namespace Go.Proofs.Yteamndefbpdcjaa
open Go.RowKit Cw

/-- A number below the characteristic as an element. -/
theorem eli_sm (F : FD) {n : Nat} (h : n < F.p) : eli F.toDesc (n : Int) = nsm n (1 : R F.toDesc) := by
  have hq : n < F.q := by
    have h1 := Nat.pow_le_pow_right (n := F.p) (by have := F.p2; omega) F.m1
    rw [Nat.pow_one] at h1
    exact Nat.lt_of_lt_of_le h h1
  rw [eli_nat hq]
  refine R.ext' fun i hi => ?_
  rw [rel_v hi, nsm_v, one_v hi]
  by_cases e : i = 0
  · rw [if_pos e, e, Nat.pow_zero, Nat.div_one, zp_nsm]
  · rw [if_neg e, nsm_mul, mul_zero, Nat.div_eq_of_lt (Nat.lt_of_lt_of_le h (by
      have h1 := Nat.pow_le_pow_right (n := F.p) (by have := F.p2; omega) (by omega : 1 ≤ i)
      rwa [Nat.pow_one] at h1)), zp_zero]
theorem kz_di (S F : FD) (hp : S.p = F.p) (u : R S.toDesc) (i : Nat) : eli F.toDesc (di u i : Nat) = kz F (u.v i) := by
  rw [eli_sm F (by rw [← hp]; exact di_lt u i)]; rfl
theorem dl_length {D : Desc} (u : R D) : (dl u).length = D.m := lst_length _ _
theorem kz_dl (S F : FD) (hp : S.p = F.p) (u : R S.toDesc) {i : Nat} (hi : i < S.m) : eli F.toDesc ((dl u)[i]?.getD 0) = kz F (u.v i) := by
  unfold dl; rw [lst_get _ hi, kz_di S F hp]
theorem pevI_dl (S F : FD) (hp : S.p = F.p) (u : R S.toDesc) (r : R F.toDesc) : pevI F.toDesc (dl u) r = phi S F r u := by
  unfold pevI phi
  rw [dl_length]
  exact rsum_congr fun i hi => by rw [kz_dl S F hp u hi]
theorem kz_mod (S F : FD) (hp : S.p = F.p) (j : Nat) : eli F.toDesc ((S.mod.getD j 0 : Nat) : Int) = kz F (S.c j) := by
  have h := S.hmod j
  rw [eli_sm F (by rw [← hp]; exact h)]
  unfold kz Desc.c
  rw [zp_val, Nat.mod_eq_of_lt h]
/-- The list of the monic modulus. -/
def monL (S : FD) : List Int := modL S.toDesc ++ [1]
theorem monL_length (S : FD) (hm : S.m ≠ 1) : (monL S).length = S.m + 1 := by
  unfold monL
  rw [List.length_append, modL_length, S.hlen, if_neg hm]; rfl
theorem monL_low (S : FD) (hm : S.m ≠ 1) {i : Nat} (hi : i < S.m) : (monL S)[i]?.getD 0 = ((S.mod.getD i 0 : Nat) : Int) := by
  have hl : S.mod.length = S.m := by rw [S.hlen, if_neg hm]
  unfold monL
  rw [List.getElem?_append_left (by rw [modL_length]; omega), modL_get _ (by omega)]
theorem monL_top (S : FD) (hm : S.m ≠ 1) : (monL S)[S.m]?.getD 0 = 1 := by
  have hl : S.mod.length = S.m := by rw [S.hlen, if_neg hm]
  unfold monL
  rw [List.getElem?_append_right (by rw [modL_length]; omega), modL_length, hl, Nat.sub_self]; rfl
theorem pevI_mon (S F : FD) (hp : S.p = F.p) (hm : S.m ≠ 1) (r : R F.toDesc) : pevI F.toDesc (monL S) r = muV S F r := by
  unfold pevI muV
  rw [monL_length S hm, rsum_succ, monL_top S hm, eli_one, one_mul, add_c]
  congr 1
  exact rsum_congr fun i hi => by rw [monL_low S hm hi, kz_mod S F hp]
theorem rsum_more {K : Type} [CRing K] {n m : Nat} (h : n ≤ m) (f : Nat → K) (hz : ∀ i, n ≤ i → i < m → f i = 0) : rsum m f = rsum n f := by
  obtain ⟨d, rfl⟩ : ∃ d, m = n + d := ⟨m - n, by omega⟩
  rw [rsum_split, rsum_eq_zero (n := d) fun i hi => hz (n + i) (by omega) (by omega), add_zero]
theorem pevI_canI (D : FD) (p : List Int) (u : R D.toDesc) : pevI D.toDesc (canI D.toDesc p) u = pevI D.toDesc p u := by
  show rsum _ (fun i => cfR D.toDesc (canI D.toDesc p) i * pw u i) = rsum _ (fun i => cfR D.toDesc p i * pw u i)
  rw [cfR_canI, rsum_more (canI_le D.toDesc p) _ fun i h1 _ => by
    have h2 : cfR D.toDesc (canI D.toDesc p) i = 0 := cfR_out D.toDesc h1
    rw [cfR_canI] at h2
    rw [h2, zero_mul]]
theorem canI_mon (S F : FD) (hm : S.m ≠ 1) : canI F.toDesc (monL S) ≠ [] := by
  intro h
  have h1 : cfR F.toDesc (canI F.toDesc (monL S)) S.m = 1 := by
    rw [cfR_canI]
    show eli F.toDesc ((monL S)[S.m]?.getD 0) = 1
    rw [monL_top S hm, eli_one]
  rw [h] at h1
  have h2 : cfR F.toDesc [] S.m = 0 := cfR_out F.toDesc (Nat.zero_le _)
  rw [h2] at h1
  exact one_ne h1.symm
/-- n is the number of the least root of the modulus. -/
def IsRt (S F : FD) (n : Nat) : Prop := n < F.q ∧ muV S F (rel F.toDesc n) = 0 ∧ ∀ j, j < n → muV S F (rel F.toDesc j) ≠ 0
theorem isRt_ex {S F : FD} (hp : S.p = F.p) (hd : S.m ∣ F.m) : ∃ n, IsRt S F n := by
  have hc : nsm S.p (1 : R F.toDesc) = 0 := by rw [hp]; exact char_R
  obtain ⟨x, hx⟩ := root_ex hp hc hd
  have h : ∀ n, n ≤ rcode x → (∃ n, IsRt S F n) ∨ ∀ j, j < n → muV S F (rel F.toDesc j) ≠ 0 := fun n => by
    induction n with
    | zero => exact fun _ => .inr fun j hj => absurd hj (by omega)
    | succ n ih =>
      intro hn
      rcases ih (by omega) with h1 | h1
      · exact .inl h1
      · by_cases e : muV S F (rel F.toDesc n) = 0
        · exact .inl ⟨n, by have := rcode_lt x; omega, e, h1⟩
        · refine .inr fun j hj => ?_
          rcases (by omega : j < n ∨ j = n) with h2 | rfl
          · exact h1 j h2
          · exact e
  rcases h (rcode x) (Nat.le_refl _) with h1 | h1
  · exact h1
  · exact ⟨rcode x, rcode_lt x, by rw [rel_rcode]; exact hx, h1⟩
theorem IsRt.uniq {S F : FD} {n m : Nat} (h1 : IsRt S F n) (h2 : IsRt S F m) : n = m := by
  rcases Nat.lt_trichotomy n m with h | h | h
  · exact absurd h1.2.1 (h2.2.2 n h)
  · exact h
  · exact absurd h2.2.1 (h1.2.2 m h)
/-- Over a prime field the modulus is X. -/
theorem isRt_one {S F : FD} (hm : S.m = 1) : IsRt S F 0 := by
  refine ⟨by have := F.toDesc.q2; omega, ?_, fun j hj => absurd hj (by omega)⟩
  have h0 : S.c 0 = 0 := by
    unfold Desc.c
    rw [show S.mod.getD 0 0 = 0 from by
      have h1 : S.mod = [] := List.eq_nil_of_length_eq_zero (by rw [S.hlen, if_pos hm])
      rw [h1]; rfl]
    exact zp_zero
  rw [rel_zero]
  unfold muV
  rw [hm, pw_one, rsum_succ, rsum_zero, h0, kz_zero]
  simp only [zero_mul, add_zero]
/-- The list of the images. -/
noncomputable def embL (S F : FD) (n : Nat) : List Int := lst S.q fun x => ci (phi S F (rel F.toDesc n) (rel S.toDesc x))
theorem embL_length (S F : FD) (n : Nat) : (embL S F n).length = S.q := lst_length _ _
theorem embL_get (S F : FD) (n : Nat) {x : Nat} (h : x < S.q) : (embL S F n)[x]?.getD 0 = ci (phi S F (rel F.toDesc n) (rel S.toDesc x)) := lst_get _ h
/-- The roots, in ascending order. -/
noncomputable def rootF (D : FD) (p : List Int) (pre : List Int) : List Int := pre.filter fun x => decide (pevI D.toDesc p (eli D.toDesc x) = 0)
theorem rootF_hit (D : FD) (p pre : List Int) {x : Int} (h : pevI D.toDesc p (eli D.toDesc x) = 0) : rootF D p (pre ++ [x]) = rootF D p pre ++ [x] := by simp [rootF, h]
theorem rootF_miss (D : FD) (p pre : List Int) {x : Int} (h : ¬ pevI D.toDesc p (eli D.toDesc x) = 0) : rootF D p (pre ++ [x]) = rootF D p pre := by simp [rootF, h]
theorem rootF_none (D : FD) (p : List Int) {n : Nat} (hn : n ≤ D.q) (h : ∀ j, j < n → pevI D.toDesc p (rel D.toDesc j) ≠ 0) : rootF D p (lst n fun i => (i : Int)) = [] := by
  refine List.filter_eq_nil_iff.2 fun x hx => ?_
  obtain ⟨k, hk, rfl⟩ := List.mem_map.1 hx
  have hk2 := List.mem_range.1 hk
  rw [eli_nat (by omega), decide_eq_true_eq]
  exact h k hk2
/-- The first of the roots. -/
theorem rootF_head {S F : FD} (hp : S.p = F.p) (hm : S.m ≠ 1) {n : Nat} (h : IsRt S F n) : ∃ t, rootF F (canI F.toDesc (monL S)) (lst F.q fun i => (i : Int)) = (n : Int) :: t := by
  have hv : ∀ r, pevI F.toDesc (canI F.toDesc (monL S)) r = muV S F r := fun r => by rw [pevI_canI, pevI_mon S F hp hm]
  obtain ⟨d, hd⟩ : ∃ d, F.q = n + 1 + d := ⟨F.q - n - 1, by have := h.1; omega⟩
  have h1 : lst F.q (fun i => (i : Int)) = (lst n fun i => (i : Int)) ++ ((n : Int) :: (List.range d).map fun i : Nat => ((n + 1 + i : Nat) : Int)) := by
    rw [hd]
    unfold lst
    rw [List.range_add, List.map_append, List.map_map, List.range_succ, List.map_append, List.append_assoc]
    rfl
  have h2 : rootF F (canI F.toDesc (monL S)) (lst n fun i => (i : Int)) = [] := rootF_none F _ (by have := h.1; omega) fun j hj => by rw [hv]; exact h.2.2 j hj
  rw [h1]
  unfold rootF at h2 ⊢
  rw [List.filter_append, h2, List.nil_append, List.filter_cons_of_pos (by
    rw [eli_nat h.1, decide_eq_true_eq, hv]; exact h.2.1)]
  exact ⟨_, rfl⟩
end Go.Proofs.Yteamndefbpdcjaa
