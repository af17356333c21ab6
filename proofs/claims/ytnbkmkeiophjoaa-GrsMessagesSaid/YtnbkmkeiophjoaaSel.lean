/- Plain law of layer 18: a description without some positions, its code. No Go here. -/
import Derived.Test.YtnbkmkeiophjoaaAffL
namespace Cw
section
variable {F : Type} [CField F] [DecidableEq F]
theorem mono_id {n : Nat} {p : Nat → Nat} (hlt : ∀ i, i < n → p i < n) (hm : ∀ i j, i < j → j < n → p i < p j) : ∀ i, i < n → p i = i := by
  have h1 : ∀ i, i < n → i ≤ p i := by
    intro i
    induction i with
    | zero => intro _; exact Nat.zero_le _
    | succ i ih => intro hi; have := ih (by omega); have := hm i (i + 1) (by omega) hi; omega
  have h2 : ∀ d i, i < n → n = i + 1 + d → p i ≤ i := by
    intro d
    induction d with
    | zero => intro i hi e; have := hlt i hi; omega
    | succ d ih => intro i hi e; have := ih (i + 1) (by omega) (by omega); have := hm i (i + 1) (by omega) (by omega); omega
  intro i hi
  have := h1 i hi
  have := h2 (n - (i + 1)) i hi (by omega)
  omega
/-- n independent rows of n entries combine to everything. -/
theorem full_span {n : Nat} {A : Nat → Nat → F} (h : Indep n n A) (v : Nat → F) : Span n n A v := by
  have hr := elS_RR n n A
  have hs := elS_span n n A
  rw [elS_rank h] at hr hs
  refine Span.trans (B := (elS n A n).1) (n' := n) ⟨v, fun j hj => ?_⟩ hs.1
  have hid := mono_id hr.lt hr.mono
  rw [rsum_single (k := j) hj fun i hi hne => by have := hr.zero i j hi hj hne; rw [hid j hj] at this; rw [this, mul_zero]]
  have := hr.one j hj
  rw [hid j hj] at this
  rw [this, mul_one]
end
end Cw
namespace Go.Proofs.Ytnbkmkeiophjoaa
open Go.RowKit Cw

/-- The positions below k that are not named. -/
def idxL (a : List Int) : Nat → List Nat
  | 0 => []
  | k + 1 => if (k : Int) ∈ a then idxL a k else idxL a k ++ [k]
def selL (l a : List Int) (k : Nat) : List Int := (idxL a k).map fun i => l[i]?.getD 0
theorem idxL_yes {a : List Int} {k : Nat} (h : (k : Int) ∈ a) : idxL a (k + 1) = idxL a k := if_pos h
theorem idxL_no {a : List Int} {k : Nat} (h : ¬ (k : Int) ∈ a) : idxL a (k + 1) = idxL a k ++ [k] := if_neg h
theorem selL_yes {l a : List Int} {k : Nat} (h : (k : Int) ∈ a) : selL l a (k + 1) = selL l a k := by unfold selL; rw [idxL_yes h]
theorem selL_no {l a : List Int} {k : Nat} (h : ¬ (k : Int) ∈ a) : selL l a (k + 1) = selL l a k ++ [l[k]?.getD 0] := by unfold selL; rw [idxL_no h, List.map_append]; rfl
theorem selL_length (l a : List Int) (k : Nat) : (selL l a k).length = (idxL a k).length := List.length_map _
theorem idxL_le (a : List Int) : ∀ k, (idxL a k).length ≤ k
  | 0 => Nat.le_refl _
  | k + 1 => by
    have ih := idxL_le a k
    by_cases h : (k : Int) ∈ a
    · rw [idxL_yes h]; omega
    · rw [idxL_no h, List.length_append]; simp; omega
theorem idxL_mem {a : List Int} {i : Nat} : ∀ {k : Nat}, i ∈ idxL a k ↔ i < k ∧ ¬ (i : Int) ∈ a
  | 0 => ⟨fun h => (by cases h), fun h => absurd h.1 (Nat.not_lt_zero _)⟩
  | k + 1 => by
    have ih := idxL_mem (a := a) (i := i) (k := k)
    by_cases h : (k : Int) ∈ a
    · rw [idxL_yes h, ih]
      constructor
      · rintro ⟨h1, h2⟩; exact ⟨by omega, h2⟩
      · rintro ⟨h1, h2⟩
        refine ⟨?_, h2⟩
        rcases Nat.lt_or_ge i k with h3 | h3
        · exact h3
        · obtain rfl : i = k := by omega
          exact absurd h h2
    · rw [idxL_no h, List.mem_append, ih, List.mem_singleton]
      constructor
      · rintro (⟨h1, h2⟩ | rfl)
        · exact ⟨by omega, h2⟩
        · exact ⟨by omega, h⟩
      · rintro ⟨h1, h2⟩
        by_cases e : i = k
        · exact .inr e
        · exact .inl ⟨by omega, h2⟩
theorem idxL_nodup (a : List Int) : ∀ k, (idxL a k).Nodup
  | 0 => List.nodup_nil
  | k + 1 => by
    have ih := idxL_nodup a k
    by_cases h : (k : Int) ∈ a
    · rw [idxL_yes h]; exact ih
    · rw [idxL_no h, List.nodup_append]
      refine ⟨ih, by simp, fun x hx y hy e => ?_⟩
      have h1 := (idxL_mem.1 hx).1
      have h2 : y = k := by simpa using hy
      omega
theorem idxL_get {a : List Int} {k j : Nat} (hj : j < (idxL a k).length) : (idxL a k)[j]?.getD 0 < k := by
  rw [List.getElem?_eq_getElem hj, Option.getD_some]
  exact (idxL_mem.1 (List.getElem_mem hj)).1
theorem selL_get {l a : List Int} {k j : Nat} (hj : j < (idxL a k).length) : (selL l a k)[j]?.getD 0 = l[(idxL a k)[j]?.getD 0]?.getD 0 := by
  unfold selL
  rw [List.getElem?_map, List.getElem?_eq_getElem hj]
  rfl
/-- Somebody stays if fewer positions than there are are named, each once and in range. -/
theorem idxL_pos {a : List Int} {n : Nat} (hr : ∀ x ∈ a, 0 ≤ x ∧ x < (n : Int)) (hd : a.Nodup) (hl : a.length ≠ n) : 1 ≤ (idxL a n).length := by
  refine Classical.byContradiction fun h => hl ?_
  have h0 : idxL a n = [] := List.eq_nil_of_length_eq_zero (by omega)
  have h1 : ∀ i, i < n → (i : Int) ∈ a := fun i hi => Classical.byContradiction fun h2 => by
    have := idxL_mem.2 ⟨hi, h2⟩
    rw [h0] at this; cases this
  have h2 : a.length ≤ n := by
    have hp := List.Nodup.length_le_of_subset hd (l₂ := (List.range n).map fun i : Nat => (i : Int)) fun x hx => by
      obtain ⟨h3, h4⟩ := hr x hx
      exact List.mem_map.2 ⟨x.toNat, List.mem_range.2 (by omega), by omega⟩
    simpa using hp
  have h3 : n ≤ a.length := by
    have hnd : ((List.range n).map fun i : Nat => (i : Int)).Nodup := List.pairwise_map.2 (List.Pairwise.imp (fun h e => h (by omega)) (List.nodup_range (n := n)))
    have hp := List.Nodup.length_le_of_subset hnd (l₂ := a) fun x hx => by
      obtain ⟨i, hi, rfl⟩ := List.mem_map.1 hx
      exact h1 i (List.mem_range.1 hi)
    simpa using hp
  omega
/-- The error behind the description's own. -/
def punErr (E0 : Int) (n : Nat) (a : List Int) : Int := if E0 ≠ 0 then E0 else if ¬ (∀ x ∈ a, 0 ≤ x ∧ x < (n : Int)) then 6 else if ¬ a.Nodup then 18 else if a.length = n then 4 else 0
theorem punErr_zero {E0 : Int} {n : Nat} {a : List Int} (h : punErr E0 n a = 0) : E0 = 0 ∧ (∀ x ∈ a, 0 ≤ x ∧ x < (n : Int)) ∧ a.Nodup ∧ a.length ≠ n := by
  unfold punErr at h
  by_cases h1 : E0 ≠ 0
  · rw [if_pos h1] at h; exact absurd h h1
  rw [if_neg h1] at h
  by_cases h2 : ¬ (∀ x ∈ a, 0 ≤ x ∧ x < (n : Int))
  · rw [if_pos h2] at h; cases h
  rw [if_neg h2] at h
  by_cases h3 : ¬ a.Nodup
  · rw [if_pos h3] at h; cases h
  rw [if_neg h3] at h
  by_cases h4 : a.length = n
  · rw [if_pos h4] at h; cases h
  exact ⟨Classical.not_not.1 h1, Classical.not_not.1 h2, Classical.not_not.1 h3, h4⟩
/-- The punctured description is one. -/
theorem pun_chk {D : Desc} {K : Int} {pts mul a : List Int} (hz : gchkD D K pts mul = 0) (h1 : 1 ≤ (idxL a pts.length).length) : gchkD D (min K ((idxL a pts.length).length : Int)) (selL pts a pts.length) (selL mul a pts.length) = 0 := by
  obtain ⟨hp1, h64, hlen, hp, hm, ht, h0, hk0, hkn⟩ := gchkD_zero hz
  have hle := idxL_le a pts.length
  have e1 : elB D (selL pts a pts.length) = true := elB_iff.2 fun j hj => by
    rw [selL_length] at hj
    rw [selL_get hj]
    exact elB_iff.1 hp _ (idxL_get hj)
  have e2 : elB D (selL mul a pts.length) = true := elB_iff.2 fun j hj => by
    rw [selL_length] at hj
    rw [selL_get hj]
    exact elB_iff.1 hm _ (by have := idxL_get hj; omega)
  have e3 : twB (selL pts a pts.length) = false := twB_no fun i j hij hi e => by
    rw [selL_length] at hi
    rw [selL_get hi, selL_get (by omega)] at e
    have h2 := nodup_get ht (idxL_get hi) (idxL_get (by omega)) e
    rw [List.getElem?_eq_getElem hi, List.getElem?_eq_getElem (by omega : j < _), Option.getD_some, Option.getD_some] at h2
    exact List.pairwise_iff_getElem.1 (idxL_nodup a pts.length) j i (by omega) hi hij h2.symm
  have e4 : ¬ (0 : Int) ∈ selL mul a pts.length := fun h => by
    obtain ⟨i, hi, h2⟩ := List.mem_map.1 h
    exact h0 (h2 ▸ mem_get (by have := (idxL_mem.1 hi).1; omega))
  unfold gchkD
  rw [selL_length, selL_length, if_neg (by omega), if_neg (by omega), if_neg (by rw [e1, e2]; simp), if_neg (by rw [e3]; simp), if_neg e4, if_neg (by omega)]
/-- A row without the positions. -/
theorem selL_row (D : Desc) (pts mul a : List Int) (i : Nat) : selL (rowsL D pts.length (gM D pts mul) i) a pts.length = rowsL D (idxL a pts.length).length (gM D (selL pts a pts.length) (selL mul a pts.length)) i := by
  apply List.ext_getElem
  · rw [selL_length, rowsL, rowL_length]
  · intro j h1 h2
    have hj : j < (idxL a pts.length).length := by rw [selL_length] at h1; exact h1
    have e1 := selL_get (l := rowsL D pts.length (gM D pts mul) i) (a := a) (k := pts.length) hj
    rw [List.getElem?_eq_getElem h1, Option.getD_some] at e1
    have e2 := rowL_get D (gM D (selL pts a pts.length) (selL mul a pts.length) i) (j := j) (m := (idxL a pts.length).length) hj
    rw [rowsL] at h2
    rw [List.getElem?_eq_getElem h2, Option.getD_some] at e2
    show (selL (rowsL D pts.length (gM D pts mul) i) a pts.length)[j] = (rowL D (idxL a pts.length).length (gM D (selL pts a pts.length) (selL mul a pts.length) i))[j]
    rw [e1, e2, rowsL, rowL_get D _ (idxL_get hj)]
    unfold gM
    rw [selL_get hj, selL_get hj]
/-- The code of the punctured description is that of the punctured rows. -/
theorem pun_span {F : FD} {kn : Nat} {pts mul a : List Int} (hz : gchkD F.toDesc kn pts mul = 0) (h1 : 1 ≤ (idxL a pts.length).length) :
    SameSpan (min kn (idxL a pts.length).length) kn (idxL a pts.length).length (gM F.toDesc (selL pts a pts.length) (selL mul a pts.length)) (gM F.toDesc (selL pts a pts.length) (selL mul a pts.length)) := by
  refine ⟨fun t ht => Span.row _ (by omega), fun t ht => ?_⟩
  by_cases h : kn ≤ (idxL a pts.length).length
  · rw [Nat.min_eq_left h]; exact Span.row _ ht
  · rw [Nat.min_eq_right (by omega)]
    have hi := gM_indep (pun_chk hz h1)
    rw [selL_length, show (min (kn : Int) ((idxL a pts.length).length : Int)).toNat = (idxL a pts.length).length from by omega] at hi
    exact full_span hi _
theorem pun_rk {F : FD} {kn : Nat} {pts mul a : List Int} (hz : gchkD F.toDesc kn pts mul = 0) (h1 : 1 ≤ (idxL a pts.length).length) :
    rkS F (min kn (idxL a pts.length).length) (idxL a pts.length).length (gM F.toDesc (selL pts a pts.length) (selL mul a pts.length)) = min kn (idxL a pts.length).length := by
  have h4 := gM_rank (pun_chk hz h1)
  rw [selL_length, show (min (kn : Int) ((idxL a pts.length).length : Int)).toNat = min kn (idxL a pts.length).length from by omega] at h4
  exact h4
theorem pun_rows {F : FD} {kn : Nat} {pts mul a : List Int} (hz : gchkD F.toDesc kn pts mul = 0) (h1 : 1 ≤ (idxL a pts.length).length) :
    rkS F kn (idxL a pts.length).length (gM F.toDesc (selL pts a pts.length) (selL mul a pts.length)) = min kn (idxL a pts.length).length ∧
    ∀ i, i < min kn (idxL a pts.length).length → rowsL F.toDesc (idxL a pts.length).length (elS (min kn (idxL a pts.length).length) (gM F.toDesc (selL pts a pts.length) (selL mul a pts.length)) (idxL a pts.length).length).1 i =
      rowsL F.toDesc (idxL a pts.length).length (elS kn (gM F.toDesc (selL pts a pts.length) (selL mul a pts.length)) (idxL a pts.length).length).1 i := by
  obtain ⟨h2, h3⟩ := elS_uniq (pun_span hz h1)
  have h4 := pun_rk hz h1
  unfold rkS at h4 ⊢
  refine ⟨by rw [← h2]; exact h4, fun i hi => ?_⟩
  unfold rowsL rowL
  exact lst_congr fun j hj => by rw [(h3 i (by rw [h4]; exact hi)).2 j hj]
end Go.Proofs.Ytnbkmkeiophjoaa
