/- Plain algebra: a residue whose powers are all residues other than 0; pigeonholes. No Go here. -/
import Derived.Test.YtnbkmkeiophjoaaFld
namespace Cw

theorem nodup_len_le : ∀ (l1 l2 : List Nat), l1.Nodup → (∀ x ∈ l1, x ∈ l2) → l1.length ≤ l2.length
  | [], _, _, _ => Nat.zero_le _
  | a :: l, l2, h, hs => by
    have ha : a ∈ l2 := hs a (by simp)
    have h1 := List.nodup_cons.1 h
    have h2 := nodup_len_le l (l2.erase a) h1.2 fun x hx => by
      refine (List.mem_erase_of_ne ?_).2 (hs x (by simp [hx]))
      rintro rfl; exact h1.1 hx
    rw [List.length_erase_of_mem ha] at h2
    have := List.length_pos_of_mem ha
    simp; omega
theorem nodup_map {f : Nat → Nat} : ∀ {n : Nat}, (∀ i j, i < n → j < n → f i = f j → i = j) → ((List.range n).map f).Nodup
  | 0, _ => by simp
  | n+1, h => by
    rw [List.range_succ, List.map_append, List.nodup_append]
    refine ⟨nodup_map fun i j hi hj e => h i j (by omega) (by omega) e, by simp, fun a ha b hb e => ?_⟩
    obtain ⟨i, hi, rfl⟩ := List.mem_map.1 ha
    simp at hb hi
    have := h i n (by omega) (by omega) (by rw [e, hb])
    omega
/-- Different numbers below q: at most q of them. -/
theorem inj_le {f : Nat → Nat} {n q : Nat} (h1 : ∀ i, i < n → f i < q) (h2 : ∀ i j, i < n → j < n → f i = f j → i = j) : n ≤ q := by
  have h := nodup_len_le _ (List.range q) (nodup_map h2) fun x hx => by
    obtain ⟨i, hi, rfl⟩ := List.mem_map.1 hx
    exact List.mem_range.2 (h1 i (List.mem_range.1 hi))
  simpa using h
/-- As many different numbers below q as there are: all of them. -/
theorem inj_all {f : Nat → Nat} {q : Nat} (h1 : ∀ i, i < q → f i < q) (h2 : ∀ i j, i < q → j < q → f i = f j → i = j) {x : Nat} (hx : x < q) : ∃ i, i < q ∧ f i = x := by
  apply Classical.byContradiction
  intro hno
  have h := inj_le (f := fun i => if i < q then f i else x) (n := q + 1) (q := q) (fun i hi => by
    by_cases e : i < q
    · simp only [e, if_true]; exact h1 i e
    · simp only [e, if_false]; exact hx) (fun i j hi hj e => by
    by_cases hi' : i < q <;> by_cases hj' : j < q <;> simp only [hi', hj', if_true, if_false] at e
    · exact h2 i j hi' hj' e
    · exact absurd ⟨i, hi', e⟩ hno
    · exact absurd ⟨j, hj', e.symm⟩ hno
    · omega)
  omega

section
variable {D : Desc}
/-- The powers of u below q-1 differ, and the power q-1 is 1. -/
def IsGen (u : R D) : Prop := (∀ i j, i < D.q - 1 → j < D.q - 1 → pw u i = pw u j → i = j) ∧ pw u (D.q - 1) = 1
theorem one_ne_R : (1 : R D) ≠ 0 := fun h => by
  have h1 := rcode_one (D := D)
  rw [h, rcode_zero] at h1; cases h1
theorem IsGen.ne {u : R D} (h : IsGen u) {i : Nat} (hi : i ≤ D.q - 1) : pw u i ≠ 0 := fun e => by
  have h1 := h.2
  rw [show D.q - 1 = i + (D.q - 1 - i) by omega, pw_add, e, zero_mul] at h1
  exact one_ne_R h1.symm
theorem IsGen.all {u : R D} (h : IsGen u) (x : R D) (hx : x ≠ 0) : ∃ i, i < D.q - 1 ∧ x = pw u i := by
  have pos : ∀ {y : R D}, y ≠ 0 → 1 ≤ rcode y := fun {y} hy => by
    rcases Nat.eq_zero_or_pos (rcode y) with h0 | h0
    · exact absurd (rcode_inj (h0.trans rcode_zero.symm)) hy
    · exact h0
  obtain ⟨i, hi, e⟩ := inj_all (f := fun i => rcode (pw u i) - 1) (q := D.q - 1) (fun i hi => by
      have h1 := rcode_lt (pw u i)
      have h2 := pos (h.ne (Nat.le_of_lt hi))
      show rcode (pw u i) - 1 < D.q - 1
      omega) (fun i j hi hj e => h.1 i j hi hj (rcode_inj (by
      have h1 := pos (h.ne (Nat.le_of_lt hi))
      have h2 := pos (h.ne (Nat.le_of_lt hj))
      have h3 : rcode (pw u i) - 1 = rcode (pw u j) - 1 := e
      omega))) (x := rcode x - 1) (by have h1 := rcode_lt x; have h2 := pos hx; omega)
  refine ⟨i, hi, rcode_inj ?_⟩
  have h1 := pos hx
  have h2 := pos (h.ne (Nat.le_of_lt hi))
  have h3 : rcode (pw u i) - 1 = rcode x - 1 := e
  omega
/-- The field of a description with a primitive element. -/
def mkFD (D : Desc) (u : R D) (h : IsGen u) : FD := ⟨D, u, h.all, h.1, h.2⟩
/-- The powers of u from 0 on, till one repeats or is 0. -/
def PwList (u : R D) (N : Nat) : Prop := 1 ≤ N ∧ (∀ i j, i < N → j < N → pw u i = pw u j → i = j) ∧ (∀ i, i < N → pw u i ≠ 0)
def PwStop (u : R D) (N : Nat) : Prop := pw u N = 0 ∨ ∃ i, i < N ∧ pw u N = pw u i
theorem PwList.le {u : R D} {N : Nat} (h : PwList u N) : N ≤ D.q - 1 := by
  have pos : ∀ {y : R D}, y ≠ 0 → 1 ≤ rcode y := fun {y} hy => by
    rcases Nat.eq_zero_or_pos (rcode y) with h0 | h0
    · exact absurd (rcode_inj (h0.trans rcode_zero.symm)) hy
    · exact h0
  exact inj_le (f := fun i => rcode (pw u i) - 1) (fun i hi => by
      have h1 := rcode_lt (pw u i)
      have h2 := pos (h.2.2 i hi)
      show rcode (pw u i) - 1 < D.q - 1
      omega) (fun i j hi hj e => h.2.1 i j hi hj (rcode_inj (by
      have h1 := pos (h.2.2 i hi)
      have h2 := pos (h.2.2 j hj)
      have h3 : rcode (pw u i) - 1 = rcode (pw u j) - 1 := e
      omega)))
theorem PwList.one (u : R D) : PwList u 1 := ⟨Nat.le_refl _, fun i j hi hj _ => by omega, fun i hi => by
  obtain rfl : i = 0 := by omega
  exact one_ne_R⟩
theorem PwList.succ {u : R D} {N : Nat} (h : PwList u N) (hs : ¬ PwStop u N) : PwList u (N + 1) := by
  refine ⟨by omega, fun i j hi hj e => ?_, fun i hi => ?_⟩
  · by_cases h1 : i = N
    · by_cases h2 : j = N
      · omega
      · exact absurd (.inr ⟨j, by omega, by rw [← h1]; exact e⟩) hs
    · by_cases h2 : j = N
      · exact absurd (.inr ⟨i, by omega, by rw [← h2]; exact e.symm⟩) hs
      · exact h.2.1 i j (by omega) (by omega) e
  · by_cases h1 : i = N
    · subst h1; exact fun e => hs (.inl e)
    · exact h.2.2 i (by omega)
theorem PwList.gen {u : R D} (h : PwList u (D.q - 1)) (h1 : pw u (D.q - 1) = 1) : IsGen u := ⟨h.2.1, h1⟩
theorem IsGen.pwlist {u : R D} (h : IsGen u) {N : Nat} (hl : PwList u N) (hs : PwStop u N) : N = D.q - 1 := by
  have hle := hl.le
  rcases Nat.lt_or_ge N (D.q - 1) with hlt | hge
  · rcases hs with h0 | ⟨i, hi, e⟩
    · exact absurd h0 (h.ne (Nat.le_of_lt hlt))
    · have := h.1 N i hlt (by omega) e; omega
  · omega
end
end Cw
