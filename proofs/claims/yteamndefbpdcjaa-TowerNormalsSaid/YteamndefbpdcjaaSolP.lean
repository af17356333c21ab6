/- Square systems of equations: plain law of the elimination. -/
import Derived.Test.YteamndefbpdcjaaP1
namespace Cw
section
variable {F : Type} [CField F]
open CField (inv)

/-- x solves the system whose right sides are column n. -/
def SolA (n : Nat) (M : Nat → Nat → F) (x : Nat → F) : Prop := ∀ i, i < n → rsum n (fun j => M i j * x j) = M i n
def KerA (n : Nat) (M : Nat → Nat → F) (x : Nat → F) : Prop := ∀ i, i < n → rsum n (fun j => M i j * x j) = 0
def EqvA (n : Nat) (M M' : Nat → Nat → F) : Prop := (∀ x, SolA n M x ↔ SolA n M' x) ∧ ∀ x, KerA n M x ↔ KerA n M' x
theorem EqvA.refl (n : Nat) (M : Nat → Nat → F) : EqvA n M M := ⟨fun _ => Iff.rfl, fun _ => Iff.rfl⟩
theorem EqvA.trans {n : Nat} {M M' M'' : Nat → Nat → F} (h : EqvA n M M') (h' : EqvA n M' M'') : EqvA n M M'' := ⟨fun x => (h.1 x).trans (h'.1 x), fun x => (h.2 x).trans (h'.2 x)⟩
/-- The two matrices agree in the columns up to n. -/
theorem EqvA.of_eq {n : Nat} {M M' : Nat → Nat → F} (h : ∀ i j, i < n → j ≤ n → M i j = M' i j) : EqvA n M M' := by
  have key : ∀ (x : Nat → F) i, i < n → rsum n (fun j => M i j * x j) = rsum n (fun j => M' i j * x j) := fun x i hi => rsum_congr fun j hj => by rw [h i j hi (by omega)]
  refine ⟨fun x => ⟨fun hs i hi => ?_, fun hs i hi => ?_⟩, fun x => ⟨fun hs i hi => ?_, fun hs i hi => ?_⟩⟩
  · rw [← key x i hi, hs i hi, h i n hi (Nat.le_refl _)]
  · rw [key x i hi, hs i hi, h i n hi (Nat.le_refl _)]
  · rw [← key x i hi]; exact hs i hi
  · rw [key x i hi]; exact hs i hi
/-- Two rows are exchanged. -/
def swA (c p : Nat) (M : Nat → Nat → F) : Nat → Nat → F := fun i => if i = c then M p else if i = p then M c else M i
theorem swA_eqv {n c p : Nat} (hc : c < n) (hp : p < n) (M : Nat → Nat → F) : EqvA n M (swA c p M) := by
  have all : ∀ P : (Nat → F) → Prop, (∀ i, i < n → P (M i)) ↔ ∀ i, i < n → P (swA c p M i) := fun P => by
    constructor
    · intro h i hi
      unfold swA
      split
      · exact h p hp
      · split
        · exact h c hc
        · exact h i hi
    · intro h i hi
      by_cases e1 : i = p
      · have h1 := h c hc
        unfold swA at h1
        rw [if_pos rfl] at h1
        rw [e1]; exact h1
      · by_cases e2 : i = c
        · have h1 := h p hp
          unfold swA at h1
          by_cases e3 : p = c
          · exact absurd (e2.trans e3.symm) e1
          · rw [if_neg e3, if_pos rfl] at h1
            rw [e2]; exact h1
        · have h1 := h i hi
          unfold swA at h1
          rw [if_neg e2, if_neg e1] at h1
          exact h1
  exact ⟨fun x => all fun r => rsum n (fun j => r j * x j) = r n, fun x => all fun r => rsum n (fun j => r j * x j) = 0⟩
/-- A row is multiplied. -/
def scA (c : Nat) (a : F) (M : Nat → Nat → F) : Nat → Nat → F := fun i j => if i = c then a * M c j else M i j
theorem scA_eqv {n c : Nat} {a : F} (ha : a ≠ 0) (M : Nat → Nat → F) : EqvA n M (scA c a M) := by
  have row : ∀ x : Nat → F, rsum n (fun j => scA c a M c j * x j) = a * rsum n (fun j => M c j * x j) := fun x => by
    rw [← rsum_mul_left]
    exact rsum_congr fun j _ => by unfold scA; rw [if_pos rfl, mul_a]
  have oth : ∀ i, i ≠ c → scA c a M i = M i := fun i h => funext fun j => if_neg h
  have last : scA c a M c n = a * M c n := if_pos rfl
  refine ⟨fun x => ⟨fun h i hi => ?_, fun h i hi => ?_⟩, fun x => ⟨fun h i hi => ?_, fun h i hi => ?_⟩⟩
  · by_cases e : i = c
    · rw [e, row, last, ← e, h i hi]
    · rw [oth i e]; exact h i hi
  · by_cases e : i = c
    · have h1 := h i hi
      rw [e, row, last] at h1
      rw [e]; exact mul_left_cancel ha h1
    · have h1 := h i hi
      rw [oth i e] at h1; exact h1
  · by_cases e : i = c
    · rw [e, row, ← e, h i hi, mul_zero]
    · rw [oth i e]; exact h i hi
  · by_cases e : i = c
    · have h1 := h i hi
      rw [e, row] at h1
      rw [e]
      exact (mul_eq_zero h1).resolve_left ha
    · have h1 := h i hi
      rw [oth i e] at h1; exact h1
/-- A multiple of row c is taken from row i. -/
def elA (i c : Nat) (a : F) (M : Nat → Nat → F) : Nat → Nat → F := fun k j => if k = i then M i j - a * M c j else M k j
theorem elA_eqv {n i c : Nat} (hc : c < n) (hic : i ≠ c) (a : F) (M : Nat → Nat → F) : EqvA n M (elA i c a M) := by
  have row : ∀ x : Nat → F, rsum n (fun j => elA i c a M i j * x j) = rsum n (fun j => M i j * x j) - a * rsum n (fun j => M c j * x j) := fun x => by
    rw [← rsum_mul_left, ← rsum_sub]
    exact rsum_congr fun j _ => by unfold elA; rw [if_pos rfl, sub_mul, mul_a]
  have oth : ∀ k, k ≠ i → elA i c a M k = M k := fun k h => funext fun j => if_neg h
  have last : elA i c a M i n = M i n - a * M c n := if_pos rfl
  have e0 := oth c (fun e => hic e.symm)
  refine ⟨fun x => ⟨fun h k hk => ?_, fun h k hk => ?_⟩, fun x => ⟨fun h k hk => ?_, fun h k hk => ?_⟩⟩
  · by_cases e : k = i
    · rw [e, row, last, h c hc, ← e, h k hk]
    · rw [oth k e]; exact h k hk
  · by_cases e : k = i
    · have h1 := h k hk
      have h2 := h c hc
      rw [e0] at h2
      rw [e, row, last, h2] at h1
      rw [e]
      exact (sub_eq_iff.1 h1).trans (sub_add_cancel _ _)
    · have h1 := h k hk
      rw [oth k e] at h1; exact h1
  · by_cases e : k = i
    · rw [e, row, h c hc, ← e, h k hk, mul_zero, sub_self]
    · rw [oth k e]; exact h k hk
  · by_cases e : k = i
    · have h1 := h k hk
      have h2 := h c hc
      rw [e0] at h2
      rw [e, row, h2, mul_zero, sub_zero] at h1
      rw [e]; exact h1
    · have h1 := h k hk
      rw [oth k e] at h1; exact h1
/-- The columns before c are those of the unit matrix. -/
def UnA (n c : Nat) (M : Nat → Nat → F) : Prop := ∀ j, j < c → ∀ i, i < n → M i j = if i = j then 1 else 0
theorem UnA.sw {n c p : Nat} {M : Nat → Nat → F} (h : UnA n c M) (hc : c < n) (hp : c ≤ p) (hpn : p < n) : UnA n c (swA c p M) := fun j hj i hi => by
  unfold swA
  split
  · rename_i e
    rw [h j hj p hpn, if_neg (by omega), if_neg (by omega)]
  · split
    · rw [h j hj c hc, if_neg (by omega), if_neg (by omega)]
    · exact h j hj i hi
theorem UnA.sc {n c : Nat} {a : F} {M : Nat → Nat → F} (h : UnA n c M) (hc : c < n) : UnA n c (scA c a M) := fun j hj i hi => by
  unfold scA
  split
  · rw [h j hj c hc, if_neg (by omega), mul_zero, if_neg (by omega)]
  · exact h j hj i hi
theorem UnA.el {n c i : Nat} {a : F} {M : Nat → Nat → F} (h : UnA n c M) (hc : c < n) : UnA n c (elA i c a M) := fun j hj k hk => by
  unfold elA
  split
  · rename_i e
    rw [h j hj c hc, if_neg (by omega : ¬ c = j), mul_zero, sub_zero, ← e]
    exact h j hj k hk
  · exact h j hj k hk
/-- Column c is a unit column up to row i. -/
def CoA (c i : Nat) (M : Nat → Nat → F) : Prop := M c c = 1 ∧ ∀ k, k < i → k ≠ c → M k c = 0
theorem CoA.zero {c : Nat} {M : Nat → Nat → F} (h : M c c = 1) : CoA c 0 M := ⟨h, fun _ hk => absurd hk (Nat.not_lt_zero _)⟩
theorem CoA.skip {c i : Nat} {M : Nat → Nat → F} (h : CoA c i M) (hi : i = c ∨ M i c = 0) : CoA c (i + 1) M := ⟨h.1, fun k hk hn => by
  by_cases e : k = i
  · rcases hi with e2 | e2
    · exact absurd (e.trans e2) hn
    · rw [e]; exact e2
  · exact h.2 k (by omega) hn⟩
theorem CoA.el {c i : Nat} {M : Nat → Nat → F} (h : CoA c i M) (hi : i ≠ c) : CoA c (i + 1) (elA i c (M i c) M) := ⟨by
  unfold elA; rw [if_neg (fun e => hi e.symm)]; exact h.1, fun k hk hn => by
  unfold elA
  split
  · rw [h.1, mul_one, sub_self]
  · rename_i e
    exact h.2 k (by omega) hn⟩
theorem UnA.next {n c : Nat} {M : Nat → Nat → F} (h : UnA n c M) (hc : CoA c n M) : UnA n (c + 1) M := fun j hj i hi => by
  by_cases e : j = c
  · rw [e]
    by_cases e2 : i = c
    · rw [e2, if_pos rfl]; exact hc.1
    · rw [if_neg e2]; exact hc.2 i hi e2
  · exact h j (by omega) i hi
theorem scA_piv {c : Nat} {M : Nat → Nat → F} (h : M c c ≠ 0) : scA c (inv (M c c)) M c c = 1 := by
  unfold scA; rw [if_pos rfl, inv_mul h]
/-- No pivot: a vector other than 0 is sent to 0. -/
theorem no_piv {n c : Nat} {M : Nat → Nat → F} (h : UnA n c M) (hc : c < n) (hz : ∀ i, c ≤ i → i < n → M i c = 0) : ∃ x, (∃ j, j < n ∧ x j ≠ 0) ∧ KerA n M x := by
  refine ⟨fun j => if j < c then M j c else if j = c then -1 else 0, ⟨c, hc, ?_⟩, fun i hi => ?_⟩
  · show (if c < c then M c c else if c = c then -1 else 0) ≠ 0
    rw [if_neg (Nat.lt_irrefl _), if_pos rfl]
    exact fun e => one_ne (F := F) (by rw [← neg_neg (1 : F), e, neg_zero])
  · obtain ⟨d, hd⟩ : ∃ d, n = c + 1 + d := ⟨n - c - 1, by omega⟩
    have hlow : rsum c (fun j => M i j * (if j < c then M j c else if j = c then -1 else 0)) = if i < c then M i c else 0 := by
      rw [rsum_congr (g := fun j => (if i = j then 1 else 0) * M j c) fun j hj => by rw [if_pos hj, h j hj i hi]]
      by_cases e : i < c
      · rw [if_pos e, rsum_single e fun j _ hn => by rw [if_neg (fun e => hn e.symm), zero_mul], if_pos rfl, one_mul]
      · rw [if_neg e]
        exact rsum_eq_zero fun j hj => by rw [if_neg (by omega), zero_mul]
    show rsum n (fun j => M i j * (if j < c then M j c else if j = c then -1 else 0)) = 0
    rw [hd, rsum_split, rsum_succ, hlow, rsum_eq_zero (n := d) fun j _ => by rw [if_neg (by omega), if_neg (by omega), mul_zero], add_zero,
      if_neg (Nat.lt_irrefl _), if_pos rfl, mul_neg, mul_one]
    by_cases e : i < c
    · rw [if_pos e, add_neg]
    · rw [if_neg e, hz i (by omega) hi, neg_zero, add_zero]
theorem UnA.sum {n : Nat} {M : Nat → Nat → F} (h : UnA n n M) {i : Nat} (hi : i < n) (x : Nat → F) : rsum n (fun j => M i j * x j) = x i := by
  rw [rsum_single (k := i) hi fun j hj hn => by rw [h j hj i hi, if_neg (fun e => hn e.symm), zero_mul], h i hi i hi, if_pos rfl, one_mul]
theorem UnA.sol {n : Nat} {M : Nat → Nat → F} (h : UnA n n M) (x : Nat → F) : SolA n M x ↔ ∀ i, i < n → x i = M i n :=
  ⟨fun hs i hi => by rw [← h.sum hi x]; exact hs i hi, fun hs i hi => by rw [h.sum hi x]; exact hs i hi⟩
theorem UnA.ker {n : Nat} {M : Nat → Nat → F} (h : UnA n n M) {x : Nat → F} (hk : KerA n M x) : ∀ i, i < n → x i = 0 := fun i hi => by rw [← h.sum hi x]; exact hk i hi
end
end Cw
