/- Plain: the words orthogonal to the rows of a reduced matrix (the dual space). No Go here. -/
import Derived.Test.YtakonlfojblcmaaZaLA
namespace Cw
section
variable {F : Type} [CField F]
/-- The word u is orthogonal to the K rows of A. -/
def Orth (K m : Nat) (A : Nat → Nat → F) (u : Nat → F) : Prop := ∀ i, i < K → rsum m (fun j => A i j * u j) = 0
theorem Orth.span {K m : Nat} {A : Nat → Nat → F} {u v : Nat → F} (h : Orth K m A u) (hv : Span K m A v) : rsum m (fun j => v j * u j) = 0 := by
  obtain ⟨c, hc⟩ := hv
  rw [rsum_congr (g := fun j => rsum K fun i => c i * (A i j * u j)) fun j hj => by
    rw [hc j hj, ← rsum_mul_right]; exact rsum_congr fun i _ => mul_a _ _ _, rsum_swap]
  exact rsum_eq_zero fun i hi => by rw [rsum_mul_left, h i hi, mul_zero]
theorem Orth.same {K K' m : Nat} {A B : Nat → Nat → F} (hs : SameSpan K K' m A B) (u : Nat → F) : Orth K m A u ↔ Orth K' m B u :=
  ⟨fun h i hi => h.span (hs.2 i hi), fun h i hi => h.span (hs.1 i hi)⟩
theorem Orth.congr {K m : Nat} {A : Nat → Nat → F} {u v : Nat → F} (h : Orth K m A u) (e : ∀ j, j < m → v j = u j) : Orth K m A v := fun i hi => by
  rw [rsum_congr (g := fun j => A i j * u j) fun j hj => by rw [e j hj]]; exact h i hi
/-- The columns below m that are no pivots. -/
def npv (p : Nat → Nat) (r m : Nat) : List Nat := (List.range m).filter fun c => !decide (∃ i, i < r ∧ p i = c)
theorem npv_succ (p : Nat → Nat) (r m : Nat) : npv p r (m + 1) = npv p r m ++ if ∃ i, i < r ∧ p i = m then [] else [m] := by
  unfold npv
  rw [List.range_succ, List.filter_append]
  congr 1
  by_cases h : ∃ i, i < r ∧ p i = m
  · rw [if_pos h]; simp [h]
  · rw [if_neg h]; simp [h]
theorem npv_mem {p : Nat → Nat} {r m c : Nat} : c ∈ npv p r m ↔ c < m ∧ ∀ i, i < r → p i ≠ c := by
  unfold npv
  rw [List.mem_filter, List.mem_range]
  simp
/-- A sum over the columns is one over the pivots and one over the others. -/
theorem rsum_npv {p : Nat → Nat} {r : Nat} (hinj : ∀ i j, i < r → j < r → p i = p j → i = j) (f : Nat → F) :
    ∀ m, rsum m f = rsum r (fun i => if p i < m then f (p i) else 0) + rsum (npv p r m).length (fun t => f ((npv p r m)[t]?.getD 0))
  | 0 => by
    rw [rsum_eq_zero (n := r) fun i _ => if_neg (Nat.not_lt_zero _)]
    show (0 : F) = 0 + 0
    rw [zero_add]
  | m + 1 => by
    rw [rsum_succ, rsum_npv hinj f m, npv_succ]
    by_cases h : ∃ i, i < r ∧ p i = m
    · rw [if_pos h, List.append_nil]
      obtain ⟨k, hk, e⟩ := h
      have e1 : rsum r (fun i => if p i < m + 1 then f (p i) else 0) = rsum r (fun i => if p i < m then f (p i) else 0) + f m := by
        have e2 : rsum r (fun i => if i = k then f m else 0) = f m := by rw [rsum_single hk fun i _ hne => if_neg hne, if_pos rfl]
        rw [← e2, ← rsum_add]
        refine rsum_congr fun i hi => ?_
        by_cases g : i = k
        · subst g; rw [if_pos (by omega), if_neg (by omega), if_pos rfl, e, zero_add]
        · have hne : p i ≠ m := fun e3 => g (hinj i k hi hk (e3.trans e.symm))
          rw [if_neg g, add_zero]
          by_cases g2 : p i < m
          · rw [if_pos g2, if_pos (by omega)]
          · rw [if_neg g2, if_neg (by omega)]
      rw [e1]; ac_rfl
    · rw [if_neg h, List.length_append, List.length_singleton, rsum_succ]
      have e1 : rsum r (fun i => if p i < m + 1 then f (p i) else 0) = rsum r (fun i => if p i < m then f (p i) else 0) := rsum_congr fun i hi => by
        have hne : p i ≠ m := fun e => h ⟨i, hi, e⟩
        by_cases g2 : p i < m
        · rw [if_pos g2, if_pos (by omega)]
        · rw [if_neg g2, if_neg (by omega)]
      have e2 : rsum (npv p r m).length (fun t => f ((npv p r m ++ [m])[t]?.getD 0)) = rsum (npv p r m).length (fun t => f ((npv p r m)[t]?.getD 0)) := rsum_congr fun t ht => by rw [List.getElem?_append_left ht]
      have e3 : f ((npv p r m ++ [m])[(npv p r m).length]?.getD 0) = f m := by rw [List.getElem?_append_right (Nat.le_refl _), Nat.sub_self]; rfl
      rw [e1, e2, e3]; ac_rfl
theorem npv_get {p : Nat → Nat} {r m t : Nat} (ht : t < (npv p r m).length) : (npv p r m)[t]?.getD 0 < m ∧ ∀ i, i < r → p i ≠ (npv p r m)[t]?.getD 0 := by
  have e : (npv p r m)[t]?.getD 0 ∈ npv p r m := by rw [List.getElem?_eq_getElem ht]; exact List.getElem_mem ht
  exact npv_mem.1 e
/-- The word of a column that is no pivot. -/
def nulR (r : Nat) (p : Nat → Nat) (A : Nat → Nat → F) (c : Nat) : Nat → F := fun j => (if j = c then 1 else 0) - rsum r fun i => if j = p i then A i c else 0
theorem nulR_piv {m r : Nat} {p : Nat → Nat} {A : Nat → Nat → F} (h : RR m r p A) {c i : Nat} (hi : i < r) (hc : p i ≠ c) : nulR r p A c (p i) = - A i c := by
  unfold nulR
  rw [if_neg hc, rsum_single hi fun k hk hne => if_neg fun e => ?_, if_pos rfl]
  · rw [zero_sub]
  · have h1 := h.one i hi
    rw [e, h.zero i k hi hk hne.symm] at h1
    exact one_ne h1.symm
theorem nulR_oth {r : Nat} {p : Nat → Nat} (A : Nat → Nat → F) {c j : Nat} (hj : ∀ i, i < r → p i ≠ j) : nulR r p A c j = if j = c then 1 else 0 := by
  unfold nulR
  rw [rsum_eq_zero fun i hi => if_neg fun e => hj i hi e.symm, sub_zero]
theorem RR.inj {m r : Nat} {p : Nat → Nat} {A : Nat → Nat → F} (h : RR m r p A) : ∀ i j, i < r → j < r → p i = p j → i = j := fun i j hi hj e => by
  rcases Nat.lt_trichotomy i j with g | g | g
  · have := h.mono i j g hj; omega
  · exact g
  · have := h.mono j i g hi; omega
theorem npv_nodup (p : Nat → Nat) (r m : Nat) : (npv p r m).Nodup := List.Pairwise.filter _ List.nodup_range
theorem npv_inj {p : Nat → Nat} {r m s t : Nat} (hs : s < (npv p r m).length) (ht : t < (npv p r m).length) (e : (npv p r m)[s]?.getD 0 = (npv p r m)[t]?.getD 0) : s = t := by
  rw [List.getElem?_eq_getElem hs, List.getElem?_eq_getElem ht] at e
  have hn := List.pairwise_iff_getElem.1 (npv_nodup p r m)
  have e' : (npv p r m)[s] = (npv p r m)[t] := e
  rcases Nat.lt_trichotomy s t with g | g | g
  · exact absurd e' (hn s t hs ht g)
  · exact g
  · exact absurd e'.symm (hn t s ht hs g)
/-- The matrix of these words. -/
def nulM (r m : Nat) (p : Nat → Nat) (A : Nat → Nat → F) : Nat → Nat → F := fun t => nulR r p A ((npv p r m)[t]?.getD 0)
theorem eq_neg_of_add {a b : F} (h : a + b = 0) : a = -b := by
  have h2 : a + b + -b = -b := by rw [h, zero_add]
  rwa [add_a, add_neg, add_zero] at h2
theorem nul_iff {m r : Nat} {p : Nat → Nat} {A : Nat → Nat → F} (h : RR m r p A) (u : Nat → F) : Span (npv p r m).length m (nulM r m p A) u ↔ Orth r m A u := by
  have hsum : ∀ f : Nat → F, rsum m f = rsum r (fun i => f (p i)) + rsum (npv p r m).length (fun t => f ((npv p r m)[t]?.getD 0)) := fun f => by
    rw [rsum_npv h.inj f m]
    congr 1
    exact rsum_congr fun i hi => if_pos (h.lt i hi)
  constructor
  · intro hu i hi
    have hrow : ∀ t, t < (npv p r m).length → rsum m (fun j => A i j * nulM r m p A t j) = 0 := fun t ht => by
      obtain ⟨hc, hn⟩ := npv_get ht
      rw [hsum, rsum_single (k := i) hi fun k hk hne => by rw [h.zero i k hi hk hne.symm, zero_mul], rsum_single (k := t) ht fun s hs hne => ?_]
      · unfold nulM
        rw [nulR_piv h hi (hn i hi), nulR_oth A hn, if_pos rfl, h.one i hi, one_mul, mul_one, neg_add]
      · unfold nulM
        rw [nulR_oth A (npv_get hs).2, if_neg (fun e => hne (npv_inj hs ht e)), mul_zero]
    obtain ⟨c, hc⟩ := hu
    rw [rsum_congr (g := fun j => rsum (npv p r m).length fun t => c t * (A i j * nulM r m p A t j)) fun j hj => by
      rw [hc j hj, ← rsum_mul_left]; exact rsum_congr fun t _ => by ac_rfl, rsum_swap]
    exact rsum_eq_zero fun t ht => by rw [rsum_mul_left, hrow t ht, mul_zero]
  · intro hu
    refine ⟨fun t => u ((npv p r m)[t]?.getD 0), fun j hj => ?_⟩
    by_cases g : ∃ i, i < r ∧ p i = j
    · obtain ⟨i, hi, rfl⟩ := g
      have h1 := hu i hi
      rw [hsum, rsum_single (k := i) hi fun k hk hne => by rw [h.zero i k hi hk hne.symm, zero_mul], h.one i hi, one_mul] at h1
      rw [rsum_congr (g := fun t => -(A i ((npv p r m)[t]?.getD 0) * u ((npv p r m)[t]?.getD 0))) fun t ht => by
        unfold nulM; rw [nulR_piv h hi ((npv_get ht).2 i hi), mul_neg, mul_c], rsum_neg]
      exact eq_neg_of_add h1
    · have hn : ∀ i, i < r → p i ≠ j := fun i hi e => g ⟨i, hi, e⟩
      have hm : j ∈ npv p r m := npv_mem.2 ⟨hj, hn⟩
      obtain ⟨t, ht, e⟩ := List.getElem_of_mem hm
      have e' : (npv p r m)[t]?.getD 0 = j := by rw [List.getElem?_eq_getElem ht]; exact e
      rw [rsum_single (k := t) ht fun s hs hne => ?_]
      · unfold nulM
        dsimp only
        rw [nulR_oth A hn, e', if_pos rfl, mul_one]
      · unfold nulM
        rw [nulR_oth A hn, if_neg (fun e2 => hne (npv_inj hs ht (e2.symm.trans e'.symm))), mul_zero]
theorem nul_indep {m r : Nat} {p : Nat → Nat} {A : Nat → Nat → F} : Indep (npv p r m).length m (nulM r m p A) := fun c hc t ht => by
  obtain ⟨hlt, hn⟩ := npv_get ht
  have h1 := hc _ hlt
  rw [rsum_single (k := t) ht fun s hs hne => by unfold nulM; rw [nulR_oth A hn, if_neg (fun e => hne (npv_inj hs ht e.symm)), mul_zero]] at h1
  unfold nulM at h1
  rw [nulR_oth A hn, if_pos rfl, mul_one] at h1
  exact h1
end
end Cw
namespace Cw
theorem npv_pre {p : Nat → Nat} {r c : Nat} : ∀ {m : Nat}, c ≤ m → ∃ l, npv p r m = npv p r c ++ l
  | 0, h => ⟨[], by rw [show c = 0 by omega, List.append_nil]⟩
  | m + 1, h => by
    by_cases e : c = m + 1
    · exact ⟨[], by rw [e, List.append_nil]⟩
    · obtain ⟨l, hl⟩ := npv_pre (p := p) (r := r) (m := m) (show c ≤ m by omega)
      exact ⟨l ++ _, by rw [npv_succ, hl, List.append_assoc]⟩
theorem npv_at {p : Nat → Nat} {r c m : Nat} (hc : c < m) (hn : ¬ ∃ i, i < r ∧ p i = c) : (npv p r m)[(npv p r c).length]?.getD 0 = c ∧ (npv p r (c + 1)).length = (npv p r c).length + 1 := by
  have e1 : npv p r (c + 1) = npv p r c ++ [c] := by rw [npv_succ, if_neg hn]
  obtain ⟨l, hl⟩ := npv_pre (p := p) (r := r) (show c + 1 ≤ m from hc)
  refine ⟨?_, by rw [e1, List.length_append, List.length_singleton]⟩
  rw [hl, e1, List.append_assoc, List.getElem?_append_right (Nat.le_refl _), Nat.sub_self]
  rfl
theorem npv_skip {p : Nat → Nat} {r c : Nat} (hn : ∃ i, i < r ∧ p i = c) : npv p r (c + 1) = npv p r c := by
  rw [npv_succ, if_pos hn, List.append_nil]
/-- Which pivot a column is, or -1. -/
def lead (p : Nat → Nat) : Nat → Nat → Int
  | 0, _ => -1
  | k + 1, c => if p k = c then (k : Int) else lead p k c
section
variable {F : Type} [CField F]
/-- The word of a column, where k of the pivots are filled. -/
def nulK (p : Nat → Nat) (A : Nat → Nat → F) (c k : Nat) : Nat → F := fun j => (if j = c then 1 else 0) - rsum k fun i => if j = p i then A i c else 0
theorem nulK_step {m r : Nat} {p : Nat → Nat} {A : Nat → Nat → F} (h : RR m r p A) {c k : Nat} (hk : k < r) (hc : p k ≠ c) (j : Nat) : nulK p A c (k + 1) j = if j = p k then - A k c else nulK p A c k j := by
  unfold nulK
  rw [rsum_succ]
  by_cases e : j = p k
  · rw [if_pos e, if_pos e, if_neg (fun e2 => hc (e.symm.trans e2)), rsum_eq_zero (n := k) fun i hi => if_neg fun e2 => ?_, zero_add, zero_sub]
    have := h.inj i k (by omega) hk (e2.symm.trans e)
    omega
  · rw [if_neg e, if_neg e, add_zero]
end
end Cw
