/- Plain algebra: Gauss-Jordan elimination as a function. No Go here. Plain algebra: elimination of independent rows finds as many pivots as rows. No Go here. Plain algebra: the reduced rows of a matrix are those of its row space. No Go here. -/
import Derived.Test.YtpflgmbcmfllgaaZdP1
namespace Cw
section swap
variable {F : Type}
def setR {X : Type} (rows : Nat → X) (i : Nat) (l : X) : Nat → X := fun t => if t = i then l else rows t
end swap
section steps
variable {F : Type} [CField F]
open CField (inv)
end steps
section elim
variable {F : Type} [CField F] [DecidableEq F]
open CField (inv)

end elim
end Cw

namespace Cw
section sig
variable {F : Type}
end sig
section rank
variable {F : Type} [CField F]
open CField (inv)
end rank
section elim
variable {F : Type} [CField F] [DecidableEq F]
open CField (inv)
end elim
end Cw

namespace Cw
section span
variable {F : Type} [CField F]
open CField (inv)
/-- The combinations of n rows, in the first m columns. -/
def Span (n m : Nat) (A : Nat → Nat → F) (v : Nat → F) : Prop := ∃ c : Nat → F, ∀ j, j < m → v j = rsum n (fun i => c i * A i j)
theorem Span.congr {n m : Nat} {A : Nat → Nat → F} {u v : Nat → F} (h : Span n m A u) (e : ∀ j, j < m → v j = u j) : Span n m A v := by
  obtain ⟨c, hc⟩ := h
  exact ⟨c, fun j hj => (e j hj).trans (hc j hj)⟩
theorem Span.row {n m i : Nat} (A : Nat → Nat → F) (hi : i < n) : Span n m A (A i) :=
  ⟨fun t => if t = i then 1 else 0, fun j _ => by
    dsimp only
    rw [rsum_single (k := i) hi fun t _ hne => by rw [if_neg hne, zero_mul], if_pos rfl, one_mul]⟩
theorem Span.zero (n m : Nat) (A : Nat → Nat → F) : Span n m A (fun _ => 0) := ⟨fun _ => 0, fun j _ => by rw [rsum_eq_zero fun i _ => zero_mul _]⟩
theorem Span.add {n m : Nat} {A : Nat → Nat → F} {u v : Nat → F} (h : Span n m A u) (g : Span n m A v) : Span n m A (fun j => u j + v j) := by
  obtain ⟨c, hc⟩ := h
  obtain ⟨d, hd⟩ := g
  exact ⟨fun i => c i + d i, fun j hj => by dsimp only; rw [hc j hj, hd j hj, ← rsum_add]; exact rsum_congr fun i _ => (add_mul _ _ _).symm⟩
theorem Span.smul {n m : Nat} {A : Nat → Nat → F} {u : Nat → F} (h : Span n m A u) (x : F) : Span n m A (fun j => x * u j) := by
  obtain ⟨c, hc⟩ := h
  exact ⟨fun i => x * c i, fun j hj => by dsimp only; rw [hc j hj, ← rsum_mul_left]; exact rsum_congr fun i _ => (mul_a _ _ _).symm⟩
theorem Span.sum {n m : Nat} {A : Nat → Nat → F} (f : Nat → Nat → F) : ∀ k, (∀ t, t < k → Span n m A (f t)) → Span n m A (fun j => rsum k (fun t => f t j))
  | 0, _ => Span.zero n m A
  | k + 1, h => (Span.sum f k fun t ht => h t (by omega)).add (h k (by omega))
theorem Span.trans {n n' m : Nat} {A B : Nat → Nat → F} {v : Nat → F} (h : Span n' m B v) (hB : ∀ t, t < n' → Span n m A (B t)) : Span n m A v := by
  obtain ⟨c, hc⟩ := h
  exact (Span.sum (fun t j => c t * B t j) n' fun t ht => (hB t ht).smul (c t)).congr hc
/-- The same row space. -/
def SameSpan (n n' m : Nat) (A B : Nat → Nat → F) : Prop := (∀ t, t < n → Span n' m B (A t)) ∧ (∀ t, t < n' → Span n m A (B t))
theorem SameSpan.refl (n m : Nat) (A : Nat → Nat → F) : SameSpan n n m A A := ⟨fun _ ht => Span.row A ht, fun _ ht => Span.row A ht⟩
theorem SameSpan.symm {n n' m : Nat} {A B : Nat → Nat → F} (h : SameSpan n n' m A B) : SameSpan n' n m B A := ⟨h.2, h.1⟩
theorem SameSpan.trans {n n' n'' m : Nat} {A B C : Nat → Nat → F} (h : SameSpan n n' m A B) (g : SameSpan n' n'' m B C) : SameSpan n n'' m A C :=
  ⟨fun t ht => (h.1 t ht).trans g.1, fun t ht => (g.2 t ht).trans h.2⟩
end span
section elim
variable {F : Type} [CField F] [DecidableEq F]
open CField (inv)
def pvF (l : List Nat) (i : Nat) : Nat := l[i]?.getD 0
/-- The state behind c columns. -/
structure EI (n m c : Nat) (A B : Nat → Nat → F) (l : List Nat) : Prop where
  span : SameSpan n n m B A
  len : l.length ≤ n
  lt : ∀ i, i < l.length → pvF l i < c
  mono : ∀ i j, i < j → j < l.length → pvF l i < pvF l j
  one : ∀ i, i < l.length → B i (pvF l i) = 1
  zero : ∀ i j, i < l.length → j < l.length → i ≠ j → B i (pvF l j) = 0
  low : ∀ i, i < l.length → ∀ j, j < pvF l i → B i j = 0
  rest : ∀ i, l.length ≤ i → i < n → ∀ j, j < c → B i j = 0
end elim
end Cw
