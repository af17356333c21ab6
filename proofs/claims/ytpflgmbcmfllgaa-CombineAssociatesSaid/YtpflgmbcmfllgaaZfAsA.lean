/- Plain: sums and products of three codes, in both orders of the brackets; transposed words. No Go here. -/
import Derived.Test.YtpflgmbcmfllgaaZfArB
namespace Cw
open Go.Proofs.Ytpflgmbcmfllgaa (sumR)
section
variable {F : Type} [CField F]
theorem same_of_iff {n n' m : Nat} {A B : Nat → Nat → F} (h : ∀ u, Span n m A u ↔ Span n' m B u) : SameSpan n n' m A B :=
  ⟨fun _ ht => (h _).1 (Span.row A ht), fun _ ht => (h _).2 (Span.row B ht)⟩
theorem same_iff {n n' m : Nat} {A B : Nat → Nat → F} (h : SameSpan n n' m A B) (u : Nat → F) : Span n m A u ↔ Span n' m B u :=
  ⟨fun g => g.trans h.1, fun g => g.trans h.2⟩
theorem sum_assoc {K1 K2 K3 J1 J2 n1 n2 n3 : Nat} {A B C P Q : Nat → Nat → F} (hP : SameSpan J1 (K1 + K2) (n1 + n2) P (sumR K1 n1 A B)) (hQ : SameSpan J2 (K2 + K3) (n2 + n3) Q (sumR K2 n2 B C)) :
    SameSpan (J1 + K3) (K1 + J2) (n1 + n2 + n3) (sumR J1 (n1 + n2) P C) (sumR K1 n1 A Q) := same_of_iff fun u => by
  rw [span_sum, same_iff hP, span_sum, Nat.add_assoc n1 n2 n3, span_sum, same_iff hQ, span_sum, and_assoc]
  have e : (fun j => u (n1 + n2 + j)) = fun j => u (n1 + (n2 + j)) := funext fun j => by rw [Nat.add_assoc]
  rw [e]
end
/-- The transposed word. -/
def trW {X : Type} (n1 n2 : Nat) (u : Nat → X) : Nat → X := fun c => u (n1 * (c % n2) + c / n2)
theorem trW_at {X : Type} {n1 n2 x y : Nat} (u : Nat → X) (hy : y < n2) : trW n1 n2 u (n2 * x + y) = u (n1 * y + x) := by
  unfold trW
  rw [(divmod_mul hy).1, (divmod_mul hy).2]
end Cw
namespace Go.Proofs.Ytpflgmbcmfllgaa
open Cw
section
variable {F : FD}
theorem prod_assoc {K1 K2 K3 n1 n2 n3 : Nat} {A B C : Nat → Nat → R F.toDesc} {P Q : Nat → Nat → R F.toDesc} {J1 J2 : Nat} (hA : Canl F K1 n1 A) (hB : Canl F K2 n2 B) (hC : Canl F K3 n3 C) (hPc : Canl F J1 (n1 * n2) P) (hQc : Canl F J2 (n2 * n3) Q)
    (hP : SameSpan J1 (K1 * K2) (n1 * n2) P (prodR K2 n2 A B)) (hQ : SameSpan J2 (K2 * K3) (n2 * n3) Q (prodR K3 n3 B C)) :
    SameSpan (J1 * K3) (K1 * J2) (n1 * n2 * n3) (prodR K3 n3 P C) (prodR J2 (n2 * n3) A Q) := same_of_iff fun u => by
  rw [prod_iff hPc hC, Nat.mul_assoc n1 n2 n3, prod_iff hA hQc]
  have e1 : ∀ x y z, n3 * (n2 * x + y) + z = n2 * n3 * x + (n3 * y + z) := fun x y z => by
    rw [Nat.mul_add, ← Nat.mul_assoc, Nat.mul_comm n3 n2, Nat.add_assoc]
  constructor
  · rintro ⟨h1, h2⟩
    refine ⟨fun x hx => ?_, fun c hc => ?_⟩
    · rw [same_iff hQ, prod_iff hB hC]
      refine ⟨fun y hy => ?_, fun z hz => ?_⟩
      · have h := h1 (n2 * x + y) (by have := idx_lt hx hy; exact this)
        exact h.congr fun z _ => congrArg u (e1 x y z).symm
      · have h := h2 z hz
        rw [same_iff hP, prod_iff hA hB] at h
        exact (h.1 x hx).congr fun y _ => congrArg u (e1 x y z).symm
    · have hn3 : 0 < n3 := Nat.pos_of_ne_zero fun h0 => by rw [h0, Nat.mul_zero] at hc; omega
      have hz : c % n3 < n3 := Nat.mod_lt _ hn3
      have hy : c / n3 < n2 := (Nat.div_lt_iff_lt_mul hn3).2 hc
      have h := h2 (c % n3) hz
      rw [same_iff hP, prod_iff hA hB] at h
      refine (h.2 (c / n3) hy).congr fun x _ => congrArg u ?_
      rw [e1, Nat.div_add_mod]
  · rintro ⟨h1, h2⟩
    refine ⟨fun c hc => ?_, fun z hz => ?_⟩
    · have hn2 : 0 < n2 := Nat.pos_of_ne_zero fun h0 => by rw [h0, Nat.mul_zero] at hc; omega
      have hy : c % n2 < n2 := Nat.mod_lt _ hn2
      have hx : c / n2 < n1 := (Nat.div_lt_iff_lt_mul hn2).2 hc
      have h := h1 (c / n2) hx
      rw [same_iff hQ, prod_iff hB hC] at h
      refine (h.1 (c % n2) hy).congr fun z _ => congrArg u ?_
      rw [← e1, Nat.div_add_mod]
    · rw [same_iff hP, prod_iff hA hB]
      refine ⟨fun x hx => ?_, fun y hy => ?_⟩
      · have h := h1 x hx
        rw [same_iff hQ, prod_iff hB hC] at h
        exact (h.2 z hz).congr fun y _ => congrArg u (e1 x y z)
      · have h := h2 (n3 * y + z) (by have := idx_lt hy hz; exact this)
        exact h.congr fun x _ => congrArg u (e1 x y z)
/-- A word is in the product just if its transpose is in the product in the other order. -/
theorem prod_flip {K1 K2 n1 n2 : Nat} {A B : Nat → Nat → R F.toDesc} (hA : Canl F K1 n1 A) (hB : Canl F K2 n2 B) (u : Nat → R F.toDesc) :
    Span (K1 * K2) (n1 * n2) (prodR K2 n2 A B) (trW n1 n2 u) ↔ Span (K2 * K1) (n2 * n1) (prodR K1 n1 B A) u := by
  rw [prod_iff hA hB, prod_iff hB hA]
  constructor
  · rintro ⟨h1, h2⟩
    exact ⟨fun y hy => (h2 y hy).congr fun x _ => (trW_at u hy).symm, fun x hx => (h1 x hx).congr fun y hy => (trW_at u hy).symm⟩
  · rintro ⟨h1, h2⟩
    exact ⟨fun x hx => (h2 x hx).congr fun y hy => trW_at u hy, fun y hy => (h1 y hy).congr fun x _ => trW_at u hy⟩
/-- The transposed rows of the product in the other order span the product. -/
theorem prod_trans {K1 K2 n1 n2 J J2 : Nat} {A B P Q : Nat → Nat → R F.toDesc} (hA : Canl F K1 n1 A) (hB : Canl F K2 n2 B) (hP : SameSpan J (K1 * K2) (n1 * n2) P (prodR K2 n2 A B)) (hQ : SameSpan J2 (K2 * K1) (n2 * n1) Q (prodR K1 n1 B A)) :
    SameSpan J2 J (n1 * n2) (fun i => trW n1 n2 (Q i)) P := by
  constructor
  · intro t ht
    rw [same_iff hP, prod_flip hA hB, ← same_iff hQ]
    exact Span.row Q ht
  · intro t ht
    have h1 : Span J (n1 * n2) P (P t) := Span.row P ht
    have hb : ∀ c, c < n1 * n2 → P t c = trW n1 n2 (trW n2 n1 (P t)) c := fun c hc => by
      have hn2 : 0 < n2 := Nat.pos_of_ne_zero fun h0 => by rw [h0, Nat.mul_zero] at hc; omega
      have hx : c / n2 < n1 := (Nat.div_lt_iff_lt_mul hn2).2 hc
      have e : n2 * (c / n2) + c % n2 = c := Nat.div_add_mod _ _
      conv => rhs; rw [← e]
      rw [trW_at _ (Nat.mod_lt _ hn2), trW_at _ hx, e]
    have h2 : Span (K1 * K2) (n1 * n2) (prodR K2 n2 A B) (trW n1 n2 (trW n2 n1 (P t))) := ((same_iff hP _).1 h1).congr fun c hc => (hb c hc).symm
    rw [prod_flip hA hB, ← same_iff hQ] at h2
    obtain ⟨k, hk⟩ := h2
    refine ⟨k, fun c hc => ?_⟩
    rw [hb c hc]
    have hn2 : 0 < n2 := Nat.pos_of_ne_zero fun h0 => by rw [h0, Nat.mul_zero] at hc; omega
    have hx : c / n2 < n1 := (Nat.div_lt_iff_lt_mul hn2).2 hc
    show trW n2 n1 (P t) (n1 * (c % n2) + c / n2) = _
    rw [hk _ (idx_lt (Nat.mod_lt _ hn2) hx)]
    rfl
end
end Go.Proofs.Ytpflgmbcmfllgaa
