/- CombineArrays: what the functions answer, with no program in sight. -/
import Derived.Test.YtpflgmbcmfllgaaZfHasC
import Derived.Test.YtpflgmbcmfllgaaZfDsM
namespace Go.Proofs.Ytpflgmbcmfllgaa
open Go.RowKit Cw

theorem prod_iff {F : FD} {n1 m1 n2 m2 : Nat} {A B : Nat → Nat → R F.toDesc} (hA : Canl F n1 m1 A) (hB : Canl F n2 m2 B) (u : Nat → R F.toDesc) :
    Span (n1 * n2) (m1 * m2) (prodR n2 m2 A B) u ↔ (∀ x, x < m1 → Span n2 m2 B (fun y => u (m2 * x + y))) ∧ ∀ y, y < m2 → Span n1 m1 A (fun x => u (m2 * x + y)) := by
  obtain ⟨p, hp⟩ := canl_RR hA
  obtain ⟨q, hq⟩ := canl_RR hB
  exact ⟨fun h => ⟨(prod_in h).2, (prod_in h).1⟩, fun h => prod_of hp hq h.2 h.1⟩
end Go.Proofs.Ytpflgmbcmfllgaa
