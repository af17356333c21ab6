/- The row of a law: an argument that is a list of ints, opened. -/
import Derived.Test.YtemanlkgfhmclaaP2
namespace Go.Proofs.Ytemanlkgfhmclaa
open Go.ChangeShapes Go.WideShapes Go.ChangeAt Go.RowKit Go.Joins Go.Deep

section
variable {H : Type} {enc : TypeId × Value → H} {W : World} {base : Nat}
set_option maxRecDepth 100000 in
theorem arg_ints {v : Value} {d : DataW H} {p : List MemPlace} (hv : Value.okWide Try.prog W .any base 22 v) (h : DataW.Trod enc Try.prog W 0 (fun _ => true) true 22 v d p) (hlt : ∀ x ∈ p, x.block < W.heap.size) :
    ∃ (A : Option Addr) (l : List Int) (c : Nat), v = .slice A l.length c ∧ l.length ≤ c ∧ c ≤ maxLen ∧ (∀ x ∈ l, I64 x) ∧ Rd W W.heap.size A l := by
  obtain ⟨a, n, c, rfl⟩ := okWide_slice ty_ints hv
  obtain ⟨fuel, hf⟩ := h
  obtain ⟨A, l, c', e, h1, h2, h3, h4⟩ := cell_ints (v := .slice a n c) hf hlt
  exact ⟨A, l, c', e, h1, h2, h3, h4⟩
end
end Go.Proofs.Ytemanlkgfhmclaa
