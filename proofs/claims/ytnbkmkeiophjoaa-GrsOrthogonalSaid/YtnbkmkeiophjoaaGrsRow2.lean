/- The row of a law of layer 18: an argument of type [2][]int, opened. -/
import Derived.Test.YtnbkmkeiophjoaaGrsRow
namespace Go.Proofs.Ytnbkmkeiophjoaa
open Go.ChangeShapes Go.WideShapes Go.ChangeAt Go.RowKit Go.Joins Go.Deep

section
variable {H : Type} {enc : TypeId × Value → H} {W : World} {base : Nat}
theorem ty_vec2 : Try.prog.underlying 45 = some (.array 2 22) := by kernel_rfl
theorem cells_vec2 : Try.prog.cellsOf 45 = 2 := by kernel_rfl
set_option maxRecDepth 100000 in
theorem arg_vec2 {v : Value} {d : DataW H} {p : List MemPlace} (hv : Value.okWide Try.prog W .any base 45 v) (h : DataW.Trod enc Try.prog W 0 (fun _ => true) true 45 v d p) (hlt : ∀ x ∈ p, x.block < W.heap.size) :
    ∃ (l1 l2 : List Int) (A1 A2 : Option Addr) (c1 c2 : Nat), v = .agg #[.slice A1 l1.length c1, .slice A2 l2.length c2] ∧ l1.length ≤ maxLen ∧ l2.length ≤ maxLen ∧ Rd W W.heap.size A1 l1 ∧ Rd W W.heap.size A2 l2 := by
  obtain ⟨cs, rfl, hsz⟩ := okWide_array ty_vec2 hv
  obtain ⟨c0, c1, rfl⟩ := array2 (hsz.trans cells_vec2)
  obtain ⟨fuel, hf⟩ := h
  obtain ⟨xs, n, _, hx, hl, hlen, hg⟩ := DataW.trod_array ty_vec2 hf
  rw [cells_ints'] at hg
  match xs, hlen with
  | [z0, z1], _ =>
    have g0 := hg 0 (by omega)
    have g1 := hg 1 (by omega)
    simp only [Prod.mk.injEq] at hx
    have hp := hx.2
    obtain ⟨A1, l1, k1, rfl, a1, b1, d1, r1⟩ := cell_ints (v := c0) g0 fun x hx => hlt x (by rw [hp]; simp [hx])
    obtain ⟨A2, l2, k2, rfl, a2, b2, d2, r2⟩ := cell_ints (v := c1) g1 fun x hx => hlt x (by rw [hp]; simp [hx])
    exact ⟨l1, l2, A1, A2, k1, k2, rfl, by omega, by omega, r1, r2⟩
end
end Go.Proofs.Ytnbkmkeiophjoaa
