/- The row of a law of layer 18: an argument of type api.GRS, opened. -/
import Derived.Test.YtemanlkgfhmclaaArgS
namespace Go.Proofs.Ytemanlkgfhmclaa
open Go.ChangeShapes Go.WideShapes Go.ChangeAt Go.RowKit Go.Joins Go.Deep

section
variable {H : Type} {enc : TypeId × Value → H} {W : World} {base : Nat}
theorem array6 {α : Type} {cs : Array α} (h : cs.size = 6) : ∃ c0 c1 c2 c3 c4 c5, cs = #[c0, c1, c2, c3, c4, c5] := by
  obtain ⟨l⟩ := cs
  match l, h with
  | [c0, c1, c2, c3, c4, c5], _ => exact ⟨c0, c1, c2, c3, c4, c5, rfl⟩

/-- The three cells of a description. -/
theorem cells_field {n : Nat} {c0 c1 c2 : Value} {y : DataW H × List MemPlace} (h : DataW.trod enc Try.prog W 0 (fun _ => true) true n 24 [c0, c1, c2] = some y) (hlt : ∀ x ∈ y.2, x.block < W.heap.size) :
    ∃ (p m : Int) (A : Option Addr) (l : List Int) (c : Nat), c0 = .int .i64 p ∧ c1 = .int .i64 m ∧ c2 = .slice A l.length c ∧ I64 p ∧ I64 m ∧ l.length ≤ maxLen ∧ Rd W W.heap.size A l := by
  obtain ⟨f0, f1, f2, hs, t0, t1, t2, hone, hC⟩ := ty_field
  obtain ⟨o0, k0⟩ := hone_of hone 0 f0 rfl
  obtain ⟨o1, k1⟩ := hone_of hone 1 f1 rfl
  obtain ⟨o2, k2⟩ := hone_of hone 2 f2 rfl
  obtain ⟨y0, y1, y2, n', hx, -, h0, h1, h2⟩ := trod_struct3 hs h
  simp only [o0, o1, o2, k0, k1, k2] at h0 h1 h2
  rw [t0] at h0; rw [t1] at h1; rw [t2] at h2
  subst hx
  obtain ⟨x0, rfl, i0⟩ := cell_int (v := c0) h0
  obtain ⟨x1, rfl, i1⟩ := cell_int (v := c1) h1
  obtain ⟨A, l, c, rfl, hl, hm, hi, hr⟩ := cell_ints (v := c2) h2 fun x hx => hlt x (by simp [hx])
  exact ⟨x0, x1, A, l, c, rfl, rfl, rfl, i0, i1, by omega, hr⟩

theorem ty_grs : ∃ f0 f1 f2 f3 : Field, Try.prog.underlying 26 = some (.struct #[f0, f1, f2, f3]) ∧ (f0.type = 24 ∧ f0.offset = 0) ∧ (f1.type = 3 ∧ f1.offset = 3) ∧ (f2.type = 22 ∧ f2.offset = 4) ∧ (f3.type = 22 ∧ f3.offset = 5) :=
  ⟨_, _, _, _, Try.underlying26, ⟨rfl, rfl⟩, ⟨rfl, rfl⟩, ⟨rfl, rfl⟩, ⟨rfl, rfl⟩⟩
theorem cells_grs : Try.prog.cellsOf 26 = 6 := by kernel_rfl
theorem cells_fieldT : Try.prog.cellsOf 24 = 3 := by kernel_rfl
theorem cells_ints' : Try.prog.cellsOf 22 = 1 := by kernel_rfl
set_option maxRecDepth 100000 in
theorem arg_grs {v : Value} {d : DataW H} {p : List MemPlace} (hv : Value.okWide Try.prog W .any base 26 v) (h : DataW.Trod enc Try.prog W 0 (fun _ => true) true 26 v d p) (hlt : ∀ x ∈ p, x.block < W.heap.size) :
    ∃ (P M K : Int) (A A1 A2 : Option Addr) (ml pts mul : List Int) (c c1 c2 : Nat), v = .agg #[.int .i64 P, .int .i64 M, .slice A ml.length c, .int .i64 K, .slice A1 pts.length c1, .slice A2 mul.length c2] ∧
      I64 P ∧ I64 M ∧ I64 K ∧ ml.length ≤ maxLen ∧ (pts.length ≤ c1 ∧ c1 ≤ maxLen) ∧ (mul.length ≤ c2 ∧ c2 ≤ maxLen) ∧ (∀ x ∈ pts, I64 x) ∧ (∀ x ∈ mul, I64 x) ∧ Rd W W.heap.size A ml ∧ Rd W W.heap.size A1 pts ∧ Rd W W.heap.size A2 mul := by
  obtain ⟨f0, f1, f2, f3, hs, ⟨t0, o0⟩, ⟨t1, o1⟩, ⟨t2, o2⟩, ⟨t3, o3⟩⟩ := ty_grs
  obtain ⟨cs, rfl, hsz⟩ := okWide_struct hs hv
  obtain ⟨c0, c1, c2, c3, c4, c5, rfl⟩ := array6 (hsz.trans cells_grs)
  obtain ⟨fuel, hf⟩ := h
  obtain ⟨xs, n, _, hx, _, hlen, hg⟩ := DataW.trod_struct hs hf
  match xs, hlen with
  | [y0, y1, y2, y3], _ =>
    have g0 := hg 0 f0 rfl
    have g1 := hg 1 f1 rfl
    have g2 := hg 2 f2 rfl
    have g3 := hg 3 f3 rfl
    rw [t0, o0, cells_fieldT] at g0
    rw [t1, o1, cells_int] at g1
    rw [t2, o2, cells_ints'] at g2
    rw [t3, o3, cells_ints'] at g3
    simp only [Prod.mk.injEq] at hx
    have hp := hx.2
    obtain ⟨P, M, A, ml, c, rfl, rfl, rfl, i0, i1, hl, hr⟩ := cells_field (c0 := c0) (c1 := c1) (c2 := c2) g0 fun x hx => hlt x (by rw [hp]; simp [hx])
    obtain ⟨K, rfl, i2⟩ := cell_int (v := c3) g1
    obtain ⟨A1, pts, k1, rfl, a1, b1, d1, r1⟩ := cell_ints (v := c4) g2 fun x hx => hlt x (by rw [hp]; simp [hx])
    obtain ⟨A2, mul, k2, rfl, a2, b2, d2, r2⟩ := cell_ints (v := c5) g3 fun x hx => hlt x (by rw [hp]; simp [hx])
    exact ⟨P, M, K, A, A1, A2, ml, pts, mul, c, k1, k2, rfl, i0, i1, i2, hl, ⟨a1, b1⟩, ⟨a2, b2⟩, d1, d2, hr, r1, r2⟩
end
end Go.Proofs.Ytemanlkgfhmclaa
