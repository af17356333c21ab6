/- The row of a law: an argument that is a list of ints, opened. The row of a law: an argument of type api.Code, opened. -/
import Derived.Deep.Slices
import Derived.Test.YtkmhopefnfaecaaZgMat
import Derived.Test.YtkmhopefnfaecaaZgArg5
namespace Go.Proofs.Ytkmhopefnfaecaa
open Go.ChangeShapes Go.WideShapes Go.ChangeAt Go.RowKit Go.Joins Go.Deep

section
variable {H : Type} {enc : TypeId × Value → H} {W : World} {base : Nat}
set_option maxRecDepth 100000 in
theorem arg_ints {v : Value} {d : DataW H} {p : List MemPlace} (hv : Value.okWide Try.prog W .any base 22 v) (h : DataW.Trod enc Try.prog W 0 (fun _ => true) true 22 v d p) (hlt : ∀ x ∈ p, x.block < W.heap.size) :
    ∃ (A : Option Addr) (l : List Int) (c : Nat), v = .slice A l.length c ∧ l.length ≤ c ∧ c ≤ maxLen ∧ (∀ x ∈ l, I64 x) ∧ Rd W W.heap.size A l := by
  obtain ⟨a, n, c, rfl⟩ := okWide_slice ty_ints hv
  obtain ⟨fuel, hf⟩ := h
  obtain ⟨A, l, c', e, h1, h2, h3, h4⟩ := cell_ints (v := .slice a n c) hf hlt
  exact ⟨A, l, c', e, h1, h2, h3, h4⟩
end
end Go.Proofs.Ytkmhopefnfaecaa

namespace Go.Proofs.Ytkmhopefnfaecaa
open Go.ChangeShapes Go.WideShapes Go.ChangeAt Go.RowKit Go.Joins Go.Deep

section
variable {H : Type} {enc : TypeId × Value → H} {W : World} {base : Nat}
theorem array5 {α : Type} {cs : Array α} (h : cs.size = 5) : ∃ c0 c1 c2 c3 c4, cs = #[c0, c1, c2, c3, c4] := by
  obtain ⟨l⟩ := cs
  match l, h with
  | [c0, c1, c2, c3, c4], _ => exact ⟨c0, c1, c2, c3, c4, rfl⟩
theorem ty_rows : Try.prog.underlying 25 = some (.slice 22) := by kernel_rfl
theorem cells_row : Try.prog.cellsOf 22 = 1 := by kernel_rfl
/-- A cell of type [][]int. -/
theorem cell_rows {n : Nat} {v : Value} {y : DataW H × List MemPlace} (h : DataW.trod enc Try.prog W 0 (fun _ => true) true n 25 [v] = some y) (hlt : ∀ x ∈ y.2, x.block < W.heap.size) :
    ∃ (A : Option Addr) (k c : Nat) (rows : Nat → List Int), v = .slice A k c ∧ k ≤ c ∧ c ≤ maxLen ∧ (∀ i, i < k → ∀ x ∈ rows i, I64 x) ∧ RdM W W.heap.size A k rows := by
  rcases open_slice1 ty_rows cells_row h with ⟨hcs, rfl⟩ | ⟨a, len, cap, m, n', V, D, Pl, hcs, -, hl, hm, hmm, rfl, hx⟩
  · cases hcs
    exact ⟨none, 0, 0, fun _ => [], rfl, Nat.le_refl _, by simp [maxLen], fun i hi => absurd hi (by omega), RdM.zero⟩
  · cases hcs
    simp only [if_true] at hmm
    obtain ⟨rows, hrows⟩ := choose_lt (α := List Int) (n := len) (p := fun i l => ∃ Ai ci, W.cell? (a.add i) = some (.slice Ai l.length ci) ∧ l.length ≤ ci ∧ ci ≤ maxLen ∧ (∀ x ∈ l, I64 x) ∧ Rd W W.heap.size Ai l) (fun i hi => by
      obtain ⟨h1, h2⟩ := hx i (by omega)
      obtain ⟨Ai, l, ci, e, g1, g2, g3, g4⟩ := cell_ints h2 (fun x hx => hlt x (List.mem_append_right _ (List.mem_flatMap.2 ⟨i, List.mem_range.2 (by omega), hx⟩)))
      exact ⟨l, Ai, ci, by rw [← e]; exact h1, g1, g2, g3, g4⟩)
    refine ⟨some a, len, cap, rows, rfl, hl, hm, fun i hi => ?_, fun h0 => ?_⟩
    · obtain ⟨Ai, ci, -, -, -, g3, -⟩ := hrows i hi
      exact g3
    · have h1 := (hx 0 (by omega)).1
      obtain ⟨b, off, spot⟩ := a
      have hspot : spot = none := by simpa [Addr.add] using World.cell?_spot h1
      subst hspot
      refine ⟨b, off, rfl, hlt _ (List.mem_append_left _ (show MemPlace.cell b (off + 0) ∈ _ from List.mem_map.2 ⟨0, List.mem_range.2 (by omega), rfl⟩)), fun i hi => ?_⟩
      obtain ⟨Ai, ci, g0, g1, g2, g3, g4⟩ := hrows i hi
      rw [add_plain] at g0
      exact ⟨Ai, ci, g0, g4, g1, g2⟩
/-- The three cells of a description of a field. -/
theorem cells_fieldC {n : Nat} {c0 c1 c2 : Value} {y : DataW H × List MemPlace} (h : DataW.trod enc Try.prog W 0 (fun _ => true) true n 24 [c0, c1, c2] = some y) (hlt : ∀ x ∈ y.2, x.block < W.heap.size) :
    ∃ (p m : Int) (A : Option Addr) (l : List Int) (c : Nat), c0 = .int .i64 p ∧ c1 = .int .i64 m ∧ c2 = .slice A l.length c ∧ I64 p ∧ I64 m ∧ l.length ≤ maxLen ∧ Rd W W.heap.size A l := by
  obtain ⟨f0, f1, f2, hs, t0, t1, t2, hone, hC⟩ := ty_field
  obtain ⟨o0, k0⟩ := hone_of hone 0 f0 rfl
  obtain ⟨o1, k1⟩ := hone_of hone 1 f1 rfl
  obtain ⟨o2, k2⟩ := hone_of hone 2 f2 rfl
  obtain ⟨y0, y1, y2, n', hx, -, h0, h1, h2⟩ := trod_struct3 hs h
  simp only [o0, o1, o2, k0, k1, k2] at h0 h1 h2
  rw [t0] at h0; rw [t1] at h1; rw [t2] at h2
  subst hx
  obtain ⟨x0, rfl, i0⟩ := cell_int (v := c0) h0
  obtain ⟨x1, rfl, i1⟩ := cell_int (v := c1) h1
  obtain ⟨A, l, c, rfl, hl, hm, hi, hr⟩ := cell_ints (v := c2) h2 fun x hx => hlt x (by simp [hx])
  exact ⟨x0, x1, A, l, c, rfl, rfl, rfl, i0, i1, by omega, hr⟩
theorem ty_code : ∃ f0 f1 f2 : Field, Try.prog.underlying 27 = some (.struct #[f0, f1, f2]) ∧ (f0.type = 24 ∧ f0.offset = 0) ∧ (f1.type = 3 ∧ f1.offset = 3) ∧ (f2.type = 25 ∧ f2.offset = 4) :=
  ⟨_, _, _, Try.underlying27, ⟨rfl, rfl⟩, ⟨rfl, rfl⟩, ⟨rfl, rfl⟩⟩
theorem cells_code : Try.prog.cellsOf 27 = 5 := by kernel_rfl
theorem cells_fieldT5 : Try.prog.cellsOf 24 = 3 := by kernel_rfl
theorem cells_rowsT : Try.prog.cellsOf 25 = 1 := by kernel_rfl
set_option maxRecDepth 100000 in
theorem arg_code {v : Value} {d : DataW H} {p : List MemPlace} (hv : Value.okWide Try.prog W .any base 27 v) (h : DataW.Trod enc Try.prog W 0 (fun _ => true) true 27 v d p) (hlt : ∀ x ∈ p, x.block < W.heap.size) :
    ∃ (P M N : Int) (A Ar : Option Addr) (ml : List Int) (k c cr : Nat) (rows : Nat → List Int), v = .agg #[.int .i64 P, .int .i64 M, .slice A ml.length c, .int .i64 N, .slice Ar k cr] ∧
      I64 P ∧ I64 M ∧ I64 N ∧ ml.length ≤ maxLen ∧ (k ≤ cr ∧ cr ≤ maxLen) ∧ (∀ i, i < k → ∀ x ∈ rows i, I64 x) ∧ Rd W W.heap.size A ml ∧ RdM W W.heap.size Ar k rows := by
  obtain ⟨f0, f1, f2, hs, ⟨t0, o0⟩, ⟨t1, o1⟩, ⟨t2, o2⟩⟩ := ty_code
  obtain ⟨cs, rfl, hsz⟩ := okWide_struct hs hv
  obtain ⟨c0, c1, c2, c3, c4, rfl⟩ := array5 (hsz.trans cells_code)
  obtain ⟨fuel, hf⟩ := h
  obtain ⟨xs, n, _, hx, _, hlen, hg⟩ := DataW.trod_struct hs hf
  match xs, hlen with
  | [y0, y1, y2], _ =>
    have g0 := hg 0 f0 rfl
    have g1 := hg 1 f1 rfl
    have g2 := hg 2 f2 rfl
    rw [t0, o0, cells_fieldT5] at g0
    rw [t1, o1, cells_int] at g1
    rw [t2, o2, cells_rowsT] at g2
    simp only [Prod.mk.injEq] at hx
    have hp := hx.2
    obtain ⟨P, M, A, ml, c, rfl, rfl, rfl, i0, i1, hl, hr⟩ := cells_fieldC (c0 := c0) (c1 := c1) (c2 := c2) g0 fun x hx => hlt x (by rw [hp]; simp [hx])
    obtain ⟨N, rfl, i2⟩ := cell_int (v := c3) g1
    obtain ⟨Ar, k, cr, rows, rfl, a1, b1, d1, r1⟩ := cell_rows (v := c4) g2 fun x hx => hlt x (by rw [hp]; simp [hx])
    exact ⟨P, M, N, A, Ar, ml, k, c, cr, rows, rfl, i0, i1, i2, hl, ⟨a1, b1⟩, d1, hr, r1⟩
end
end Go.Proofs.Ytkmhopefnfaecaa
