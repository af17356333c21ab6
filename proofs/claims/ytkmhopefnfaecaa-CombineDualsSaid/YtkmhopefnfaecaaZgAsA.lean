/- ref12.Has of any valid code and word: whether the word is in the rows' span. Plain: sums and products of three codes, in both orders of the brackets; transposed words. No Go here. -/
import Derived.Test.YtkmhopefnfaecaaZgDsM
import Derived.Test.YtkmhopefnfaecaaZgHasD
namespace Go.Proofs.Ytkmhopefnfaecaa
open Go.RowKit Cw

/-- Whether u is in the span of the rows. -/
noncomputable def spB {D : Type} [CField D] (n m : Nat) (M : Nat → Nat → D) (u : Nat → D) : Bool := @decide (Span n m M u) (Classical.propDecidable _)
theorem spB_iff {D : Type} [CField D] {n m : Nat} {M : Nat → Nat → D} {u : Nat → D} : spB n m M u = true ↔ Span n m M u :=
  @decide_eq_true_iff _ (Classical.propDecidable _)
theorem fnz_RR {F : FD} {n m : Nat} {M : Nat → Nat → R F.toDesc} {p : Nat → Nat} (h : RR m n p M) {i : Nat} (hi : i < n) : fnz (rowsL F.toDesc m M i) = p i := by
  have hlt := h.lt i hi
  refine fnz_eq _ _ (by rw [rowsL, rowL_length]; omega) (fun j hj => ?_) (.inr ?_)
  · rw [rowsL, rowL_get _ _ (by omega), h.low i hi j hj]; exact ci_zero
  · rw [rowsL, rowL_get _ _ hlt, h.one i hi]
    intro e
    exact one_ne (ci_eq_zero.1 e)
theorem rest_span {F : FD} {n m : Nat} {M : Nat → Nat → R F.toDesc} {p : Nat → Nat} (h : RR m n p M) (u : Nat → R F.toDesc) : all0 (rowL F.toDesc m (restF n (fun i => fnz (rowsL F.toDesc m M i)) M u)) = spB n m M u := by
  rw [Bool.eq_iff_iff, spB_iff]
  have hall : all0 (rowL F.toDesc m (restF n (fun i => fnz (rowsL F.toDesc m M i)) M u)) = true ↔ ∀ j, j < m → restF n (fun i => fnz (rowsL F.toDesc m M i)) M u j = 0 := by
    unfold all0
    rw [decide_eq_true_iff]
    constructor
    · intro h j hj
      exact ci_eq_zero.1 (h _ (List.mem_map.2 ⟨j, List.mem_range.2 hj, rfl⟩))
    · intro h x hx
      obtain ⟨j, hj, rfl⟩ := List.mem_map.1 hx
      exact ci_eq_zero.2 (h j (List.mem_range.1 hj))
  rw [hall]
  constructor
  · intro h
    refine ⟨fun i => u (fnz (rowsL F.toDesc m M i)), fun j hj => ?_⟩
    have h1 := h j hj
    unfold restF at h1
    dsimp only at h1 ⊢
    rw [rsum_congr fun i _ => neg_mul _ _, rsum_neg] at h1
    exact sub_eq_zero h1
  · intro hs j hj
    obtain ⟨c, hc⟩ := hs
    unfold restF
    dsimp only
    rw [rsum_congr (g := fun i => -(c i * M i j)) fun i hi => by
      rw [fnz_RR h hi, neg_mul]
      congr 2
      exact h.coef hc hi, rsum_neg, ← hc j hj, add_neg]
theorem Has12_vc {P M N : Int} {ml : List Int} {n : Nat} {rows : Nat → List Int} {F : FD} {m : Nat} {B : Nat → Nat → R F.toDesc} (hv : VC P M N ml n rows F m B) (u : Nat → R F.toDesc) (A Ar A1 : Option Addr) (c cr c1 : Nat) (w : World) (hr : Rd w w.heap.size A ml) (hrm : RdM w w.heap.size Ar n rows) (hr1 : Rd w w.heap.size A1 (rowL F.toDesc m u)) :
    Calls Try.prog 16 #[.agg #[.int .i64 P, .int .i64 M, .slice A ml.length c, .int .i64 N, .slice Ar n cr], .slice A1 m c1] w fun e w' => e = .returned (.tuple #[.bool (spB n m B u), .int .i64 0]) ∧ Below w.heap.size w w' := by
  have eP := hv.hP; have eM := hv.hM; have eL := hv.hl; have eN := hv.hN
  have h1 := hv.le; have h2 := hv.m64; have h3 := hv.m1
  have hrm2 := hrm.congr hv.hr
  have hgood := hv.good
  have hcan := hv.can
  obtain ⟨p, hRR⟩ := canl_RR hcan
  clear hv hrm
  subst eP eM eL eN
  rw [modL_length, ← rest_span hRR u]
  exact Has12_yes F hgood n m B hcan A Ar c cr u A1 c1 w hr hrm2 (by omega) h3 h2 hr1 (fun i hi => by rw [fnz_RR hRR hi]; exact hRR.lt i hi)
end Go.Proofs.Ytkmhopefnfaecaa

namespace Cw
open Go.Proofs.Ytkmhopefnfaecaa (sumR)
section
variable {F : Type} [CField F]
theorem same_of_iff {n n' m : Nat} {A B : Nat → Nat → F} (h : ∀ u, Span n m A u ↔ Span n' m B u) : SameSpan n n' m A B :=
  ⟨fun _ ht => (h _).1 (Span.row A ht), fun _ ht => (h _).2 (Span.row B ht)⟩
theorem same_iff {n n' m : Nat} {A B : Nat → Nat → F} (h : SameSpan n n' m A B) (u : Nat → F) : Span n m A u ↔ Span n' m B u :=
  ⟨fun g => g.trans h.1, fun g => g.trans h.2⟩
end
end Cw
namespace Go.Proofs.Ytkmhopefnfaecaa
open Cw
section
variable {F : FD}
end
end Go.Proofs.Ytkmhopefnfaecaa
