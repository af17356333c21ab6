/- Plain law of layer 18: an affine map of the points keeps the row space. No Go here. -/
import Derived.Test.YtnbkmkeiophjoaaLA
import Derived.Test.YtnbkmkeiophjoaaMatJ
import Derived.Test.YtnbkmkeiophjoaaGrsV
namespace Cw
section
variable {F : Type} [CField F]
open CField (inv)
theorem Span.congrA {n m : Nat} {A B : Nat → Nat → F} {v : Nat → F} (h : Span n m A v) (e : ∀ i, i < n → ∀ j, j < m → A i j = B i j) : Span n m B v := by
  obtain ⟨c, hc⟩ := h
  exact ⟨c, fun j hj => by rw [hc j hj]; exact rsum_congr fun i hi => by rw [e i hi j hj]⟩
theorem Span.more {n n' m : Nat} {A : Nat → Nat → F} {v : Nat → F} (h : Span n m A v) (hn : n ≤ n') : Span n' m A v := h.trans fun _ ht => Span.row A (Nat.lt_of_lt_of_le ht hn)
theorem span_pow (u x : Nat → F) (a b : F) (m i : Nat) : Span (i + 1) m (fun i j => u j * pw (x j) i) (fun j => u j * pw (a * x j + b) i) :=
  ⟨fun k => nsm (ch i k) (pw a k * pw b (i - k)), fun j _ => by
    dsimp only
    rw [binomial, ← rsum_mul_left]
    refine rsum_congr fun k _ => ?_
    rw [nsm_mul (ch i k) (pw (a * x j) k * pw b (i - k)), nsm_mul (ch i k) (pw a k * pw b (i - k)), mul_pw]
    ac_rfl⟩
theorem aff_back {a b x : F} (ha : a ≠ 0) : inv a * (a * x + b) + -(inv a * b) = x := by
  rw [mul_add, ← mul_a, inv_mul ha, one_mul, add_a, add_neg, add_zero]
theorem sameSpan_aff (u x : Nat → F) {a : F} (b : F) (ha : a ≠ 0) (n m : Nat) : SameSpan n n m (fun i j => u j * pw (a * x j + b) i) (fun i j => u j * pw (x j) i) := by
  refine ⟨fun t ht => (span_pow u x a b m t).more ht, fun t ht => ?_⟩
  have h := (span_pow u (fun j => a * x j + b) (inv a) (-(inv a * b)) m t).more (n' := n) ht
  exact h.congr fun j _ => by rw [aff_back ha]
end
end Cw
namespace Go.Proofs.Ytnbkmkeiophjoaa
open Go.RowKit Cw
theorem affL_get (D : Desc) (a b : Int) (pts : List Int) {j : Nat} (hj : j < pts.length) : (affL D a b pts)[j]?.getD 0 = ci (eli D a * eli D (pts[j]?.getD 0) + eli D b) := lst_get _ hj
theorem aff_span {F : FD} {a : Int} (b : Int) (pts mul : List Int) (ha : eli F.toDesc a ≠ 0) (kn : Nat) : SameSpan kn kn pts.length (gM F.toDesc (affL F.toDesc a b pts) mul) (gM F.toDesc pts mul) := by
  have h := sameSpan_aff (fun j => eli F.toDesc (mul[j]?.getD 0)) (fun j => eli F.toDesc (pts[j]?.getD 0)) (eli F.toDesc b) ha kn pts.length
  have e : ∀ i, i < kn → ∀ j, j < pts.length → (fun i j => eli F.toDesc (mul[j]?.getD 0) * pw (eli F.toDesc a * eli F.toDesc (pts[j]?.getD 0) + eli F.toDesc b) i) i j = gM F.toDesc (affL F.toDesc a b pts) mul i j := fun i _ j hj => by
    unfold gM; rw [affL_get _ _ _ _ hj, eli_ci]
  exact ⟨fun t ht => (h.1 t ht).congr fun j hj => (e t ht j hj).symm, fun t ht => (h.2 t ht).congrA e⟩
theorem aff_chk {F : FD} {K a b : Int} {pts mul : List Int} (hz : gchkD F.toDesc K pts mul = 0) (ha : eli F.toDesc a ≠ 0) : gchkD F.toDesc K (affL F.toDesc a b pts) mul = 0 := by
  obtain ⟨h1, h64, hlen, hp, hm, ht, h0, hk0, hkn⟩ := gchkD_zero hz
  have hl := affL_length F.toDesc a b pts
  have hp2 : elB F.toDesc (affL F.toDesc a b pts) = true := elB_iff.2 fun j hj => by rw [affL_get _ _ _ _ (by omega)]; exact ⟨ci_nonneg _, ci_lt _⟩
  have ht2 : twB (affL F.toDesc a b pts) = false := by
    refine twB_no fun i j hij hi e => ?_
    have hj : j < (affL F.toDesc a b pts).length := by omega
    have e2 := congrArg (eli F.toDesc) e
    rw [affL_get _ _ _ _ (by omega), affL_get _ _ _ _ (by omega), eli_ci, eli_ci] at e2
    have e3 := mul_left_cancel ha (add_right_cancel e2)
    have := nodup_get ht (i := i) (j := j) (by omega) (by omega) (eli_inj (elB_iff.1 hp _ (by omega)) (elB_iff.1 hp _ (by omega)) e3)
    omega
  unfold gchkD
  rw [hl, if_neg (by omega), if_neg (by omega), if_neg (by rw [hp2, hm]; simp), if_neg (by rw [ht2]; simp), if_neg h0, if_neg (by omega)]
/-- The code is the same. -/
theorem aff_rows {F : FD} {a : Int} (b : Int) (pts mul : List Int) (ha : eli F.toDesc a ≠ 0) (kn : Nat) : rkS F kn pts.length (gM F.toDesc (affL F.toDesc a b pts) mul) = rkS F kn pts.length (gM F.toDesc pts mul) ∧
    ∀ i, i < rkS F kn pts.length (gM F.toDesc pts mul) → rowsL F.toDesc pts.length (elS kn (gM F.toDesc (affL F.toDesc a b pts) mul) pts.length).1 i = rowsL F.toDesc pts.length (elS kn (gM F.toDesc pts mul) pts.length).1 i := by
  obtain ⟨h1, h2⟩ := elS_uniq (aff_span b pts mul ha kn)
  refine ⟨h1, fun i hi => ?_⟩
  unfold rowsL rowL
  exact lst_congr fun j hj => by rw [(h2 i (by unfold rkS at hi; omega)).2 j hj]
end Go.Proofs.Ytnbkmkeiophjoaa
