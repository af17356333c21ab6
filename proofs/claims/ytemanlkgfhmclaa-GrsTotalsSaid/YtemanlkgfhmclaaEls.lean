/- Entries that are elements; cells of a field and one more, kept. -/
import Derived.Test.YtemanlkgfhmclaaRF
namespace Go.Proofs.Ytemanlkgfhmclaa
open Go.RowKit Cw

/-- Are all entries elements? -/
def elB (D : Desc) (l : List Int) : Bool := decide (∀ x ∈ l, 0 ≤ x ∧ x < (D.q : Int))
theorem elB_iff {D : Desc} {l : List Int} : elB D l = true ↔ ∀ j, j < l.length → 0 ≤ l[j]?.getD 0 ∧ l[j]?.getD 0 < (D.q : Int) := by
  unfold elB
  rw [decide_eq_true_iff]
  constructor
  · intro h j hj
    rw [List.getElem?_eq_getElem hj]
    exact h _ (List.getElem_mem _)
  · intro h x hx
    obtain ⟨j, hj, rfl⟩ := List.getElem_of_mem hx
    have := h j hj
    rwa [List.getElem?_eq_getElem hj] at this
theorem elB_no {D : Desc} {l : List Int} {j : Nat} (hj : j < l.length) (h : ¬ (0 ≤ l[j]?.getD 0 ∧ l[j]?.getD 0 < (D.q : Int))) : elB D l = false := by
  rw [← Bool.not_eq_true, elB_iff]
  exact fun h2 => h (h2 j hj)
/-- The error of a list that must have K elements. -/
def elErr (D : Desc) (msg : List Int) (K e : Int) : Int := if (msg.length : Int) ≠ K then e else if elB D msg = false then 2 else 0
theorem keep4 {B b b1 o1 : Nat} {W w1 : World} {v0 v1 v2 v3 : Value} (hb : Below B W w1) (h2 : b < B) (h3 : b1 < B) (h4 : W.cell? ⟨b, 0, none⟩ = some v0 ∧ W.cell? ⟨b, 1, none⟩ = some v1 ∧ W.cell? ⟨b, 2, none⟩ = some v2 ∧ W.cell? ⟨b1, o1, none⟩ = some v3) :
    w1.cell? ⟨b, 0, none⟩ = some v0 ∧ w1.cell? ⟨b, 1, none⟩ = some v1 ∧ w1.cell? ⟨b, 2, none⟩ = some v2 ∧ w1.cell? ⟨b1, o1, none⟩ = some v3 :=
  have k := keep3 hb h2 ⟨h4.1, h4.2.1, h4.2.2.1⟩
  ⟨k.1, k.2.1, k.2.2, (hb.cell (p := ⟨b1, o1, none⟩) h3).trans h4.2.2.2⟩
theorem Bx.cells {w : World} {b : Nat} {D : Desc} {A : Option Addr} {n c : Nat} (h : Bx w b D A n c) : w.cell? ⟨b, 0, none⟩ = some (.int .i64 D.p) ∧ w.cell? ⟨b, 1, none⟩ = some (.int .i64 D.m) ∧ w.cell? ⟨b, 2, none⟩ = some (.slice A n c) := h
end Go.Proofs.Ytemanlkgfhmclaa
