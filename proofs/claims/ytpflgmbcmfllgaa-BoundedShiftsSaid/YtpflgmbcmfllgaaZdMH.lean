/- Entries that are elements; cells of a field and one more, kept. The reference's elimination. The reference: Canon of rows, copies of fields, equal rows. The reference's codes: Field, Make, Same. The reference's codes: Make, Same. -/
import Derived.Deep.CutRange
import Derived.IntWalk
import Derived.Test.YtpflgmbcmfllgaaZdRF
import Derived.Test.YtpflgmbcmfllgaaZdGA
import Derived.Test.YtpflgmbcmfllgaaZdRowL
namespace Go.Proofs.Ytpflgmbcmfllgaa
open Go.RowKit Cw

/-- Are all entries elements? -/
def elB (D : Desc) (l : List Int) : Bool := decide (∀ x ∈ l, 0 ≤ x ∧ x < (D.q : Int))
theorem elB_iff {D : Desc} {l : List Int} : elB D l = true ↔ ∀ j, j < l.length → 0 ≤ l[j]?.getD 0 ∧ l[j]?.getD 0 < (D.q : Int) := by
  unfold elB
  rw [decide_eq_true_iff]
  constructor
  · intro h j hj
    rw [List.getElem?_eq_getElem hj]
    exact h _ (List.getElem_mem _)
  · intro h x hx
    obtain ⟨j, hj, rfl⟩ := List.getElem_of_mem hx
    have := h j hj
    rwa [List.getElem?_eq_getElem hj] at this
theorem elB_no {D : Desc} {l : List Int} {j : Nat} (hj : j < l.length) (h : ¬ (0 ≤ l[j]?.getD 0 ∧ l[j]?.getD 0 < (D.q : Int))) : elB D l = false := by
  rw [← Bool.not_eq_true, elB_iff]
  exact fun h2 => h (h2 j hj)
/-- The error of a list that must have K elements. -/
def elErr (D : Desc) (msg : List Int) (K e : Int) : Int := if (msg.length : Int) ≠ K then e else if elB D msg = false then 2 else 0
theorem Bx.cells {w : World} {b : Nat} {D : Desc} {A : Option Addr} {n c : Nat} (h : Bx w b D A n c) : w.cell? ⟨b, 0, none⟩ = some (.int .i64 D.p) ∧ w.cell? ⟨b, 1, none⟩ = some (.int .i64 D.m) ∧ w.cell? ⟨b, 2, none⟩ = some (.slice A n c) := h
end Go.Proofs.Ytpflgmbcmfllgaa

namespace Go.Proofs.Ytpflgmbcmfllgaa
open Go.RowKit Cw
open Cw.CField (inv)
attribute [local go_sem] Oper.semAt_some

/-- A header replaced by that of a row of m elements. -/
theorem MB.put {D : Desc} {w : World} {L g n m : Nat} {q : Option Nat} {M : Nat → Nat → R D} (h : MB w L g n q (rowsL D m M)) {i : Nat} (hi : i < n) {b o c : Nat} {f : Nat → R D} (hr : Rd w w.heap.size (some ⟨b, o, none⟩) (rowL D m f)) (hl : m ≤ c) (hc : c ≤ maxLen) (hb : b ≠ g) (hq : q ≠ some b) (hL : L ≤ b) :
    MB (w.setCell ⟨g, i, none⟩ (.slice (some ⟨b, o, none⟩) m c)) L g n q (rowsL D m (setR M i f)) := by
  have k := h.set hi hr (by rw [rowL_length]; exact hl) hc (fun _ a e => by cases e; exact ⟨hb, hq, hL⟩)
  rw [rowL_length, setR_rowsL] at k
  exact k
end Go.Proofs.Ytpflgmbcmfllgaa

namespace Go.Proofs.Ytpflgmbcmfllgaa
open Go.RowKit Cw
attribute [local go_sem] Oper.semAt_some

end Go.Proofs.Ytpflgmbcmfllgaa

namespace Go.Proofs.Ytpflgmbcmfllgaa
open Go.RowKit Cw
attribute [local go_sem] Oper.semAt_some

/-- The five cells of a code, free to be written. -/
def Five (w : World) (b : Nat) (v0 v1 v2 v3 v4 : Value) : Prop :=
  w.cell? ⟨b, 0, none⟩ = some v0 ∧ w.cell? ⟨b, 1, none⟩ = some v1 ∧ w.cell? ⟨b, 2, none⟩ = some v2 ∧ w.cell? ⟨b, 3, none⟩ = some v3 ∧ w.cell? ⟨b, 4, none⟩ = some v4 ∧
  w.frozen? ⟨b, 0, none⟩ = false ∧ w.frozen? ⟨b, 1, none⟩ = false ∧ w.frozen? ⟨b, 2, none⟩ = false ∧ w.frozen? ⟨b, 3, none⟩ = false ∧ w.frozen? ⟨b, 4, none⟩ = false
theorem Five.keep {B b : Nat} {w w1 : World} {v0 v1 v2 v3 v4 : Value} (h : Five w b v0 v1 v2 v3 v4) (hb : Below B w w1) (hlt : b < B) : Five w1 b v0 v1 v2 v3 v4 := by
  obtain ⟨a0, a1, a2, a3, a4, f0, f1, f2, f3, f4⟩ := h
  exact ⟨(hb.cell (p := ⟨b, 0, none⟩) hlt).trans a0, (hb.cell (p := ⟨b, 1, none⟩) hlt).trans a1, (hb.cell (p := ⟨b, 2, none⟩) hlt).trans a2, (hb.cell (p := ⟨b, 3, none⟩) hlt).trans a3, (hb.cell (p := ⟨b, 4, none⟩) hlt).trans a4,
    (hb.frozen (p := ⟨b, 0, none⟩) hlt).trans f0, (hb.frozen (p := ⟨b, 1, none⟩) hlt).trans f1, (hb.frozen (p := ⟨b, 2, none⟩) hlt).trans f2, (hb.frozen (p := ⟨b, 3, none⟩) hlt).trans f3, (hb.frozen (p := ⟨b, 4, none⟩) hlt).trans f4⟩
theorem Five.new (w : World) (v0 v1 v2 v3 v4 : Value) (t : TypeId) : Five (w.alloc (.cells #[v0, v1, v2, v3, v4] t)) w.heap.size v0 v1 v2 v3 v4 := by
  unfold Five
  simp [go_sem]
end Go.Proofs.Ytpflgmbcmfllgaa

namespace Go.Proofs.Ytpflgmbcmfllgaa
open Go.RowKit Cw
attribute [local go_sem] Oper.semAt_some

end Go.Proofs.Ytpflgmbcmfllgaa
