/- Entries that are elements; cells of a field and one more, kept. The reference's polynomials: Canon. The reference's polynomials: Mul. The reference's elimination. -/
import Derived.Deep.CutRange
import Derived.IntWalk
import Derived.Test.YtpflgmbcmfllgaaZaP1
import Derived.Test.YtpflgmbcmfllgaaZaRF
import Derived.Test.YtpflgmbcmfllgaaZaPev
import Derived.Test.YtpflgmbcmfllgaaZaRowL
namespace Go.Proofs.Ytpflgmbcmfllgaa
open Go.RowKit Cw

/-- Are all entries elements? -/
def elB (D : Desc) (l : List Int) : Bool := decide (∀ x ∈ l, 0 ≤ x ∧ x < (D.q : Int))
theorem elB_iff {D : Desc} {l : List Int} : elB D l = true ↔ ∀ j, j < l.length → 0 ≤ l[j]?.getD 0 ∧ l[j]?.getD 0 < (D.q : Int) := by
  unfold elB
  rw [decide_eq_true_iff]
  constructor
  · intro h j hj
    rw [List.getElem?_eq_getElem hj]
    exact h _ (List.getElem_mem _)
  · intro h x hx
    obtain ⟨j, hj, rfl⟩ := List.getElem_of_mem hx
    have := h j hj
    rwa [List.getElem?_eq_getElem hj] at this
theorem elB_no {D : Desc} {l : List Int} {j : Nat} (hj : j < l.length) (h : ¬ (0 ≤ l[j]?.getD 0 ∧ l[j]?.getD 0 < (D.q : Int))) : elB D l = false := by
  rw [← Bool.not_eq_true, elB_iff]
  exact fun h2 => h (h2 j hj)
/-- The error of a list that must have K elements. -/
def elErr (D : Desc) (msg : List Int) (K e : Int) : Int := if (msg.length : Int) ≠ K then e else if elB D msg = false then 2 else 0
theorem Bx.cells {w : World} {b : Nat} {D : Desc} {A : Option Addr} {n c : Nat} (h : Bx w b D A n c) : w.cell? ⟨b, 0, none⟩ = some (.int .i64 D.p) ∧ w.cell? ⟨b, 1, none⟩ = some (.int .i64 D.m) ∧ w.cell? ⟨b, 2, none⟩ = some (.slice A n c) := h
end Go.Proofs.Ytpflgmbcmfllgaa

namespace Go.Proofs.Ytpflgmbcmfllgaa
open Go.RowKit Cw

/-- The coefficients of a list, as elements and as ints. -/
def cfR (D : Desc) (p : List Int) : Nat → R D := fun i => eli D (p[i]?.getD 0)
def cfI (D : Desc) (p : List Int) : Nat → Int := fun i => ci (cfR D p i)
theorem cfR_out (D : Desc) {p : List Int} {i : Nat} (h : p.length ≤ i) : cfR D p i = 0 := by
  unfold cfR; rw [List.getElem?_eq_none h]; exact eli_zero
theorem cfI_out (D : Desc) {p : List Int} {i : Nat} (h : p.length ≤ i) : cfI D p i = 0 := by
  unfold cfI; rw [cfR_out D h, ci_zero]
theorem cfR_can {D : Desc} (f : Nat → R D) (n : Nat) (h : ∀ i, n ≤ i → f i = 0) : cfR D (canL (fun i => ci (f i)) n) = f := funext fun i => by
  unfold cfR
  by_cases hi : i < n
  · rw [canL_get _ hi, eli_ci]
  · rw [canL_out _ (by omega), h i (by omega)]; exact eli_zero
/-- The canonical form of a list. -/
def canI (D : Desc) (p : List Int) : List Int := canL (cfI D p) p.length
theorem canI_le (D : Desc) (p : List Int) : (canI D p).length ≤ p.length := by unfold canI; rw [canL_length]; exact cdeg_le _ _
theorem cfR_canI (D : Desc) (p : List Int) : cfR D (canI D p) = cfR D p := cfR_can (cfR D p) p.length fun _ h => cfR_out D h
end Go.Proofs.Ytpflgmbcmfllgaa

namespace Go.Proofs.Ytpflgmbcmfllgaa
open Go.RowKit Cw

/-- The product of two lists of coefficients, in canonical form. -/
def mulI (D : Desc) (p q : List Int) : List Int := canL (fun t => ci (conv (cfR D p) (cfR D q) t)) (p.length + q.length)
theorem cfR_mulI (D : Desc) (p q : List Int) : cfR D (mulI D p q) = conv (cfR D p) (cfR D q) :=
  cfR_can _ _ fun _ h => conv_high (fun _ h => cfR_out D h) (fun _ h => cfR_out D h) (by omega)
end Go.Proofs.Ytpflgmbcmfllgaa

namespace Go.Proofs.Ytpflgmbcmfllgaa
open Go.RowKit Cw
open Cw.CField (inv)
attribute [local go_sem] Oper.semAt_some

/-- A header replaced by that of a row of m elements. -/
theorem MB.put {D : Desc} {w : World} {L g n m : Nat} {q : Option Nat} {M : Nat → Nat → R D} (h : MB w L g n q (rowsL D m M)) {i : Nat} (hi : i < n) {b o c : Nat} {f : Nat → R D} (hr : Rd w w.heap.size (some ⟨b, o, none⟩) (rowL D m f)) (hl : m ≤ c) (hc : c ≤ maxLen) (hb : b ≠ g) (hq : q ≠ some b) (hL : L ≤ b) :
    MB (w.setCell ⟨g, i, none⟩ (.slice (some ⟨b, o, none⟩) m c)) L g n q (rowsL D m (setR M i f)) := by
  have k := h.set hi hr (by rw [rowL_length]; exact hl) hc (fun _ a e => by cases e; exact ⟨hb, hq, hL⟩)
  rw [rowL_length, setR_rowsL] at k
  exact k
end Go.Proofs.Ytpflgmbcmfllgaa
