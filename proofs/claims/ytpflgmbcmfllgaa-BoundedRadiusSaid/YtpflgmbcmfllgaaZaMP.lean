/- The reference: Canon of rows, copies of fields, equal rows. The reference's codes: Field, Make, Same. The reference's codes: Make, Same. The program's rows: Scale, entries, check, Clone, clone. The program's rows, changed in place: add, Clone, clone. Words for a matrix whose rows are changed in place: each row in a block of its own. The program's clone of rows. -/
import Derived.Maps.Range
import Derived.Maps.RangeWalk
import Derived.Test.YtpflgmbcmfllgaaZaRF
import Derived.Test.YtpflgmbcmfllgaaZaGA
import Derived.Test.YtpflgmbcmfllgaaZaPol5m
import Derived.Test.YtpflgmbcmfllgaaZaRowL
namespace Go.Proofs.Ytpflgmbcmfllgaa
open Go.RowKit Cw
attribute [local go_sem] Oper.semAt_some

end Go.Proofs.Ytpflgmbcmfllgaa

namespace Go.Proofs.Ytpflgmbcmfllgaa
open Go.RowKit Cw
attribute [local go_sem] Oper.semAt_some

/-- The five cells of a code, free to be written. -/
def Five (w : World) (b : Nat) (v0 v1 v2 v3 v4 : Value) : Prop :=
  w.cell? ⟨b, 0, none⟩ = some v0 ∧ w.cell? ⟨b, 1, none⟩ = some v1 ∧ w.cell? ⟨b, 2, none⟩ = some v2 ∧ w.cell? ⟨b, 3, none⟩ = some v3 ∧ w.cell? ⟨b, 4, none⟩ = some v4 ∧
  w.frozen? ⟨b, 0, none⟩ = false ∧ w.frozen? ⟨b, 1, none⟩ = false ∧ w.frozen? ⟨b, 2, none⟩ = false ∧ w.frozen? ⟨b, 3, none⟩ = false ∧ w.frozen? ⟨b, 4, none⟩ = false
theorem Five.keep {B b : Nat} {w w1 : World} {v0 v1 v2 v3 v4 : Value} (h : Five w b v0 v1 v2 v3 v4) (hb : Below B w w1) (hlt : b < B) : Five w1 b v0 v1 v2 v3 v4 := by
  obtain ⟨a0, a1, a2, a3, a4, f0, f1, f2, f3, f4⟩ := h
  exact ⟨(hb.cell (p := ⟨b, 0, none⟩) hlt).trans a0, (hb.cell (p := ⟨b, 1, none⟩) hlt).trans a1, (hb.cell (p := ⟨b, 2, none⟩) hlt).trans a2, (hb.cell (p := ⟨b, 3, none⟩) hlt).trans a3, (hb.cell (p := ⟨b, 4, none⟩) hlt).trans a4,
    (hb.frozen (p := ⟨b, 0, none⟩) hlt).trans f0, (hb.frozen (p := ⟨b, 1, none⟩) hlt).trans f1, (hb.frozen (p := ⟨b, 2, none⟩) hlt).trans f2, (hb.frozen (p := ⟨b, 3, none⟩) hlt).trans f3, (hb.frozen (p := ⟨b, 4, none⟩) hlt).trans f4⟩
theorem Five.new (w : World) (v0 v1 v2 v3 v4 : Value) (t : TypeId) : Five (w.alloc (.cells #[v0, v1, v2, v3, v4] t)) w.heap.size v0 v1 v2 v3 v4 := by
  unfold Five
  simp [go_sem]
end Go.Proofs.Ytpflgmbcmfllgaa

namespace Go.Proofs.Ytpflgmbcmfllgaa
open Go.RowKit Cw
attribute [local go_sem] Oper.semAt_some

end Go.Proofs.Ytpflgmbcmfllgaa

namespace Go.Proofs.Ytpflgmbcmfllgaa
open Go.RowKit Cw
attribute [local go_sem] Oper.semAt_some

end Go.Proofs.Ytpflgmbcmfllgaa

namespace Go.Proofs.Ytpflgmbcmfllgaa
open Go.RowKit Cw
attribute [local go_sem] Oper.semAt_some

end Go.Proofs.Ytpflgmbcmfllgaa

namespace Go.Proofs.Ytpflgmbcmfllgaa
open Go.RowKit Cw
attribute [local go_sem] Oper.semAt_some

theorem addr_add0 (b j : Nat) : (⟨b, 0, none⟩ : Addr).add j = ⟨b, j, none⟩ := by unfold Addr.add; split <;> simp_all
/-- What is known of the cells of a row of the call's own. -/
theorem Own.rowCells {D : Desc} {w : World} {B b c m : Nat} {f : Nat → R D} (h : Own w B (.slice (some ⟨b, 0, none⟩) m c) (rowL D m f)) : B ≤ b ∧ b < w.heap.size ∧ m ≤ c ∧ c ≤ maxLen ∧ ∀ j, j < m → w.cell? ⟨b, j, none⟩ = some (.int .i64 (ci (f j))) ∧ w.frozen? ⟨b, j, none⟩ = false := by
  have h' := h
  rcases h.2 with ⟨e, -⟩ | ⟨g, cap, cur, hv, hb, hg, hc, hm, _⟩
  · cases e
  · obtain ⟨rfl, rfl⟩ : b = g ∧ c = cap := by
      injection hv with e1 e2 e3
      injection e1 with e1
      injection e1 with e1
      exact ⟨e1, e3⟩
    rw [rowL_length] at hc
    refine ⟨hb, (Array.getElem?_eq_some_iff.1 hg).1, hc, hm, fun j hj => ⟨?_, by simp [World.frozen?, hg]⟩⟩
    have := World.ownsRow.cells h' (g := b) rfl j (.int .i64 (ci (f j))) (by rw [List.getElem?_map]; unfold rowL lst; simp [hj])
    rw [addr_add0] at this
    exact this
theorem Own.zero {w : World} {B n c : Nat} {A : Option Addr} {l : List Int} (h : Own w B (.slice A n c) l) (hl : 0 < l.length) : ∃ b, A = some ⟨b, 0, none⟩ := by
  rcases h.2 with ⟨-, h0⟩ | ⟨g, cap, cur, hv, -⟩
  · omega
  · cases hv; exact ⟨g, rfl⟩
/-- One row more. -/
theorem MP.snoc {D : Desc} {w3 w4 : World} {L g k m b1 c1 : Nat} {M : Nat → Nat → R D} {v : Value} (h : MP w3 L g k m none M) (hb : Below w3.heap.size w3 w4) (hx : w4.cell? ⟨g, k, none⟩ = some v) (hf : w4.frozen? ⟨g, k, none⟩ = false)
    (ho : Own w4 w3.heap.size (.slice (some ⟨b1, 0, none⟩) m c1) (rowL D m (M k))) (hL : L ≤ w3.heap.size) : MP (w4.setCell ⟨g, k, none⟩ (.slice (some ⟨b1, 0, none⟩) m c1)) L g (k + 1) m none M := by
  obtain ⟨o1, o2, o3, o4, o5⟩ := ho.rowCells
  have hg3 := h.1
  have hBl : ∀ t b c, t < k → RowAt w3 L g m none t b c (M t) → b < w3.heap.size := fun t b c _ h => h.lt
  obtain ⟨hgl0, B, C, h30, h4⟩ := h
  have hne : b1 ≠ g := by omega
  refine ⟨by simp only [World.setCell, Array.size_modify]; exact Nat.lt_of_lt_of_le hgl0 hb.size, fun t => if t = k then b1 else B t, fun t => if t = k then c1 else C t, fun t ht => ?_, fun s t hs ht => ?_⟩
  · by_cases e : t = k
    · subst e
      simp only [if_true]
      exact ⟨World.cell?_setCell_same _ _ _ hx, by simp [go_sem, hf], by simp only [World.setCell, Array.size_modify]; exact o2, hne, by simp, by omega, o3, o4, fun j hj => ⟨(World.cell?_setCell_far _ _ _ _ hne.symm).trans (o5 j hj).1, by have := (o5 j hj).2; simp [go_sem, this]⟩⟩
    · simp only [if_neg e]
      exact ((h30 t (by omega)).grown hgl0 (below_grown hb (Nat.le_refl _)) (by simp) (by simp) (by simp)).other e
  · intro e
    have h1 := fun t (ht : t < k) => (h30 t ht).lt
    by_cases s1 : s = k <;> by_cases t1 : t = k
    · omega
    · simp only [s1, t1, if_true, if_false] at e; have := h1 t (by omega); omega
    · simp only [s1, t1, if_true, if_false] at e; have := h1 s (by omega); omega
    · simp only [s1, t1, if_false] at e; exact h4 s t (by omega) (by omega) e

end Go.Proofs.Ytpflgmbcmfllgaa
