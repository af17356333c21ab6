/- The program's rows: Scale, entries, check, Clone, clone. The program's rows, changed in place: add, Clone, clone. Words for a matrix whose rows are changed in place: each row in a block of its own. The program's clone of rows. The program's elimination. The program's canonical rows: canon, open, Canonical. -/
import Derived.Deep.CutRange
import Derived.IntWalk
import Derived.Maps.Range
import Derived.Maps.RangeWalk
import Derived.Test.YtpflgmbcmfllgaaZeRG
import Derived.Test.YtpflgmbcmfllgaaZeGA
import Derived.Test.YtpflgmbcmfllgaaZeRowL
import Derived.Test.YtpflgmbcmfllgaaZeMH
namespace Go.Proofs.Ytpflgmbcmfllgaa
open Go.RowKit Cw
attribute [local go_sem] Oper.semAt_some

end Go.Proofs.Ytpflgmbcmfllgaa

namespace Go.Proofs.Ytpflgmbcmfllgaa
open Go.RowKit Cw
attribute [local go_sem] Oper.semAt_some

theorem ite_succ {X : Type} {j k : Nat} (h : j ≠ k) {x y : X} : (if j < k + 1 then x else y) = if j < k then x else y := by
  by_cases h2 : j < k
  · rw [if_pos h2, if_pos (by omega)]
  · rw [if_neg h2, if_neg (by omega)]
end Go.Proofs.Ytpflgmbcmfllgaa

namespace Go.Proofs.Ytpflgmbcmfllgaa
open Go.RowKit Cw
attribute [local go_sem] Oper.semAt_some

theorem addr_add0 (b j : Nat) : (⟨b, 0, none⟩ : Addr).add j = ⟨b, j, none⟩ := by unfold Addr.add; split <;> simp_all
/-- What is known of the cells of a row of the call's own. -/
theorem Own.rowCells {D : Desc} {w : World} {B b c m : Nat} {f : Nat → R D} (h : Own w B (.slice (some ⟨b, 0, none⟩) m c) (rowL D m f)) : B ≤ b ∧ b < w.heap.size ∧ m ≤ c ∧ c ≤ maxLen ∧ ∀ j, j < m → w.cell? ⟨b, j, none⟩ = some (.int .i64 (ci (f j))) ∧ w.frozen? ⟨b, j, none⟩ = false := by
  have h' := h
  rcases h.2 with ⟨e, -⟩ | ⟨g, cap, cur, hv, hb, hg, hc, hm, _⟩
  · cases e
  · obtain ⟨rfl, rfl⟩ : b = g ∧ c = cap := by
      injection hv with e1 e2 e3
      injection e1 with e1
      injection e1 with e1
      exact ⟨e1, e3⟩
    rw [rowL_length] at hc
    refine ⟨hb, (Array.getElem?_eq_some_iff.1 hg).1, hc, hm, fun j hj => ⟨?_, by simp [World.frozen?, hg]⟩⟩
    have := World.ownsRow.cells h' (g := b) rfl j (.int .i64 (ci (f j))) (by rw [List.getElem?_map]; unfold rowL lst; simp [hj])
    rw [addr_add0] at this
    exact this
theorem Own.zero {w : World} {B n c : Nat} {A : Option Addr} {l : List Int} (h : Own w B (.slice A n c) l) (hl : 0 < l.length) : ∃ b, A = some ⟨b, 0, none⟩ := by
  rcases h.2 with ⟨-, h0⟩ | ⟨g, cap, cur, hv, -⟩
  · omega
  · cases hv; exact ⟨g, rfl⟩
/-- One row more. -/
theorem MP.snoc {D : Desc} {w3 w4 : World} {L g k m b1 c1 : Nat} {M : Nat → Nat → R D} {v : Value} (h : MP w3 L g k m none M) (hb : Below w3.heap.size w3 w4) (hx : w4.cell? ⟨g, k, none⟩ = some v) (hf : w4.frozen? ⟨g, k, none⟩ = false)
    (ho : Own w4 w3.heap.size (.slice (some ⟨b1, 0, none⟩) m c1) (rowL D m (M k))) (hL : L ≤ w3.heap.size) : MP (w4.setCell ⟨g, k, none⟩ (.slice (some ⟨b1, 0, none⟩) m c1)) L g (k + 1) m none M := by
  obtain ⟨o1, o2, o3, o4, o5⟩ := ho.rowCells
  have hg3 := h.1
  have hBl : ∀ t b c, t < k → RowAt w3 L g m none t b c (M t) → b < w3.heap.size := fun t b c _ h => h.lt
  obtain ⟨hgl0, B, C, h30, h4⟩ := h
  have hne : b1 ≠ g := by omega
  refine ⟨by simp only [World.setCell, Array.size_modify]; exact Nat.lt_of_lt_of_le hgl0 hb.size, fun t => if t = k then b1 else B t, fun t => if t = k then c1 else C t, fun t ht => ?_, fun s t hs ht => ?_⟩
  · by_cases e : t = k
    · subst e
      simp only [if_true]
      exact ⟨World.cell?_setCell_same _ _ _ hx, by simp [go_sem, hf], by simp only [World.setCell, Array.size_modify]; exact o2, hne, by simp, by omega, o3, o4, fun j hj => ⟨(World.cell?_setCell_far _ _ _ _ hne.symm).trans (o5 j hj).1, by have := (o5 j hj).2; simp [go_sem, this]⟩⟩
    · simp only [if_neg e]
      exact ((h30 t (by omega)).grown hgl0 (below_grown hb (Nat.le_refl _)) (by simp) (by simp) (by simp)).other e
  · intro e
    have h1 := fun t (ht : t < k) => (h30 t ht).lt
    by_cases s1 : s = k <;> by_cases t1 : t = k
    · omega
    · simp only [s1, t1, if_true, if_false] at e; have := h1 t (by omega); omega
    · simp only [s1, t1, if_true, if_false] at e; have := h1 s (by omega); omega
    · simp only [s1, t1, if_false] at e; exact h4 s t (by omega) (by omega) e

end Go.Proofs.Ytpflgmbcmfllgaa

namespace Go.Proofs.Ytpflgmbcmfllgaa
open Go.RowKit Cw
open Cw.CField (inv)
attribute [local go_sem] Oper.semAt_some

/-- What stands in the elimination's memory: the rows, the three boxes, the list of the pivots; H is the box of the row at hand. -/
structure EB {D : Desc} (w : World) (L g n m s gf cl H : Nat) (pv : Value) (l : List Int) (M : Nat → Nat → R D) : Prop where
  rows : ∀ q, (q = pv.ownBlock ∨ ∃ X, q = some X ∧ (s ≤ X ∧ X < s + 1 + 1 + 1 ∨ (X = H ∨ X = H + 1))) → MP w L g n m q M
  b4 : w.cell? ⟨s, 0, none⟩ = some (.pointer (some ⟨gf, 0, none⟩))
  b5 : w.cell? ⟨s + 1, 0, none⟩ = some (.slice (some ⟨g, 0, none⟩) n cl)
  b7 : w.cell? ⟨s + 1 + 1, 0, none⟩ = some (.slice none 0 0)
  own : Own w (s + 1 + 1 + 1) pv l
  lt : s + 1 + 1 < w.heap.size
  gs : g < s
section
variable {D : Desc} {w w' : World} {L g n m s gf cl H : Nat} {pv : Value} {l : List Int} {M M' : Nat → Nat → R D}
theorem EB.below {B : Nat} (h : EB w L g n m s gf cl H pv l M) (hb : Below B w w') (hB : w.heap.size ≤ B) : EB w' L g n m s gf cl H pv l M := by
  have hl := h.lt
  exact ⟨fun q hq => (h.rows q hq).below hb hB, (hb.cell (p := ⟨s, 0, none⟩) (show s < B by omega)).trans h.b4, (hb.cell (p := ⟨s + 1, 0, none⟩) (show s + 1 < B by omega)).trans h.b5, (hb.cell (p := ⟨s + 1 + 1, 0, none⟩) (show s + 1 + 1 < B by omega)).trans h.b7, h.own.below hb hB, Nat.lt_of_lt_of_le hl hb.size, h.gs⟩
theorem MP.any {q : Option Nat} (h : MP w L g n m q M) : MP w L g n m none M := by
  obtain ⟨hgl, b, c, h1, h2⟩ := h
  exact ⟨hgl, b, c, fun i hi => (h1 i hi).to (by simp), h2⟩
/-- The rows changed, in block b. -/
theorem EB.step {b : Nat} (h : EB w L g n m s gf cl H pv l M) (hg : w.grownBy w' (some b)) (hne : ∀ X, s ≤ X → X < s + 1 + 1 + 1 → X ≠ b) (hp : pv.ownBlock ≠ some b)
    (hr : ∀ q, (q = pv.ownBlock ∨ ∃ X, q = some X ∧ (s ≤ X ∧ X < s + 1 + 1 + 1 ∨ (X = H ∨ X = H + 1))) → MP w' L g n m q M') : EB w' L g n m s gf cl H pv l M' :=
  ⟨hr, hg.cell h.b4 (fun e => hne s (by omega) (by omega) (by injection e)), hg.cell h.b5 (fun e => hne (s + 1) (by omega) (by omega) (by injection e)), hg.cell h.b7 (fun e => hne (s + 1 + 1) (by omega) (by omega) (by injection e)), h.own.kept hg (.inr hp), Nat.lt_of_lt_of_le h.lt hg.size, h.gs⟩
theorem MP.other {q : Option Nat} {X : Nat} (h1 : MP w L g n m (some X) M) (h2 : MP w L g n m q M) (hg : w.grownBy w' (some X)) (hX : X ≠ g) : MP w' L g n m q M := by
  obtain ⟨hgl, b, c, h3, h4⟩ := h2
  exact ⟨Nat.lt_of_lt_of_le hgl hg.size, b, c, fun i hi => (h3 i hi).grown hgl hg (fun e => hX (by injection e)) (h1.row hi (h3 i hi)).nq (h3 i hi).nq, h4⟩
theorem EB.base (h : EB w L g n m s gf cl H pv l M) : EB w L g n m s gf cl s pv l M :=
  ⟨fun q hq => h.rows q (hq.imp id fun ⟨X, e, e2⟩ => ⟨X, e, .inl (by omega)⟩), h.b4, h.b5, h.b7, h.own, h.lt, h.gs⟩
end
end Go.Proofs.Ytpflgmbcmfllgaa

namespace Go.Proofs.Ytpflgmbcmfllgaa
open Go.RowKit Cw
attribute [local go_sem] Oper.semAt_some

theorem MP.less {D : Desc} {w : World} {L g n m r : Nat} {q : Option Nat} {M : Nat → Nat → R D} (h : MP w L g n m q M) (hr : r ≤ n) : MP w L g r m q M := by
  obtain ⟨hgl, b, c, h1, h2⟩ := h
  exact ⟨hgl, b, c, fun i hi => h1 i (by omega), fun i k hi hk => h2 i k (by omega) (by omega)⟩
theorem set2 {w3 : World} {b : Nat} (u0 u1 : Value) : Below b w3 ((w3.setCell ⟨b, 0, none⟩ u0).setCell ⟨b, 1, none⟩ u1) :=
  ((Below.refl _ _).setCell (p := ⟨b, 0, none⟩) (Nat.le_refl _) _).setCell (p := ⟨b, 1, none⟩) (Nat.le_refl _) _
theorem set2_above {w : World} {b L : Nat} (hL : b < L) (u0 u1 : Value) (p : Addr) (hp : L ≤ p.block) : ((w.setCell ⟨b, 0, none⟩ u0).setCell ⟨b, 1, none⟩ u1).cell? p = w.cell? p := by
  have hne : b ≠ p.block := by omega
  rw [World.cell?_setCell_far _ _ _ _ hne, World.cell?_setCell_far _ _ _ _ hne]
end Go.Proofs.Ytpflgmbcmfllgaa
