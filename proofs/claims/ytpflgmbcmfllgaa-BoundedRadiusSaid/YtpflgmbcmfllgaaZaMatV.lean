/- The program's elimination. -/
import Derived.Deep.CutRange
import Derived.IntWalk
import Derived.Test.YtpflgmbcmfllgaaZaMP
namespace Go.Proofs.Ytpflgmbcmfllgaa
open Go.RowKit Cw
open Cw.CField (inv)
attribute [local go_sem] Oper.semAt_some

/-- What stands in the elimination's memory: the rows, the three boxes, the list of the pivots; H is the box of the row at hand. -/
structure EB {D : Desc} (w : World) (L g n m s gf cl H : Nat) (pv : Value) (l : List Int) (M : Nat → Nat → R D) : Prop where
  rows : ∀ q, (q = pv.ownBlock ∨ ∃ X, q = some X ∧ (s ≤ X ∧ X < s + 1 + 1 + 1 ∨ (X = H ∨ X = H + 1))) → MP w L g n m q M
  b4 : w.cell? ⟨s, 0, none⟩ = some (.pointer (some ⟨gf, 0, none⟩))
  b5 : w.cell? ⟨s + 1, 0, none⟩ = some (.slice (some ⟨g, 0, none⟩) n cl)
  b7 : w.cell? ⟨s + 1 + 1, 0, none⟩ = some (.slice none 0 0)
  own : Own w (s + 1 + 1 + 1) pv l
  lt : s + 1 + 1 < w.heap.size
  gs : g < s
section
variable {D : Desc} {w w' : World} {L g n m s gf cl H : Nat} {pv : Value} {l : List Int} {M M' : Nat → Nat → R D}
theorem EB.below {B : Nat} (h : EB w L g n m s gf cl H pv l M) (hb : Below B w w') (hB : w.heap.size ≤ B) : EB w' L g n m s gf cl H pv l M := by
  have hl := h.lt
  exact ⟨fun q hq => (h.rows q hq).below hb hB, (hb.cell (p := ⟨s, 0, none⟩) (show s < B by omega)).trans h.b4, (hb.cell (p := ⟨s + 1, 0, none⟩) (show s + 1 < B by omega)).trans h.b5, (hb.cell (p := ⟨s + 1 + 1, 0, none⟩) (show s + 1 + 1 < B by omega)).trans h.b7, h.own.below hb hB, Nat.lt_of_lt_of_le hl hb.size, h.gs⟩
theorem MP.any {q : Option Nat} (h : MP w L g n m q M) : MP w L g n m none M := by
  obtain ⟨hgl, b, c, h1, h2⟩ := h
  exact ⟨hgl, b, c, fun i hi => (h1 i hi).to (by simp), h2⟩
/-- The rows changed, in block b. -/
theorem EB.step {b : Nat} (h : EB w L g n m s gf cl H pv l M) (hg : w.grownBy w' (some b)) (hne : ∀ X, s ≤ X → X < s + 1 + 1 + 1 → X ≠ b) (hp : pv.ownBlock ≠ some b)
    (hr : ∀ q, (q = pv.ownBlock ∨ ∃ X, q = some X ∧ (s ≤ X ∧ X < s + 1 + 1 + 1 ∨ (X = H ∨ X = H + 1))) → MP w' L g n m q M') : EB w' L g n m s gf cl H pv l M' :=
  ⟨hr, hg.cell h.b4 (fun e => hne s (by omega) (by omega) (by injection e)), hg.cell h.b5 (fun e => hne (s + 1) (by omega) (by omega) (by injection e)), hg.cell h.b7 (fun e => hne (s + 1 + 1) (by omega) (by omega) (by injection e)), h.own.kept hg (.inr hp), Nat.lt_of_lt_of_le h.lt hg.size, h.gs⟩
theorem MP.other {q : Option Nat} {X : Nat} (h1 : MP w L g n m (some X) M) (h2 : MP w L g n m q M) (hg : w.grownBy w' (some X)) (hX : X ≠ g) : MP w' L g n m q M := by
  obtain ⟨hgl, b, c, h3, h4⟩ := h2
  exact ⟨Nat.lt_of_lt_of_le hgl hg.size, b, c, fun i hi => (h3 i hi).grown hgl hg (fun e => hX (by injection e)) (h1.row hi (h3 i hi)).nq (h3 i hi).nq, h4⟩
theorem EB.base (h : EB w L g n m s gf cl H pv l M) : EB w L g n m s gf cl s pv l M :=
  ⟨fun q hq => h.rows q (hq.imp id fun ⟨X, e, e2⟩ => ⟨X, e, .inl (by omega)⟩), h.b4, h.b5, h.b7, h.own, h.lt, h.gs⟩
end
end Go.Proofs.Ytpflgmbcmfllgaa
