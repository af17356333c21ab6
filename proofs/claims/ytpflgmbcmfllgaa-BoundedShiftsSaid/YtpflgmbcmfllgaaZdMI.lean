/- The program's generator matrix. Plain law of layer 18: the weights of codewords, the dual description. No Go here. Plain law of layer 18: the dual description and its dual. No Go here. Plain law of layer 18: codewords are orthogonal to those of the dual description. No Go here. Plain law of layer 18: an affine map of the points keeps the row space. No Go here. grs.Generator. The reference's rows of a code: Power. The reference's rows of a code. The codewords of the powers are the generator's rows. The reference's code of a description. -/
import Derived.IntWalk
import Derived.Test.YtpflgmbcmfllgaaZdP1
import Derived.Test.YtpflgmbcmfllgaaZdRG
import Derived.Test.YtpflgmbcmfllgaaZdLA
import Derived.Test.YtpflgmbcmfllgaaZdMat
import Derived.Test.YtpflgmbcmfllgaaZdMH
import Derived.Test.YtpflgmbcmfllgaaZdMatV
import Derived.Test.YtpflgmbcmfllgaaZdGrsD
import Derived.Test.YtpflgmbcmfllgaaZdGrsE
import Derived.Test.YtpflgmbcmfllgaaZdGrsH
namespace Go.Proofs.Ytpflgmbcmfllgaa
open Go.RowKit Cw
attribute [local go_sem] Oper.semAt_some

/-- What is changed below the base leaves an owned matrix as it is. -/
theorem OwnM.kept {w w' : World} {B n b : Nat} {v : Value} {rows : Nat → List Int} (h : OwnM w B v n rows) (hg : w.grownBy w' (some b)) (hb : b < B) : OwnM w' B v n rows := by
  obtain ⟨hs, h1, h2, h3⟩ := h
  refine ⟨hs, h1, World.ownsRow.kept h2 hg (.inr fun e => by have := (World.ownsRow.lt h2 _ e).1; omega), fun i hi => ?_⟩
  obtain ⟨Ai, ci', a1, a2, a3, a4, a5⟩ := h3 i hi
  refine ⟨Ai, ci', a1, fun hn => ?_, a3, a4, a5⟩
  obtain ⟨b2, off, e, hbl, hcell⟩ := a2 hn
  have h5 := (a5 (List.length_pos_iff.1 hn) _ e).2
  exact ⟨b2, off, e, Nat.lt_of_lt_of_le hbl hg.size, fun j hj => hg.cell (hcell j hj) fun e2 => by
    have h6 : b2 = b := by injection e2
    have h7 : B ≤ b2 := h5
    omega⟩

end Go.Proofs.Ytpflgmbcmfllgaa

namespace Go.Proofs.Ytpflgmbcmfllgaa
open Cw
open Cw.CField (inv)

theorem eli_inj {D : Desc} {x y : Int} (hx : 0 ≤ x ∧ x < D.q) (hy : 0 ≤ y ∧ y < D.q) (h : eli D x = eli D y) : x = y := by rw [← ci_eli_in hx, ← ci_eli_in hy, h]
theorem eli_ne {D : Desc} {x : Int} (hx : 0 ≤ x ∧ x < D.q) (h : x ≠ 0) : eli D x ≠ 0 := fun e => h (by rw [← ci_eli_in hx, e, ci_zero])
theorem nodup_get {l : List Int} (h : twB l = false) {i j : Nat} (hi : i < l.length) (hj : j < l.length) (e : l[i]?.getD 0 = l[j]?.getD 0) : i = j := by
  rcases Nat.lt_trichotomy i j with h1 | h1 | h1
  · rw [twB_yes h1 hj e.symm] at h; cases h
  · exact h1
  · rw [twB_yes h1 hi e] at h; cases h
theorem mem_get {l : List Int} {i : Nat} (hi : i < l.length) : l[i]?.getD 0 ∈ l := by rw [List.getElem?_eq_getElem hi]; exact List.getElem_mem _

section
variable {F : FD}
theorem pevI_pev (l : List Int) (u : R F.toDesc) : pevI F.toDesc l u = pev (l.map (eli F.toDesc)) u := by
  have e : l.map (eli F.toDesc) = (List.range l.length).map (fun i => eli F.toDesc (l[i]?.getD 0)) := by
    apply List.ext_getElem
    · simp
    · intro i h1 h2
      have : i < l.length := by simpa using h1
      simp [this]
  rw [e, pev_map]
  rfl

end
end Go.Proofs.Ytpflgmbcmfllgaa

namespace Go.Proofs.Ytpflgmbcmfllgaa
open Cw
open Cw.CField (inv)

section
variable {F : FD}
end
end Go.Proofs.Ytpflgmbcmfllgaa

namespace Go.Proofs.Ytpflgmbcmfllgaa
open Cw
open Cw.CField (inv)
section
variable {F : FD}
theorem pts_inj {pts : List Int} (hp : elB F.toDesc pts = true) (ht : twB pts = false) : ∀ i j, i < pts.length → j < pts.length → eli F.toDesc (pts[i]?.getD 0) = eli F.toDesc (pts[j]?.getD 0) → i = j :=
  fun i j hi hj e => nodup_get ht hi hj (eli_inj (elB_iff.1 hp i hi) (elB_iff.1 hp j hj) e)
end
end Go.Proofs.Ytpflgmbcmfllgaa

namespace Cw
section
variable {F : Type} [CField F]
open CField (inv)
theorem Span.more {n n' m : Nat} {A : Nat → Nat → F} {v : Nat → F} (h : Span n m A v) (hn : n ≤ n') : Span n' m A v := h.trans fun _ ht => Span.row A (Nat.lt_of_lt_of_le ht hn)
end
end Cw
namespace Go.Proofs.Ytpflgmbcmfllgaa
open Go.RowKit Cw
end Go.Proofs.Ytpflgmbcmfllgaa

namespace Go.Proofs.Ytpflgmbcmfllgaa
open Go.RowKit Cw
attribute [local go_sem] Oper.semAt_some

/-- The two cells of a matrix, free to be written. -/
def Two (w : World) (b : Nat) (v0 v1 : Value) : Prop := w.cell? ⟨b, 0, none⟩ = some v0 ∧ w.cell? ⟨b, 1, none⟩ = some v1 ∧ w.frozen? ⟨b, 0, none⟩ = false ∧ w.frozen? ⟨b, 1, none⟩ = false
theorem Two.keep {B b : Nat} {w w1 : World} {v0 v1 : Value} (h : Two w b v0 v1) (hb : Below B w w1) (hlt : b < B) : Two w1 b v0 v1 :=
  ⟨(hb.cell (p := ⟨b, 0, none⟩) hlt).trans h.1, (hb.cell (p := ⟨b, 1, none⟩) hlt).trans h.2.1, (hb.frozen (p := ⟨b, 0, none⟩) hlt).trans h.2.2.1, (hb.frozen (p := ⟨b, 1, none⟩) hlt).trans h.2.2.2⟩
theorem Two.new (w : World) (v0 v1 : Value) (t : TypeId) : Two (w.alloc (.cells #[v0, v1] t)) w.heap.size v0 v1 := by unfold Two; simp [go_sem]

end Go.Proofs.Ytpflgmbcmfllgaa

namespace Go.Proofs.Ytpflgmbcmfllgaa
open Go.RowKit Cw
attribute [local go_sem] Oper.semAt_some

end Go.Proofs.Ytpflgmbcmfllgaa

namespace Go.Proofs.Ytpflgmbcmfllgaa
open Go.RowKit Cw
attribute [local go_sem] Oper.semAt_some

end Go.Proofs.Ytpflgmbcmfllgaa

namespace Go.Proofs.Ytpflgmbcmfllgaa
open Go.RowKit Cw

end Go.Proofs.Ytpflgmbcmfllgaa

namespace Go.Proofs.Ytpflgmbcmfllgaa
open Go.RowKit Cw
attribute [local go_sem] Oper.semAt_some

theorem OwnM.rd {w : World} {B n : Nat} {v : Value} {rows : Nat → List Int} (h : OwnM w B v n rows) : ∃ A c, v = .slice A n c ∧ RdM w w.heap.size A n rows := by
  obtain ⟨A, c, rfl⟩ := h.size
  refine ⟨A, c, rfl, ?_⟩
  by_cases h0 : 0 < n
  · obtain ⟨g, c', e, hg', -, -, hmb⟩ := h.mb h0
    have e2 : A = some ⟨g, 0, none⟩ := by injection e
    rw [e2]; exact (hmb.rdmU hg').rdm
  · obtain rfl : n = 0 := by omega
    exact RdM.zero
end Go.Proofs.Ytpflgmbcmfllgaa
