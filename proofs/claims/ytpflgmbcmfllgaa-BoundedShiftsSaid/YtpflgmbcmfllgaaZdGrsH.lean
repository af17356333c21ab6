/- Layer 18 of the program: Standard. Layer 18 of the program: copied, Dual. Layer 18 of the program: Dual. -/
import Derived.Test.YtpflgmbcmfllgaaZdGA
import Derived.Test.YtpflgmbcmfllgaaZdGrsE
namespace Go.Proofs.Ytpflgmbcmfllgaa
open Go.RowKit Cw

/-- Six cells of a block that nothing holds fast. -/
def Six (w : World) (b : Nat) (v0 v1 v2 v3 v4 v5 : Value) : Prop :=
  w.cell? ⟨b, 0, none⟩ = some v0 ∧ w.cell? ⟨b, 1, none⟩ = some v1 ∧ w.cell? ⟨b, 2, none⟩ = some v2 ∧ w.cell? ⟨b, 3, none⟩ = some v3 ∧ w.cell? ⟨b, 4, none⟩ = some v4 ∧ w.cell? ⟨b, 5, none⟩ = some v5 ∧
  w.frozen? ⟨b, 0, none⟩ = false ∧ w.frozen? ⟨b, 1, none⟩ = false ∧ w.frozen? ⟨b, 2, none⟩ = false ∧ w.frozen? ⟨b, 3, none⟩ = false ∧ w.frozen? ⟨b, 4, none⟩ = false ∧ w.frozen? ⟨b, 5, none⟩ = false
theorem Six.keep {B b : Nat} {w w1 : World} {v0 v1 v2 v3 v4 v5 : Value} (h : Six w b v0 v1 v2 v3 v4 v5) (hb : Below B w w1) (hlt : b < B) : Six w1 b v0 v1 v2 v3 v4 v5 := by
  obtain ⟨a0, a1, a2, a3, a4, a5, f0, f1, f2, f3, f4, f5⟩ := h
  exact ⟨(hb.cell (p := ⟨b, 0, none⟩) hlt).trans a0, (hb.cell (p := ⟨b, 1, none⟩) hlt).trans a1, (hb.cell (p := ⟨b, 2, none⟩) hlt).trans a2, (hb.cell (p := ⟨b, 3, none⟩) hlt).trans a3, (hb.cell (p := ⟨b, 4, none⟩) hlt).trans a4, (hb.cell (p := ⟨b, 5, none⟩) hlt).trans a5,
    (hb.frozen (p := ⟨b, 0, none⟩) hlt).trans f0, (hb.frozen (p := ⟨b, 1, none⟩) hlt).trans f1, (hb.frozen (p := ⟨b, 2, none⟩) hlt).trans f2, (hb.frozen (p := ⟨b, 3, none⟩) hlt).trans f3, (hb.frozen (p := ⟨b, 4, none⟩) hlt).trans f4, (hb.frozen (p := ⟨b, 5, none⟩) hlt).trans f5⟩
theorem Six.new (w : World) (v0 v1 v2 v3 v4 v5 : Value) (t : TypeId) : Six (w.alloc (.cells #[v0, v1, v2, v3, v4, v5] t)) w.heap.size v0 v1 v2 v3 v4 v5 := by
  obtain ⟨a0, a1, a2, a3, a4, a5⟩ := alloc6 w v0 v1 v2 v3 v4 v5 t
  exact ⟨a0, a1, a2, a3, a4, a5, World.frozen?_alloc_at _ _ _ _ rfl, World.frozen?_alloc_at _ _ _ _ rfl, World.frozen?_alloc_at _ _ _ _ rfl, World.frozen?_alloc_at _ _ _ _ rfl, World.frozen?_alloc_at _ _ _ _ rfl, World.frozen?_alloc_at _ _ _ _ rfl⟩
end Go.Proofs.Ytpflgmbcmfllgaa

namespace Go.Proofs.Ytpflgmbcmfllgaa
open Go.RowKit Cw

/-- A list that is read and a list of the call's own share no block. -/
def DisA (A : Option Addr) (l : List Int) (v : Value) : Prop := l ≠ [] → ∀ a, A = some a → v.ownBlock ≠ some a.block
section
variable {A : Option Addr} {l : List Int} {v u : Value} {B : Nat} {W W' Z : World}
theorem Rd.blt (h : Rd W B A l) (hn : l ≠ []) : ∀ a, A = some a → a.block < B := fun a e => by
  obtain ⟨b, off, e2, hbl, -⟩ := h (by first | exact hn | exact List.length_pos_iff.2 hn)
  rw [e2] at e; cases e; exact hbl
theorem DisA.step (h : DisA A l v) (hr : Rd W W.heap.size A l) (hv : u.ownBlock = v.ownBlock ∨ ∀ k, u.ownBlock = some k → W.heap.size ≤ k) : DisA A l u := fun hn a e e2 => by
  rcases hv with h1 | h1
  · exact h hn a e (h1 ▸ e2)
  · have := h1 _ e2; have := hr.blt hn a e; omega
theorem Rd.grown (h : Rd W B A l) (hg : W.grownBy W' v.ownBlock) (hd : DisA A l v) (_hB : B ≤ W.heap.size) : Rd W' B A l := fun hn => by
  obtain ⟨b, off, e, hbl, hcell⟩ := h hn
  refine ⟨b, off, e, hbl, fun j hj => hg.cell (hcell j hj) fun e2 => ?_⟩
  exact hd (by first | exact hn | exact List.length_pos_iff.1 hn) _ e e2.symm
end

end Go.Proofs.Ytpflgmbcmfllgaa

namespace Go.Proofs.Ytpflgmbcmfllgaa
open Go.RowKit Cw
open Cw.CField (inv)

theorem Six.far {w : World} {b g : Nat} {v0 v1 v2 v3 v4 v5 : Value} (h : Six w b v0 v1 v2 v3 v4 v5) (hne : g ≠ b) (i : Nat) (u : Value) : Six (w.setCell ⟨g, i, none⟩ u) b v0 v1 v2 v3 v4 v5 := by
  obtain ⟨a0, a1, a2, a3, a4, a5, f0, f1, f2, f3, f4, f5⟩ := h
  have hx : ∀ j, (w.setCell ⟨g, i, none⟩ u).cell? ⟨b, j, none⟩ = w.cell? ⟨b, j, none⟩ := fun j => World.cell?_setCell_other _ _ _ _ (by intro e; injection e with e1; exact hne (by first | exact e1 | exact e1.symm))
  have hf : ∀ j, (w.setCell ⟨g, i, none⟩ u).frozen? ⟨b, j, none⟩ = w.frozen? ⟨b, j, none⟩ := fun j => by simp [go_sem]
  unfold Six
  simp only [hx, hf]
  exact ⟨a0, a1, a2, a3, a4, a5, f0, f1, f2, f3, f4, f5⟩

end Go.Proofs.Ytpflgmbcmfllgaa
