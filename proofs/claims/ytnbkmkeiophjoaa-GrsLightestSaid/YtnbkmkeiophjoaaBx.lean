/- The box of a field's description. -/
import Derived.Test.YtnbkmkeiophjoaaRefC
namespace Go.Proofs.Ytnbkmkeiophjoaa
open Go.RowKit Cw
open Cw.CField (inv)

/-- The box of a description, hidden from the walk. -/
def Bx (w : World) (b : Nat) (D : Desc) (A : Option Addr) (n c : Nat) : Prop :=
  w.cell? ⟨b, 0, none⟩ = some (.int .i64 D.p) ∧ w.cell? ⟨b, 1, none⟩ = some (.int .i64 D.m) ∧ w.cell? ⟨b, 2, none⟩ = some (.slice A n c)
theorem Bx.new (w : World) (D : Desc) (A : Option Addr) (n c : Nat) (t : TypeId) : Bx (w.alloc (.cells #[.int .i64 D.p, .int .i64 D.m, .slice A n c] t)) w.heap.size D A n c := alloc3 _ _ _ _ _
theorem Bx.below {B b : Nat} {W w1 : World} {D : Desc} {A : Option Addr} {n c : Nat} (h : Bx W b D A n c) (hb : Below B W w1) (hlt : b < B) : Bx w1 b D A n c := keep3 hb hlt h
theorem Bx.drew {b : Nat} {W : World} {D : Desc} {A : Option Addr} {n c : Nat} (h : Bx W b D A n c) : Bx W.drew b D A n c := h

theorem ci_beq {D : Desc} (u v : R D) : (ci u == ci v) = decide (u = v) := by
  by_cases h : u = v
  · rw [h]; simp
  · rw [decide_eq_false h, beq_eq_false_iff_ne]; exact fun e => h (ci_inj e)
end Go.Proofs.Ytnbkmkeiophjoaa
