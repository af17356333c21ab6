/- made, for whatever comes in. -/
import Derived.Test.YteamndefbpdcjaaLawD
import Derived.Test.YteamndefbpdcjaaRow
namespace Go.Proofs.Yteamndefbpdcjaa
open Go.RowKit Go.Shelf Cw
attribute [local go_sem] Oper.semAt_some

theorem GF.drewN {w : World} {B g : Nat} {D : FD} (h : GF w B g D) (n : Nat) : GF (w.drewN n) B g D := h.keep fun _ _ => rfl
/-- What made hands back. -/
def MadeAny (P M : Int) (ml : List Int) (w : World) (e : Ending) (w' : World) : Prop :=
  Below w.heap.size w w' ∧ ((∃ g, ∃ F : FD, P = F.p ∧ M = F.m ∧ ml = modL F.toDesc ∧ e = .returned (.pointer (some ⟨g, 0, none⟩)) ∧ w.heap.size ≤ g ∧ GF w' w'.heap.size g F) ∨ e = .returned (.pointer none))
theorem made_any (P M : Int) (ml : List Int) (A : Option Addr) (c : Nat) (w : World) (hP : I64 P) (hM : I64 M) (hl : ml.length ≤ maxLen) (hr : Rd w w.heap.size A ml) :
    Calls Try.prog 21 #[.agg #[.int .i64 P, .int .i64 M, .slice A ml.length c]] w (MadeAny P M ml w) := by
  by_cases hb : Good P M ml
  · have hb' := hb
    obtain ⟨D, rfl, rfl, rfl, -⟩ := hb
    rw [modL_length]
    refine (made_good D A c w hr hb').mono ?_
    rintro e w' ⟨hb1, ⟨g, F, rfl, rfl, h1, h2⟩ | ⟨-, rfl⟩⟩
    · exact ⟨hb1, .inl ⟨g, F, rfl, rfl, rfl, rfl, h1, h2⟩⟩
    · exact ⟨hb1, .inr rfl⟩
  · refine (made_bad P M ml A c w hP.2 hM.2 hl hr hb).mono ?_
    rintro e w' ⟨rfl, hb1⟩
    exact ⟨hb1, .inr rfl⟩
end Go.Proofs.Yteamndefbpdcjaa
