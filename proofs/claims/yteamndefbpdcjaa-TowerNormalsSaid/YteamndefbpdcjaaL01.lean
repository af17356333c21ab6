/- made, for whatever comes in. -/
import Derived.Test.YteamndefbpdcjaaLawD
import Derived.Test.YteamndefbpdcjaaP2
namespace Go.Proofs.Yteamndefbpdcjaa
open Go.RowKit Go.Shelf Cw
attribute [local go_sem] Oper.semAt_some

theorem GF.drewN {w : World} {B g : Nat} {D : FD} (h : GF w B g D) (n : Nat) : GF (w.drewN n) B g D := h.keep fun _ _ => rfl
theorem keep2 {B b : Nat} {W w1 : World} {v0 v1 : Value} (hb : Below B W w1) (hlt : b < B) (h : W.cell? ⟨b, 0, none⟩ = some v0 ∧ W.cell? ⟨b, 1, none⟩ = some v1) :
    w1.cell? ⟨b, 0, none⟩ = some v0 ∧ w1.cell? ⟨b, 1, none⟩ = some v1 :=
  ⟨(hb.cell (p := ⟨b, 0, none⟩) hlt).trans h.1, (hb.cell (p := ⟨b, 1, none⟩) hlt).trans h.2⟩
theorem keep5 {B b b' : Nat} {W w1 : World} {v0 v1 v2 u0 u1 : Value} (hb : Below B W w1) (hlt : b < B) (hlt' : b' < B)
    (h : W.cell? ⟨b, 0, none⟩ = some v0 ∧ W.cell? ⟨b, 1, none⟩ = some v1 ∧ W.cell? ⟨b, 2, none⟩ = some v2 ∧ W.cell? ⟨b', 0, none⟩ = some u0 ∧ W.cell? ⟨b', 1, none⟩ = some u1) :
    w1.cell? ⟨b, 0, none⟩ = some v0 ∧ w1.cell? ⟨b, 1, none⟩ = some v1 ∧ w1.cell? ⟨b, 2, none⟩ = some v2 ∧ w1.cell? ⟨b', 0, none⟩ = some u0 ∧ w1.cell? ⟨b', 1, none⟩ = some u1 :=
  have h3 := keep3 hb hlt ⟨h.1, h.2.1, h.2.2.1⟩
  ⟨h3.1, h3.2.1, h3.2.2, keep2 hb hlt' h.2.2.2⟩
/-- What a law ends with. -/
def LawEnd (w : World) (e : Ending) (w' : World) : Prop := e = .returned (.bool true) ∧ Below w.heap.size w w'
/-- What made hands back. -/
def MadeAny (P M : Int) (ml : List Int) (w : World) (e : Ending) (w' : World) : Prop :=
  Below w.heap.size w w' ∧ ((∃ g, ∃ F : FD, P = F.p ∧ M = F.m ∧ ml = modL F.toDesc ∧ e = .returned (.pointer (some ⟨g, 0, none⟩)) ∧ w.heap.size ≤ g ∧ GF w' w'.heap.size g F) ∨ e = .returned (.pointer none))
theorem made_any (P M : Int) (ml : List Int) (A : Option Addr) (c : Nat) (w : World) (hP : I64 P) (hM : I64 M) (hl : ml.length ≤ maxLen) (hr : Rd w w.heap.size A ml) :
    Calls Try.prog 21 #[.agg #[.int .i64 P, .int .i64 M, .slice A ml.length c]] w (MadeAny P M ml w) := by
  by_cases hb : Good P M ml
  · have hb' := hb
    obtain ⟨D, rfl, rfl, rfl, -⟩ := hb
    rw [modL_length]
    refine (made_good D A c w hr hb').mono ?_
    rintro e w' ⟨hb1, ⟨g, F, rfl, rfl, h1, h2⟩ | ⟨-, rfl⟩⟩
    · exact ⟨hb1, .inl ⟨g, F, rfl, rfl, rfl, rfl, h1, h2⟩⟩
    · exact ⟨hb1, .inr rfl⟩
  · refine (made_bad P M ml A c w hP.2 hM.2 hl hr hb).mono ?_
    rintro e w' ⟨rfl, hb1⟩
    exact ⟨hb1, .inr rfl⟩
end Go.Proofs.Yteamndefbpdcjaa
