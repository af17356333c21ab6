/- TowerDuals answers true for every input, and leaves its arguments as they were. No condition. -/
import Derived.Test.YteamndefbpdcjaaL17
import Derived.Test.YteamndefbpdcjaaArgS
import Derived.Test.YteamndefbpdcjaaOnce
namespace Go.Proofs.Yteamndefbpdcjaa
open Go.ChangeShapes Go.WideShapes Go.ChangeAt Go.RowKit Go.Joins Cw

theorem duL (P0 M0 : Int) (ml0 : List Int) (A0 : Option Addr) (c0 : Nat) (l1 : List Int) (A1 : Option Addr) (c1 : Nat) (x2 : Int) (w : World) (hP0 : I64 P0) (hM0 : I64 M0) (hl0 : ml0.length ≤ maxLen) (hr0 : Rd w w.heap.size A0 ml0) (hc1 : l1.length ≤ c1) (hl1 : c1 ≤ maxLen) (_hi1 : ∀ x ∈ l1, I64 x) (hr1 : Rd w w.heap.size A1 l1) (_hx2 : I64 x2) :
    Calls Try.prog 18 #[.agg #[.int .i64 P0, .int .i64 M0, .slice A0 ml0.length c0], .slice A1 l1.length c1, .int .i64 x2] w (LawEnd w) := by
  by_cases hb : Good P0 M0 ml0
  · have hb' := hb
    obtain ⟨D, rfl, rfl, rfl, -⟩ := hb
    rw [modL_length]
    exact duL_good D A0 c0 l1 A1 c1 x2 w hc1 hl1 hr1 hr0 hb'
  · exact duL_bad P0 M0 ml0 A0 c0 l1 A1 c1 x2 w hP0 hM0 hl0 hr0 hb

set_option maxRecDepth 100000 in
theorem TowerDuals_lifted (os : Os) (started : os.Started) (H : Type) (enc : TypeId × Value → H) :
    ReturnsInHanded {} Try.checked os 18 .any (Rows.towerDualsSpec.pre6 enc Try.prog Try.f18 Rows.towerDualsRow.domain false)
      (Rows.towerDualsSpec.post enc Try.prog Try.f18 false true false false) := by
  refine returnsInHanded_of_change (C := Try.checked) own_knob started (by kernel_rfl) Try.func18
    (ChangeSpec.witness6 (enc := enc) (C := Try.checked) false ⟨#[], #[.agg #[.int .i64 0, .int .i64 0, .slice none 0 0], .slice none 0 0, .int .i64 0], []⟩ 8 (by kernel_rfl) (by kernel_rfl) (by kernel_rfl) (by kernel_rfl)) ?_
  intro W base args ds gs before hval0 hW hcnd _
  have hval : ∀ (j : Nat) t v, Try.f18.params[j]? = some t → args[j]? = some v → Value.okWide Try.prog W .any base t v := hval0
  have hlt := hW.lt
  have hW' := hW
  obtain ⟨p, q, hA0, hV, rfl, hfz, hnd⟩ := hW
  have hA : DataW.TrodAll enc Try.prog W 0 (fun _ => true) true Try.f18.params.toList args.toList ds p := hA0
  rw [Try.params18] at hA hval
  obtain ⟨v0, v1, v2, e0, e1, e2, p0, p1, p2, rfl, rfl, rfl, h0, h1, h2⟩ := trodAll_three hA
  obtain ⟨P0, M0, A0, ml0, c0, rfl, hP0, hM0, hl0, -, hr0⟩ := arg_field (hval 0 _ v0 rfl rfl) h0 (fun x hx => hlt x (by simp [hx]))
  obtain ⟨A1, l1, c1, rfl, hc1, hl1, hi1, hr1⟩ := arg_ints (hval 1 _ v1 rfl rfl) h1 (fun x hx => hlt x (by simp [hx]))
  obtain ⟨x2, rfl, hx2⟩ := arg_int (hval 2 _ v2 rfl rfl) h2
  refine (duL P0 M0 ml0 A0 c0 l1 A1 c1 x2 W hP0 hM0 hl0 hr0 hc1 hl1 hi1 hr1 hx2).mono fun e W' ⟨he, hw⟩ => ?_
  subst he
  exact ⟨_, rfl, law_post laid_out hW' rfl (by kernel_rfl) (by kernel_rfl) ty_bool rfl hw⟩

theorem TowerDuals_joined : joinedFacts Try.prog 18 Try.f18 Rows.towerDualsSpec Rows.towerDualsRow = true := by
  unfold joinedFacts
  rw [once_enter, show (Rows.towerDualsRow.lifted == Try.prog.liftsFinal) = true from once_lift, show (Try.prog.make == some Rows.towerDualsRow.make) = true from once_make]
  kernel_rfl

theorem TowerDuals_holds : Rows.TowerDualsSaid :=
  OpenClaim.holds_of_wide 18 Try.f18 rfl rfl rfl rfl rfl rfl rfl ⟨rfl, rfl, rfl, rfl, rfl⟩ rfl rfl rfl rfl rfl (by kernel_rfl) Try.func18 TowerDuals_joined
    (of_decide_eq_true (by kernel_rfl)) (by unfold Func.isWrapper; first | (rw [if_pos (by decide +kernel)]; kernel_rfl) | (rw [if_neg (by decide +kernel)]; exact ⟨rfl, rfl⟩))
    (fun os started H enc _ => TowerDuals_lifted os started H enc)
#print axioms TowerDuals_holds
end Go.Proofs.Yteamndefbpdcjaa
