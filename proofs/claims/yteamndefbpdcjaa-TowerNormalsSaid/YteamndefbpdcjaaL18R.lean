/- TowerNormals answers true for every input, and leaves its arguments as they were. No condition. -/
import Derived.Test.YteamndefbpdcjaaL18
import Derived.Test.YteamndefbpdcjaaOnce
namespace Go.Proofs.Yteamndefbpdcjaa
open Go.ChangeShapes Go.WideShapes Go.ChangeAt Go.RowKit Go.Joins Cw

theorem noL (P0 M0 : Int) (ml0 : List Int) (A0 : Option Addr) (c0 : Nat) (x1 : Int) (w : World) (hP0 : I64 P0) (hM0 : I64 M0) (hl0 : ml0.length ≤ maxLen) (hr0 : Rd w w.heap.size A0 ml0) (_hx1 : I64 x1) :
    Calls Try.prog 19 #[.agg #[.int .i64 P0, .int .i64 M0, .slice A0 ml0.length c0], .int .i64 x1] w (LawEnd w) := by
  by_cases hb : Good P0 M0 ml0
  · have hb' := hb
    obtain ⟨D, rfl, rfl, rfl, -⟩ := hb
    rw [modL_length]
    exact noL_good D A0 c0 x1 w  hr0 hb'
  · exact noL_bad P0 M0 ml0 A0 c0 x1 w hP0 hM0 hl0 hr0 hb

set_option maxRecDepth 100000 in
theorem TowerNormals_lifted (os : Os) (started : os.Started) (H : Type) (enc : TypeId × Value → H) :
    ReturnsInHanded {} Try.checked os 19 .any (Rows.towerNormalsSpec.pre6 enc Try.prog Try.f19 Rows.towerNormalsRow.domain false)
      (Rows.towerNormalsSpec.post enc Try.prog Try.f19 false true false false) := by
  refine returnsInHanded_of_change (C := Try.checked) own_knob started (by kernel_rfl) Try.func19
    (ChangeSpec.witness6 (enc := enc) (C := Try.checked) false ⟨#[], #[.agg #[.int .i64 0, .int .i64 0, .slice none 0 0], .int .i64 0], []⟩ 8 (by kernel_rfl) (by kernel_rfl) (by kernel_rfl) (by kernel_rfl)) ?_
  intro W base args ds gs before hval0 hW hcnd _
  have hval : ∀ (j : Nat) t v, Try.f19.params[j]? = some t → args[j]? = some v → Value.okWide Try.prog W .any base t v := hval0
  have hlt := hW.lt
  have hW' := hW
  obtain ⟨p, q, hA0, hV, rfl, hfz, hnd⟩ := hW
  have hA : DataW.TrodAll enc Try.prog W 0 (fun _ => true) true Try.f19.params.toList args.toList ds p := hA0
  rw [Try.params19] at hA hval
  obtain ⟨v0, v1, e0, e1, p0, p1, rfl, rfl, rfl, h0, h1⟩ := trodAll_two hA
  obtain ⟨P0, M0, A0, ml0, c0, rfl, hP0, hM0, hl0, -, hr0⟩ := arg_field (hval 0 _ v0 rfl rfl) h0 (fun x hx => hlt x (by simp [hx]))
  obtain ⟨x1, rfl, hx1⟩ := arg_int (hval 1 _ v1 rfl rfl) h1
  refine (noL P0 M0 ml0 A0 c0 x1 W hP0 hM0 hl0 hr0 hx1).mono fun e W' ⟨he, hw⟩ => ?_
  subst he
  exact ⟨_, rfl, law_post laid_out hW' rfl (by kernel_rfl) (by kernel_rfl) ty_bool rfl hw⟩

theorem TowerNormals_joined : joinedFacts Try.prog 19 Try.f19 Rows.towerNormalsSpec Rows.towerNormalsRow = true := by
  unfold joinedFacts
  rw [once_enter, show (Rows.towerNormalsRow.lifted == Try.prog.liftsFinal) = true from once_lift, show (Try.prog.make == some Rows.towerNormalsRow.make) = true from once_make]
  kernel_rfl

theorem TowerNormals_holds : Rows.TowerNormalsSaid :=
  OpenClaim.holds_of_wide 19 Try.f19 rfl rfl rfl rfl rfl rfl rfl ⟨rfl, rfl, rfl, rfl, rfl⟩ rfl rfl rfl rfl rfl (by kernel_rfl) Try.func19 TowerNormals_joined
    (of_decide_eq_true (by kernel_rfl)) (by unfold Func.isWrapper; first | (rw [if_pos (by decide +kernel)]; kernel_rfl) | (rw [if_neg (by decide +kernel)]; exact ⟨rfl, rfl⟩))
    (fun os started H enc _ => TowerNormals_lifted os started H enc)
#print axioms TowerNormals_holds
end Go.Proofs.Yteamndefbpdcjaa
