/- TowerHomomorphisms answers true for every input, and leaves its arguments as they were. No condition. -/
import Derived.Test.YteamndefbpdcjaaL13
import Derived.Test.YteamndefbpdcjaaOnce
namespace Go.Proofs.Yteamndefbpdcjaa
open Go.ChangeShapes Go.WideShapes Go.ChangeAt Go.RowKit Go.Joins Cw

set_option maxRecDepth 100000 in
theorem TowerHomomorphisms_lifted (os : Os) (started : os.Started) (H : Type) (enc : TypeId × Value → H) :
    ReturnsInHanded {} Try.checked os 15 .any (Rows.towerHomomorphismsSpec.pre6 enc Try.prog Try.f15 Rows.towerHomomorphismsRow.domain false)
      (Rows.towerHomomorphismsSpec.post enc Try.prog Try.f15 false true false false) := by
  refine returnsInHanded_of_change (C := Try.checked) own_knob started (by kernel_rfl) Try.func15
    (ChangeSpec.witness6 (enc := enc) (C := Try.checked) false ⟨#[], #[.agg #[.int .i64 0, .int .i64 0, .slice none 0 0], .agg #[.int .i64 0, .int .i64 0, .slice none 0 0], .agg #[.int .i64 0, .int .i64 0]], []⟩ 8 (by kernel_rfl) (by kernel_rfl) (by kernel_rfl) (by kernel_rfl)) ?_
  intro W base args ds gs before hval0 hW hcnd _
  have hval : ∀ (j : Nat) t v, Try.f15.params[j]? = some t → args[j]? = some v → Value.okWide Try.prog W .any base t v := hval0
  have hlt := hW.lt
  have hW' := hW
  obtain ⟨p, q, hA0, hV, rfl, hfz, hnd⟩ := hW
  have hA : DataW.TrodAll enc Try.prog W 0 (fun _ => true) true Try.f15.params.toList args.toList ds p := hA0
  rw [Try.params15] at hA hval
  obtain ⟨v0, v1, v2, e0, e1, e2, p0, p1, p2, rfl, rfl, rfl, h0, h1, h2⟩ := trodAll_three hA
  obtain ⟨P0, M0, A0, ml0, c0, rfl, hP0, hM0, hl0, -, hr0⟩ := arg_field (hval 0 _ v0 rfl rfl) h0 (fun x hx => hlt x (by simp [hx]))
  obtain ⟨P1, M1, A1, ml1, c1, rfl, hP1, hM1, hl1, -, hr1⟩ := arg_field (hval 1 _ v1 rfl rfl) h1 (fun x hx => hlt x (by simp [hx]))
  obtain ⟨x2, y2, rfl, hx2, hy2⟩ := arg_pair (hval 2 _ v2 rfl rfl) h2
  refine (thL P0 M0 ml0 A0 c0 P1 M1 ml1 A1 c1 x2 y2 W hP0 hM0 hl0 hr0 hP1 hM1 hl1 hr1 hx2 hy2).mono fun e W' ⟨he, hw⟩ => ?_
  subst he
  exact ⟨_, rfl, law_post laid_out hW' rfl (by kernel_rfl) (by kernel_rfl) ty_bool rfl hw⟩

theorem TowerHomomorphisms_joined : joinedFacts Try.prog 15 Try.f15 Rows.towerHomomorphismsSpec Rows.towerHomomorphismsRow = true := by
  unfold joinedFacts
  rw [once_enter, show (Rows.towerHomomorphismsRow.lifted == Try.prog.liftsFinal) = true from once_lift, show (Try.prog.make == some Rows.towerHomomorphismsRow.make) = true from once_make]
  kernel_rfl

theorem TowerHomomorphisms_holds : Rows.TowerHomomorphismsSaid :=
  OpenClaim.holds_of_wide 15 Try.f15 rfl rfl rfl rfl rfl rfl rfl ⟨rfl, rfl, rfl, rfl, rfl⟩ rfl rfl rfl rfl rfl (by kernel_rfl) Try.func15 TowerHomomorphisms_joined
    (of_decide_eq_true (by kernel_rfl)) (by unfold Func.isWrapper; first | (rw [if_pos (by decide +kernel)]; kernel_rfl) | (rw [if_neg (by decide +kernel)]; exact ⟨rfl, rfl⟩))
    (fun os started H enc _ => TowerHomomorphisms_lifted os started H enc)
#print axioms TowerHomomorphisms_holds
end Go.Proofs.Yteamndefbpdcjaa
