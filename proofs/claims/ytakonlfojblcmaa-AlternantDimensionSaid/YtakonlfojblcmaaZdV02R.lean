/- AlternantDimension answers true for every input, and leaves its arguments as they were. No condition. -/
import Derived.Test.YtakonlfojblcmaaZdGrsB
import Derived.Test.YtakonlfojblcmaaZdV02
import Derived.Test.YtakonlfojblcmaaZdOnce
namespace Go.Proofs.Ytakonlfojblcmaa
open Go.ChangeShapes Go.WideShapes Go.ChangeAt Go.RowKit Go.Joins Cw

set_option maxRecDepth 100000 in
theorem AlternantDimension_lifted (os : Os) (started : os.Started) (H : Type) (enc : TypeId × Value → H) :
    ReturnsInHanded {} Try.checked os 6 .any (Rows.alternantDimensionSpec.pre6 enc Try.prog Try.f6 Rows.alternantDimensionRow.domain false)
      (Rows.alternantDimensionSpec.post enc Try.prog Try.f6 false true false false) := by
  refine returnsInHanded_of_change (C := Try.checked) own_knob started (by kernel_rfl) Try.func6
    (ChangeSpec.witness6 (enc := enc) (C := Try.checked) false ⟨#[], #[.agg #[.int .i64 0, .int .i64 0, .slice none 0 0], .agg #[.int .i64 0, .int .i64 0, .slice none 0 0, .int .i64 0, .slice none 0 0, .slice none 0 0]], []⟩ 8 (by kernel_rfl) (by kernel_rfl) (by kernel_rfl) (by kernel_rfl)) ?_
  intro W base args ds gs before hval0 hW hcnd _
  have hval : ∀ (j : Nat) t v, Try.f6.params[j]? = some t → args[j]? = some v → Value.okWide Try.prog W .any base t v := hval0
  have hlt := hW.lt
  have hW' := hW
  obtain ⟨p, q, hA0, hV, rfl, hfz, hnd⟩ := hW
  have hA : DataW.TrodAll enc Try.prog W 0 (fun _ => true) true Try.f6.params.toList args.toList ds p := hA0
  rw [Try.params6] at hA hval
  obtain ⟨v0, v1, e0, e1, p0, p1, rfl, rfl, rfl, h0, h1⟩ := trodAll_two hA
  obtain ⟨P0, M0, A0, ml0, c0, rfl, hP0, hM0, hl0, -, hr0⟩ := arg_field (hval 0 _ v0 rfl rfl) h0 (fun x hx => hlt x (by simp [hx]))
  obtain ⟨P1, M1, K1, A1, B1, C1, ml1, pts1, mul1, c1, b1, d1, rfl, hP1, hM1, hK1, hl1, hb1, hd1, hi1, hj1, hr1, hs1, ht1⟩ := arg_grs (hval 1 _ v1 rfl rfl) h1 (fun x hx => hlt x (by simp [hx]))
  refine (altDimL P0 M0 ml0 A0 c0 P1 M1 K1 ml1 pts1 mul1 A1 B1 C1 c1 b1 d1 W hP0 hM0 hl0 hr0 hP1 hM1 hK1 hl1 hb1 hd1 hi1 hj1 hr1 hs1 ht1).mono fun e W' ⟨he, hw⟩ => ?_
  subst he
  exact ⟨_, rfl, law_post laid_out hW' rfl (by kernel_rfl) (by kernel_rfl) ty_bool rfl hw⟩

theorem AlternantDimension_joined : joinedFacts Try.prog 6 Try.f6 Rows.alternantDimensionSpec Rows.alternantDimensionRow = true := by
  unfold joinedFacts
  rw [once_enter, show (Rows.alternantDimensionRow.lifted == Try.prog.liftsFinal) = true from once_lift, show (Try.prog.make == some Rows.alternantDimensionRow.make) = true from once_make]
  kernel_rfl

theorem AlternantDimension_holds : Rows.AlternantDimensionSaid :=
  OpenClaim.holds_of_wide 6 Try.f6 rfl rfl rfl rfl rfl rfl rfl ⟨rfl, rfl, rfl, rfl, rfl⟩ rfl rfl rfl rfl rfl (by kernel_rfl) Try.func6 AlternantDimension_joined
    (of_decide_eq_true (by kernel_rfl)) (by unfold Func.isWrapper; first | (rw [if_pos (by decide +kernel)]; kernel_rfl) | (rw [if_neg (by decide +kernel)]; exact ⟨rfl, rfl⟩))
    (fun os started H enc _ => AlternantDimension_lifted os started H enc)
#print axioms AlternantDimension_holds
end Go.Proofs.Ytakonlfojblcmaa
