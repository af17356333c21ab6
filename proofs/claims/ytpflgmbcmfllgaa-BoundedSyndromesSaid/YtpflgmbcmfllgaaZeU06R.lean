/- BoundedSyndromes answers true for every input, and leaves its arguments as they were. No condition. -/
import Derived.Test.YtpflgmbcmfllgaaZeGrsB
import Derived.Test.YtpflgmbcmfllgaaZeU06
import Derived.Test.YtpflgmbcmfllgaaZeOnce
namespace Go.Proofs.Ytpflgmbcmfllgaa
open Go.ChangeShapes Go.WideShapes Go.ChangeAt Go.RowKit Go.Joins Cw

set_option maxRecDepth 100000 in
theorem BoundedSyndromes_lifted (os : Os) (started : os.Started) (H : Type) (enc : TypeId × Value → H) :
    ReturnsInHanded {} Try.checked os 12 .any (Rows.boundedSyndromesSpec.pre6 enc Try.prog Try.f12 Rows.boundedSyndromesRow.domain false)
      (Rows.boundedSyndromesSpec.post enc Try.prog Try.f12 false true false false) := by
  refine returnsInHanded_of_change (C := Try.checked) own_knob started (by kernel_rfl) Try.func12
    (ChangeSpec.witness6 (enc := enc) (C := Try.checked) false ⟨#[], #[.agg #[.int .i64 0, .int .i64 0, .slice none 0 0, .int .i64 0, .slice none 0 0, .slice none 0 0], .slice none 0 0], []⟩ 8 (by kernel_rfl) (by kernel_rfl) (by kernel_rfl) (by kernel_rfl)) ?_
  intro W base args ds gs before hval0 hW hcnd _
  have hval : ∀ (j : Nat) t v, Try.f12.params[j]? = some t → args[j]? = some v → Value.okWide Try.prog W .any base t v := hval0
  have hlt := hW.lt
  have hW' := hW
  obtain ⟨p, q, hA0, hV, rfl, hfz, hnd⟩ := hW
  have hA : DataW.TrodAll enc Try.prog W 0 (fun _ => true) true Try.f12.params.toList args.toList ds p := hA0
  rw [Try.params12] at hA hval
  obtain ⟨v0, v1, e0, e1, p0, p1, rfl, rfl, rfl, h0, h1⟩ := trodAll_two hA
  obtain ⟨P0, M0, K0, A0, B0, C0, ml0, pts0, mul0, c0, b0, d0, rfl, hP0, hM0, hK0, hl0, hb0, hd0, hi0, hj0, hr0, hs0, ht0⟩ := arg_grs (hval 0 _ v0 rfl rfl) h0 (fun x hx => hlt x (by simp [hx]))
  obtain ⟨A1, l1, c1, rfl, hc1, hl1, hi1, hr1⟩ := arg_ints (hval 1 _ v1 rfl rfl) h1 (fun x hx => hlt x (by simp [hx]))
  refine (syndL P0 M0 K0 ml0 pts0 mul0 A0 B0 C0 c0 b0 d0 l1 A1 c1 W hP0 hM0 hK0 hl0 hb0 hd0 hi0 hj0 hr0 hs0 ht0 hc1 hl1 hr1).mono fun e W' ⟨he, hw⟩ => ?_
  subst he
  exact ⟨_, rfl, law_post laid_out hW' rfl (by kernel_rfl) (by kernel_rfl) ty_bool rfl hw⟩

theorem BoundedSyndromes_joined : joinedFacts Try.prog 12 Try.f12 Rows.boundedSyndromesSpec Rows.boundedSyndromesRow = true := by
  unfold joinedFacts
  rw [once_enter, show (Rows.boundedSyndromesRow.lifted == Try.prog.liftsFinal) = true from once_lift, show (Try.prog.make == some Rows.boundedSyndromesRow.make) = true from once_make]
  kernel_rfl

theorem BoundedSyndromes_holds : Rows.BoundedSyndromesSaid :=
  OpenClaim.holds_of_wide 12 Try.f12 rfl rfl rfl rfl rfl rfl rfl ⟨rfl, rfl, rfl, rfl, rfl⟩ rfl rfl rfl rfl rfl (by kernel_rfl) Try.func12 BoundedSyndromes_joined
    (of_decide_eq_true (by kernel_rfl)) (by unfold Func.isWrapper; first | (rw [if_pos (by decide +kernel)]; kernel_rfl) | (rw [if_neg (by decide +kernel)]; exact ⟨rfl, rfl⟩))
    (fun os started H enc _ => BoundedSyndromes_lifted os started H enc)
#print axioms BoundedSyndromes_holds
end Go.Proofs.Ytpflgmbcmfllgaa
