/- BoundedErased answers true for every input, and leaves its arguments as they were. No condition. -/
import Derived.Test.YtpflgmbcmfllgaaZcRecRow
import Derived.Test.YtpflgmbcmfllgaaZcOnce
import Derived.Test.YtpflgmbcmfllgaaZcU05
namespace Go.Proofs.Ytpflgmbcmfllgaa
open Go.ChangeShapes Go.WideShapes Go.ChangeAt Go.RowKit Go.Joins Cw

set_option maxRecDepth 100000 in
theorem BoundedErased_lifted (os : Os) (started : os.Started) (H : Type) (enc : TypeId × Value → H) :
    ReturnsInHanded {} Try.checked os 9 .any (Rows.boundedErasedSpec.pre6 enc Try.prog Try.f9 Rows.boundedErasedRow.domain false)
      (Rows.boundedErasedSpec.post enc Try.prog Try.f9 false true false false) := by
  refine returnsInHanded_of_change (C := Try.checked) own_knob started (by kernel_rfl) Try.func9
    (ChangeSpec.witness6 (enc := enc) (C := Try.checked) false ⟨#[], #[.agg #[.int .i64 0, .int .i64 0, .slice none 0 0, .int .i64 0, .slice none 0 0, .slice none 0 0], .agg #[.slice none 0 0, .slice none 0 0], .slice none 0 0], []⟩ 8 (by kernel_rfl) (by kernel_rfl) (by kernel_rfl) (by kernel_rfl)) ?_
  intro W base args ds gs before hval0 hW hcnd _
  have hval : ∀ (j : Nat) t v, Try.f9.params[j]? = some t → args[j]? = some v → Value.okWide Try.prog W .any base t v := hval0
  have hlt := hW.lt
  have hW' := hW
  obtain ⟨p, q, hA0, hV, rfl, hfz, hnd⟩ := hW
  have hA : DataW.TrodAll enc Try.prog W 0 (fun _ => true) true Try.f9.params.toList args.toList ds p := hA0
  rw [Try.params9] at hA hval
  obtain ⟨v0, v1, v2, e0, e1, e2, p0, p1, p2, rfl, rfl, rfl, h0, h1, h2⟩ := trodAll_three hA
  obtain ⟨P0, M0, K0, A0, B0, C0, ml0, pts0, mul0, c0, b0, d0, rfl, hP0, hM0, hK0, hl0, hb0, hd0, hi0, hj0, hr0, hs0, ht0⟩ := arg_grs (hval 0 _ v0 rfl rfl) h0 (fun x hx => hlt x (by simp [hx]))
  obtain ⟨l1, k1, A1, B1, c1, d1, rfl, hl1, hk1, hr1, hs1⟩ := arg_recv (hval 1 _ v1 rfl rfl) h1 (fun x hx => hlt x (by simp [hx]))
  obtain ⟨A2, l2, c2, rfl, hc2, hl2, hi2, hr2⟩ := arg_ints (hval 2 _ v2 rfl rfl) h2 (fun x hx => hlt x (by simp [hx]))
  refine (erasedL P0 M0 K0 ml0 pts0 mul0 A0 B0 C0 c0 b0 d0 l1 k1 A1 B1 c1 d1 l2 A2 c2 W hP0 hM0 hK0 hl0 hb0 hd0 hi0 hj0 hr0 hs0 ht0 hl1 hk1 hr1 hs1 hc2 hl2 hr2).mono fun e W' ⟨he, hw⟩ => ?_
  subst he
  exact ⟨_, rfl, law_post laid_out hW' rfl (by kernel_rfl) (by kernel_rfl) ty_bool rfl hw⟩

theorem BoundedErased_joined : joinedFacts Try.prog 9 Try.f9 Rows.boundedErasedSpec Rows.boundedErasedRow = true := by
  unfold joinedFacts
  rw [once_enter, show (Rows.boundedErasedRow.lifted == Try.prog.liftsFinal) = true from once_lift, show (Try.prog.make == some Rows.boundedErasedRow.make) = true from once_make]
  kernel_rfl

theorem BoundedErased_holds : Rows.BoundedErasedSaid :=
  OpenClaim.holds_of_wide 9 Try.f9 rfl rfl rfl rfl rfl rfl rfl ⟨rfl, rfl, rfl, rfl, rfl⟩ rfl rfl rfl rfl rfl (by kernel_rfl) Try.func9 BoundedErased_joined
    (of_decide_eq_true (by kernel_rfl)) (by unfold Func.isWrapper; first | (rw [if_pos (by decide +kernel)]; kernel_rfl) | (rw [if_neg (by decide +kernel)]; exact ⟨rfl, rfl⟩))
    (fun os started H enc _ => BoundedErased_lifted os started H enc)
#print axioms BoundedErased_holds
end Go.Proofs.Ytpflgmbcmfllgaa
