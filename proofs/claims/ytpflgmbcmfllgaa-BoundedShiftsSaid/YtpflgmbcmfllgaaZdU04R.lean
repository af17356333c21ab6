/- BoundedShifts answers true for every input, and leaves its arguments as they were. No condition. -/
import Derived.Test.YtpflgmbcmfllgaaZdU04
import Derived.Test.YtpflgmbcmfllgaaZdRecRow
import Derived.Test.YtpflgmbcmfllgaaZdOnce
namespace Go.Proofs.Ytpflgmbcmfllgaa
open Go.ChangeShapes Go.WideShapes Go.ChangeAt Go.RowKit Go.Joins Cw

set_option maxRecDepth 100000 in
theorem BoundedShifts_lifted (os : Os) (started : os.Started) (H : Type) (enc : TypeId × Value → H) :
    ReturnsInHanded {} Try.checked os 8 .any (Rows.boundedShiftsSpec.pre6 enc Try.prog Try.f8 Rows.boundedShiftsRow.domain false)
      (Rows.boundedShiftsSpec.post enc Try.prog Try.f8 false true false false) := by
  refine returnsInHanded_of_change (C := Try.checked) own_knob started (by kernel_rfl) Try.func8
    (ChangeSpec.witness6 (enc := enc) (C := Try.checked) false ⟨#[], #[.agg #[.int .i64 0, .int .i64 0, .slice none 0 0, .int .i64 0, .slice none 0 0, .slice none 0 0], .slice none 0 0, .agg #[.slice none 0 0, .slice none 0 0]], []⟩ 8 (by kernel_rfl) (by kernel_rfl) (by kernel_rfl) (by kernel_rfl)) ?_
  intro W base args ds gs before hval0 hW hcnd _
  have hval : ∀ (j : Nat) t v, Try.f8.params[j]? = some t → args[j]? = some v → Value.okWide Try.prog W .any base t v := hval0
  have hlt := hW.lt
  have hW' := hW
  obtain ⟨p, q, hA0, hV, rfl, hfz, hnd⟩ := hW
  have hA : DataW.TrodAll enc Try.prog W 0 (fun _ => true) true Try.f8.params.toList args.toList ds p := hA0
  rw [Try.params8] at hA hval
  obtain ⟨v0, v1, v2, e0, e1, e2, p0, p1, p2, rfl, rfl, rfl, h0, h1, h2⟩ := trodAll_three hA
  obtain ⟨P0, M0, K0, A0, B0, C0, ml0, pts0, mul0, c0, b0, d0, rfl, hP0, hM0, hK0, hl0, hb0, hd0, hi0, hj0, hr0, hs0, ht0⟩ := arg_grs (hval 0 _ v0 rfl rfl) h0 (fun x hx => hlt x (by simp [hx]))
  obtain ⟨A1, l1, c1, rfl, hc1, hl1, hi1, hr1⟩ := arg_ints (hval 1 _ v1 rfl rfl) h1 (fun x hx => hlt x (by simp [hx]))
  obtain ⟨l2, k2, A2, B2, c2, d2, rfl, hl2, hk2, hr2, hs2⟩ := arg_recv (hval 2 _ v2 rfl rfl) h2 (fun x hx => hlt x (by simp [hx]))
  refine (shiftsL P0 M0 K0 ml0 pts0 mul0 A0 B0 C0 c0 b0 d0 l1 A1 c1 l2 k2 A2 B2 c2 d2 W hP0 hM0 hK0 hl0 hb0 hd0 hi0 hj0 hr0 hs0 ht0 hc1 hl1 hr1 hl2 hk2 hr2 hs2).mono fun e W' ⟨he, hw⟩ => ?_
  subst he
  exact ⟨_, rfl, law_post laid_out hW' rfl (by kernel_rfl) (by kernel_rfl) ty_bool rfl hw⟩

theorem BoundedShifts_joined : joinedFacts Try.prog 8 Try.f8 Rows.boundedShiftsSpec Rows.boundedShiftsRow = true := by
  unfold joinedFacts
  rw [once_enter, show (Rows.boundedShiftsRow.lifted == Try.prog.liftsFinal) = true from once_lift, show (Try.prog.make == some Rows.boundedShiftsRow.make) = true from once_make]
  kernel_rfl

theorem BoundedShifts_holds : Rows.BoundedShiftsSaid :=
  OpenClaim.holds_of_wide 8 Try.f8 rfl rfl rfl rfl rfl rfl rfl ⟨rfl, rfl, rfl, rfl, rfl⟩ rfl rfl rfl rfl rfl (by kernel_rfl) Try.func8 BoundedShifts_joined
    (of_decide_eq_true (by kernel_rfl)) (by unfold Func.isWrapper; first | (rw [if_pos (by decide +kernel)]; kernel_rfl) | (rw [if_neg (by decide +kernel)]; exact ⟨rfl, rfl⟩))
    (fun os started H enc _ => BoundedShifts_lifted os started H enc)
#print axioms BoundedShifts_holds
end Go.Proofs.Ytpflgmbcmfllgaa
