/- AlternantGoppaChecks answers true for every input, and leaves its arguments as they were. No condition. -/
import Derived.Test.YtakonlfojblcmaaZaV01
import Derived.Test.YtakonlfojblcmaaZaGopRow
import Derived.Test.YtakonlfojblcmaaZaOnce
namespace Go.Proofs.Ytakonlfojblcmaa
open Go.ChangeShapes Go.WideShapes Go.ChangeAt Go.RowKit Go.Joins Cw

set_option maxRecDepth 100000 in
theorem AlternantGoppaChecks_lifted (os : Os) (started : os.Started) (H : Type) (enc : TypeId × Value → H) :
    ReturnsInHanded {} Try.checked os 5 .any (Rows.alternantGoppaChecksSpec.pre6 enc Try.prog Try.f5 Rows.alternantGoppaChecksRow.domain false)
      (Rows.alternantGoppaChecksSpec.post enc Try.prog Try.f5 false true false false) := by
  refine returnsInHanded_of_change (C := Try.checked) own_knob started (by kernel_rfl) Try.func5
    (ChangeSpec.witness6 (enc := enc) (C := Try.checked) false ⟨#[], #[.agg #[.int .i64 0, .int .i64 0, .slice none 0 0, .int .i64 0, .int .i64 0, .slice none 0 0, .slice none 0 0, .slice none 0 0]], []⟩ 8 (by kernel_rfl) (by kernel_rfl) (by kernel_rfl) (by kernel_rfl)) ?_
  intro W base args ds gs before hval0 hW hcnd _
  have hval : ∀ (j : Nat) t v, Try.f5.params[j]? = some t → args[j]? = some v → Value.okWide Try.prog W .any base t v := hval0
  have hlt := hW.lt
  have hW' := hW
  obtain ⟨p, q, hA0, hV, rfl, hfz, hnd⟩ := hW
  have hA : DataW.TrodAll enc Try.prog W 0 (fun _ => true) true Try.f5.params.toList args.toList ds p := hA0
  rw [Try.params5] at hA hval
  obtain ⟨v0, e0, rfl, rfl, h0⟩ := trodAll_one hA
  obtain ⟨P0, M0, Q0, N0, A0, B0, C0, D0, ml0, nl0, poly0, pts0, c0, b0, k0, o0, rfl, hP0, hM0, hQ0, hN0, hl0, hn0, hk0, he0, hi0, hj0, hr0, hs0, ht0, hu0⟩ := arg_gop (hval 0 _ v0 rfl rfl) h0 (fun x hx => hlt x (by simp [hx]))
  refine (goppaChecksL P0 M0 Q0 N0 ml0 nl0 poly0 pts0 A0 B0 C0 D0 c0 b0 k0 o0 W hP0 hM0 hQ0 hN0 hl0 hn0 hk0 he0 hi0 hj0 hr0 hs0 ht0 hu0).mono fun e W' ⟨he, hw⟩ => ?_
  subst he
  exact ⟨_, rfl, law_post laid_out hW' rfl (by kernel_rfl) (by kernel_rfl) ty_bool rfl hw⟩

theorem AlternantGoppaChecks_joined : joinedFacts Try.prog 5 Try.f5 Rows.alternantGoppaChecksSpec Rows.alternantGoppaChecksRow = true := by
  unfold joinedFacts
  rw [once_enter, show (Rows.alternantGoppaChecksRow.lifted == Try.prog.liftsFinal) = true from once_lift, show (Try.prog.make == some Rows.alternantGoppaChecksRow.make) = true from once_make]
  kernel_rfl

theorem AlternantGoppaChecks_holds : Rows.AlternantGoppaChecksSaid :=
  OpenClaim.holds_of_wide 5 Try.f5 rfl rfl rfl rfl rfl rfl rfl ⟨rfl, rfl, rfl, rfl, rfl⟩ rfl rfl rfl rfl rfl (by kernel_rfl) Try.func5 AlternantGoppaChecks_joined
    (of_decide_eq_true (by kernel_rfl)) (by unfold Func.isWrapper; first | (rw [if_pos (by decide +kernel)]; kernel_rfl) | (rw [if_neg (by decide +kernel)]; exact ⟨rfl, rfl⟩))
    (fun os started H enc _ => AlternantGoppaChecks_lifted os started H enc)
#print axioms AlternantGoppaChecks_holds
end Go.Proofs.Ytakonlfojblcmaa
