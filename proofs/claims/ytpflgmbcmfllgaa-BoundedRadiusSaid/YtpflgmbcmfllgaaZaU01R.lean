/- BoundedRadius answers true for every input, and leaves its arguments as they were. No condition. -/
import Derived.Test.YtpflgmbcmfllgaaZaP2
import Derived.Test.YtpflgmbcmfllgaaZaB39A
namespace Go.Proofs.Ytpflgmbcmfllgaa
open Go.RowKit Cw
attribute [local go_sem] Oper.semAt_some

theorem radiusL (d f : Int) (w : World) (hd : I64 d) (hf : I64 f) : Calls Try.prog 5 #[.int .i64 d, .int .i64 f] w (LawEnd w) := by
  have hA := Lib.hid (alive39_any w)
  have hR := fun W => Lib.hid (gRadius_any d f W hd hf)
  have hS := fun W => Lib.hid (Radius39_any d f W hd hf)
  generalize radI d f = r at *
  clear hd hf
  unfold LawEnd
  go_enter Try.func5, Try.ntmps5
  go_wp2_with (fail)
  (with_reducible refine hA.out.mono ?_)
  rintro e w1 ⟨rfl, hb1⟩
  go_wp2_with (fail)
  (with_reducible refine (hR _).out.mono ?_)
  rintro e w2 ⟨rfl, rfl⟩
  go_wp2_with (fail)
  (with_reducible refine (hS _).out.mono ?_)
  rintro e w3 ⟨rfl, rfl⟩
  go_wp2_with (fail)
  go_ret
  exact ⟨by simp, hb1⟩
end Go.Proofs.Ytpflgmbcmfllgaa

namespace Go.Proofs.Ytpflgmbcmfllgaa
open Go.ChangeShapes Go.WideShapes Go.ChangeAt Go.RowKit Go.Joins
def aRow : OpenClaim := { program := "", sum := "", func := "", spec := "", unfollowed := true, recurses := true, apart := false }
theorem once_all : (Try.prog.mayEnter && (aRow.lifted == Try.prog.liftsFinal) && (Try.prog.make == some aRow.make)) = true := by kernel_rfl
theorem once_enter : Try.prog.mayEnter = true := by
  have h := once_all
  simp only [Bool.and_eq_true] at h
  exact h.1.1
theorem once_lift : (aRow.lifted == Try.prog.liftsFinal) = true := by
  have h := once_all
  simp only [Bool.and_eq_true] at h
  exact h.1.2
theorem once_make : (Try.prog.make == some aRow.make) = true := by
  have h := once_all
  simp only [Bool.and_eq_true] at h
  exact h.2
end Go.Proofs.Ytpflgmbcmfllgaa

namespace Go.Proofs.Ytpflgmbcmfllgaa
open Go.ChangeShapes Go.WideShapes Go.ChangeAt Go.RowKit Go.Joins Cw

set_option maxRecDepth 100000 in
theorem BoundedRadius_lifted (os : Os) (started : os.Started) (H : Type) (enc : TypeId × Value → H) :
    ReturnsInHanded {} Try.checked os 5 .any (Rows.boundedRadiusSpec.pre6 enc Try.prog Try.f5 Rows.boundedRadiusRow.domain false)
      (Rows.boundedRadiusSpec.post enc Try.prog Try.f5 false true false false) := by
  refine returnsInHanded_of_change (C := Try.checked) own_knob started (by kernel_rfl) Try.func5
    (ChangeSpec.witness6 (enc := enc) (C := Try.checked) false ⟨#[], #[.int .i64 0, .int .i64 0], []⟩ 8 (by kernel_rfl) (by kernel_rfl) (by kernel_rfl) (by kernel_rfl)) ?_
  intro W base args ds gs before hval0 hW hcnd _
  have hval : ∀ (j : Nat) t v, Try.f5.params[j]? = some t → args[j]? = some v → Value.okWide Try.prog W .any base t v := hval0
  have hlt := hW.lt
  have hW' := hW
  obtain ⟨p, q, hA0, hV, rfl, hfz, hnd⟩ := hW
  have hA : DataW.TrodAll enc Try.prog W 0 (fun _ => true) true Try.f5.params.toList args.toList ds p := hA0
  rw [Try.params5] at hA hval
  obtain ⟨v0, v1, e0, e1, p0, p1, rfl, rfl, rfl, h0, h1⟩ := trodAll_two hA
  obtain ⟨x0, rfl, hx0⟩ := arg_int (hval 0 _ v0 rfl rfl) h0
  obtain ⟨x1, rfl, hx1⟩ := arg_int (hval 1 _ v1 rfl rfl) h1
  refine (radiusL x0 x1 W hx0 hx1).mono fun e W' ⟨he, hw⟩ => ?_
  subst he
  exact ⟨_, rfl, law_post laid_out hW' rfl (by kernel_rfl) (by kernel_rfl) ty_bool rfl hw⟩

theorem BoundedRadius_joined : joinedFacts Try.prog 5 Try.f5 Rows.boundedRadiusSpec Rows.boundedRadiusRow = true := by
  unfold joinedFacts
  rw [once_enter, show (Rows.boundedRadiusRow.lifted == Try.prog.liftsFinal) = true from once_lift, show (Try.prog.make == some Rows.boundedRadiusRow.make) = true from once_make]
  kernel_rfl

theorem BoundedRadius_holds : Rows.BoundedRadiusSaid :=
  OpenClaim.holds_of_wide 5 Try.f5 rfl rfl rfl rfl rfl rfl rfl ⟨rfl, rfl, rfl, rfl, rfl⟩ rfl rfl rfl rfl rfl (by kernel_rfl) Try.func5 BoundedRadius_joined
    (of_decide_eq_true (by kernel_rfl)) (by unfold Func.isWrapper; first | (rw [if_pos (by decide +kernel)]; kernel_rfl) | (rw [if_neg (by decide +kernel)]; exact ⟨rfl, rfl⟩))
    (fun os started H enc _ => BoundedRadius_lifted os started H enc)
#print axioms BoundedRadius_holds
end Go.Proofs.Ytpflgmbcmfllgaa
