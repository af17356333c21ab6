/- GrsStandard answers true for every input, and leaves its arguments as they were. No condition. -/
import Derived.Test.YtnbkmkeiophjoaaK04
import Derived.Test.YtnbkmkeiophjoaaOnce
namespace Go.Proofs.Ytnbkmkeiophjoaa
open Go.ChangeShapes Go.WideShapes Go.ChangeAt Go.RowKit Go.Joins Cw

theorem standardL (P0 M0 : Int) (ml0 : List Int) (A0 : Option Addr) (c0 : Nat) (x1 : Int) (x2 : Int) (w : World) (hP0 : I64 P0) (hM0 : I64 M0) (hl0 : ml0.length ≤ maxLen) (hr0 : Rd w w.heap.size A0 ml0) (hx1 : I64 x1) (hx2 : I64 x2) :
    Calls Try.prog 3 #[.agg #[.int .i64 P0, .int .i64 M0, .slice A0 ml0.length c0], .int .i64 x1, .int .i64 x2] w (LawEnd w) := by
  by_cases hb : Good P0 M0 ml0
  · have hb' := hb
    obtain ⟨D, rfl, rfl, rfl, -⟩ := hb
    rw [modL_length]
    exact standardL_good D A0 c0 x1 x2 w hx1 hx2 hr0 hb'
  · exact standardL_bad P0 M0 ml0 A0 c0 x1 x2 w hP0 hM0 hl0 hr0 hb

set_option maxRecDepth 100000 in
theorem GrsStandard_lifted (os : Os) (started : os.Started) (H : Type) (enc : TypeId × Value → H) :
    ReturnsInHanded {} Try.checked os 3 .any (Rows.grsStandardSpec.pre6 enc Try.prog Try.f3 Rows.grsStandardRow.domain false)
      (Rows.grsStandardSpec.post enc Try.prog Try.f3 false true false false) := by
  refine returnsInHanded_of_change (C := Try.checked) own_knob started (by kernel_rfl) Try.func3
    (ChangeSpec.witness6 (enc := enc) (C := Try.checked) false ⟨#[], #[.agg #[.int .i64 0, .int .i64 0, .slice none 0 0], .int .i64 0, .int .i64 0], []⟩ 8 (by kernel_rfl) (by kernel_rfl) (by kernel_rfl) (by kernel_rfl)) ?_
  intro W base args ds gs before hval0 hW hcnd _
  have hval : ∀ (j : Nat) t v, Try.f3.params[j]? = some t → args[j]? = some v → Value.okWide Try.prog W .any base t v := hval0
  have hlt := hW.lt
  have hW' := hW
  obtain ⟨p, q, hA0, hV, rfl, hfz, hnd⟩ := hW
  have hA : DataW.TrodAll enc Try.prog W 0 (fun _ => true) true Try.f3.params.toList args.toList ds p := hA0
  rw [Try.params3] at hA hval
  obtain ⟨v0, v1, v2, e0, e1, e2, p0, p1, p2, rfl, rfl, rfl, h0, h1, h2⟩ := trodAll_three hA
  obtain ⟨P0, M0, A0, ml0, c0, rfl, hP0, hM0, hl0, -, hr0⟩ := arg_field (hval 0 _ v0 rfl rfl) h0 (fun x hx => hlt x (by simp [hx]))
  obtain ⟨x1, rfl, hx1⟩ := arg_int (hval 1 _ v1 rfl rfl) h1
  obtain ⟨x2, rfl, hx2⟩ := arg_int (hval 2 _ v2 rfl rfl) h2
  refine (standardL P0 M0 ml0 A0 c0 x1 x2 W hP0 hM0 hl0 hr0 hx1 hx2).mono fun e W' ⟨he, hw⟩ => ?_
  subst he
  exact ⟨_, rfl, law_post laid_out hW' rfl (by kernel_rfl) (by kernel_rfl) ty_bool rfl hw⟩

theorem GrsStandard_joined : joinedFacts Try.prog 3 Try.f3 Rows.grsStandardSpec Rows.grsStandardRow = true := by
  unfold joinedFacts
  rw [once_enter, show (Rows.grsStandardRow.lifted == Try.prog.liftsFinal) = true from once_lift, show (Try.prog.make == some Rows.grsStandardRow.make) = true from once_make]
  kernel_rfl

theorem GrsStandard_holds : Rows.GrsStandardSaid :=
  OpenClaim.holds_of_wide 3 Try.f3 rfl rfl rfl rfl rfl rfl rfl ⟨rfl, rfl, rfl, rfl, rfl⟩ rfl rfl rfl rfl rfl (by kernel_rfl) Try.func3 GrsStandard_joined
    (of_decide_eq_true (by kernel_rfl)) (by unfold Func.isWrapper; first | (rw [if_pos (by decide +kernel)]; kernel_rfl) | (rw [if_neg (by decide +kernel)]; exact ⟨rfl, rfl⟩))
    (fun os started H enc _ => GrsStandard_lifted os started H enc)
#print axioms GrsStandard_holds
end Go.Proofs.Ytnbkmkeiophjoaa
