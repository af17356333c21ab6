/- CombineDuals answers true for every input, and leaves its arguments as they were. No condition. -/
import Derived.Test.YtkmhopefnfaecaaZgT09
import Derived.Test.YtkmhopefnfaecaaZgArgC
import Derived.Test.YtkmhopefnfaecaaZgArg5
namespace Go.Proofs.Ytkmhopefnfaecaa
open Go.ChangeShapes Go.WideShapes Go.ChangeAt Go.RowKit Go.Joins Cw

set_option maxRecDepth 100000 in
theorem CombineDuals_lifted (os : Os) (started : os.Started) (H : Type) (enc : TypeId × Value → H) :
    ReturnsInHanded {} Try.checked os 3 .any (Rows.combineDualsSpec.pre6 enc Try.prog Try.f3 Rows.combineDualsRow.domain false)
      (Rows.combineDualsSpec.post enc Try.prog Try.f3 false true false false) := by
  refine returnsInHanded_of_change (C := Try.checked) own_knob started (by kernel_rfl) Try.func3
    (ChangeSpec.witness6 (enc := enc) (C := Try.checked) false ⟨#[], #[.agg #[.int .i64 0, .int .i64 0, .slice none 0 0, .int .i64 0, .slice none 0 0], .agg #[.int .i64 0, .int .i64 0, .slice none 0 0, .int .i64 0, .slice none 0 0], .int .i64 0, .slice none 0 0, .slice none 0 0], []⟩ 8 (by kernel_rfl) (by kernel_rfl) (by kernel_rfl) (by kernel_rfl)) ?_
  intro W base args ds gs before hval0 hW hcnd _
  have hval : ∀ (j : Nat) t v, Try.f3.params[j]? = some t → args[j]? = some v → Value.okWide Try.prog W .any base t v := hval0
  have hlt := hW.lt
  have hW' := hW
  obtain ⟨p, q, hA0, hV, rfl, hfz, hnd⟩ := hW
  have hA : DataW.TrodAll enc Try.prog W 0 (fun _ => true) true Try.f3.params.toList args.toList ds p := hA0
  rw [Try.params3] at hA hval
  obtain ⟨v0, v1, v2, v3, v4, e0, e1, e2, e3, e4, p0, p1, p2, p3, p4, rfl, rfl, rfl, h0, h1, h2, h3, h4⟩ := trodAll_five hA
  obtain ⟨P0, M0, N0, A0, R0, ml0, n0, c0, k0, rows0, rfl, hP0, hM0, hN0, hl0, hk0, hi0, hr0, hm0⟩ := arg_code (hval 0 _ v0 rfl rfl) h0 (fun x hx => hlt x (by simp [hx]))
  obtain ⟨P1, M1, N1, A1, R1, ml1, n1, c1, k1, rows1, rfl, hP1, hM1, hN1, hl1, hk1, hi1, hr1, hm1⟩ := arg_code (hval 1 _ v1 rfl rfl) h1 (fun x hx => hlt x (by simp [hx]))
  obtain ⟨x2, rfl, hx2⟩ := arg_int (hval 2 _ v2 rfl rfl) h2
  obtain ⟨A3, l3, c3, rfl, hc3, hl3, hi3, hr3⟩ := arg_ints (hval 3 _ v3 rfl rfl) h3 (fun x hx => hlt x (by simp [hx]))
  obtain ⟨A4, l4, c4, rfl, hc4, hl4, hi4, hr4⟩ := arg_ints (hval 4 _ v4 rfl rfl) h4 (fun x hx => hlt x (by simp [hx]))
  refine (dualsL14 P0 M0 N0 ml0 n0 rows0 A0 R0 c0 k0 P1 M1 N1 ml1 n1 rows1 A1 R1 c1 k1 x2 l3 A3 c3 l4 A4 c4 W hP0 hM0 hN0 hl0 (Nat.le_trans hk0.1 hk0.2) hr0 hm0 hP1 hM1 hN1 hl1 (Nat.le_trans hk1.1 hk1.2) hr1 hm1 hx2 hc3 hl3 hr3 hc4 hl4 hr4).mono fun e W' ⟨he, hw⟩ => ?_
  subst he
  exact ⟨_, rfl, law_post laid_out hW' rfl (by kernel_rfl) (by kernel_rfl) ty_bool rfl hw⟩

theorem CombineDuals_joined : joinedFacts Try.prog 3 Try.f3 Rows.combineDualsSpec Rows.combineDualsRow = true := by
  unfold joinedFacts
  rw [once_enter, show (Rows.combineDualsRow.lifted == Try.prog.liftsFinal) = true from once_lift, show (Try.prog.make == some Rows.combineDualsRow.make) = true from once_make]
  kernel_rfl

theorem CombineDuals_holds : Rows.CombineDualsSaid :=
  OpenClaim.holds_of_wide 3 Try.f3 rfl rfl rfl rfl rfl rfl rfl ⟨rfl, rfl, rfl, rfl, rfl⟩ rfl rfl rfl rfl rfl (by kernel_rfl) Try.func3 CombineDuals_joined
    (of_decide_eq_true (by kernel_rfl)) (by unfold Func.isWrapper; first | (rw [if_pos (by decide +kernel)]; kernel_rfl) | (rw [if_neg (by decide +kernel)]; exact ⟨rfl, rfl⟩))
    (fun os started H enc _ => CombineDuals_lifted os started H enc)
#print axioms CombineDuals_holds
end Go.Proofs.Ytkmhopefnfaecaa
