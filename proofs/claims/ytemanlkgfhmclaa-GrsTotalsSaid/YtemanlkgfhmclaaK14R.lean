/- GrsTotals answers true for every input, and leaves its arguments as they were. No condition. -/
import Derived.Test.YtemanlkgfhmclaaK14
import Derived.Test.YtemanlkgfhmclaaGrsRow
import Derived.Test.YtemanlkgfhmclaaOnce
namespace Go.Proofs.Ytemanlkgfhmclaa
open Go.ChangeShapes Go.WideShapes Go.ChangeAt Go.RowKit Go.Joins Cw

theorem totalsL (P0 M0 K0 : Int) (ml0 pts0 mul0 : List Int) (A0 B0 C0 : Option Addr) (c0 b0 d0 : Nat) (w : World) (hP0 : I64 P0) (hM0 : I64 M0) (hK0 : I64 K0) (hl0 : ml0.length ≤ maxLen) (hb0 : pts0.length ≤ b0 ∧ b0 ≤ maxLen) (hd0 : mul0.length ≤ d0 ∧ d0 ≤ maxLen) (hi0 : ∀ x ∈ pts0, I64 x) (hj0 : ∀ x ∈ mul0, I64 x) (hr0 : Rd w w.heap.size A0 ml0) (hs0 : Rd w w.heap.size B0 pts0) (ht0 : Rd w w.heap.size C0 mul0) :
    Calls Try.prog 4 #[.agg #[.int .i64 P0, .int .i64 M0, .slice A0 ml0.length c0, .int .i64 K0, .slice B0 pts0.length b0, .slice C0 mul0.length d0]] w (LawEnd w) := by
  by_cases hb : Good P0 M0 ml0
  · have hb' := hb
    obtain ⟨D, rfl, rfl, rfl, -⟩ := hb
    rw [modL_length]
    exact totalsL_good D K0 pts0 mul0 A0 B0 C0 c0 b0 d0  w hr0 hb' hK0 hb0 hd0 hi0 hj0 hs0 ht0
  · exact totalsL_bad P0 M0 K0 ml0 pts0 mul0 A0 B0 C0 c0 b0 d0  w hP0 hM0 hl0 hr0 hb hK0 hb0 hd0 hi0 hj0 hs0 ht0

set_option maxRecDepth 100000 in
theorem GrsTotals_lifted (os : Os) (started : os.Started) (H : Type) (enc : TypeId × Value → H) :
    ReturnsInHanded {} Try.checked os 4 .any (Rows.grsTotalsSpec.pre6 enc Try.prog Try.f4 Rows.grsTotalsRow.domain false)
      (Rows.grsTotalsSpec.post enc Try.prog Try.f4 false true false false) := by
  refine returnsInHanded_of_change (C := Try.checked) own_knob started (by kernel_rfl) Try.func4
    (ChangeSpec.witness6 (enc := enc) (C := Try.checked) false ⟨#[], #[.agg #[.int .i64 0, .int .i64 0, .slice none 0 0, .int .i64 0, .slice none 0 0, .slice none 0 0]], []⟩ 8 (by kernel_rfl) (by kernel_rfl) (by kernel_rfl) (by kernel_rfl)) ?_
  intro W base args ds gs before hval0 hW hcnd _
  have hval : ∀ (j : Nat) t v, Try.f4.params[j]? = some t → args[j]? = some v → Value.okWide Try.prog W .any base t v := hval0
  have hlt := hW.lt
  have hW' := hW
  obtain ⟨p, q, hA0, hV, rfl, hfz, hnd⟩ := hW
  have hA : DataW.TrodAll enc Try.prog W 0 (fun _ => true) true Try.f4.params.toList args.toList ds p := hA0
  rw [Try.params4] at hA hval
  obtain ⟨v0, e0, rfl, rfl, h0⟩ := trodAll_one hA
  obtain ⟨P0, M0, K0, A0, B0, C0, ml0, pts0, mul0, c0, b0, d0, rfl, hP0, hM0, hK0, hl0, hb0, hd0, hi0, hj0, hr0, hs0, ht0⟩ := arg_grs (hval 0 _ v0 rfl rfl) h0 (fun x hx => hlt x (by simp [hx]))
  refine (totalsL P0 M0 K0 ml0 pts0 mul0 A0 B0 C0 c0 b0 d0 W hP0 hM0 hK0 hl0 hb0 hd0 hi0 hj0 hr0 hs0 ht0).mono fun e W' ⟨he, hw⟩ => ?_
  subst he
  exact ⟨_, rfl, law_post laid_out hW' rfl (by kernel_rfl) (by kernel_rfl) ty_bool rfl hw⟩

theorem GrsTotals_joined : joinedFacts Try.prog 4 Try.f4 Rows.grsTotalsSpec Rows.grsTotalsRow = true := by
  unfold joinedFacts
  rw [once_enter, show (Rows.grsTotalsRow.lifted == Try.prog.liftsFinal) = true from once_lift, show (Try.prog.make == some Rows.grsTotalsRow.make) = true from once_make]
  kernel_rfl

theorem GrsTotals_holds : Rows.GrsTotalsSaid :=
  OpenClaim.holds_of_wide 4 Try.f4 rfl rfl rfl rfl rfl rfl rfl ⟨rfl, rfl, rfl, rfl, rfl⟩ rfl rfl rfl rfl rfl (by kernel_rfl) Try.func4 GrsTotals_joined
    (of_decide_eq_true (by kernel_rfl)) (by unfold Func.isWrapper; first | (rw [if_pos (by decide +kernel)]; kernel_rfl) | (rw [if_neg (by decide +kernel)]; exact ⟨rfl, rfl⟩))
    (fun os started H enc _ => GrsTotals_lifted os started H enc)
#print axioms GrsTotals_holds
end Go.Proofs.Ytemanlkgfhmclaa
