/- TowerMinimal answers true for every input, and leaves its arguments as they were. No condition. -/
import Derived.Test.YteamndefbpdcjaaL14
import Derived.Test.YteamndefbpdcjaaArgS
import Derived.Test.YteamndefbpdcjaaOnce
namespace Go.Proofs.Yteamndefbpdcjaa
open Go.ChangeShapes Go.WideShapes Go.ChangeAt Go.RowKit Go.Joins Cw

theorem mnL (P0 M0 : Int) (ml0 : List Int) (A0 : Option Addr) (c0 : Nat) (x1 y1 : Int) (l2 : List Int) (A2 : Option Addr) (c2 : Nat) (w : World) (hP0 : I64 P0) (hM0 : I64 M0) (hl0 : ml0.length ≤ maxLen) (hr0 : Rd w w.heap.size A0 ml0) (_hx1 : I64 x1) (_hy1 : I64 y1) (hc2 : l2.length ≤ c2) (hl2 : c2 ≤ maxLen) (_hi2 : ∀ x ∈ l2, I64 x) (hr2 : Rd w w.heap.size A2 l2) :
    Calls Try.prog 13 #[.agg #[.int .i64 P0, .int .i64 M0, .slice A0 ml0.length c0], .agg #[.int .i64 x1, .int .i64 y1], .slice A2 l2.length c2] w (LawEnd w) := by
  by_cases hb : Good P0 M0 ml0
  · have hb' := hb
    obtain ⟨D, rfl, rfl, rfl, -⟩ := hb
    rw [modL_length]
    exact mnL_good D A0 c0 x1 y1 l2 A2 c2 w hc2 hl2 hr2 hr0 hb'
  · exact mnL_bad P0 M0 ml0 A0 c0 x1 y1 l2 A2 c2 w hP0 hM0 hl0 hr0 hb

set_option maxRecDepth 100000 in
theorem TowerMinimal_lifted (os : Os) (started : os.Started) (H : Type) (enc : TypeId × Value → H) :
    ReturnsInHanded {} Try.checked os 13 .any (Rows.towerMinimalSpec.pre6 enc Try.prog Try.f13 Rows.towerMinimalRow.domain false)
      (Rows.towerMinimalSpec.post enc Try.prog Try.f13 false true false false) := by
  refine returnsInHanded_of_change (C := Try.checked) own_knob started (by kernel_rfl) Try.func13
    (ChangeSpec.witness6 (enc := enc) (C := Try.checked) false ⟨#[], #[.agg #[.int .i64 0, .int .i64 0, .slice none 0 0], .agg #[.int .i64 0, .int .i64 0], .slice none 0 0], []⟩ 8 (by kernel_rfl) (by kernel_rfl) (by kernel_rfl) (by kernel_rfl)) ?_
  intro W base args ds gs before hval0 hW hcnd _
  have hval : ∀ (j : Nat) t v, Try.f13.params[j]? = some t → args[j]? = some v → Value.okWide Try.prog W .any base t v := hval0
  have hlt := hW.lt
  have hW' := hW
  obtain ⟨p, q, hA0, hV, rfl, hfz, hnd⟩ := hW
  have hA : DataW.TrodAll enc Try.prog W 0 (fun _ => true) true Try.f13.params.toList args.toList ds p := hA0
  rw [Try.params13] at hA hval
  obtain ⟨v0, v1, v2, e0, e1, e2, p0, p1, p2, rfl, rfl, rfl, h0, h1, h2⟩ := trodAll_three hA
  obtain ⟨P0, M0, A0, ml0, c0, rfl, hP0, hM0, hl0, -, hr0⟩ := arg_field (hval 0 _ v0 rfl rfl) h0 (fun x hx => hlt x (by simp [hx]))
  obtain ⟨x1, y1, rfl, hx1, hy1⟩ := arg_pair (hval 1 _ v1 rfl rfl) h1
  obtain ⟨A2, l2, c2, rfl, hc2, hl2, hi2, hr2⟩ := arg_ints (hval 2 _ v2 rfl rfl) h2 (fun x hx => hlt x (by simp [hx]))
  refine (mnL P0 M0 ml0 A0 c0 x1 y1 l2 A2 c2 W hP0 hM0 hl0 hr0 hx1 hy1 hc2 hl2 hi2 hr2).mono fun e W' ⟨he, hw⟩ => ?_
  subst he
  exact ⟨_, rfl, law_post laid_out hW' rfl (by kernel_rfl) (by kernel_rfl) ty_bool rfl hw⟩

theorem TowerMinimal_joined : joinedFacts Try.prog 13 Try.f13 Rows.towerMinimalSpec Rows.towerMinimalRow = true := by
  unfold joinedFacts
  rw [once_enter, show (Rows.towerMinimalRow.lifted == Try.prog.liftsFinal) = true from once_lift, show (Try.prog.make == some Rows.towerMinimalRow.make) = true from once_make]
  kernel_rfl

theorem TowerMinimal_holds : Rows.TowerMinimalSaid :=
  OpenClaim.holds_of_wide 13 Try.f13 rfl rfl rfl rfl rfl rfl rfl ⟨rfl, rfl, rfl, rfl, rfl⟩ rfl rfl rfl rfl rfl (by kernel_rfl) Try.func13 TowerMinimal_joined
    (of_decide_eq_true (by kernel_rfl)) (by unfold Func.isWrapper; first | (rw [if_pos (by decide +kernel)]; kernel_rfl) | (rw [if_neg (by decide +kernel)]; exact ⟨rfl, rfl⟩))
    (fun os started H enc _ => TowerMinimal_lifted os started H enc)
#print axioms TowerMinimal_holds
end Go.Proofs.Yteamndefbpdcjaa
