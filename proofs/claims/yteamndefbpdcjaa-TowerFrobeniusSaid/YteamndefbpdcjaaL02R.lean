/- TowerFrobenius answers true for every description, element and exponent, and leaves its arguments as they were. No condition. -/
import Derived.Test.YteamndefbpdcjaaL02
import Derived.Test.YteamndefbpdcjaaOnce
namespace Go.Proofs.Yteamndefbpdcjaa
open Go.ChangeShapes Go.WideShapes Go.ChangeAt Go.RowKit Go.Joins Cw

theorem frobL (P M : Int) (ml : List Int) (A : Option Addr) (c : Nat) (x k : Int) (w : World) (hP : I64 P) (hM : I64 M) (hk : I64 k) (hl : ml.length ≤ maxLen) (hr : Rd w w.heap.size A ml) :
    Calls Try.prog 3 #[.agg #[.int .i64 P, .int .i64 M, .slice A ml.length c], .int .i64 x, .int .i64 k] w (LawEnd w) := by
  by_cases hb : Good P M ml
  · have hb' := hb
    obtain ⟨D, rfl, rfl, rfl, -⟩ := hb
    rw [modL_length]
    exact frobL_good D A c x k w hk hr hb'
  · exact frobL_bad P M ml A c x k w hP hM hl hr hb

set_option maxRecDepth 100000 in
theorem frobL_lifted (os : Os) (started : os.Started) (H : Type) (enc : TypeId × Value → H) :
    ReturnsInHanded {} Try.checked os 3 .any (Rows.towerFrobeniusSpec.pre6 enc Try.prog Try.f3 Rows.towerFrobeniusRow.domain false)
      (Rows.towerFrobeniusSpec.post enc Try.prog Try.f3 false true false false) := by
  refine returnsInHanded_of_change (C := Try.checked) own_knob started (by kernel_rfl) Try.func3
    (ChangeSpec.witness6 (enc := enc) (C := Try.checked) false ⟨#[], #[.agg #[.int .i64 0, .int .i64 0, .slice none 0 0], .int .i64 0, .int .i64 0], []⟩ 8 (by kernel_rfl) (by kernel_rfl) (by kernel_rfl) (by kernel_rfl)) ?_
  intro W base args ds gs before hval0 hW hcnd _
  have hval : ∀ (j : Nat) t v, Try.f3.params[j]? = some t → args[j]? = some v → Value.okWide Try.prog W .any base t v := hval0
  have hlt := hW.lt
  have hW' := hW
  obtain ⟨p, q, hA0, hV, rfl, hfz, hnd⟩ := hW
  have hA : DataW.TrodAll enc Try.prog W 0 (fun _ => true) true Try.f3.params.toList args.toList ds p := hA0
  rw [Try.params3] at hA hval
  obtain ⟨v0, v1, v2, d0, d1, d2, p0, p1, p2, rfl, rfl, rfl, h0, h1, h2⟩ := trodAll_three hA
  obtain ⟨P, M, A, ml, c, rfl, hP, hM, hl, -, hr⟩ := arg_field (hval 0 _ v0 rfl rfl) h0 (fun x hx => hlt x (by simp [hx]))
  obtain ⟨x, rfl, hx⟩ := arg_int (hval 1 _ v1 rfl rfl) h1
  obtain ⟨k, rfl, hk⟩ := arg_int (hval 2 _ v2 rfl rfl) h2
  refine (frobL P M ml A c x k W hP hM hk hl hr).mono fun e W' ⟨he, hw⟩ => ?_
  subst he
  exact ⟨_, rfl, law_post laid_out hW' rfl (by kernel_rfl) (by kernel_rfl) ty_bool rfl hw⟩

theorem frobL_joined : joinedFacts Try.prog 3 Try.f3 Rows.towerFrobeniusSpec Rows.towerFrobeniusRow = true := by
  unfold joinedFacts
  rw [once_enter, show (Rows.towerFrobeniusRow.lifted == Try.prog.liftsFinal) = true from once_lift, show (Try.prog.make == some Rows.towerFrobeniusRow.make) = true from once_make]
  kernel_rfl

theorem TowerFrobenius_holds : Rows.TowerFrobeniusSaid :=
  OpenClaim.holds_of_wide 3 Try.f3 rfl rfl rfl rfl rfl rfl rfl ⟨rfl, rfl, rfl, rfl, rfl⟩ rfl rfl rfl rfl rfl (by kernel_rfl) Try.func3 frobL_joined
    (of_decide_eq_true (by kernel_rfl)) (by unfold Func.isWrapper; first | (rw [if_pos (by decide +kernel)]; kernel_rfl) | (rw [if_neg (by decide +kernel)]; exact ⟨rfl, rfl⟩))
    (fun os started H enc _ => frobL_lifted os started H enc)
#print axioms TowerFrobenius_holds
end Go.Proofs.Yteamndefbpdcjaa
