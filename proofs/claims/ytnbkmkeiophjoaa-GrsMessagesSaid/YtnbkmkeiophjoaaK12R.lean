/- GrsMessages answers true for every input, and leaves its arguments as they were. No condition. -/
import Derived.Test.YtnbkmkeiophjoaaK12
import Derived.Test.YtnbkmkeiophjoaaGrsRow
import Derived.Test.YtnbkmkeiophjoaaOnce
namespace Go.Proofs.Ytnbkmkeiophjoaa
open Go.ChangeShapes Go.WideShapes Go.ChangeAt Go.RowKit Go.Joins Cw

theorem messagesL (P0 M0 K0 : Int) (ml0 pts0 mul0 : List Int) (A0 B0 C0 : Option Addr) (c0 b0 d0 : Nat) (l1 : List Int) (A1 : Option Addr) (c1 : Nat) (w : World) (hP0 : I64 P0) (hM0 : I64 M0) (hK0 : I64 K0) (hl0 : ml0.length ≤ maxLen) (hb0 : pts0.length ≤ b0 ∧ b0 ≤ maxLen) (hd0 : mul0.length ≤ d0 ∧ d0 ≤ maxLen) (hi0 : ∀ x ∈ pts0, I64 x) (hj0 : ∀ x ∈ mul0, I64 x) (hr0 : Rd w w.heap.size A0 ml0) (hs0 : Rd w w.heap.size B0 pts0) (ht0 : Rd w w.heap.size C0 mul0) (hc1 : l1.length ≤ c1) (hl1 : c1 ≤ maxLen) (_hi1 : ∀ x ∈ l1, I64 x) (hr1 : Rd w w.heap.size A1 l1) :
    Calls Try.prog 10 #[.agg #[.int .i64 P0, .int .i64 M0, .slice A0 ml0.length c0, .int .i64 K0, .slice B0 pts0.length b0, .slice C0 mul0.length d0], .slice A1 l1.length c1] w (LawEnd w) := by
  by_cases hb : Good P0 M0 ml0
  · have hb' := hb
    obtain ⟨D, rfl, rfl, rfl, -⟩ := hb
    rw [modL_length]
    exact messagesL_good D K0 pts0 mul0 A0 B0 C0 c0 b0 d0 l1 A1 c1 w hr0 hb' hK0 hb0 hd0 hi0 hj0 hs0 ht0 hc1 hl1 hr1
  · exact messagesL_bad P0 M0 K0 ml0 pts0 mul0 A0 B0 C0 c0 b0 d0 l1 A1 c1 w hP0 hM0 hl0 hr0 hb hK0 hb0 hd0 hi0 hj0 hs0 ht0 hc1 hl1 hr1

set_option maxRecDepth 100000 in
theorem GrsMessages_lifted (os : Os) (started : os.Started) (H : Type) (enc : TypeId × Value → H) :
    ReturnsInHanded {} Try.checked os 10 .any (Rows.grsMessagesSpec.pre6 enc Try.prog Try.f10 Rows.grsMessagesRow.domain false)
      (Rows.grsMessagesSpec.post enc Try.prog Try.f10 false true false false) := by
  refine returnsInHanded_of_change (C := Try.checked) own_knob started (by kernel_rfl) Try.func10
    (ChangeSpec.witness6 (enc := enc) (C := Try.checked) false ⟨#[], #[.agg #[.int .i64 0, .int .i64 0, .slice none 0 0, .int .i64 0, .slice none 0 0, .slice none 0 0], .slice none 0 0], []⟩ 8 (by kernel_rfl) (by kernel_rfl) (by kernel_rfl) (by kernel_rfl)) ?_
  intro W base args ds gs before hval0 hW hcnd _
  have hval : ∀ (j : Nat) t v, Try.f10.params[j]? = some t → args[j]? = some v → Value.okWide Try.prog W .any base t v := hval0
  have hlt := hW.lt
  have hW' := hW
  obtain ⟨p, q, hA0, hV, rfl, hfz, hnd⟩ := hW
  have hA : DataW.TrodAll enc Try.prog W 0 (fun _ => true) true Try.f10.params.toList args.toList ds p := hA0
  rw [Try.params10] at hA hval
  obtain ⟨v0, v1, e0, e1, p0, p1, rfl, rfl, rfl, h0, h1⟩ := trodAll_two hA
  obtain ⟨P0, M0, K0, A0, B0, C0, ml0, pts0, mul0, c0, b0, d0, rfl, hP0, hM0, hK0, hl0, hb0, hd0, hi0, hj0, hr0, hs0, ht0⟩ := arg_grs (hval 0 _ v0 rfl rfl) h0 (fun x hx => hlt x (by simp [hx]))
  obtain ⟨A1, l1, c1, rfl, hc1, hl1, hi1, hr1⟩ := arg_ints (hval 1 _ v1 rfl rfl) h1 (fun x hx => hlt x (by simp [hx]))
  refine (messagesL P0 M0 K0 ml0 pts0 mul0 A0 B0 C0 c0 b0 d0 l1 A1 c1 W hP0 hM0 hK0 hl0 hb0 hd0 hi0 hj0 hr0 hs0 ht0 hc1 hl1 hi1 hr1).mono fun e W' ⟨he, hw⟩ => ?_
  subst he
  exact ⟨_, rfl, law_post laid_out hW' rfl (by kernel_rfl) (by kernel_rfl) ty_bool rfl hw⟩

theorem GrsMessages_joined : joinedFacts Try.prog 10 Try.f10 Rows.grsMessagesSpec Rows.grsMessagesRow = true := by
  unfold joinedFacts
  rw [once_enter, show (Rows.grsMessagesRow.lifted == Try.prog.liftsFinal) = true from once_lift, show (Try.prog.make == some Rows.grsMessagesRow.make) = true from once_make]
  kernel_rfl

theorem GrsMessages_holds : Rows.GrsMessagesSaid :=
  OpenClaim.holds_of_wide 10 Try.f10 rfl rfl rfl rfl rfl rfl rfl ⟨rfl, rfl, rfl, rfl, rfl⟩ rfl rfl rfl rfl rfl (by kernel_rfl) Try.func10 GrsMessages_joined
    (of_decide_eq_true (by kernel_rfl)) (by unfold Func.isWrapper; first | (rw [if_pos (by decide +kernel)]; kernel_rfl) | (rw [if_neg (by decide +kernel)]; exact ⟨rfl, rfl⟩))
    (fun os started H enc _ => GrsMessages_lifted os started H enc)
#print axioms GrsMessages_holds
end Go.Proofs.Ytnbkmkeiophjoaa
