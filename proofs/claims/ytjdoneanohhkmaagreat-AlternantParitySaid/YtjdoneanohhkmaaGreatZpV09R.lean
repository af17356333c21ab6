/- AlternantParity answers true for every input, and leaves its arguments as they were. No condition. -/
import Derived.Test.YtjdoneanohhkmaaGreatZpMat
import Derived.Test.YtjdoneanohhkmaaGreatZpGopRow
import Derived.Test.YtjdoneanohhkmaaGreatZpV09
namespace Go.Proofs.YtjdoneanohhkmaaGreat
open Go.ChangeShapes Go.WideShapes Go.ChangeAt Go.RowKit Go.Joins Cw

set_option maxRecDepth 100000 in
theorem AlternantParity_lifted (os : Os) (started : os.Started) (H : Type) (enc : TypeId × Value → H) :
  ReturnsInHanded {} Tryz.checked os 7 .any (Rows.alternantParitySpec.pre6 enc Tryz.prog Tryz.f7 Rows.alternantParityRow.domain false)
   (Rows.alternantParitySpec.post enc Tryz.prog Tryz.f7 false true false false) := by
 refine returnsInHanded_of_change (C := Tryz.checked) own_knob started (by kernel_rfl) Tryz.func7
  (ChangeSpec.witness6 (enc := enc) (C := Tryz.checked) false ⟨#[],#[.agg #[.int .i64 0,.int .i64 0,.slice none 0 0,.int .i64 0,.int .i64 0,.slice none 0 0,.slice none 0 0,.slice none 0 0],.slice none 0 0],[]⟩ 8 (by kernel_rfl) (by kernel_rfl) (by kernel_rfl) (by kernel_rfl)) ?_
 intro W base args ds gs before hval0 hW hcnd _;have hval : ∀ (j : Nat) t v,Tryz.f7.params[j]? = some t → args[j]? = some v → Value.okWide Tryz.prog W .any base t v := hval0;have hlt := hW.lt;have hW' := hW;obtain ⟨p,q,hA0,hV,rfl,hfz,hnd⟩ := hW;have hA : DataW.TrodAll enc Tryz.prog W 0 (fun _ => true) true Tryz.f7.params.toList args.toList ds p := hA0;rw [Tryz.params7] at hA hval;obtain ⟨v0,v1,e0,e1,p0,p1,rfl,rfl,rfl,h0,h1⟩ := trodAll_two hA;obtain ⟨P0,M0,Q0,N0,A0,B0,C0,D0,ml0,nl0,poly0,pts0,c0,b0,k0,o0,rfl,hP0,hM0,hQ0,hN0,hl0,hn0,hk0,he0,hi0,hj0,hr0,hs0,ht0,hu0⟩ := arg_gop (hval 0 _ v0 rfl rfl) h0 (fun x hx => hlt x (by simp [hx]));obtain ⟨A1,l1,c1,rfl,hc1,hl1,hi1,hr1⟩ := arg_ints (hval 1 _ v1 rfl rfl) h1 (fun x hx => hlt x (by simp [hx]));refine (altParL P0 M0 Q0 N0 ml0 nl0 poly0 pts0 A0 B0 C0 D0 c0 b0 k0 o0 l1 A1 c1 W hP0 hM0 hQ0 hN0 hl0 hn0 hk0 he0 hi0 hj0 hr0 hs0 ht0 hu0 hc1 hl1 hr1).mono fun e W' ⟨he,hw⟩ => ?_
 subst he;exact ⟨_,rfl,law_post laid_out hW' rfl (by kernel_rfl) (by kernel_rfl) ty_bool rfl hw⟩

theorem AlternantParity_joined : joinedFacts Tryz.prog 7 Tryz.f7 Rows.alternantParitySpec Rows.alternantParityRow = true := by
 unfold joinedFacts;rw [once_enter,show (Rows.alternantParityRow.lifted == Tryz.prog.liftsFinal) = true from once_lift,show (Tryz.prog.make == some Rows.alternantParityRow.make) = true from once_make]
 kernel_rfl

theorem AlternantParity_holds : Rows.AlternantParitySaid :=
 OpenClaim.holds_of_wide 7 Tryz.f7 rfl rfl rfl rfl rfl rfl rfl ⟨rfl,rfl,rfl,rfl,rfl⟩ rfl rfl rfl rfl rfl (by kernel_rfl) Tryz.func7 AlternantParity_joined
  (of_decide_eq_true (by kernel_rfl)) (by unfold Func.isWrapper; first | (rw [if_pos (by decide +kernel)]; kernel_rfl) | (rw [if_neg (by decide +kernel)]; exact ⟨rfl,rfl⟩))
  (fun os started H enc _ => AlternantParity_lifted os started H enc)
#print axioms AlternantParity_holds
end Go.Proofs.YtjdoneanohhkmaaGreat
