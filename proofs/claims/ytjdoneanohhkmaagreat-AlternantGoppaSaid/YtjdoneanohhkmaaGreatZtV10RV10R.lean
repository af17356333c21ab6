/- AlternantGoppa answers true for every input, and leaves its arguments as they were. No condition. -/
import Derived.Test.YtjdoneanohhkmaaGreatZtV10RPol5
import Derived.Test.YtjdoneanohhkmaaGreatZtV10RMat
import Derived.Test.YtjdoneanohhkmaaGreatZtV10RV10
namespace Go.Proofs.YtjdoneanohhkmaaGreat
open Go.ChangeShapes Go.WideShapes Go.ChangeAt Go.RowKit Go.Joins Cw

set_option maxRecDepth 100000 in
theorem AlternantGoppa_lifted (os : Os) (started : os.Started) (H : Type) (enc : TypeId × Value → H) :
  ReturnsInHanded {} Tryz.checked os 9 .any (Rows.alternantGoppaSpec.pre6 enc Tryz.prog Tryz.f9 Rows.alternantGoppaRow.domain false)
   (Rows.alternantGoppaSpec.post enc Tryz.prog Tryz.f9 false true false false) := by
 refine returnsInHanded_of_change (C := Tryz.checked) own_knob started (by kernel_rfl) Tryz.func9
  (ChangeSpec.witness6 (enc := enc) (C := Tryz.checked) false ⟨#[],#[.agg #[.int .i64 0,.int .i64 0,.slice none 0 0,.int .i64 0,.int .i64 0,.slice none 0 0,.slice none 0 0,.slice none 0 0]],[]⟩ 8 (by kernel_rfl) (by kernel_rfl) (by kernel_rfl) (by kernel_rfl)) ?_
 intro W base args ds gs before hval0 hW hcnd _;have hval : ∀ (j : Nat) t v,Tryz.f9.params[j]? = some t → args[j]? = some v → Value.okWide Tryz.prog W .any base t v := hval0;have hlt := hW.lt;have hW' := hW;obtain ⟨p,q,hA0,hV,rfl,hfz,hnd⟩ := hW;have hA : DataW.TrodAll enc Tryz.prog W 0 (fun _ => true) true Tryz.f9.params.toList args.toList ds p := hA0;rw [Tryz.params9] at hA hval;obtain ⟨v0,e0,rfl,rfl,h0⟩ := trodAll_one hA;obtain ⟨P0,M0,Q0,N0,A0,B0,C0,D0,ml0,nl0,poly0,pts0,c0,b0,k0,o0,rfl,hP0,hM0,hQ0,hN0,hl0,hn0,hk0,he0,hi0,hj0,hr0,hs0,ht0,hu0⟩ := arg_gop (hval 0 _ v0 rfl rfl) h0 (fun x hx => hlt x (by simp [hx]));refine (altGopL P0 M0 Q0 N0 ml0 nl0 poly0 pts0 A0 B0 C0 D0 c0 b0 k0 o0 W hP0 hM0 hQ0 hN0 hl0 hn0 hk0 he0 hi0 hj0 hr0 hs0 ht0 hu0).mono fun e W' ⟨he,hw⟩ => ?_
 subst he;exact ⟨_,rfl,law_post laid_out hW' rfl (by kernel_rfl) (by kernel_rfl) ty_bool rfl hw⟩

theorem AlternantGoppa_joined : joinedFacts Tryz.prog 9 Tryz.f9 Rows.alternantGoppaSpec Rows.alternantGoppaRow = true := by
 unfold joinedFacts;rw [once_enter,show (Rows.alternantGoppaRow.lifted == Tryz.prog.liftsFinal) = true from once_lift,show (Tryz.prog.make == some Rows.alternantGoppaRow.make) = true from once_make]
 kernel_rfl

theorem AlternantGoppa_holds : Rows.AlternantGoppaSaid :=
 OpenClaim.holds_of_wide 9 Tryz.f9 rfl rfl rfl rfl rfl rfl rfl ⟨rfl,rfl,rfl,rfl,rfl⟩ rfl rfl rfl rfl rfl (by kernel_rfl) Tryz.func9 AlternantGoppa_joined
  (of_decide_eq_true (by kernel_rfl)) (by unfold Func.isWrapper; first | (rw [if_pos (by decide +kernel)]; kernel_rfl) | (rw [if_neg (by decide +kernel)]; exact ⟨rfl,rfl⟩))
  (fun os started H enc _ => AlternantGoppa_lifted os started H enc)
#print axioms AlternantGoppa_holds
end Go.Proofs.YtjdoneanohhkmaaGreat
