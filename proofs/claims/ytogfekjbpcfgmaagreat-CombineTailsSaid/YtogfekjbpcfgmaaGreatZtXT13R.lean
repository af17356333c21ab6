/- CombineTails answers true for every input, and leaves its arguments as they were. No condition. -/
import Derived.Test.YtogfekjbpcfgmaaGreatZtXArgC
import Derived.Test.YtogfekjbpcfgmaaGreatZtXOnce
import Derived.Test.YtogfekjbpcfgmaaGreatZtXT13
namespace Go.Proofs.YtogfekjbpcfgmaaGreat
open Go.ChangeShapes Go.WideShapes Go.ChangeAt Go.RowKit Go.Joins Cw

set_option maxRecDepth 100000 in
theorem CombineTails_lifted (os : Os) (started : os.Started) (H : Type) (enc : TypeId × Value → H) :
  ReturnsInHanded {} Tryz.checked os 4 .any (Rows.combineTailsSpec.pre6 enc Tryz.prog Tryz.f4 Rows.combineTailsRow.domain false)
   (Rows.combineTailsSpec.post enc Tryz.prog Tryz.f4 false true false false) := by
 refine returnsInHanded_of_change (C := Tryz.checked) own_knob started (by kernel_rfl) Tryz.func4
  (ChangeSpec.witness6 (enc := enc) (C := Tryz.checked) false ⟨#[],#[.agg #[.int .i64 0,.int .i64 0,.slice none 0 0,.int .i64 0,.slice none 0 0],.agg #[.int .i64 0,.int .i64 0,.slice none 0 0,.int .i64 0,.slice none 0 0],.agg #[.int .i64 0,.int .i64 0,.slice none 0 0,.int .i64 0,.slice none 0 0],.slice none 0 0],[]⟩ 8 (by kernel_rfl) (by kernel_rfl) (by kernel_rfl) (by kernel_rfl)) ?_
 intro W base args ds gs before hval0 hW hcnd _;have hval : ∀ (j : Nat) t v,Tryz.f4.params[j]? = some t → args[j]? = some v → Value.okWide Tryz.prog W .any base t v := hval0;have hlt := hW.lt;have hW' := hW;obtain ⟨p,q,hA0,hV,rfl,hfz,hnd⟩ := hW;have hA : DataW.TrodAll enc Tryz.prog W 0 (fun _ => true) true Tryz.f4.params.toList args.toList ds p := hA0;rw [Tryz.params4] at hA hval;obtain ⟨v0,v1,v2,v3,e0,e1,e2,e3,p0,p1,p2,p3,rfl,rfl,rfl,h0,h1,h2,h3⟩ := trodAll_four hA;obtain ⟨P0,M0,N0,A0,R0,ml0,n0,c0,k0,rows0,rfl,hP0,hM0,hN0,hl0,hk0,hi0,hr0,hm0⟩ := arg_code (hval 0 _ v0 rfl rfl) h0 (fun x hx => hlt x (by simp [hx]));obtain ⟨P1,M1,N1,A1,R1,ml1,n1,c1,k1,rows1,rfl,hP1,hM1,hN1,hl1,hk1,hi1,hr1,hm1⟩ := arg_code (hval 1 _ v1 rfl rfl) h1 (fun x hx => hlt x (by simp [hx]));obtain ⟨P2,M2,N2,A2,R2,ml2,n2,c2,k2,rows2,rfl,hP2,hM2,hN2,hl2,hk2,hi2,hr2,hm2⟩ := arg_code (hval 2 _ v2 rfl rfl) h2 (fun x hx => hlt x (by simp [hx]));obtain ⟨A3,l3,c3,rfl,hc3,hl3,hi3,hr3⟩ := arg_ints (hval 3 _ v3 rfl rfl) h3 (fun x hx => hlt x (by simp [hx]));refine (tailsL P0 M0 N0 ml0 n0 rows0 A0 R0 c0 k0 P1 M1 N1 ml1 n1 rows1 A1 R1 c1 k1 P2 M2 N2 ml2 n2 rows2 A2 R2 c2 k2 l3 A3 c3 W hP0 hM0 hN0 hl0 (Nat.le_trans hk0.1 hk0.2) hr0 hm0 hP1 hM1 hN1 hl1 (Nat.le_trans hk1.1 hk1.2) hr1 hm1 hP2 hM2 hN2 hl2 (Nat.le_trans hk2.1 hk2.2) hr2 hm2 hc3 hl3 hr3).mono fun e W' ⟨he,hw⟩ => ?_
 subst he;exact ⟨_,rfl,law_post laid_out hW' rfl (by kernel_rfl) (by kernel_rfl) ty_bool rfl hw⟩

theorem CombineTails_joined : joinedFacts Tryz.prog 4 Tryz.f4 Rows.combineTailsSpec Rows.combineTailsRow = true := by
 unfold joinedFacts;rw [once_enter,show (Rows.combineTailsRow.lifted == Tryz.prog.liftsFinal) = true from once_lift,show (Tryz.prog.make == some Rows.combineTailsRow.make) = true from once_make]
 kernel_rfl

theorem CombineTails_holds : Rows.CombineTailsSaid :=
 OpenClaim.holds_of_wide 4 Tryz.f4 rfl rfl rfl rfl rfl rfl rfl ⟨rfl,rfl,rfl,rfl,rfl⟩ rfl rfl rfl rfl rfl (by kernel_rfl) Tryz.func4 CombineTails_joined
  (of_decide_eq_true (by kernel_rfl)) (by unfold Func.isWrapper; first | (rw [if_pos (by decide +kernel)]; kernel_rfl) | (rw [if_neg (by decide +kernel)]; exact ⟨rfl,rfl⟩))
  (fun os started H enc _ => CombineTails_lifted os started H enc)
#print axioms CombineTails_holds
end Go.Proofs.YtogfekjbpcfgmaaGreat
