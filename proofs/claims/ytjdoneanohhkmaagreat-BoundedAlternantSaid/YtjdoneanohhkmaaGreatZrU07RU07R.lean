/- BoundedAlternant answers true for every input, and leaves its arguments as they were. No condition. -/
import Derived.Test.YtjdoneanohhkmaaGreatZrU07RGrsB
import Derived.Test.YtjdoneanohhkmaaGreatZrU07RAppZ
import Derived.Test.YtjdoneanohhkmaaGreatZrU07RU07
namespace Go.Proofs.YtjdoneanohhkmaaGreat
open Go.ChangeShapes Go.WideShapes Go.ChangeAt Go.RowKit Go.Joins Cw

set_option maxRecDepth 100000 in
theorem BoundedAlternant_lifted (os : Os) (started : os.Started) (H : Type) (enc : TypeId × Value → H) :
  ReturnsInHanded {} Tryz.checked os 11 .any (Rows.boundedAlternantSpec.pre6 enc Tryz.prog Tryz.f11 Rows.boundedAlternantRow.domain false)
   (Rows.boundedAlternantSpec.post enc Tryz.prog Tryz.f11 false true false false) := by
 refine returnsInHanded_of_change (C := Tryz.checked) own_knob started (by kernel_rfl) Tryz.func11
  (ChangeSpec.witness6 (enc := enc) (C := Tryz.checked) false ⟨#[],#[.agg #[.int .i64 0,.int .i64 0,.slice none 0 0],.agg #[.int .i64 0,.int .i64 0,.slice none 0 0,.int .i64 0,.slice none 0 0,.slice none 0 0],.agg #[.slice none 0 0,.slice none 0 0,.slice none 0 0]],[]⟩ 8 (by kernel_rfl) (by kernel_rfl) (by kernel_rfl) (by kernel_rfl)) ?_
 intro W base args ds gs before hval0 hW hcnd _;have hval : ∀ (j : Nat) t v,Tryz.f11.params[j]? = some t → args[j]? = some v → Value.okWide Tryz.prog W .any base t v := hval0;have hlt := hW.lt;have hW' := hW;obtain ⟨p,q,hA0,hV,rfl,hfz,hnd⟩ := hW;have hA : DataW.TrodAll enc Tryz.prog W 0 (fun _ => true) true Tryz.f11.params.toList args.toList ds p := hA0;rw [Tryz.params11] at hA hval;obtain ⟨v0,v1,v2,e0,e1,e2,p0,p1,p2,rfl,rfl,rfl,h0,h1,h2⟩ := trodAll_three hA;obtain ⟨P0,M0,A0,ml0,c0,rfl,hP0,hM0,hl0,-,hr0⟩ := arg_field (hval 0 _ v0 rfl rfl) h0 (fun x hx => hlt x (by simp [hx]));obtain ⟨P1,M1,K1,A1,B1,C1,ml1,pts1,mul1,c1,b1,d1,rfl,hP1,hM1,hK1,hl1,hb1,hd1,hi1,hj1,hr1,hs1,ht1⟩ := arg_grs (hval 1 _ v1 rfl rfl) h1 (fun x hx => hlt x (by simp [hx]));obtain ⟨l2,k2,j2,A2,B2,C2,c2,d2,e2,rfl,hm2,hl2,hk2,hr2,hs2,ht2⟩ := arg_sent (hval 2 _ v2 rfl rfl) h2 (fun x hx => hlt x (by simp [hx]));refine (bndAltL P0 M0 ml0 A0 c0 P1 M1 K1 ml1 pts1 mul1 A1 B1 C1 c1 b1 d1 l2 k2 j2 A2 B2 C2 c2 d2 e2 W hP0 hM0 hl0 hr0 hP1 hM1 hK1 hl1 hb1 hd1 hi1 hj1 hr1 hs1 ht1 hm2 hl2 hk2 hr2 hs2 ht2).mono fun e W' ⟨he,hw⟩ => ?_
 subst he;exact ⟨_,rfl,law_post laid_out hW' rfl (by kernel_rfl) (by kernel_rfl) ty_bool rfl hw⟩

theorem BoundedAlternant_joined : joinedFacts Tryz.prog 11 Tryz.f11 Rows.boundedAlternantSpec Rows.boundedAlternantRow = true := by
 unfold joinedFacts;rw [once_enter,show (Rows.boundedAlternantRow.lifted == Tryz.prog.liftsFinal) = true from once_lift,show (Tryz.prog.make == some Rows.boundedAlternantRow.make) = true from once_make]
 kernel_rfl

theorem BoundedAlternant_holds : Rows.BoundedAlternantSaid :=
 OpenClaim.holds_of_wide 11 Tryz.f11 rfl rfl rfl rfl rfl rfl rfl ⟨rfl,rfl,rfl,rfl,rfl⟩ rfl rfl rfl rfl rfl (by kernel_rfl) Tryz.func11 BoundedAlternant_joined
  (of_decide_eq_true (by kernel_rfl)) (by unfold Func.isWrapper; first | (rw [if_pos (by decide +kernel)]; kernel_rfl) | (rw [if_neg (by decide +kernel)]; exact ⟨rfl,rfl⟩))
  (fun os started H enc _ => BoundedAlternant_lifted os started H enc)
#print axioms BoundedAlternant_holds
end Go.Proofs.YtjdoneanohhkmaaGreat
