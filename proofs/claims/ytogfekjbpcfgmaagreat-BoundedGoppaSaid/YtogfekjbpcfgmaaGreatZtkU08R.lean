/- BoundedGoppa answers true for every input, and leaves its arguments as they were. No condition. -/
import Derived.Test.YtogfekjbpcfgmaaGreatZtkU08
set_option maxRecDepth 100000
set_option maxHeartbeats 16000000
set_option linter.unusedVariables false
namespace Go.Proofs.YtogfekjbpcfgmaaGreat
open Go.RowKit Cw
open Go.ChangeShapes Go.WideShapes Go.ChangeAt Go.Joins
theorem BoundedGoppa_lifted (T : Os) (Y : T.Started) (H : Type) (enc : TypeId × Value → H) :
  ReturnsInHanded {} Tryz.checked T 7 .any (Rows.boundedGoppaSpec.pre6 enc Tryz.prog Tryz.f7 Rows.boundedGoppaRow.domain false)
   (Rows.boundedGoppaSpec.post enc Tryz.prog Tryz.f7 false true false false) := by
 refine returnsInHanded_of_change (C := Tryz.checked) Qq4 Y (by kernel_rfl) Tryz.func7
  (ChangeSpec.witness6 (enc := enc) (C := Tryz.checked) false ⟨#[],#[.agg #[.int .i64 0,.int .i64 0,.slice none 0 0,.int .i64 0,.int .i64 0,.slice none 0 0,.slice none 0 0,.slice none 0 0],.agg #[.slice none 0 0,.slice none 0 0,.slice none 0 0]],[]⟩ 8 (by kernel_rfl) (by kernel_rfl) (by kernel_rfl) (by kernel_rfl)) ?_
 intro W base args ds gs a5 aV J a6 _;have I : ∀ (j : Nat) t v,Tryz.f7.params[j]? = some t → args[j]? = some v → Value.okWide Tryz.prog W .any base t v := aV;have U := J.lt;have aa := J;obtain ⟨p,q,ab,hV,rfl,aZ,a0⟩ := J;have V : DataW.TrodAll enc Tryz.prog W 0 (fun _ => true) true Tryz.f7.params.toList args.toList ds p := ab;rw [Tryz.params7] at V I;obtain ⟨v0,v1,e0,X,p0,p1,rfl,rfl,rfl,h0,h1⟩ := trodAll_two V;obtain ⟨P0,M0,Q0,N0,A0,B0,C0,D0,am,an,ao,ap,c0,b0,k0,o0,rfl,au,av,aw,ax,ay,az,aA,aB,aC,aD,aE,aF,aG,aH⟩ := QtZ (I 0 _ v0 rfl rfl) h0 (fun x O => U x (by simp [O]));obtain ⟨l1,k1,j1,A1,B1,C1,c1,d1,X,rfl,aO,aP,aQ,aR,aS,aT⟩ := Qrj (I 1 _ v1 rfl rfl) h1 (fun x O => U x (by simp [O]));refine (Qu2 P0 M0 Q0 N0 am an ao ap A0 B0 C0 D0 c0 b0 k0 o0 l1 k1 j1 A1 B1 C1 c1 d1 X W au av aw ax ay az aA aB aC aD aE aF aG aH aO aP aQ aR aS aT).mono fun e W' ⟨he,hw⟩ => ?_
 subst he;exact ⟨_,rfl,Qq6 Qq5 aa rfl (by kernel_rfl) (by kernel_rfl) QtM rfl hw⟩
theorem BoundedGoppa_joined : joinedFacts Tryz.prog 7 Tryz.f7 Rows.boundedGoppaSpec Rows.boundedGoppaRow = true := by
 unfold joinedFacts;rw [Qni,show (Rows.boundedGoppaRow.lifted == Tryz.prog.liftsFinal) = true from Qo5,show (Tryz.prog.make == some Rows.boundedGoppaRow.make) = true from Qo6]
 kernel_rfl
theorem BoundedGoppa_holds : Rows.BoundedGoppaSaid :=
 OpenClaim.holds_of_wide 7 Tryz.f7 rfl rfl rfl rfl rfl rfl rfl ⟨rfl,rfl,rfl,rfl,rfl⟩ rfl rfl rfl rfl rfl (by kernel_rfl) Tryz.func7 BoundedGoppa_joined
  (of_decide_eq_true (by kernel_rfl)) (by unfold Func.isWrapper;first |(rw [if_pos (by decide +kernel)];kernel_rfl) |(rw [if_neg (by decide +kernel)];exact ⟨rfl,rfl⟩))
  (fun I J H enc _ => BoundedGoppa_lifted I J H enc)
#print axioms BoundedGoppa_holds
end Go.Proofs.YtogfekjbpcfgmaaGreat
