/- Plain law of layer 18: a word is a codeword just if its first entries' message has it as codeword. No Go here. -/
import Derived.Test.YtnbkmkeiophjoaaIntp
import Derived.Test.YtnbkmkeiophjoaaMsg
namespace Go.Proofs.Ytnbkmkeiophjoaa
open Go.RowKit Cw

/-- The reference's test: the word less the rows at its pivots is 0. -/
noncomputable def inB (F : FD) (kn : Nat) (pts mul word : List Int) : Bool := all0 (rowL F.toDesc pts.length (restF kn (fun i => fnz (rowsL F.toDesc pts.length (elS kn (gM F.toDesc pts mul) pts.length).1 i)) (elS kn (gM F.toDesc pts mul) pts.length).1 (fun j => eli F.toDesc (word[j]?.getD 0))))
section
variable {F : FD} {kn : Nat} {pts mul word : List Int}
theorem fnz_piv (hz : gchkD F.toDesc kn pts mul = 0) {i : Nat} (hi : i < kn) : fnz (rowsL F.toDesc pts.length (elS kn (gM F.toDesc pts mul) pts.length).1 i) = pvF (elS kn (gM F.toDesc pts mul) pts.length).2 i ∧ pvF (elS kn (gM F.toDesc pts mul) pts.length).2 i < pts.length := by
  have hrk := gM_rank hz
  rw [Int.toNat_natCast] at hrk
  unfold rkS at hrk
  have hRR := elS_RR kn pts.length (gM F.toDesc pts mul)
  rw [hrk] at hRR
  have hlt := hRR.lt i hi
  refine ⟨fnz_eq _ _ (by rw [rowsL, rowL_length]; omega) (fun j hj => ?_) (.inr ?_), hlt⟩
  · rw [rowsL, rowL_get _ _ (by omega), hRR.low i hi j hj]; exact ci_zero
  · rw [rowsL, rowL_get _ _ hlt, hRR.one i hi]
    intro e
    exact one_ne (ci_eq_zero.1 e)
theorem inB_iff (hz : gchkD F.toDesc kn pts mul = 0) : inB F kn pts mul word = true ↔ Span kn pts.length (gM F.toDesc pts mul) (fun j => eli F.toDesc (word[j]?.getD 0)) := by
  have hrk := gM_rank hz
  rw [Int.toNat_natCast] at hrk
  have hrk' := hrk
  unfold rkS at hrk'
  have hRR := elS_RR kn pts.length (gM F.toDesc pts mul)
  have hsp := elS_span kn pts.length (gM F.toDesc pts mul)
  rw [hrk'] at hRR hsp
  have hall : inB F kn pts mul word = true ↔ ∀ j, j < pts.length → restF kn (fun i => fnz (rowsL F.toDesc pts.length (elS kn (gM F.toDesc pts mul) pts.length).1 i)) (elS kn (gM F.toDesc pts mul) pts.length).1 (fun j => eli F.toDesc (word[j]?.getD 0)) j = 0 := by
    unfold inB all0
    rw [decide_eq_true_iff]
    constructor
    · intro h j hj
      exact ci_eq_zero.1 (h _ (List.mem_map.2 ⟨j, List.mem_range.2 hj, rfl⟩))
    · intro h x hx
      obtain ⟨j, hj, rfl⟩ := List.mem_map.1 hx
      exact ci_eq_zero.2 (h j (List.mem_range.1 hj))
  rw [hall]
  constructor
  · intro h
    refine Span.trans (B := (elS kn (gM F.toDesc pts mul) pts.length).1) (n' := kn) ⟨fun i => eli F.toDesc (word[fnz (rowsL F.toDesc pts.length (elS kn (gM F.toDesc pts mul) pts.length).1 i)]?.getD 0), fun j hj => ?_⟩ hsp.1
    have h1 := h j hj
    unfold restF at h1
    dsimp only at h1 ⊢
    rw [rsum_congr fun i _ => neg_mul _ _, rsum_neg] at h1
    exact sub_eq_zero h1
  · intro h j hj
    obtain ⟨c, hc⟩ := h.trans hsp.2
    dsimp only at hc
    unfold restF
    dsimp only
    rw [rsum_congr (g := fun i => -(c i * (elS kn (gM F.toDesc pts mul) pts.length).1 i j)) fun i hi => by
      rw [(fnz_piv hz hi).1, neg_mul]
      congr 2
      exact hRR.coef (v := fun j => eli F.toDesc (word[j]?.getD 0)) hc hi, rsum_neg, ← hc j hj, add_neg]
theorem word_span {msg : List Int} (hz : gchkD F.toDesc kn pts mul = 0) (hw : word.length = pts.length) (hel : elB F.toDesc word = true) (hm : MsgOf F.toDesc kn pts mul word msg) :
    inB F kn pts mul word = true ↔ wordL F.toDesc pts mul msg = word := by
  obtain ⟨-, -, hlen, hpe, hme, htw, h0, -, hkn⟩ := gchkD_zero hz
  rw [inB_iff hz]
  have hsum : ∀ j, eli F.toDesc (mul[j]?.getD 0) * pevI F.toDesc msg (eli F.toDesc (pts[j]?.getD 0)) = rsum kn fun i => cfR F.toDesc msg i * gM F.toDesc pts mul i j := fun j => by
    rw [pevI_cf F.toDesc msg _ (N := kn) (by rw [hm.1]; exact Nat.le_refl _), ← rsum_mul_left]
    exact rsum_congr fun i _ => by unfold gM; exact mul_lc _ _ _
  constructor
  · rintro ⟨d, hd⟩
    have hcd : ∀ t, t < kn → cfR F.toDesc msg t - d t = 0 := fun t ht => by
      refine rsum_roots (f := fun t => cfR F.toDesc msg t - d t) (a := fun k => eli F.toDesc (pts[k]?.getD 0)) (n := kn) (fun i j hi hj e => ?_) (fun k hk => ?_) ht
      · exact nodup_get htw (by omega) (by omega) (eli_inj (elB_iff.1 hpe i (by omega)) (elB_iff.1 hpe j (by omega)) e)
      · have h1 := hm.2.2 k hk
        rw [hsum k, show eli F.toDesc (word[k]?.getD 0) = _ from hd k (by omega)] at h1
        have h2 : eli F.toDesc (mul[k]?.getD 0) ≠ 0 := eli_ne (elB_iff.1 hme k (by omega)) (fun e => h0 (e ▸ mem_get (by omega)))
        have h3 : eli F.toDesc (mul[k]?.getD 0) * rsum kn (fun i => (cfR F.toDesc msg i - d i) * pw (eli F.toDesc (pts[k]?.getD 0)) i) = 0 := by
          rw [← rsum_mul_left, rsum_congr (g := fun i => cfR F.toDesc msg i * gM F.toDesc pts mul i k - d i * gM F.toDesc pts mul i k) fun i _ => by
            unfold gM
            rw [sub_mul, mul_sub, mul_lc, mul_lc (eli F.toDesc (mul[k]?.getD 0)) (d i)], rsum_sub, h1, Cw.sub_self]
        exact (mul_eq_zero h3).resolve_left h2
    unfold wordL
    conv => rhs; rw [list_rowL hel, hw]
    exact lst_congr fun j hj => by
      rw [hsum j, rsum_congr fun i hi => by rw [sub_eq_zero (hcd i hi)], ← hd j hj]
  · intro e
    refine ⟨cfR F.toDesc msg, fun j hj => ?_⟩
    rw [← hsum j, ← e]
    unfold wordL
    dsimp only
    rw [lst_get _ hj, eli_ci]
end
end Go.Proofs.Ytnbkmkeiophjoaa
