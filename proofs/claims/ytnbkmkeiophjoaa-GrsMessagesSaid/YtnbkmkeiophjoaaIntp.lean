/- Plain law of layer 18: as many positions as the dimension determine a codeword. No Go here. -/
import Derived.Test.YtnbkmkeiophjoaaSel
import Derived.Test.YtnbkmkeiophjoaaHasD
namespace Go.Proofs.Ytnbkmkeiophjoaa
open Go.RowKit Cw

/-- Reduced rows are canonical. -/
theorem canl_elS (F : FD) (n0 m : Nat) (M0 : Nat → Nat → R F.toDesc) : Canl F (rkS F n0 m M0) m (elS n0 M0 m).1 := by
  obtain ⟨h1, h2⟩ := elS_uniq (elS_span n0 m M0)
  refine ⟨h1, fun i hi => ?_⟩
  unfold rowsL rowL
  exact lst_congr fun j hj => congrArg ci ((h2 i (by unfold rkS at hi; omega)).2 j hj)
theorem list_rowL {D : Desc} {l : List Int} (h : elB D l = true) : l = rowL D l.length (fun j => eli D (l[j]?.getD 0)) := by
  apply List.ext_getElem
  · rw [rowL_length]
  · intro j h1 h2
    have h3 := rowL_get D (fun j => eli D (l[j]?.getD 0)) (j := j) (m := l.length) h1
    rw [List.getElem?_eq_getElem h2, Option.getD_some] at h3
    rw [h3]
    have h4 := elB_iff.1 h j h1
    rw [ci_eli_in h4, List.getElem?_eq_getElem h1, Option.getD_some]
/-- The columns at the positions a. -/
def colM {D : Desc} (B : Nat → Nat → R D) (a : List Int) : Nat → Nat → R D := fun i j => B i ((a[j]?.getD 0).toNat)
theorem colM_indep {F : FD} {kn : Nat} {pts mul a : List Int} (hz : gchkD F.toDesc kn pts mul = 0) (hr : ∀ x ∈ a, 0 ≤ x ∧ x < (pts.length : Int)) (hd : a.Nodup) (hl : a.length = kn) :
    Indep kn kn (colM (elS kn (gM F.toDesc pts mul) pts.length).1 a) := fun c hc => by
  obtain ⟨-, -, hlen, hp, hm, ht, h0, -, -⟩ := gchkD_zero hz
  have hrk := gM_rank hz
  rw [Int.toNat_natCast] at hrk
  unfold rkS at hrk
  have hRR := elS_RR kn pts.length (gM F.toDesc pts mul)
  have hsp := elS_span kn pts.length (gM F.toDesc pts mul)
  rw [hrk] at hRR hsp
  have hv : Span kn pts.length (elS kn (gM F.toDesc pts mul) pts.length).1 (fun j => rsum kn fun i => c i * (elS kn (gM F.toDesc pts mul) pts.length).1 i j) := ⟨c, fun j _ => rfl⟩
  obtain ⟨d, hdj⟩ := hv.trans hsp.1
  have hin : ∀ j, j < kn → (a[j]?.getD 0).toNat < pts.length := fun j hj => by have := hr _ (mem_get (l := a) (by omega : j < a.length)); omega
  have hd0 : ∀ i, i < kn → d i = 0 := fun i hi => by
    refine rsum_roots (f := d) (a := fun k => eli F.toDesc (pts[(a[k]?.getD 0).toNat]?.getD 0)) (n := kn) (fun i j hi hj e => ?_) (fun k hk => ?_) hi
    · have h1 := nodup_get ht (hin i hi) (hin j hj) (eli_inj (elB_iff.1 hp _ (hin i hi)) (elB_iff.1 hp _ (hin j hj)) e)
      have h2 := hr _ (mem_get (l := a) (by omega : i < a.length))
      have h3 := hr _ (mem_get (l := a) (by omega : j < a.length))
      have h4 : a[i]?.getD 0 = a[j]?.getD 0 := by omega
      rcases Nat.lt_trichotomy i j with h | h | h
      · exfalso
        have h5 := List.pairwise_iff_getElem.1 hd i j (by omega) (by omega) h
        rw [List.getElem?_eq_getElem (by omega), List.getElem?_eq_getElem (by omega), Option.getD_some, Option.getD_some] at h4
        exact h5 h4
      · exact h
      · exfalso
        have h5 := List.pairwise_iff_getElem.1 hd j i (by omega) (by omega) h
        rw [List.getElem?_eq_getElem (by omega), List.getElem?_eq_getElem (by omega), Option.getD_some, Option.getD_some] at h4
        exact h5 h4.symm
    · have h1 := hc k hk
      have h2 := hdj _ (hin k hk)
      dsimp only at h2
      rw [show (rsum kn fun i => c i * colM (elS kn (gM F.toDesc pts mul) pts.length).1 a i k) = rsum kn fun i => c i * (elS kn (gM F.toDesc pts mul) pts.length).1 i ((a[k]?.getD 0).toNat) from rfl, h2] at h1
      have h3 : rsum kn (fun i => d i * gM F.toDesc pts mul i ((a[k]?.getD 0).toNat)) = eli F.toDesc (mul[(a[k]?.getD 0).toNat]?.getD 0) * rsum kn (fun i => d i * pw (eli F.toDesc (pts[(a[k]?.getD 0).toNat]?.getD 0)) i) := by
        rw [← rsum_mul_left]
        exact rsum_congr fun i _ => by unfold gM; exact mul_lc _ _ _
      rw [h3] at h1
      have h4 := elB_iff.1 hm ((a[k]?.getD 0).toNat) (by have := hin k hk; omega)
      have h5 : mul[(a[k]?.getD 0).toNat]?.getD 0 ≠ 0 := fun e => h0 (e ▸ mem_get (by have := hin k hk; omega))
      exact (mul_eq_zero h1).resolve_left (eli_ne h4 h5)
  intro i hi
  have h6 := hRR.coef (v := fun j => rsum kn fun i => c i * (elS kn (gM F.toDesc pts mul) pts.length).1 i j) (c := c) (fun j _ => rfl) hi
  rw [← h6]
  rw [show (rsum kn fun i_1 => c i_1 * (elS kn (gM F.toDesc pts mul) pts.length).1 i_1 (pvF (elS kn (gM F.toDesc pts mul) pts.length).2 i)) = rsum kn fun t => d t * gM F.toDesc pts mul t (pvF (elS kn (gM F.toDesc pts mul) pts.length).2 i) from hdj _ (hRR.lt i hi)]
  exact rsum_eq_zero fun t ht => by rw [hd0 t ht, zero_mul]
/-- Full rank: the reduced rows are those of the unit matrix. -/
theorem elS_unit {F : FD} {n : Nat} {A : Nat → Nat → R F.toDesc} (h : Indep n n A) : rkS F n n A = n ∧ ∀ i j, i < n → j < n → (elS n A n).1 i j = if i = j then 1 else 0 := by
  have hr := elS_RR n n A
  have hk := elS_rank h
  rw [hk] at hr
  have hid := mono_id hr.lt hr.mono
  refine ⟨hk, fun i j hi hj => ?_⟩
  by_cases e : i = j
  · rw [if_pos e, ← e]
    have := hr.one i hi
    rw [hid i hi] at this; exact this
  · rw [if_neg e]
    have := hr.zero i j hi hj e
    rw [hid j hj] at this; exact this
theorem fnz_unit {F : FD} {n : Nat} {A : Nat → Nat → R F.toDesc} (h : Indep n n A) {i : Nat} (hi : i < n) : fnz (rowsL F.toDesc n (elS n A n).1 i) = i := by
  have hu := (elS_unit h).2
  refine fnz_eq _ i (by rw [rowsL, rowL_length]; omega) (fun j hj => ?_) (.inr ?_)
  · rw [rowsL, rowL_get _ _ (by omega), hu i j hi (by omega), if_neg (by omega)]; exact ci_zero
  · rw [rowsL, rowL_get _ _ hi, hu i i hi hi, if_pos rfl]
    intro e
    exact one_ne (ci_eq_zero.1 e)
theorem rest_unit {F : FD} {n : Nat} {A : Nat → Nat → R F.toDesc} (h : Indep n n A) (u : Nat → R F.toDesc) : all0 (rowL F.toDesc n (restF n (fun i => fnz (rowsL F.toDesc n (elS n A n).1 i)) (elS n A n).1 u)) = true := by
  have hu := (elS_unit h).2
  refine decide_eq_true fun x hx => ?_
  obtain ⟨j, hj, rfl⟩ := List.mem_map.1 hx
  have hj' : j < n := List.mem_range.1 hj
  rw [ci_eq_zero]
  unfold restF
  dsimp only
  rw [rsum_single (k := j) hj' fun i hi hne => by rw [hu i j hi hj', if_neg hne, mul_zero], hu j j hj' hj', if_pos rfl, mul_one, fnz_unit h hj', add_neg]
end Go.Proofs.Ytnbkmkeiophjoaa
