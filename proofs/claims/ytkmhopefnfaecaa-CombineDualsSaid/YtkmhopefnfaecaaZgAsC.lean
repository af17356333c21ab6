/- Sums and products of valid codes, at any addresses; the codes of CombineAssociates. CombineAssociates: what the functions answer, with no program in sight. -/
import Derived.Test.YtkmhopefnfaecaaZgAsA
namespace Go.Proofs.Ytkmhopefnfaecaa
open Go.RowKit Cw

section
variable {Pa Ma Na : Int} {mla : List Int} {na : Nat} {rowsa : Nat → List Int} {Pb Mb Nb : Int} {mlb : List Int} {nb : Nat} {rowsb : Nat → List Int} {F : FD} {m1 m2 : Nat} {M1 M2 : Nat → Nat → R F.toDesc}
theorem twoE_vc (va : VC Pa Ma Na mla na rowsa F m1 M1) (vb : VC Pb Mb Nb mlb nb rowsb F m2 M2) (Aa Ra : Option Addr) (ca ka : Nat) (Ab Rb : Option Addr) (cb kb : Nat) : twoE Pa Ma Na mla na rowsa Aa Ra ca ka Pb Mb Nb mlb nb rowsb Ab Rb cb kb = 0 :=
  twoE_ok (vc_err va) (vc_err vb) (eqF_iff.2 ⟨va.hP.trans vb.hP.symm, va.hM.trans vb.hM.symm, va.hl.trans vb.hl.symm⟩)
theorem VC.bounds (va : VC Pa Ma Na mla na rowsa F m1 M1) : I64 Pa ∧ I64 Ma ∧ mla.length ≤ maxLen ∧ na ≤ 64 ∧ ∀ i, i < na → (rowsa i).length ≤ 4200 := by
  have h1 := va.le; have h2 := va.m64
  exact ⟨by rw [va.hP]; exact (fd_i64 F).1, by rw [va.hM]; exact (fd_i64 F).2, by rw [va.hl]; exact fd_len F, by omega, fun i hi => by rw [va.hr i hi, rowsL_length]; omega⟩
theorem sum_vc (va : VC Pa Ma Na mla na rowsa F m1 M1) (vb : VC Pb Mb Nb mlb nb rowsb F m2 M2) (hl : m1 + m2 ≤ 64) :
    ∃ (rows : Nat → List Int) (B : Nat → Nat → R F.toDesc), VC Pa Ma (m1 + m2 : Nat) mla (na + nb) rows F (m1 + m2) B ∧ SameSpan (na + nb) (na + nb) (m1 + m2) B (sumR na m1 M1 M2) ∧
      ∀ (Aa Ra : Option Addr) (ca ka : Nat) (Ab Rb : Option Addr) (cb kb : Nat) W, Pre2 mla na rowsa Aa Ra mlb nb rowsb Ab Rb W → Calls Try.prog 11 #[.agg #[.int .i64 Pa, .int .i64 Ma, .slice Aa mla.length ca, .int .i64 Na, .slice Ra na ka], .agg #[.int .i64 Pb, .int .i64 Mb, .slice Ab mlb.length cb, .int .i64 Nb, .slice Rb nb kb]] W (ResC Pa Ma (m1 + m2 : Nat) mla (na + nb) rows 0 W) := by
  have hgood := va.good
  have h1 := va.m1; have h3 := vb.m1; have h5 := va.le; have h6 := vb.le
  obtain ⟨hPa, hMa, hla, hna, hka⟩ := va.bounds
  obtain ⟨hPb, hMb, hlb, hnb, hkb⟩ := vb.bounds
  have eP := va.hP; have eM := va.hM; have eL := va.hl
  obtain ⟨p1, hR1⟩ := canl_RR va.can
  obtain ⟨p2, hR2⟩ := canl_RR vb.can
  have hI := sum_indep (RR.indep hR1) (RR.indep hR2)
  have hv := vc_res F hgood (na + nb) (m1 + m2) (sumR na m1 M1 M2) (by omega) hl
  have hsp := elS_span (na + nb) (m1 + m2) (sumR na m1 M1 M2)
  have hk : (elS (na + nb) (sumR na m1 M1 M2) (m1 + m2)).2.length = na + nb := rk_full hI
  rw [hk] at hsp
  rw [rk_full hI] at hv
  refine ⟨_, _, by rw [eP, eM, eL]; exact hv, hsp, fun Aa Ra ca ka Ab Rb cb kb W h => ?_⟩
  have hcode : Calls Try.prog 11 #[.agg #[.int .i64 Pa, .int .i64 Ma, .slice Aa mla.length ca, .int .i64 Na, .slice Ra na ka], .agg #[.int .i64 Pb, .int .i64 Mb, .slice Ab mlb.length cb, .int .i64 Nb, .slice Rb nb kb]] W (ResCode F (na + nb) (m1 + m2) (sumR na m1 M1 M2) W) := by
    refine cSum_code Pa Ma Na mla na rowsa Aa Ra ca ka Pb Mb Nb mlb nb rowsb Ab Rb cb kb W hPa hMa hla hna hka h.1.1 h.1.2 hPb hMb hlb hnb hkb h.2.1 h.2.2 F m1 m2 M1 M2 va vb (twoE_vc va vb Aa Ra ca ka Ab Rb cb kb) fun W2 Al cl g1 g2 => ?_
    subst eP eM eL
    exact gen_code F hgood _ m1 m2 _ Aa Al ca cl W2 g1 g2 (by omega) h1 hl
  unfold ResCode at hcode
  rw [rk_full hI, ← eP, ← eM, ← eL] at hcode
  exact hcode
/-- Two valid codes with one span have the same rows. -/
theorem vc_same {P M N P' M' N' : Int} {ml ml' : List Int} {n n' : Nat} {rows rows' : Nat → List Int} {m : Nat} {A B : Nat → Nat → R F.toDesc} (va : VC P M N ml n rows F m A) (vb : VC P' M' N' ml' n' rows' F m B) (h : SameSpan n n' m A B) :
    P = P' ∧ M = M' ∧ N = N' ∧ ml = ml' ∧ n = n' ∧ ∀ i, i < n → rows i = rows' i := by
  obtain ⟨u1, u2⟩ := elS_uniq h
  have ha := va.can; have hb := vb.can
  have hn1 : (elS n A m).2.length = n := ha.1
  have hn2 : (elS n' B m).2.length = n' := hb.1
  have hn : n = n' := by omega
  refine ⟨va.hP.trans vb.hP.symm, va.hM.trans vb.hM.symm, va.hN.trans vb.hN.symm, va.hl.trans vb.hl.symm, hn, fun i hi => ?_⟩
  rw [va.hr i hi, vb.hr i (by omega), ← ha.2 i hi, ← hb.2 i (by omega)]
  unfold rowsL rowL
  exact lst_congr fun j hj => congrArg ci ((u2 i (by omega)).2 j hj)
end
end Go.Proofs.Ytkmhopefnfaecaa

namespace Go.Proofs.Ytkmhopefnfaecaa
open Go.RowKit Cw

/-- The function hands back this code, of codes at any addresses. -/
def SumC (fp : Nat) (Pa Ma Na : Int) (mla : List Int) (na : Nat) (rowsa : Nat → List Int) (Pb Mb Nb : Int) (mlb : List Int) (nb : Nat) (rowsb : Nat → List Int) (P M N : Int) (ml : List Int) (n : Nat) (rows : Nat → List Int) : Prop :=
  ∀ (Aa Ra : Option Addr) (ca ka : Nat) (Ab Rb : Option Addr) (cb kb : Nat) W, Pre2 mla na rowsa Aa Ra mlb nb rowsb Ab Rb W → Calls Try.prog fp #[.agg #[.int .i64 Pa, .int .i64 Ma, .slice Aa mla.length ca, .int .i64 Na, .slice Ra na ka], .agg #[.int .i64 Pb, .int .i64 Mb, .slice Ab mlb.length cb, .int .i64 Nb, .slice Rb nb kb]] W (ResC P M N ml n rows 0 W)
theorem rdmu_congr {w : World} {L B n : Nat} {A : Option Addr} {rows rows' : Nat → List Int} (h : RdMU w L B A n rows) (he : ∀ i, i < n → rows i = rows' i) : RdMU w L B A n rows' := fun hn => by
  obtain ⟨b, off, e, h1, h2, h3⟩ := h hn
  refine ⟨b, off, e, h1, h2, fun i hi => ?_⟩
  have h4 := h3 i hi
  rw [he i hi] at h4
  exact h4
theorem ResC.congr {P M N P' M' N' E : Int} {ml ml' : List Int} {n n' : Nat} {rows rows' : Nat → List Int} (h : P = P' ∧ M = M' ∧ N = N' ∧ ml = ml' ∧ n = n' ∧ ∀ i, i < n → rows i = rows' i) {w : World} {e : Ending} {w' : World} (hr : ResC P M N ml n rows E w e w') : ResC P' M' N' ml' n' rows' E w e w' := by
  obtain ⟨rfl, rfl, rfl, rfl, rfl, h⟩ := h
  obtain ⟨A, c, Al, cl, rfl, k1, k2, k3, k4⟩ := hr
  exact ⟨A, c, Al, cl, rfl, k1, k2, rdmu_congr k3 h, k4⟩
section
variable {Pa Ma Na : Int} {mla : List Int} {na : Nat} {rowsa : Nat → List Int} {Pb Mb Nb : Int} {mlb : List Int} {nb : Nat} {rowsb : Nat → List Int} {Pd Md Nd : Int} {mld : List Int} {nd : Nat} {rowsd : Nat → List Int} {F : FD} {m1 m2 m3 : Nat} {M1 M2 M3 : Nat → Nat → R F.toDesc}
end
end Go.Proofs.Ytkmhopefnfaecaa
