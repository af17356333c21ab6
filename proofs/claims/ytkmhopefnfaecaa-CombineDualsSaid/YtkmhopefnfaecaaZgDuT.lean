/- CombineDuals: what the functions answer, with no program in sight. CombineDuals: the end. -/
import Derived.Test.YtkmhopefnfaecaaZgAsA
import Derived.Test.YtkmhopefnfaecaaZgDuC
namespace Go.Proofs.Ytkmhopefnfaecaa
open Go.RowKit Cw

/-- The function of one code hands back this code, of a code at any addresses. -/
def OneC (fp : Nat) (Pa Ma Na : Int) (mla : List Int) (na : Nat) (rowsa : Nat → List Int) (P M N : Int) (ml : List Int) (n : Nat) (rows : Nat → List Int) : Prop :=
  ∀ (A R : Option Addr) (c k : Nat) W, Pre1 mla na rowsa A R W → Calls Try.prog fp #[.agg #[.int .i64 Pa, .int .i64 Ma, .slice A mla.length c, .int .i64 Na, .slice R na k]] W fun e w' => ∃ A3 c3 Al cl, e = .returned (.tuple #[.agg #[.int .i64 P, .int .i64 M, .slice A3 ml.length c3, .int .i64 N, .slice Al n cl], .int .i64 0]) ∧ InM w' W.heap.size A3 ml Al n rows ∧ Below W.heap.size W w'
/-- The same for a code and a number. -/
def IntC (fp : Nat) (Pa Ma Na : Int) (mla : List Int) (na : Nat) (rowsa : Nat → List Int) (x : Int) (P M N : Int) (ml : List Int) (n : Nat) (rows : Nat → List Int) : Prop :=
  ∀ (A R : Option Addr) (c k : Nat) W, Pre1 mla na rowsa A R W → Calls Try.prog fp #[.agg #[.int .i64 Pa, .int .i64 Ma, .slice A mla.length c, .int .i64 Na, .slice R na k], .int .i64 x] W fun e w' => ∃ A3 c3 Al cl, e = .returned (.tuple #[.agg #[.int .i64 P, .int .i64 M, .slice A3 ml.length c3, .int .i64 N, .slice Al n cl], .int .i64 0]) ∧ InM w' W.heap.size A3 ml Al n rows ∧ Below W.heap.size W w'
section
variable {Pa Ma Na : Int} {mla : List Int} {na : Nat} {rowsa : Nat → List Int} {Pb Mb Nb : Int} {mlb : List Int} {nb : Nat} {rowsb : Nat → List Int} {F : FD} {m1 m2 : Nat} {M1 M2 : Nat → Nat → R F.toDesc}
theorem plo_vc (va : VC Pa Ma Na mla na rowsa F m1 M1) (vb : VC Pb Mb Nb mlb nb rowsb F m1 M2) (hl : m1 + m1 ≤ 64) :
    ∃ (rows : Nat → List Int) (B : Nat → Nat → R F.toDesc), VC Pa Ma (m1 + m1 : Nat) mla (na + nb) rows F (m1 + m1) B ∧ SameSpan (na + nb) (na + nb) (m1 + m1) B (ploR na m1 M1 M2) ∧
      SumC 14 Pa Ma Na mla na rowsa Pb Mb Nb mlb nb rowsb Pa Ma (m1 + m1 : Nat) mla (na + nb) rows := by
  have hgood := va.good
  have h1 := va.m1; have h5 := va.le; have h6 := vb.le
  obtain ⟨hPa, hMa, hla, hna, hka⟩ := va.bounds
  obtain ⟨hPb, hMb, hlb, hnb, hkb⟩ := vb.bounds
  have eP := va.hP; have eM := va.hM; have eL := va.hl
  obtain ⟨p1, hR1⟩ := canl_RR va.can
  obtain ⟨p2, hR2⟩ := canl_RR vb.can
  have hI := plo_indep (RR.indep hR1) (RR.indep hR2)
  have hv := vc_res F hgood (na + nb) (m1 + m1) (ploR na m1 M1 M2) (by omega) hl
  have hsp := elS_span (na + nb) (m1 + m1) (ploR na m1 M1 M2)
  have hk : (elS (na + nb) (ploR na m1 M1 M2) (m1 + m1)).2.length = na + nb := rk_full hI
  rw [hk] at hsp
  rw [rk_full hI] at hv
  refine ⟨_, _, by rw [eP, eM, eL]; exact hv, hsp, fun Aa Ra ca ka Ab Rb cb kb W h => ?_⟩
  have hcode : Calls Try.prog 14 #[.agg #[.int .i64 Pa, .int .i64 Ma, .slice Aa mla.length ca, .int .i64 Na, .slice Ra na ka], .agg #[.int .i64 Pb, .int .i64 Mb, .slice Ab mlb.length cb, .int .i64 Nb, .slice Rb nb kb]] W (ResCode F (na + nb) (m1 + m1) (ploR na m1 M1 M2) W) := by
    refine cPlotkin_code Pa Ma Na mla na rowsa Aa Ra ca ka Pb Mb Nb mlb nb rowsb Ab Rb cb kb W hPa hMa hla hna hka h.1.1 h.1.2 hPb hMb hlb hnb hkb h.2.1 h.2.2 F m1 m1 M1 M2 va vb (twoE_vc va vb Aa Ra ca ka Ab Rb cb kb) rfl fun W2 Al cl g1 g2 => ?_
    subst eP eM eL
    exact gen_code F hgood _ m1 m1 _ Aa Al ca cl W2 g1 g2 (by omega) h1 hl
  unfold ResCode at hcode
  rw [rk_full hI, ← eP, ← eM, ← eL] at hcode
  exact hcode
theorem iv_vc (va : VC Pa Ma Na mla na rowsa F m1 M1) {d : Nat} (hd : 1 ≤ d) (hl : m1 * d ≤ 64) :
    ∃ (rows : Nat → List Int) (B : Nat → Nat → R F.toDesc), VC Pa Ma (m1 * d : Nat) mla (na * d) rows F (m1 * d) B ∧ SameSpan (na * d) (na * d) (m1 * d) B (ivP d M1) ∧
      IntC 13 Pa Ma Na mla na rowsa (d : Int) Pa Ma (m1 * d : Nat) mla (na * d) rows := by
  have hgood := va.good
  have h1 := va.m1; have h5 := va.le
  have hp := Nat.mul_pos h1 hd
  obtain ⟨hPa, hMa, hla, hna, hka⟩ := va.bounds
  have eP := va.hP; have eM := va.hM; have eL := va.hl
  obtain ⟨p1, hR1⟩ := canl_RR va.can
  have hI := iv_indep (s := d) (RR.indep hR1)
  have hv := vc_res F hgood (na * d) (m1 * d) (ivP d M1) hp hl
  have hsp := elS_span (na * d) (m1 * d) (ivP d M1)
  have hk : (elS (na * d) (ivP d M1) (m1 * d)).2.length = na * d := rk_full hI
  rw [hk] at hsp
  rw [rk_full hI] at hv
  refine ⟨_, _, by rw [eP, eM, eL]; exact hv, hsp, fun Aa Ra ca ka W h => ?_⟩
  have hcode : Calls Try.prog 13 #[.agg #[.int .i64 Pa, .int .i64 Ma, .slice Aa mla.length ca, .int .i64 Na, .slice Ra na ka], .int .i64 (d : Int)] W (ResCode F (na * d) (m1 * d) (ivP d M1) W) := by
    refine cInter_code Pa Ma Na mla na rowsa Aa Ra ca ka d W hPa hMa hla hna hka h.1 h.2 F m1 M1 va (vc_err va) hd (m1 * d) rfl hl fun W2 Al cl g1 g2 => ?_
    subst eP eM eL
    rw [Nat.mul_comm d na] at g2 ⊢
    exact gen_codeN F hgood _ _ _ Aa Al ca cl W2 g1 g2 (Nat.le_trans (Nat.mul_le_mul_right d h5) (by omega)) hp hl
  unfold ResCode at hcode
  rw [rk_full hI, ← eP, ← eM, ← eL] at hcode
  exact hcode.mono fun _ _ hr => resC_in hr
/-- The dual code. -/
theorem du_pack (va : VC Pa Ma Na mla na rowsa F m1 M1) : ∃ (rows : Nat → List Int) (B : Nat → Nat → R F.toDesc), VC Pa Ma (m1 : Nat) mla (m1 - na) rows F m1 B ∧ DualM (m1 - na) na m1 B M1 ∧
    OneC 10 Pa Ma Na mla na rowsa Pa Ma (m1 : Nat) mla (m1 - na) rows := by
  have eN := va.hN
  refine ⟨_, _, du_vc va, du_dual va, fun A Ar c k W h => ?_⟩
  rw [← eN]
  exact Dual12_vc va A Ar c k W h.1 h.2
/-- Sums: the dual of the sum is the sum of the duals. -/
theorem duals_sum (va : VC Pa Ma Na mla na rowsa F m1 M1) (vb : VC Pb Mb Nb mlb nb rowsb F m2 M2) (hl : m1 + m2 ≤ 64) :
    ∃ (ra rb rs rt : Nat → List Int) (DA DB : Nat → Nat → R F.toDesc),
      OneC 10 Pa Ma Na mla na rowsa Pa Ma (m1 : Nat) mla (m1 - na) ra ∧ OneC 10 Pb Mb Nb mlb nb rowsb Pb Mb (m2 : Nat) mlb (m2 - nb) rb ∧
      SumC 11 Pa Ma Na mla na rowsa Pb Mb Nb mlb nb rowsb Pa Ma (m1 + m2 : Nat) mla (na + nb) rs ∧
      SumC 11 Pa Ma (m1 : Nat) mla (m1 - na) ra Pb Mb (m2 : Nat) mlb (m2 - nb) rb Pa Ma (m1 + m2 : Nat) mla (m1 - na + (m2 - nb)) rt ∧
      OneC 10 Pa Ma (m1 + m2 : Nat) mla (na + nb) rs Pa Ma (m1 + m2 : Nat) mla (m1 - na + (m2 - nb)) rt ∧
      VC Pa Ma (m1 : Nat) mla (m1 - na) ra F m1 DA ∧ DualM (m1 - na) na m1 DA M1 ∧ VC Pb Mb (m2 : Nat) mlb (m2 - nb) rb F m2 DB ∧ DualM (m2 - nb) nb m2 DB M2 ∧ (∀ i, i < m1 - na + (m2 - nb) → (rt i).length ≤ 64) := by
  obtain ⟨ra, DA, vda, dda, cda⟩ := du_pack va
  obtain ⟨rb, DB, vdb, ddb, cdb⟩ := du_pack vb
  obtain ⟨rs, BS, vs, ss, cs⟩ := sum_vc va vb hl
  obtain ⟨rt, BT, vt, st, ct⟩ := sum_vc vda vdb hl
  obtain ⟨rd, BD, vd, dd, cd⟩ := du_pack vs
  have h1 := va.le; have h2 := vb.le
  have e : m1 + m2 - (na + nb) = m1 - na + (m2 - nb) := by omega
  rw [e] at vd dd cd
  have d1 : DualM (m1 - na + (m2 - nb)) (na + nb) (m1 + m2) BT BS := fun u => by
    rw [Orth.same ss u, ← dual_sum dda ddb u]
    exact same_iff st u
  have hs := dual_uniq dd d1
  obtain ⟨-, -, -, -, -, hrow⟩ := vc_same vd vt hs
  refine ⟨ra, rb, rs, rt, DA, DB, cda, cdb, cs, ct, fun A R c k W h => ?_, vda, dda, vdb, ddb, fun i hi => by rw [vt.hr i hi, rowsL_length]; exact hl⟩
  refine (cd A R c k W h).mono ?_
  rintro e w' ⟨A3, c3, Al, cl, h3, h4, h5⟩
  exact ⟨A3, c3, Al, cl, h3, ⟨h4.rd, h4.lo, rdmu_congr h4.rm hrow⟩, h5⟩
/-- Interleaved codes: the dual is the interleaved dual. -/
theorem duals_iv (va : VC Pa Ma Na mla na rowsa F m1 M1) {DA : Nat → Nat → R F.toDesc} {ra : Nat → List Int} (vda : VC Pa Ma (m1 : Nat) mla (m1 - na) ra F m1 DA) (dda : DualM (m1 - na) na m1 DA M1) {d : Nat} (hd : 1 ≤ d) (hl : m1 * d ≤ 64) :
    ∃ rc re : Nat → List Int,
      IntC 13 Pa Ma Na mla na rowsa (d : Int) Pa Ma (m1 * d : Nat) mla (na * d) rc ∧
      IntC 13 Pa Ma (m1 : Nat) mla (m1 - na) ra (d : Int) Pa Ma (m1 * d : Nat) mla ((m1 - na) * d) re ∧
      OneC 10 Pa Ma (m1 * d : Nat) mla (na * d) rc Pa Ma (m1 * d : Nat) mla ((m1 - na) * d) re ∧ (∀ i, i < (m1 - na) * d → (re i).length ≤ 64) := by
  obtain ⟨rc, BC, vc, sc, cc⟩ := iv_vc va hd hl
  obtain ⟨re, BE, ve, se, ce⟩ := iv_vc vda hd hl
  obtain ⟨rd, BD, vd, dd, cd⟩ := du_pack vc
  have h1 := va.le
  have e : m1 * d - na * d = (m1 - na) * d := (Nat.sub_mul _ _ _).symm
  rw [e] at vd dd cd
  have d1 : DualM ((m1 - na) * d) (na * d) (m1 * d) BE BC := fun u => by
    rw [Orth.same sc u, ← dual_iv dda u]
    exact same_iff se u
  have hs := dual_uniq dd d1
  obtain ⟨-, -, -, -, -, hrow⟩ := vc_same vd ve hs
  refine ⟨rc, re, cc, ce, fun A R c k W h => ?_, fun i hi => by rw [ve.hr i hi, rowsL_length]; exact hl⟩
  refine (cd A R c k W h).mono ?_
  rintro e w' ⟨A3, c3, Al, cl, h3, h4, h5⟩
  exact ⟨A3, c3, Al, cl, h3, ⟨h4.rd, h4.lo, rdmu_congr h4.rm hrow⟩, h5⟩
/-- Words (u, u + v): the dual's words. -/
theorem duals_plo (va : VC Pa Ma Na mla na rowsa F m1 M1) (vb : VC Pb Mb Nb mlb nb rowsb F m1 M2) (hl : m1 + m1 ≤ 64) {DA DB : Nat → Nat → R F.toDesc} (dda : DualM (m1 - na) na m1 DA M1) (ddb : DualM (m1 - nb) nb m1 DB M2) :
    ∃ (rp rd : Nat → List Int) (BD : Nat → Nat → R F.toDesc),
      SumC 14 Pa Ma Na mla na rowsa Pb Mb Nb mlb nb rowsb Pa Ma (m1 + m1 : Nat) mla (na + nb) rp ∧
      OneC 10 Pa Ma (m1 + m1 : Nat) mla (na + nb) rp Pa Ma (m1 + m1 : Nat) mla (m1 - na + (m1 - nb)) rd ∧
      VC Pa Ma (m1 + m1 : Nat) mla (m1 - na + (m1 - nb)) rd F (m1 + m1) BD ∧
      ∀ u v w : Nat → R F.toDesc, Span (m1 - na) m1 DA u → Span (m1 - nb) m1 DB v → (∀ j, j < m1 → w j + v j = u j) → (∀ j, j < m1 → w (m1 + j) = v j) → Span (m1 - na + (m1 - nb)) (m1 + m1) BD w := by
  obtain ⟨rp, BP, vp, sp, cp⟩ := plo_vc va vb hl
  obtain ⟨rd, BD, vd, dd, cd⟩ := du_pack vp
  have h1 := va.le; have h2 := vb.le
  have e : m1 + m1 - (na + nb) = m1 - na + (m1 - nb) := by omega
  rw [e] at vd dd cd
  have d2 : DualM (m1 - na + (m1 - nb)) (na + nb) (m1 + m1) BD (ploR na m1 M1 M2) := fun u => (dd u).trans (Orth.same sp u)
  exact ⟨rp, rd, BD, cp, cd, vd, fun u v w hu hv hw1 hw2 => dual_plo d2 ((dda u).1 hu) ((ddb v).1 hv) hw1 hw2⟩
end
end Go.Proofs.Ytkmhopefnfaecaa

namespace Go.Proofs.Ytkmhopefnfaecaa
open Go.RowKit Cw

theorem neg_field (F : FD) {Pa Ma : Int} {mla : List Int} (eP : Pa = F.p) (eM : Ma = F.m) (A : Option Addr) (c : Nat) (W : World) :
    Calls Try.prog 19 #[.agg #[.int .i64 Pa, .int .i64 Ma, .slice A mla.length c], .int .i64 1] W fun e w' => e = .returned (.int .i64 (ci (-(eli F.toDesc 1)))) ∧ Below W.heap.size W w' := by
  subst eP eM
  exact Neg_any F.toDesc 1 A mla.length c W
theorem addto_field (F : FD) {Pa Ma : Int} {mla : List Int} (eP : Pa = F.p) (eM : Ma = F.m) (eL : mla = modL F.toDesc) (m : Nat) (hm : m ≤ 64) (u v : Nat → R F.toDesc) (a : Int) (A A1 A2 : Option Addr) (c c1 c2 : Nat) (W : World) (hr : Rd W W.heap.size A mla) (hr1 : Rd W W.heap.size A1 (rowL F.toDesc m u)) (hr2 : Rd W W.heap.size A2 (rowL F.toDesc m v)) :
    Calls Try.prog 18 #[.agg #[.int .i64 Pa, .int .i64 Ma, .slice A mla.length c], .slice A1 m c1, .int .i64 a, .slice A2 m c2] W fun e w' => ∃ A3 c3, e = .returned (.slice A3 m c3) ∧ Rd w' w'.heap.size A3 (rowL F.toDesc m fun j => u j + eli F.toDesc a * v j) ∧ Below W.heap.size W w' := by
  subst eP eM eL
  rw [modL_length]
  refine (AddTo9_any F.toDesc m u v a A A1 A2 c c1 c2 W hr hr1 hr2 (by omega)).mono ?_
  unfold Gives
  rintro e w' ⟨g, rfl, -, hib, hb⟩
  rw [rowL_length]
  exact ⟨_, _, rfl, hib.rd, hb⟩
theorem join_rows (F : FD) (m N : Nat) (hN : N = m + m) (hm : m ≤ 64) (u v : Nat → R F.toDesc) (A1 A2 : Option Addr) (c1 c2 : Nat) (W : World) (hr1 : Rd W W.heap.size A1 (rowL F.toDesc m u)) (hr2 : Rd W W.heap.size A2 (rowL F.toDesc m v)) :
    Calls Try.prog 17 #[.slice A1 m c1, .slice A2 m c2] W fun e w' => ∃ A3 c3, e = .returned (.slice A3 N c3) ∧ Rd w' w'.heap.size A3 (rowL F.toDesc N (joinF m u v)) ∧ Below W.heap.size W w' := by
  have h := Join14_any (rowL F.toDesc m u) (rowL F.toDesc m v) A1 A2 c1 c2 W hr1 hr2 (by rw [rowL_length]; omega) (by rw [rowL_length]; omega)
  rw [rowL_length, rowL_length] at h
  have e : rowL F.toDesc m u ++ rowL F.toDesc m v = rowL F.toDesc N (joinF m u v) := by
    rw [hN]
    unfold rowL
    rw [lst_join]
    refine lst_congr fun j _ => ?_
    unfold joinF
    by_cases g : j < m
    · rw [if_pos g, if_pos g]
    · rw [if_neg g, if_neg g]
  rw [e] at h
  refine h.mono ?_
  unfold GivesA
  rintro e w' ⟨v', rfl, ho, hb⟩
  obtain ⟨A3, c3, rfl, -, hrd, -⟩ := ho.form
  rw [rowL_length]
  exact ⟨A3, c3, rfl, hrd, hb⟩
end Go.Proofs.Ytkmhopefnfaecaa
