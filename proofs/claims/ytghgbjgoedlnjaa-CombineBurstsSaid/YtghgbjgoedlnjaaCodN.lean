/- Sum, Plotkin, Juxtapose: the program and the reference hand back one result. -/
import Derived.Test.YtghgbjgoedlnjaaCodL
import Derived.Test.YtghgbjgoedlnjaaCodM
namespace Go.Proofs.Ytghgbjgoedlnjaa
open Go.RowKit Cw

/-- Two functions hand back one result, of codes that lie in memory. -/
def BothC (fp fr : Nat) (args : Array Value) (Pre : World → Prop) : Prop :=
  ∃ (P M N : Int) (ml : List Int) (n : Nat) (rows : Nat → List Int) (E : Int), ml.length ≤ maxLen ∧ n ≤ 1000000 ∧ (∀ i, i < n → (rows i).length ≤ 1000000) ∧
    ∀ W, Pre W → Calls Try.prog fp args W (ResC P M N ml n rows E W) ∧ Calls Try.prog fr args W (ResC P M N ml n rows E W)
/-- Two codes lie in memory. -/
def Pre2 (mla : List Int) (na : Nat) (rowsa : Nat → List Int) (Aa Ra : Option Addr) (mlb : List Int) (nb : Nat) (rowsb : Nat → List Int) (Ab Rb : Option Addr) (W : World) : Prop :=
  (Rd W W.heap.size Aa mla ∧ RdM W W.heap.size Ra na rowsa) ∧ Rd W W.heap.size Ab mlb ∧ RdM W W.heap.size Rb nb rowsb
theorem both_err {fp fr : Nat} {args : Array Value} {Pre : World → Prop} (E : Int) (h1 : ∀ W, Pre W → Calls Try.prog fp args W (ResErr E W)) (h2 : ∀ W, Pre W → Calls Try.prog fr args W (ResErr E W)) : BothC fp fr args Pre :=
  ⟨0, 0, 0, [], 0, fun _ => [], E, Nat.zero_le _, Nat.zero_le _, fun _ hi => absurd hi (Nat.not_lt_zero _), fun W h => ⟨h1 W h, h2 W h⟩⟩
theorem both_code {fp fr : Nat} {args : Array Value} {Pre : World → Prop} (F : FD) (n m : Nat) (M : Nat → Nat → R F.toDesc) (hn : n ≤ 1000) (hm : m ≤ 1000) (h1 : ∀ W, Pre W → Calls Try.prog fp args W (ResCode F n m M W)) (h2 : ∀ W, Pre W → Calls Try.prog fr args W (ResCode F n m M W)) : BothC fp fr args Pre :=
  ⟨F.p, F.m, m, modL F.toDesc, rkS F n m M, rowsL F.toDesc m (elS n M m).1, 0, by have := F.hlen; have := F.m8; rw [modL_length, F.hlen]; unfold maxLen; split <;> omega, Nat.le_trans (elS_le n M m).1 (by omega), fun i _ => by rw [rowsL_length]; omega, fun W h => ⟨h1 W h, h2 W h⟩⟩
theorem gen_code (F : FD) (hgood : Good F.p F.m (modL F.toDesc)) (n m1 m2 : Nat) (M : Nat → Nat → R F.toDesc) (A Ar : Option Addr) (c cr : Nat) (w : World) (hr : Rd w w.heap.size A (modL F.toDesc)) (hrm : RdM w w.heap.size Ar n (rowsL F.toDesc (m1 + m2) M)) (hn : n ≤ 256) (hm1 : 1 ≤ m1) (hm : m1 + m2 ≤ 64) :
    Calls Try.prog 53 #[.agg #[.int .i64 F.p, .int .i64 F.m, .slice A (modL F.toDesc).length c], .int .i64 ((m1 : Int) + (m2 : Int)), .slice Ar n cr] w (ResCode F n (m1 + m2) M w) := by
  have h := cGenerated_ok F hgood n (m1 + m2) M A Ar c cr w hr hrm hn (by omega) hm
  rw [modL_length]
  rw [show ((m1 : Int) + (m2 : Int)) = ((m1 + m2 : Nat) : Int) from by push_cast; rfl]
  exact h
theorem gen_big (F : FD) (n m1 m2 : Nat) (A Ar : Option Addr) (c cr : Nat) (w : World) (hm : 64 < m1 + m2) :
    Calls Try.prog 53 #[.agg #[.int .i64 F.p, .int .i64 F.m, .slice A (modL F.toDesc).length c], .int .i64 ((m1 : Int) + (m2 : Int)), .slice Ar n cr] w (ResErr 4 w) := by
  rw [show ((m1 : Int) + (m2 : Int)) = ((m1 + m2 : Nat) : Int) from by push_cast; rfl]
  exact cGenerated_big F.p F.m (m1 + m2) (modL F.toDesc) A Ar c n cr w hm
theorem make_code (F : FD) (n m : Nat) (N : Int) (hN : N = m) (M : Nat → Nat → R F.toDesc) (A Ar : Option Addr) (c cr : Nat) (w : World) (hr : Rd w w.heap.size A (modL F.toDesc)) (hrm : RdM w w.heap.size Ar n (rowsL F.toDesc m M)) (hn : n ≤ 1000) (hm : m ≤ 1000) :
    Calls Try.prog 34 #[.agg #[.int .i64 F.p, .int .i64 F.m, .slice A (modL F.toDesc).length c], .slice Ar n cr, .int .i64 N] w (ResM F.p F.m m (modL F.toDesc) (rkS F n m M) (rowsL F.toDesc m (elS n M m).1) w) := by
  subst hN
  rw [modL_length]
  refine (Make12_any F n m M A Ar c cr w hr hrm (by omega) (by omega)).mono ?_
  rintro e w' ⟨A3, c3, Al, cl, rfl, h1, h2, h3, h4⟩
  exact ⟨A3, c3, Al, cl, by rw [modL_length], h1, h2, h3, h4⟩
theorem twoE_zero {Pa Ma Na : Int} {mla : List Int} {na : Nat} {rowsa : Nat → List Int} {Aa Ra : Option Addr} {ca ka : Nat} {Pb Mb Nb : Int} {mlb : List Int} {nb : Nat} {rowsb : Nat → List Int} {Ab Rb : Option Addr} {cb kb : Nat} (h : twoE Pa Ma Na mla na rowsa Aa Ra ca ka Pb Mb Nb mlb nb rowsb Ab Rb cb kb = 0) :
    ∃ F : FD, ∃ m1 m2 : Nat, ∃ M1 M2 : Nat → Nat → R F.toDesc, VC Pa Ma Na mla na rowsa F m1 M1 ∧ VC Pb Mb Nb mlb nb rowsb F m2 M2 := by
  by_cases ea : cErr Pa Ma Na mla na rowsa = 0
  · by_cases eb : cErr Pb Mb Nb mlb nb rowsb = 0
    · cases hf : eqF Pa Ma mla Pb Mb mlb
      · rw [twoE_m ea eb hf] at h; cases h
      · obtain ⟨F, m1, M1, va⟩ := cErr_zero ea
        obtain ⟨F2, m2, M2, vb⟩ := cErr_zero eb
        obtain ⟨e1, e2, e3⟩ := eqF_iff.1 hf
        obtain ⟨M3, vb3⟩ := vb.to (F1 := F) (desc_eq vb.hP vb.hM vb.hl (e1.symm.trans va.hP) (e2.symm.trans va.hM) (e3.symm.trans va.hl))
        exact ⟨F, m1, m2, M1, M3, va, vb3⟩
    · rw [twoE_b ea eb] at h; exact absurd h eb
  · rw [twoE_a ea] at h; exact absurd h ea

theorem Sum_both (Pa Ma Na : Int) (mla : List Int) (na : Nat) (rowsa : Nat → List Int) (Aa Ra : Option Addr) (ca ka : Nat) (Pb Mb Nb : Int) (mlb : List Int) (nb : Nat) (rowsb : Nat → List Int) (Ab Rb : Option Addr) (cb kb : Nat) (hPa : I64 Pa) (hMa : I64 Ma) (hla : mla.length ≤ maxLen) (hna : na ≤ 64) (hka : ∀ i, i < na → (rowsa i).length ≤ 4200) (hPb : I64 Pb) (hMb : I64 Mb) (hlb : mlb.length ≤ maxLen) (hnb : nb ≤ 64) (hkb : ∀ i, i < nb → (rowsb i).length ≤ 4200) : BothC 29 30 #[.agg #[.int .i64 Pa, .int .i64 Ma, .slice Aa mla.length ca, .int .i64 Na, .slice Ra na ka], .agg #[.int .i64 Pb, .int .i64 Mb, .slice Ab mlb.length cb, .int .i64 Nb, .slice Rb nb kb]] (Pre2 mla na rowsa Aa Ra mlb nb rowsb Ab Rb) := by
  by_cases hE : twoE Pa Ma Na mla na rowsa Aa Ra ca ka Pb Mb Nb mlb nb rowsb Ab Rb cb kb = 0
  · obtain ⟨F, m1, m2, M1, M2, va, vb⟩ := twoE_zero hE
    have hgood := va.good
    have h1 := va.m1; have h2 := va.m64; have h3 := vb.m1; have h4 := vb.m64; have h5 := va.le; have h6 := vb.le
    have eNa := va.hN; have eNb := vb.hN
    have eP := va.hP; have eM := va.hM; have eL := va.hl
    by_cases hl : m1 + m2 ≤ 64
    · refine both_code F (na + nb) (m1 + m2) (sumR na m1 M1 M2) (by omega) (by omega) (fun W h => ?_) (fun W h => ?_)
      · refine cSum_code Pa Ma Na mla na rowsa Aa Ra ca ka Pb Mb Nb mlb nb rowsb Ab Rb cb kb W hPa hMa hla hna hka h.1.1 h.1.2 hPb hMb hlb hnb hkb h.2.1 h.2.2 F m1 m2 M1 M2 va vb hE fun W2 Al cl g1 g2 => ?_
        subst eP eM eL
        exact gen_code F hgood _ m1 m2 _ Aa Al ca cl W2 g1 g2 (by omega) h1 hl
      · refine rSum_code Pa Ma Na mla na rowsa Aa Ra ca ka Pb Mb Nb mlb nb rowsb Ab Rb cb kb W hPa hMa hla hna hka h.1.1 h.1.2 hPb hMb hlb hnb hkb h.2.1 h.2.2 F m1 m2 M1 M2 va vb hE hl fun W2 Al cl g1 g2 => ?_
        subst eP eM eL
        exact make_code F _ (m1 + m2) _ (by push_cast; rfl) _ Aa Al ca cl W2 g1 g2 (by omega) (by omega)
    · refine both_err 4 (fun W h => ?_) (fun W h => ?_)
      · refine cSum_code Pa Ma Na mla na rowsa Aa Ra ca ka Pb Mb Nb mlb nb rowsb Ab Rb cb kb W hPa hMa hla hna hka h.1.1 h.1.2 hPb hMb hlb hnb hkb h.2.1 h.2.2 F m1 m2 M1 M2 va vb hE fun W2 Al cl g1 g2 => ?_
        subst eP eM eL
        exact gen_big F _ m1 m2 Aa Al ca cl W2 (by omega)
      · exact rSum_len Pa Ma Na mla na rowsa Aa Ra ca ka Pb Mb Nb mlb nb rowsb Ab Rb cb kb W hPa hMa hla hna hka h.1.1 h.1.2 hPb hMb hlb hnb hkb h.2.1 h.2.2 hE ⟨by omega, by omega⟩ ⟨by omega, by omega⟩ (by omega)
  · exact both_err _ (fun W h => cSum_err Pa Ma Na mla na rowsa Aa Ra ca ka Pb Mb Nb mlb nb rowsb Ab Rb cb kb W hPa hMa hla hna hka h.1.1 h.1.2 hPb hMb hlb hnb hkb h.2.1 h.2.2 hE) (fun W h => rSum_err Pa Ma Na mla na rowsa Aa Ra ca ka Pb Mb Nb mlb nb rowsb Ab Rb cb kb W hPa hMa hla hna hka h.1.1 h.1.2 hPb hMb hlb hnb hkb h.2.1 h.2.2 hE)

theorem Plotkin_both (Pa Ma Na : Int) (mla : List Int) (na : Nat) (rowsa : Nat → List Int) (Aa Ra : Option Addr) (ca ka : Nat) (Pb Mb Nb : Int) (mlb : List Int) (nb : Nat) (rowsb : Nat → List Int) (Ab Rb : Option Addr) (cb kb : Nat) (hPa : I64 Pa) (hMa : I64 Ma) (hla : mla.length ≤ maxLen) (hna : na ≤ 64) (hka : ∀ i, i < na → (rowsa i).length ≤ 4200) (hPb : I64 Pb) (hMb : I64 Mb) (hlb : mlb.length ≤ maxLen) (hnb : nb ≤ 64) (hkb : ∀ i, i < nb → (rowsb i).length ≤ 4200) : BothC 31 32 #[.agg #[.int .i64 Pa, .int .i64 Ma, .slice Aa mla.length ca, .int .i64 Na, .slice Ra na ka], .agg #[.int .i64 Pb, .int .i64 Mb, .slice Ab mlb.length cb, .int .i64 Nb, .slice Rb nb kb]] (Pre2 mla na rowsa Aa Ra mlb nb rowsb Ab Rb) := by
  by_cases hE : twoE Pa Ma Na mla na rowsa Aa Ra ca ka Pb Mb Nb mlb nb rowsb Ab Rb cb kb = 0
  · obtain ⟨F, m1, m2, M1, M2, va, vb⟩ := twoE_zero hE
    have hgood := va.good
    have h1 := va.m1; have h2 := va.m64; have h3 := vb.m1; have h4 := vb.m64; have h5 := va.le; have h6 := vb.le
    have eNa := va.hN; have eNb := vb.hN
    by_cases hne : Na = Nb
    · have hmm : m1 = m2 := by omega
      have eP := va.hP; have eM := va.hM; have eL := va.hl
      by_cases hl : m1 + m2 ≤ 64
      · refine both_code F (na + nb) (m1 + m2) (ploR na m1 M1 M2) (by omega) (by omega) (fun W h => ?_) (fun W h => ?_)
        · refine cPlotkin_code Pa Ma Na mla na rowsa Aa Ra ca ka Pb Mb Nb mlb nb rowsb Ab Rb cb kb W hPa hMa hla hna hka h.1.1 h.1.2 hPb hMb hlb hnb hkb h.2.1 h.2.2 F m1 m2 M1 M2 va vb hE hmm fun W2 Al cl g1 g2 => ?_
          subst eP eM eL
          exact gen_code F hgood _ m1 m2 _ Aa Al ca cl W2 g1 g2 (by omega) h1 hl
        · refine rPlotkin_code Pa Ma Na mla na rowsa Aa Ra ca ka Pb Mb Nb mlb nb rowsb Ab Rb cb kb W hPa hMa hla hna hka h.1.1 h.1.2 hPb hMb hlb hnb hkb h.2.1 h.2.2 F m1 m2 M1 M2 va vb hE hmm hl fun W2 Al cl g1 g2 => ?_
          subst eP eM eL
          exact make_code F _ (m1 + m2) _ (by push_cast; rfl) _ Aa Al ca cl W2 g1 g2 (by omega) (by omega)
      · refine both_err 4 (fun W h => ?_) (fun W h => ?_)
        · refine cPlotkin_code Pa Ma Na mla na rowsa Aa Ra ca ka Pb Mb Nb mlb nb rowsb Ab Rb cb kb W hPa hMa hla hna hka h.1.1 h.1.2 hPb hMb hlb hnb hkb h.2.1 h.2.2 F m1 m2 M1 M2 va vb hE hmm fun W2 Al cl g1 g2 => ?_
          subst eP eM eL
          exact gen_big F _ m1 m2 Aa Al ca cl W2 (by omega)
        · exact rPlotkin_len Pa Ma Na mla na rowsa Aa Ra ca ka Pb Mb Nb mlb nb rowsb Ab Rb cb kb W hPa hMa hla hna hka h.1.1 h.1.2 hPb hMb hlb hnb hkb h.2.1 h.2.2 hE ⟨by omega, by omega⟩ ⟨by omega, by omega⟩ hne (by omega)
    · exact both_err 10 (fun W h => cPlotkin_m Pa Ma Na mla na rowsa Aa Ra ca ka Pb Mb Nb mlb nb rowsb Ab Rb cb kb W hPa hMa hla hna hka h.1.1 h.1.2 hPb hMb hlb hnb hkb h.2.1 h.2.2 hE hne) (fun W h => rPlotkin_m Pa Ma Na mla na rowsa Aa Ra ca ka Pb Mb Nb mlb nb rowsb Ab Rb cb kb W hPa hMa hla hna hka h.1.1 h.1.2 hPb hMb hlb hnb hkb h.2.1 h.2.2 hE hne)
  · exact both_err _ (fun W h => cPlotkin_err Pa Ma Na mla na rowsa Aa Ra ca ka Pb Mb Nb mlb nb rowsb Ab Rb cb kb W hPa hMa hla hna hka h.1.1 h.1.2 hPb hMb hlb hnb hkb h.2.1 h.2.2 hE) (fun W h => rPlotkin_err Pa Ma Na mla na rowsa Aa Ra ca ka Pb Mb Nb mlb nb rowsb Ab Rb cb kb W hPa hMa hla hna hka h.1.1 h.1.2 hPb hMb hlb hnb hkb h.2.1 h.2.2 hE)

theorem Juxtapose_both (Pa Ma Na : Int) (mla : List Int) (na : Nat) (rowsa : Nat → List Int) (Aa Ra : Option Addr) (ca ka : Nat) (Pb Mb Nb : Int) (mlb : List Int) (nb : Nat) (rowsb : Nat → List Int) (Ab Rb : Option Addr) (cb kb : Nat) (hPa : I64 Pa) (hMa : I64 Ma) (hla : mla.length ≤ maxLen) (hna : na ≤ 64) (hka : ∀ i, i < na → (rowsa i).length ≤ 4200) (hPb : I64 Pb) (hMb : I64 Mb) (hlb : mlb.length ≤ maxLen) (hnb : nb ≤ 64) (hkb : ∀ i, i < nb → (rowsb i).length ≤ 4200) : BothC 20 21 #[.agg #[.int .i64 Pa, .int .i64 Ma, .slice Aa mla.length ca, .int .i64 Na, .slice Ra na ka], .agg #[.int .i64 Pb, .int .i64 Mb, .slice Ab mlb.length cb, .int .i64 Nb, .slice Rb nb kb]] (Pre2 mla na rowsa Aa Ra mlb nb rowsb Ab Rb) := by
  by_cases hE : twoE Pa Ma Na mla na rowsa Aa Ra ca ka Pb Mb Nb mlb nb rowsb Ab Rb cb kb = 0
  · obtain ⟨F, m1, m2, M1, M2, va, vb⟩ := twoE_zero hE
    have hgood := va.good
    have h1 := va.m1; have h2 := va.m64; have h3 := vb.m1; have h4 := vb.m64; have h5 := va.le; have h6 := vb.le
    have eNa := va.hN; have eNb := vb.hN
    by_cases hne : na = nb
    · have hmm : na = nb := hne
      have eP := va.hP; have eM := va.hM; have eL := va.hl
      by_cases hl : m1 + m2 ≤ 64
      · refine both_code F (na) (m1 + m2) (juxR m1 M1 M2) (by omega) (by omega) (fun W h => ?_) (fun W h => ?_)
        · refine cJuxtapose_code Pa Ma Na mla na rowsa Aa Ra ca ka Pb Mb Nb mlb nb rowsb Ab Rb cb kb W hPa hMa hla hna hka h.1.1 h.1.2 hPb hMb hlb hnb hkb h.2.1 h.2.2 F m1 m2 M1 M2 va vb hE hmm fun W2 Al cl g1 g2 => ?_
          subst eP eM eL
          exact gen_code F hgood _ m1 m2 _ Aa Al ca cl W2 g1 g2 (by omega) h1 hl
        · refine rJuxtapose_code Pa Ma Na mla na rowsa Aa Ra ca ka Pb Mb Nb mlb nb rowsb Ab Rb cb kb W hPa hMa hla hna hka h.1.1 h.1.2 hPb hMb hlb hnb hkb h.2.1 h.2.2 F m1 m2 M1 M2 va vb hE hmm hl fun W2 Al cl g1 g2 => ?_
          subst eP eM eL
          exact make_code F _ (m1 + m2) _ (by push_cast; rfl) _ Aa Al ca cl W2 g1 g2 (by omega) (by omega)
      · refine both_err 4 (fun W h => ?_) (fun W h => ?_)
        · refine cJuxtapose_code Pa Ma Na mla na rowsa Aa Ra ca ka Pb Mb Nb mlb nb rowsb Ab Rb cb kb W hPa hMa hla hna hka h.1.1 h.1.2 hPb hMb hlb hnb hkb h.2.1 h.2.2 F m1 m2 M1 M2 va vb hE hmm fun W2 Al cl g1 g2 => ?_
          subst eP eM eL
          exact gen_big F _ m1 m2 Aa Al ca cl W2 (by omega)
        · exact rJuxtapose_len Pa Ma Na mla na rowsa Aa Ra ca ka Pb Mb Nb mlb nb rowsb Ab Rb cb kb W hPa hMa hla hna hka h.1.1 h.1.2 hPb hMb hlb hnb hkb h.2.1 h.2.2 hE ⟨by omega, by omega⟩ ⟨by omega, by omega⟩ hne (by omega)
    · exact both_err 10 (fun W h => cJuxtapose_m Pa Ma Na mla na rowsa Aa Ra ca ka Pb Mb Nb mlb nb rowsb Ab Rb cb kb W hPa hMa hla hna hka h.1.1 h.1.2 hPb hMb hlb hnb hkb h.2.1 h.2.2 hE hne) (fun W h => rJuxtapose_m Pa Ma Na mla na rowsa Aa Ra ca ka Pb Mb Nb mlb nb rowsb Ab Rb cb kb W hPa hMa hla hna hka h.1.1 h.1.2 hPb hMb hlb hnb hkb h.2.1 h.2.2 hE hne)
  · exact both_err _ (fun W h => cJuxtapose_err Pa Ma Na mla na rowsa Aa Ra ca ka Pb Mb Nb mlb nb rowsb Ab Rb cb kb W hPa hMa hla hna hka h.1.1 h.1.2 hPb hMb hlb hnb hkb h.2.1 h.2.2 hE) (fun W h => rJuxtapose_err Pa Ma Na mla na rowsa Aa Ra ca ka Pb Mb Nb mlb nb rowsb Ab Rb cb kb W hPa hMa hla hna hka h.1.1 h.1.2 hPb hMb hlb hnb hkb h.2.1 h.2.2 hE)

end Go.Proofs.Ytghgbjgoedlnjaa
