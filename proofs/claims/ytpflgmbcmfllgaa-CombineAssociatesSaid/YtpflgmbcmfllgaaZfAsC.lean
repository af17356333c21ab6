/- CombineAssociates: what the functions answer, with no program in sight. -/
import Derived.Test.YtpflgmbcmfllgaaZfAsB
namespace Go.Proofs.Ytpflgmbcmfllgaa
open Go.RowKit Cw

/-- The function hands back this code, of codes at any addresses. -/
def SumC (fp : Nat) (Pa Ma Na : Int) (mla : List Int) (na : Nat) (rowsa : Nat → List Int) (Pb Mb Nb : Int) (mlb : List Int) (nb : Nat) (rowsb : Nat → List Int) (P M N : Int) (ml : List Int) (n : Nat) (rows : Nat → List Int) : Prop :=
  ∀ (Aa Ra : Option Addr) (ca ka : Nat) (Ab Rb : Option Addr) (cb kb : Nat) W, Pre2 mla na rowsa Aa Ra mlb nb rowsb Ab Rb W → Calls Try.prog fp #[.agg #[.int .i64 Pa, .int .i64 Ma, .slice Aa mla.length ca, .int .i64 Na, .slice Ra na ka], .agg #[.int .i64 Pb, .int .i64 Mb, .slice Ab mlb.length cb, .int .i64 Nb, .slice Rb nb kb]] W (ResC P M N ml n rows 0 W)
theorem rdmu_congr {w : World} {L B n : Nat} {A : Option Addr} {rows rows' : Nat → List Int} (h : RdMU w L B A n rows) (he : ∀ i, i < n → rows i = rows' i) : RdMU w L B A n rows' := fun hn => by
  obtain ⟨b, off, e, h1, h2, h3⟩ := h hn
  refine ⟨b, off, e, h1, h2, fun i hi => ?_⟩
  have h4 := h3 i hi
  rw [he i hi] at h4
  exact h4
theorem ResC.congr {P M N P' M' N' E : Int} {ml ml' : List Int} {n n' : Nat} {rows rows' : Nat → List Int} (h : P = P' ∧ M = M' ∧ N = N' ∧ ml = ml' ∧ n = n' ∧ ∀ i, i < n → rows i = rows' i) {w : World} {e : Ending} {w' : World} (hr : ResC P M N ml n rows E w e w') : ResC P' M' N' ml' n' rows' E w e w' := by
  obtain ⟨rfl, rfl, rfl, rfl, rfl, h⟩ := h
  obtain ⟨A, c, Al, cl, rfl, k1, k2, k3, k4⟩ := hr
  exact ⟨A, c, Al, cl, rfl, k1, k2, rdmu_congr k3 h, k4⟩
section
variable {Pa Ma Na : Int} {mla : List Int} {na : Nat} {rowsa : Nat → List Int} {Pb Mb Nb : Int} {mlb : List Int} {nb : Nat} {rowsb : Nat → List Int} {Pd Md Nd : Int} {mld : List Int} {nd : Nat} {rowsd : Nat → List Int} {F : FD} {m1 m2 m3 : Nat} {M1 M2 M3 : Nat → Nat → R F.toDesc}
theorem sums_pack (va : VC Pa Ma Na mla na rowsa F m1 M1) (vb : VC Pb Mb Nb mlb nb rowsb F m2 M2) (vd : VC Pd Md Nd mld nd rowsd F m3 M3) (hl : m1 + m2 + m3 ≤ 64) :
    ∃ r1 r2 r3 : Nat → List Int,
      SumC 15 Pa Ma Na mla na rowsa Pb Mb Nb mlb nb rowsb Pa Ma (m1 + m2 : Nat) mla (na + nb) r1 ∧
      SumC 15 Pa Ma (m1 + m2 : Nat) mla (na + nb) r1 Pd Md Nd mld nd rowsd Pa Ma (m1 + m2 + m3 : Nat) mla (na + nb + nd) r2 ∧
      SumC 15 Pb Mb Nb mlb nb rowsb Pd Md Nd mld nd rowsd Pb Mb (m2 + m3 : Nat) mlb (nb + nd) r3 ∧
      SumC 15 Pa Ma Na mla na rowsa Pb Mb (m2 + m3 : Nat) mlb (nb + nd) r3 Pa Ma (m1 + m2 + m3 : Nat) mla (na + nb + nd) r2 ∧ (∀ i, i < na + nb + nd → (r2 i).length ≤ 64) := by
  obtain ⟨r1, B1, v1, s1, c1⟩ := sum_vc va vb (by omega)
  obtain ⟨r2, B2, v2, s2, c2⟩ := sum_vc v1 vd (by omega)
  obtain ⟨r3, B3, v3, s3, c3⟩ := sum_vc vb vd (by omega)
  obtain ⟨r4, B4, v4, s4, c4⟩ := sum_vc va v3 (by omega)
  refine ⟨r1, r2, r3, c1, c2, c3, fun Aa Ra ca ka Ab Rb cb kb W h => (c4 Aa Ra ca ka Ab Rb cb kb W h).mono fun e w' hr => ResC.congr ?_ hr, fun i hi => by rw [v2.hr i hi, rowsL_length]; omega⟩
  have e : m1 + (m2 + m3) = m1 + m2 + m3 := by omega
  rw [e] at v4 s4
  have hs : SameSpan (na + (nb + nd)) (na + nb + nd) (m1 + m2 + m3) B4 B2 := by
    refine (s4.trans ?_).trans s2.symm
    exact (sum_assoc s1 s3).symm
  obtain ⟨g1, g2, g3, g4, g5, g6⟩ := vc_same v4 v2 hs
  exact ⟨g1, g2, by rw [e], g4, g5, g6⟩
theorem prods_pack (va : VC Pa Ma Na mla na rowsa F m1 M1) (vb : VC Pb Mb Nb mlb nb rowsb F m2 M2) (vd : VC Pd Md Nd mld nd rowsd F m3 M3) (hl : m1 * m2 * m3 ≤ 64) :
    ∃ (r1 r2 r3 r5 : Nat → List Int) (B1 B5 : Nat → Nat → R F.toDesc),
      SumC 17 Pa Ma Na mla na rowsa Pb Mb Nb mlb nb rowsb Pa Ma (m1 * m2 : Nat) mla (na * nb) r1 ∧
      SumC 17 Pa Ma (m1 * m2 : Nat) mla (na * nb) r1 Pd Md Nd mld nd rowsd Pa Ma (m1 * m2 * m3 : Nat) mla (na * nb * nd) r2 ∧
      SumC 17 Pb Mb Nb mlb nb rowsb Pd Md Nd mld nd rowsd Pb Mb (m2 * m3 : Nat) mlb (nb * nd) r3 ∧
      SumC 17 Pa Ma Na mla na rowsa Pb Mb (m2 * m3 : Nat) mlb (nb * nd) r3 Pa Ma (m1 * m2 * m3 : Nat) mla (na * nb * nd) r2 ∧ (∀ i, i < na * nb * nd → (r2 i).length ≤ 64) ∧
      SumC 17 Pb Mb Nb mlb nb rowsb Pa Ma Na mla na rowsa Pb Mb (m1 * m2 : Nat) mlb (na * nb) r5 ∧
      VC Pa Ma (m1 * m2 : Nat) mla (na * nb) r1 F (m1 * m2) B1 ∧ (∀ i, i < na * nb → r5 i = rowsL F.toDesc (m1 * m2) B5 i) ∧ SameSpan (na * nb) (na * nb) (m1 * m2) (fun i => trW m1 m2 (B5 i)) B1 := by
  have h1 := va.m1; have h2 := vb.m1; have h3 := vd.m1
  have hl1 : m1 * m2 ≤ 64 := Nat.le_trans (Nat.le_mul_of_pos_right _ h3) hl
  have hl3 : m1 * (m2 * m3) ≤ 64 := by rw [← Nat.mul_assoc]; exact hl
  have hl2 : m2 * m3 ≤ 64 := Nat.le_trans (Nat.le_mul_of_pos_left _ h1) hl3
  obtain ⟨r1, B1, v1, s1, c1⟩ := prod_vc va vb hl1
  obtain ⟨r2, B2, v2, s2, c2⟩ := prod_vc v1 vd hl
  obtain ⟨r3, B3, v3, s3, c3⟩ := prod_vc vb vd hl2
  obtain ⟨r4, B4, v4, s4, c4⟩ := prod_vc va v3 hl3
  obtain ⟨r5, B5, v5, s5, c5⟩ := prod_vc vb va (by rw [Nat.mul_comm]; exact hl1)
  have e5 : nb * na = na * nb := Nat.mul_comm _ _
  have e6 : m2 * m1 = m1 * m2 := Nat.mul_comm _ _
  refine ⟨r1, r2, r3, r5, B1, B5, c1, c2, c3, fun Aa Ra ca ka Ab Rb cb kb W h => (c4 Aa Ra ca ka Ab Rb cb kb W h).mono fun e w' hr => ResC.congr ?_ hr, fun i hi => by rw [v2.hr i hi, rowsL_length]; exact hl, ?_, v1, ?_, ?_⟩
  · have e : m1 * (m2 * m3) = m1 * m2 * m3 := (Nat.mul_assoc _ _ _).symm
    rw [e] at v4 s4
    have hs : SameSpan (na * (nb * nd)) (na * nb * nd) (m1 * m2 * m3) B4 B2 := by
      refine (s4.trans ?_).trans s2.symm
      exact (prod_assoc va.can vb.can vd.can v1.can v3.can s1 s3).symm
    obtain ⟨g1, g2, g3, g4, g5, g6⟩ := vc_same v4 v2 hs
    exact ⟨g1, g2, by rw [e], g4, g5, g6⟩
  · rw [e5, e6] at c5; exact c5
  · rw [e5, e6] at v5; exact v5.hr
  · have h := prod_trans va.can vb.can s1 s5
    rw [e5] at h
    exact h
end
end Go.Proofs.Ytpflgmbcmfllgaa
