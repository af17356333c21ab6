/- CombineArrays: what the functions answer, with no program in sight. -/
import Derived.Test.YtghgbjgoedlnjaaArA
namespace Go.Proofs.Ytghgbjgoedlnjaa
open Go.RowKit Cw

theorem rowL_snoc7 (D : Desc) (a : Nat) (f : Nat → R D) : rowL D a f ++ [ci (f a)] = rowL D (a + 1) f := by unfold rowL; rw [lst_succ]
theorem prod_iff {F : FD} {n1 m1 n2 m2 : Nat} {A B : Nat → Nat → R F.toDesc} (hA : Canl F n1 m1 A) (hB : Canl F n2 m2 B) (u : Nat → R F.toDesc) :
    Span (n1 * n2) (m1 * m2) (prodR n2 m2 A B) u ↔ (∀ x, x < m1 → Span n2 m2 B (fun y => u (m2 * x + y))) ∧ ∀ y, y < m2 → Span n1 m1 A (fun x => u (m2 * x + y)) := by
  obtain ⟨p, hp⟩ := canl_RR hA
  obtain ⟨q, hq⟩ := canl_RR hB
  exact ⟨fun h => ⟨(prod_in h).2, (prod_in h).1⟩, fun h => prod_of hp hq h.2 h.1⟩
/-- The product of two codes: a valid code with these words. -/
theorem arrays_pack (Pa Ma Na : Int) (mla : List Int) (na : Nat) (rowsa : Nat → List Int) (Aa Ra : Option Addr) (ca ka : Nat) (Pb Mb Nb : Int) (mlb : List Int) (nb : Nat) (rowsb : Nat → List Int) (Ab Rb : Option Addr) (cb kb : Nat) (hPa : I64 Pa) (hMa : I64 Ma) (hla : mla.length ≤ maxLen) (hna : na ≤ 64) (hka : ∀ i, i < na → (rowsa i).length ≤ 4200) (hPb : I64 Pb) (hMb : I64 Mb) (hlb : mlb.length ≤ maxLen) (hnb : nb ≤ 64) (hkb : ∀ i, i < nb → (rowsb i).length ≤ 4200)
    (hE : twoE Pa Ma Na mla na rowsa Aa Ra ca ka Pb Mb Nb mlb nb rowsb Ab Rb cb kb = 0) {F : FD} {m1 m2 : Nat} {M1 M2 : Nat → Nat → R F.toDesc} (va : VC Pa Ma Na mla na rowsa F m1 M1) (vb : VC Pb Mb Nb mlb nb rowsb F m2 M2) (hN : m1 * m2 ≤ 24) :
    ∃ (rows : Nat → List Int) (B : Nat → Nat → R F.toDesc), VC Pa Ma (m1 * m2 : Nat) mla (na * nb) rows F (m1 * m2) B ∧
      (∀ W, Pre2 mla na rowsa Aa Ra mlb nb rowsb Ab Rb W → Calls Try.prog 22 #[.agg #[.int .i64 Pa, .int .i64 Ma, .slice Aa mla.length ca, .int .i64 Na, .slice Ra na ka], .agg #[.int .i64 Pb, .int .i64 Mb, .slice Ab mlb.length cb, .int .i64 Nb, .slice Rb nb kb]] W (ResC Pa Ma (m1 * m2 : Nat) mla (na * nb) rows 0 W)) ∧
      ∀ u : Nat → R F.toDesc, (Span (na * nb) (m1 * m2) B u ↔ (∀ x, x < m1 → Span nb m2 M2 (fun y => u (m2 * x + y))) ∧ ∀ y, y < m2 → Span na m1 M1 (fun x => u (m2 * x + y))) := by
  have hgood := va.good
  have h1 := va.m1; have h2 := va.m64; have h3 := vb.m1; have h4 := vb.m64; have h5 := va.le; have h6 := vb.le
  have eP := va.hP; have eM := va.hM; have eL := va.hl
  obtain ⟨p1, hR1⟩ := canl_RR va.can
  obtain ⟨p2, hR2⟩ := canl_RR vb.can
  have hI := prod_indep (RR.indep hR1) (RR.indep hR2)
  have hcode : ∀ W, Pre2 mla na rowsa Aa Ra mlb nb rowsb Ab Rb W → Calls Try.prog 22 #[.agg #[.int .i64 Pa, .int .i64 Ma, .slice Aa mla.length ca, .int .i64 Na, .slice Ra na ka], .agg #[.int .i64 Pb, .int .i64 Mb, .slice Ab mlb.length cb, .int .i64 Nb, .slice Rb nb kb]] W (ResCode F (na * nb) (m1 * m2) (prodR nb m2 M1 M2) W) := fun W h => by
    refine cProduct_code Pa Ma Na mla na rowsa Aa Ra ca ka Pb Mb Nb mlb nb rowsb Ab Rb cb kb W hPa hMa hla hna hka h.1.1 h.1.2 hPb hMb hlb hnb hkb h.2.1 h.2.2 F m1 m2 M1 M2 va vb hE (m1 * m2) rfl (by omega) fun W2 Al cl g1 g2 => ?_
    subst eP eM eL
    rw [Nat.mul_comm nb na] at g2 ⊢
    exact gen_codeN F hgood _ _ _ Aa Al ca cl W2 g1 g2 (Nat.le_trans (Nat.mul_le_mul h5 h6) (by omega)) (Nat.mul_pos h1 h3) (by omega)
  unfold ResCode at hcode
  have hv := vc_res F hgood (na * nb) (m1 * m2) (prodR nb m2 M1 M2) (Nat.mul_pos h1 h3) (by omega)
  have hsp := elS_span (na * nb) (m1 * m2) (prodR nb m2 M1 M2)
  have hk : (elS (na * nb) (prodR nb m2 M1 M2) (m1 * m2)).2.length = na * nb := rk_full hI
  rw [hk] at hsp
  rw [rk_full hI] at hcode hv
  refine ⟨_, (elS (na * nb) (prodR nb m2 M1 M2) (m1 * m2)).1, by rw [eP, eM, eL]; exact hv, fun W h => by have h9 := hcode W h; rw [← eP, ← eM, ← eL] at h9; exact h9, fun u => ?_⟩
  rw [← prod_iff va.can vb.can u]
  exact ⟨fun h => h.trans hsp.1, fun h => h.trans hsp.2⟩
/-- How far a loop's conjunction has come. -/
noncomputable def andB (f : Nat → Bool) : Nat → Bool
  | 0 => true
  | k + 1 => andB f k && f k
theorem andB_iff {f : Nat → Bool} : ∀ k, andB f k = true ↔ ∀ i, i < k → f i = true
  | 0 => ⟨fun _ i h => absurd h (Nat.not_lt_zero i), fun _ => rfl⟩
  | k + 1 => by
    unfold andB
    rw [Bool.and_eq_true, andB_iff k]
    exact ⟨fun ⟨h1, h2⟩ i hi => by
      rcases Nat.lt_succ_iff_lt_or_eq.1 hi with h | h
      · exact h1 i h
      · rw [h]; exact h2, fun h => ⟨fun i hi => h i (by omega), h k (by omega)⟩⟩
/-- The two loops' conjunction is the product's membership. -/
theorem arrays_and {F : FD} {n1 m1 n2 m2 n : Nat} {A C B : Nat → Nat → R F.toDesc} {u : Nat → R F.toDesc} (h : Span n (m1 * m2) B u ↔ (∀ x, x < m1 → Span n2 m2 C (fun y => u (m2 * x + y))) ∧ ∀ y, y < m2 → Span n1 m1 A (fun x => u (m2 * x + y))) :
    spB n (m1 * m2) B u = (andB (fun x => spB n2 m2 C (fun y => u (m2 * x + y))) m1 && andB (fun y => spB n1 m1 A (fun x => u (m2 * x + y))) m2) := by
  rw [Bool.eq_iff_iff, spB_iff, h, Bool.and_eq_true, andB_iff, andB_iff]
  constructor
  · exact fun ⟨h1, h2⟩ => ⟨fun x hx => spB_iff.2 (h1 x hx), fun y hy => spB_iff.2 (h2 y hy)⟩
  · exact fun ⟨h1, h2⟩ => ⟨fun x hx => spB_iff.1 (h1 x hx), fun y hy => spB_iff.1 (h2 y hy)⟩
end Go.Proofs.Ytghgbjgoedlnjaa
