/- Distance of any code: its number, and what it says if it is at least 1; results as codes without an error. -/
import Derived.Test.YtghgbjgoedlnjaaMinW
import Derived.Test.YtghgbjgoedlnjaaCodQ
namespace Go.Proofs.Ytghgbjgoedlnjaa
open Go.RowKit Cw

theorem dist_any (Pa Ma Na : Int) (mla : List Int) (na : Nat) (rowsa : Nat → List Int) (Aa Ra : Option Addr) (ca ka : Nat) (most : Int) (hPa : I64 Pa) (hMa : I64 Ma) (hla : mla.length ≤ maxLen) (hna : na ≤ 64) (hka : ∀ i, i < na → (rowsa i).length ≤ 4200) (hmo : I64 most) :
    ∃ V : Int, (-1 ≤ V ∧ V ≤ 64) ∧ (∀ W, Pre1 mla na rowsa Aa Ra W → Calls Try.prog 18 #[.agg #[.int .i64 Pa, .int .i64 Ma, .slice Aa mla.length ca, .int .i64 Na, .slice Ra na ka], .int .i64 most] W fun e w' => e = .returned (.int .i64 V) ∧ Below W.heap.size W w') ∧
      (V ≠ -1 → ∃ F : FD, ∃ m : Nat, ∃ M : Nat → Nat → R F.toDesc, VC Pa Ma Na mla na rowsa F m M ∧ ((F.q ^ na : Nat) : Int) ≤ most ∧ F.q ^ na ≤ 65536 ∧ (1 ≤ V ↔ 1 ≤ na) ∧ (1 ≤ V → Low na m M V.toNat ∧ Att na m M V.toNat)) := by
  by_cases h0 : cnV (cErr Pa Ma Na mla na rowsa) (qOf Pa Ma) na most = 0
  · exact ⟨-1, ⟨by omega, by omega⟩, fun W h => Dist_no Pa Ma Na mla na rowsa Aa Ra ca ka most W hPa hMa hla hna hka h.1 h.2 hmo h0, fun h => absurd rfl h⟩
  · obtain ⟨hE, h6, hm, hv⟩ := cnV_pos h0
    obtain ⟨F, m, M, va⟩ := cErr_zero hE
    have hqq : qOf Pa Ma = F.q := by rw [va.hP, va.hM]; exact qOf_D F.toDesc
    rw [hqq] at h6 hm hv
    have hm64 := va.m64
    have hle := dmin_le (f := wtAt na m M) (B := 64) (fun i => Nat.le_trans (wtAt_le na m M i) hm64) (F.q ^ na - 1)
    refine ⟨(dmin (wtAt na m M) (F.q ^ na - 1) : Nat), ⟨by omega, by omega⟩, fun W h => Dist_ok Pa Ma Na mla na rowsa Aa Ra ca ka most W hPa hMa hla hna hka h.1 h.2 hmo va (F.q ^ na) rfl (by rw [hqq]; exact hv) h6, fun _ => ⟨F, m, M, va, hm, h6, ?_, fun h1 => ?_⟩⟩
    · constructor
      · intro h1
        rcases Nat.eq_zero_or_pos na with hz | hz
        · rw [dist_zero hz] at h1; omega
        · exact hz
      · intro h1
        have := (dist_spec va.can h1).2.2
        omega
    · have hna1 : 1 ≤ na := by
        rcases Nat.eq_zero_or_pos na with hz | hz
        · rw [dist_zero hz] at h1; omega
        · exact hz
      obtain ⟨h2, h3, -⟩ := dist_spec va.can hna1
      rw [Int.toNat_natCast]
      exact ⟨h2, h3⟩
/-- A result is a code without an error. -/
theorem vc_res (F : FD) (hgood : Good F.p F.m (modL F.toDesc)) (n m : Nat) (M : Nat → Nat → R F.toDesc) (h1 : 1 ≤ m) (h2 : m ≤ 64) : VC F.p F.m m (modL F.toDesc) (rkS F n m M) (rowsL F.toDesc m (elS n M m).1) F m (elS n M m).1 :=
  ⟨rfl, rfl, rfl, hgood, rfl, h1, h2, fun _ _ => rfl, canl_elS F n m M⟩
theorem rk_full {F : FD} {n m : Nat} {M : Nat → Nat → R F.toDesc} (h : Indep n m M) : rkS F n m M = n := elS_rank h
end Go.Proofs.Ytghgbjgoedlnjaa
