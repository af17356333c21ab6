/- The program's combine.Sum, Plotkin and Juxtapose of two codes without an error. -/
import Derived.Test.YtkmhopefnfaecaaZgCodJ
namespace Go.Proofs.Ytkmhopefnfaecaa
open Go.RowKit Cw
attribute [local go_sem] Oper.semAt_some

/-- The rows of a code over a field, as its elements' rows. -/
theorem VC.rdm {P M N : Int} {ml : List Int} {n : Nat} {rows : Nat → List Int} {F : FD} {m : Nat} {A : Nat → Nat → R F.toDesc} (h : VC P M N ml n rows F m A) {w : World} {B : Nat} {Ar : Option Addr} (hr : RdM w B Ar n rows) : RdM w B Ar n (rowsL F.toDesc m A) := hr.congr h.hr

set_option maxRecDepth 100000 in
set_option maxHeartbeats 4000000 in
theorem cSum_code (Pa Ma Na : Int) (mla : List Int) (na : Nat) (rowsa : Nat → List Int) (Aa Ra : Option Addr) (ca ka : Nat) (Pb Mb Nb : Int) (mlb : List Int) (nb : Nat) (rowsb : Nat → List Int) (Ab Rb : Option Addr) (cb kb : Nat) (w : World) (hPa : I64 Pa) (hMa : I64 Ma) (hla : mla.length ≤ maxLen) (hna : na ≤ 64) (hka : ∀ i, i < na → (rowsa i).length ≤ 4200) (hra : Rd w w.heap.size Aa mla) (hma : RdM w w.heap.size Ra na rowsa) (hPb : I64 Pb) (hMb : I64 Mb) (hlb : mlb.length ≤ maxLen) (hnb : nb ≤ 64) (hkb : ∀ i, i < nb → (rowsb i).length ≤ 4200) (hrb : Rd w w.heap.size Ab mlb) (hmb : RdM w w.heap.size Rb nb rowsb) (F : FD) (m1 m2 : Nat) (M1 M2 : Nat → Nat → R F.toDesc) (va : VC Pa Ma Na mla na rowsa F m1 M1) (vb : VC Pb Mb Nb mlb nb rowsb F m2 M2) (hE : twoE Pa Ma Na mla na rowsa Aa Ra ca ka Pb Mb Nb mlb nb rowsb Ab Rb cb kb = 0) {P M N : Int} {ml : List Int} {n : Nat} {rows : Nat → List Int} {E : Int}
    (hG : ∀ (W : World) (Al : Option Addr) (cl : Nat), Rd W W.heap.size Aa mla → RdM W W.heap.size Al (na + nb) (rowsL F.toDesc (m1 + m2) (sumR na m1 M1 M2)) → Calls Try.prog 44 #[.agg #[.int .i64 Pa, .int .i64 Ma, .slice Aa mla.length ca], .int .i64 ((m1 : Int) + (m2 : Int)), .slice Al (na + nb) cl] W (ResC P M N ml n rows E W)) :
    Calls Try.prog 11 #[.agg #[.int .i64 Pa, .int .i64 Ma, .slice Aa mla.length ca, .int .i64 Na, .slice Ra na ka], .agg #[.int .i64 Pb, .int .i64 Mb, .slice Ab mlb.length cb, .int .i64 Nb, .slice Rb nb kb]] w (ResC P M N ml n rows E w) := by
  have hN1 := va.hN
  have hN2 := vb.hN
  subst hN1 hN2
  have hm1 := va.m64; have hm2 := vb.m64
  have hmar := va.rdm hma
  have hmbr := vb.rdm hmb
  have hC := fun (W : World) (h : Below w.heap.size w W) X h0 h1 h2 => checked2_any Pa Ma m1 mla na rowsa Aa Ra ca ka Pb Mb m2 mlb nb rowsb Ab Rb cb kb X W hPa hMa hla hna hka ((hra.below h).more h.size) ((hma.below h).more h.size) hPb hMb hlb hnb hkb ((hrb.below h).more h.size) ((hmb.below h).more h.size) h0 h1 h2
  rw [hE] at hC
  obtain ⟨Z, hZ⟩ : ∃ Z, Z = (((w.alloc (.cells #[.int .i64 Pa, .int .i64 Ma, .slice Aa mla.length ca, .int .i64 m1, .slice Ra na ka] 27)).alloc (.cells #[.int .i64 Pb, .int .i64 Mb, .slice Ab mlb.length cb, .int .i64 m2, .slice Rb nb kb] 27)).alloc (.cells #[.int .i64 0, .int .i64 0, .slice none 0 0, .int .i64 0, .slice none 0 0] 27)) := ⟨_, rfl⟩
  have hB : Below w.heap.size w Z := by rw [hZ]; exact (((Below.refl _ _).alloc (Nat.le_refl _) _).alloc (by simp) _).alloc (by simp; omega) _
  obtain ⟨s, hs⟩ : ∃ s, s = w.heap.size := ⟨_, rfl⟩
  obtain ⟨hZe, fa, fb, fz⟩ := two_enter Pa Ma m1 mla na rowsa Aa Ra ca ka Pb Mb m2 mlb nb rowsb Ab Rb cb kb w hZ hs
  have hZs : s + 1 + 1 < Z.heap.size := by omega
  have hb1 : Below Z.heap.size Z (Z.alloc (.cells #[.int .i64 Pa, .int .i64 Ma, .slice Aa mla.length ca, .int .i64 m1, .slice Ra na ka, .int .i64 Pb, .int .i64 Mb, .slice Ab mlb.length cb, .int .i64 m2, .slice Rb nb kb] 27)) := (Below.refl _ _).alloc (Nat.le_refl _) _
  have hB1 := hB.trans (hb1.mono hB.size)
  have hC1 := hC _ hB1 (s + 1 + 1 + 1) (by rw [World.size_alloc]; omega) (by rw [← hZe]; simp [go_sem]) (by rw [← hZe]; simp [go_sem])
  replace hC1 := Lib.hid hC1
  replace hZe := Lib.hid hZe
  replace hE := Lib.hid hE
  replace hZ := Lib.hid hZ
  replace fa := Lib.hid fa
  replace fb := Lib.hid fb
  clear hC hka hkb va vb hma hmb
  unfold ResC at hG ⊢
  go_enter Try.func11, Try.ntmps11
  go_wp2_with (fail)
  rw [← hZ.out]
  simp only [← hs]
  have hsw : w.heap.size ≤ s := Nat.le_of_eq hs.symm
  replace hs := Lib.hid hs
  (with_reducible refine hC1.out.mono ?_)
  rintro e w1 ⟨rfl, hb2⟩
  have hbz := hb1.trans (hb2.mono hb1.size)
  obtain ⟨a0, a1, a2, a3, a4, -⟩ := fa.out.keep hbz (by omega)
  obtain ⟨c0, c1, c2, c3, c4, -⟩ := fb.out.keep hbz (by omega)
  clear hC1 hB1 hb1 hb2
  go_wp2_with (fail)
  clear a0 a1 a2 a3 a4 c0 c1 c2 c3 c4
  go_loopw [23, 7, 9] (fun iS vS _ wr => ∃ k : Nat, k ≤ na ∧ iS = .int .i64 k ∧ OwnM wr Z.heap.size vS (k) (rowsL F.toDesc (m1 + m2) (sumR na m1 M1 M2)) ∧ Below Z.heap.size Z wr) (fun iS _ _ _ => na - (intOf iS).toNat)
  case atStart => exact ⟨0, by omega, rfl, OwnM.nil _ _ _, hbz⟩
  case round =>
    obtain ⟨k, hk, rfl, hown, hbw⟩ := hrel
    obtain ⟨w3, rfl⟩ : ∃ w3 : World, w3 = wr := ⟨_, rfl⟩
    have hB3 := hB.trans (hbw.mono hB.size)
    by_cases hlt : k < na
    · have hk0 : (0 : Int) ≤ (k : Int) := by omega
      have hk1 : (k : Int) < (na : Int) := by omega
      obtain ⟨ba, oa, Ka, la, rfl, hha, hca, hrka, hlka, hcka⟩ := hmar.at_ (show k < na by omega)
      rw [rowsL_length] at hca hlka
      have hda := (hB3.cell (p := ⟨ba, oa + k, none⟩) hha).trans hca
      clear hca
      obtain ⟨a0, a1, a2, a3, a4, -⟩ := fa.out.keep hbw (by omega)
      obtain ⟨c0, c1, c2, c3, c4, -⟩ := fb.out.keep hbw (by omega)
      have hmk := mk_ints m2 (by omega)
      have hbe : Below w3.heap.size w3 (w3.alloc (.cells (Array.replicate m2 (Value.int .i64 0)) 3)) := (Below.refl _ _).alloc (Nat.le_refl _) _
      have hrz := (IB.newz w3 m2).rd
      have hBe := hB3.trans (hbe.mono hB3.size)
      have hrow : (rowL F.toDesc m1 (M1 k)) ++ (List.replicate m2 (0 : Int)) = (rowsL F.toDesc (m1 + m2) (sumR na m1 M1 M2)) (k) := by rw [rowL_zero, rowL_join]; unfold rowsL sumR; rw [stackR_lo _ _ hlt]
      have hBes := cBeside_any (rowL F.toDesc m1 (M1 k)) (List.replicate m2 (0 : Int)) Ka (some ⟨w3.heap.size, 0, none⟩) la m2 (w3.alloc (.cells (Array.replicate m2 (Value.int .i64 0)) 3)) ((hrka.below hBe).more hBe.size) hrz (by rw [rowL_length]; omega) (by rw [List.length_replicate]; omega)
      rw [hrow] at hBes
      unfold GivesA at hBes
      simp only [rowL_length, List.length_replicate] at hBes
      replace hBes := Lib.hid hBes
      replace hrow := Lib.hid hrow
      have hownH := hown
      obtain ⟨Av, cv, rfl⟩ := hown.size
      clear hrka hcka hrz
      go_wp2_with (fail)
      (with_reducible refine hBes.out.mono ?_)
      rintro e w4 ⟨v4, rfl, ho4, hb4⟩
      obtain ⟨A4, c4, rfl, hl4, hc4, hr4, hA4⟩ := ho4.parts
      rw [rowsL_length] at hl4
      rw [rowsL_length]
      have hb34 := hbe.trans (hb4.mono hbe.size)
      have hown4 := hown.below hb34 (Nat.le_refl _)
      have hA5 : ∀ a, A4 = some a → w3.heap.size ≤ a.block := fun a e => Nat.le_trans hbe.size (hA4 a e)
      have hs34 := hb34.size
      have hZ3 : Z.heap.size ≤ w3.heap.size := hbw.size
      clear hbe hBe hB3
      go_wp2_with (at_builtin; refine wpList_appRow rfl (.tmp 27) (.tmp 33) rfl Z.heap.size _ (k) _ hown4 A4 (m1 + m2) c4 hr4 (rowsL_length _ _ _ _) hl4 hc4 w3.heap.size hownH.lt0 hA5 hZ3 rfl rfl rfl (by omega) (Nat.le_trans hZ3 hs34) ?_; intro v5 w5 ho5 hb5)
      go_roundw
      case rel => exact ⟨k + 1, by omega, by go_num, ho5, hbw.trans ((hb34.mono hbw.size).trans (hb5.mono (Nat.le_refl _)))⟩
      case measure => simp [intOf]; omega
    · obtain rfl : na = k := by omega
      obtain ⟨a0, a1, a2, a3, a4, -⟩ := fa.out.keep hbw (by omega)
      obtain ⟨c0, c1, c2, c3, c4, -⟩ := fb.out.keep hbw (by omega)
      go_wp2_with (fail)
      clear a0 a1 a2 a3 a4 c0 c1 c2 c3 c4
      go_loopw [39, 7, 11] (fun iS vS _ wr => ∃ k : Nat, k ≤ nb ∧ iS = .int .i64 k ∧ OwnM wr Z.heap.size vS (na + k) (rowsL F.toDesc (m1 + m2) (sumR na m1 M1 M2)) ∧ Below Z.heap.size Z wr) (fun iS _ _ _ => nb - (intOf iS).toNat)
      case atStart => exact ⟨0, by omega, rfl, hown, hbw⟩
      case round =>
        obtain ⟨k, hk, rfl, hown, hbw⟩ := hrel
        obtain ⟨w3, rfl⟩ : ∃ w3 : World, w3 = wr := ⟨_, rfl⟩
        have hB3 := hB.trans (hbw.mono hB.size)
        by_cases hlt : k < nb
        · have hk0 : (0 : Int) ≤ (k : Int) := by omega
          have hk1 : (k : Int) < (nb : Int) := by omega
          obtain ⟨bb, ob, Kb, lb, rfl, hhb, hcb, hrkb, hlkb, hckb⟩ := hmbr.at_ (show k < nb by omega)
          rw [rowsL_length] at hcb hlkb
          have hdb := (hB3.cell (p := ⟨bb, ob + k, none⟩) hhb).trans hcb
          clear hcb
          obtain ⟨a0, a1, a2, a3, a4, -⟩ := fa.out.keep hbw (by omega)
          obtain ⟨c0, c1, c2, c3, c4, -⟩ := fb.out.keep hbw (by omega)
          have hmk := mk_ints m1 (by omega)
          have hbe : Below w3.heap.size w3 (w3.alloc (.cells (Array.replicate m1 (Value.int .i64 0)) 3)) := (Below.refl _ _).alloc (Nat.le_refl _) _
          have hrz := (IB.newz w3 m1).rd
          have hBe := hB3.trans (hbe.mono hB3.size)
          have hrow : (List.replicate m1 (0 : Int)) ++ (rowL F.toDesc m2 (M2 k)) = (rowsL F.toDesc (m1 + m2) (sumR na m1 M1 M2)) (na + k) := by rw [rowL_zero, rowL_join]; unfold rowsL sumR; rw [stackR_hi]
          have hBes := cBeside_any (List.replicate m1 (0 : Int)) (rowL F.toDesc m2 (M2 k)) (some ⟨w3.heap.size, 0, none⟩) Kb m1 lb (w3.alloc (.cells (Array.replicate m1 (Value.int .i64 0)) 3)) hrz ((hrkb.below hBe).more hBe.size) (by rw [List.length_replicate]; omega) (by rw [rowL_length]; omega)
          rw [hrow] at hBes
          unfold GivesA at hBes
          simp only [rowL_length, List.length_replicate] at hBes
          replace hBes := Lib.hid hBes
          replace hrow := Lib.hid hrow
          have hownH := hown
          obtain ⟨Av, cv, rfl⟩ := hown.size
          clear hrkb hckb hrz
          go_wp2_with (fail)
          (with_reducible refine hBes.out.mono ?_)
          rintro e w4 ⟨v4, rfl, ho4, hb4⟩
          obtain ⟨A4, c4, rfl, hl4, hc4, hr4, hA4⟩ := ho4.parts
          rw [rowsL_length] at hl4
          rw [rowsL_length]
          have hb34 := hbe.trans (hb4.mono hbe.size)
          have hown4 := hown.below hb34 (Nat.le_refl _)
          have hA5 : ∀ a, A4 = some a → w3.heap.size ≤ a.block := fun a e => Nat.le_trans hbe.size (hA4 a e)
          have hs34 := hb34.size
          have hZ3 : Z.heap.size ≤ w3.heap.size := hbw.size
          clear hbe hBe hB3
          go_wp2_with (at_builtin; refine wpList_appRow rfl (.tmp 43) (.tmp 49) rfl Z.heap.size _ (na + k) _ hown4 A4 (m1 + m2) c4 hr4 (rowsL_length _ _ _ _) hl4 hc4 w3.heap.size hownH.lt0 hA5 hZ3 rfl rfl rfl (by omega) (Nat.le_trans hZ3 hs34) ?_; intro v5 w5 ho5 hb5)
          go_roundw
          case rel => exact ⟨k + 1, by omega, by go_num, ho5, hbw.trans ((hb34.mono hbw.size).trans (hb5.mono (Nat.le_refl _)))⟩
          case measure => simp [intOf]; omega
        · obtain rfl : nb = k := by omega
          have hB9 := hB.trans (hbw.mono hB.size)
          obtain ⟨A9, c9, rfl, hr9⟩ := hown.rdm
          have hG9 := Lib.hid (hG w3 A9 c9 ((hra.below hB9).more hB9.size) hr9)
          obtain ⟨a0, a1, a2, a3, a4, -⟩ := fa.out.keep hbw (by omega)
          obtain ⟨c0, c1, c2, c3, c4, -⟩ := fb.out.keep hbw (by omega)
          have hs9 : s + 1 + 1 < w3.heap.size := Nat.lt_of_lt_of_le hZs hbw.size
          have fz9 := fz.keep hbw hZs
          clear hG fz hown hr9
          go_wp2_with (fail)
          (with_reducible refine hG9.out.mono ?_)
          rintro e w6 ⟨A6, c6, Al, cl, rfl, hr6, hA6, hru, hb6⟩
          obtain ⟨t0, t1, t2, t3, t4, g0, g1, g2, g3, g4⟩ := fz9.keep hb6 hs9
          have hrf := Lib.hid (hr6.set5 (b := s + 1 + 1) (fun b hb => by have := hA6 b hb; omega) (.int .i64 P) (.int .i64 M) (.slice A6 ml.length c6) (.int .i64 N) (.slice Al n cl))
          have hruf : Hid (RdMU (((((w6.setCell ⟨s + 1 + 1, 0, none⟩ (.int .i64 P)).setCell ⟨s + 1 + 1, 1, none⟩ (.int .i64 M)).setCell ⟨s + 1 + 1, 2, none⟩ (.slice A6 ml.length c6)).setCell ⟨s + 1 + 1, 3, none⟩ (.int .i64 N)).setCell ⟨s + 1 + 1, 4, none⟩ (.slice Al n cl)) w3.heap.size w6.heap.size Al n rows) := hru.keepU fun p hp _ => set5_above (b := s + 1 + 1) (L := w3.heap.size) hs9 _ _ _ _ _ p hp
          have hBf : Hid (Below w.heap.size w (((((w6.setCell ⟨s + 1 + 1, 0, none⟩ (.int .i64 P)).setCell ⟨s + 1 + 1, 1, none⟩ (.int .i64 M)).setCell ⟨s + 1 + 1, 2, none⟩ (.slice A6 ml.length c6)).setCell ⟨s + 1 + 1, 3, none⟩ (.int .i64 N)).setCell ⟨s + 1 + 1, 4, none⟩ (.slice Al n cl))) := (hB9.trans (hb6.mono hB9.size)).trans ((set5 _ _ _ _ _).mono (by omega))
          have hsz : Hid ((((((w6.setCell ⟨s + 1 + 1, 0, none⟩ (.int .i64 P)).setCell ⟨s + 1 + 1, 1, none⟩ (.int .i64 M)).setCell ⟨s + 1 + 1, 2, none⟩ (.slice A6 ml.length c6)).setCell ⟨s + 1 + 1, 3, none⟩ (.int .i64 N)).setCell ⟨s + 1 + 1, 4, none⟩ (.slice Al n cl)).heap.size = w6.heap.size) := by unfold Hid; simp [World.setCell]
          have hW9 : w.heap.size ≤ w3.heap.size := hB9.size
          have hA9 : ∀ b, A6 = some b → w.heap.size ≤ b.block := fun b hb => Nat.le_trans hW9 (hA6 b hb)
          clear hr6 hA6 hru hb6 hB9 hG9
          go_wp2_with (fail)
          refine bodyPost_ret (v := .tuple #[.agg #[.int .i64 P, .int .i64 M, .slice A6 ml.length c6, .int .i64 N, .slice Al n cl], .int .i64 E]) (by simp [results, Try.results11, go_sem, t0, t1, t2, t3, t4]) rfl ⟨A6, c6, Al, cl, rfl, hrf.out.more (by rw [hsz.out]; exact Nat.le_refl _), hA9, ?_, hBf.out⟩
          have h5 := hruf.out.low hW9
          rw [← hsz.out] at h5
          exact h5

set_option maxRecDepth 100000 in
set_option maxHeartbeats 4000000 in
theorem cPlotkin_code (Pa Ma Na : Int) (mla : List Int) (na : Nat) (rowsa : Nat → List Int) (Aa Ra : Option Addr) (ca ka : Nat) (Pb Mb Nb : Int) (mlb : List Int) (nb : Nat) (rowsb : Nat → List Int) (Ab Rb : Option Addr) (cb kb : Nat) (w : World) (hPa : I64 Pa) (hMa : I64 Ma) (hla : mla.length ≤ maxLen) (hna : na ≤ 64) (hka : ∀ i, i < na → (rowsa i).length ≤ 4200) (hra : Rd w w.heap.size Aa mla) (hma : RdM w w.heap.size Ra na rowsa) (hPb : I64 Pb) (hMb : I64 Mb) (hlb : mlb.length ≤ maxLen) (hnb : nb ≤ 64) (hkb : ∀ i, i < nb → (rowsb i).length ≤ 4200) (hrb : Rd w w.heap.size Ab mlb) (hmb : RdM w w.heap.size Rb nb rowsb) (F : FD) (m1 m2 : Nat) (M1 M2 : Nat → Nat → R F.toDesc) (va : VC Pa Ma Na mla na rowsa F m1 M1) (vb : VC Pb Mb Nb mlb nb rowsb F m2 M2) (hE : twoE Pa Ma Na mla na rowsa Aa Ra ca ka Pb Mb Nb mlb nb rowsb Ab Rb cb kb = 0) (hmm : m1 = m2) {P M N : Int} {ml : List Int} {n : Nat} {rows : Nat → List Int} {E : Int}
    (hG : ∀ (W : World) (Al : Option Addr) (cl : Nat), Rd W W.heap.size Aa mla → RdM W W.heap.size Al (na + nb) (rowsL F.toDesc (m1 + m2) (ploR na m1 M1 M2)) → Calls Try.prog 44 #[.agg #[.int .i64 Pa, .int .i64 Ma, .slice Aa mla.length ca], .int .i64 ((m1 : Int) + (m2 : Int)), .slice Al (na + nb) cl] W (ResC P M N ml n rows E W)) :
    Calls Try.prog 14 #[.agg #[.int .i64 Pa, .int .i64 Ma, .slice Aa mla.length ca, .int .i64 Na, .slice Ra na ka], .agg #[.int .i64 Pb, .int .i64 Mb, .slice Ab mlb.length cb, .int .i64 Nb, .slice Rb nb kb]] w (ResC P M N ml n rows E w) := by
  have hN1 := va.hN
  have hN2 := vb.hN
  subst hN1 hN2
  have hm1 := va.m64; have hm2 := vb.m64
  have hmar := va.rdm hma
  have hmbr := vb.rdm hmb
  have hC := fun (W : World) (h : Below w.heap.size w W) X h0 h1 h2 => checked2_any Pa Ma m1 mla na rowsa Aa Ra ca ka Pb Mb m2 mlb nb rowsb Ab Rb cb kb X W hPa hMa hla hna hka ((hra.below h).more h.size) ((hma.below h).more h.size) hPb hMb hlb hnb hkb ((hrb.below h).more h.size) ((hmb.below h).more h.size) h0 h1 h2
  rw [hE] at hC
  obtain ⟨Z, hZ⟩ : ∃ Z, Z = (((w.alloc (.cells #[.int .i64 Pa, .int .i64 Ma, .slice Aa mla.length ca, .int .i64 m1, .slice Ra na ka] 27)).alloc (.cells #[.int .i64 Pb, .int .i64 Mb, .slice Ab mlb.length cb, .int .i64 m2, .slice Rb nb kb] 27)).alloc (.cells #[.int .i64 0, .int .i64 0, .slice none 0 0, .int .i64 0, .slice none 0 0] 27)) := ⟨_, rfl⟩
  have hB : Below w.heap.size w Z := by rw [hZ]; exact (((Below.refl _ _).alloc (Nat.le_refl _) _).alloc (by simp) _).alloc (by simp; omega) _
  obtain ⟨s, hs⟩ : ∃ s, s = w.heap.size := ⟨_, rfl⟩
  obtain ⟨hZe, fa, fb, fz⟩ := two_enter Pa Ma m1 mla na rowsa Aa Ra ca ka Pb Mb m2 mlb nb rowsb Ab Rb cb kb w hZ hs
  have hZs : s + 1 + 1 < Z.heap.size := by omega
  have hb1 : Below Z.heap.size Z (Z.alloc (.cells #[.int .i64 Pa, .int .i64 Ma, .slice Aa mla.length ca, .int .i64 m1, .slice Ra na ka, .int .i64 Pb, .int .i64 Mb, .slice Ab mlb.length cb, .int .i64 m2, .slice Rb nb kb] 27)) := (Below.refl _ _).alloc (Nat.le_refl _) _
  have hB1 := hB.trans (hb1.mono hB.size)
  have hC1 := hC _ hB1 (s + 1 + 1 + 1) (by rw [World.size_alloc]; omega) (by rw [← hZe]; simp [go_sem]) (by rw [← hZe]; simp [go_sem])
  replace hC1 := Lib.hid hC1
  replace hZe := Lib.hid hZe
  replace hE := Lib.hid hE
  replace hZ := Lib.hid hZ
  replace fa := Lib.hid fa
  replace fb := Lib.hid fb
  clear hC hka hkb va vb hma hmb
  have hq : ((m1 : Int) != (m2 : Int)) = false := by rw [bne_eq_false_iff_eq]; omega
  have hq2 : (m1 != m2) = false := by rw [bne_eq_false_iff_eq]; exact hmm
  replace hmm := Lib.hid hmm
  unfold ResC at hG ⊢
  go_enter Try.func14, Try.ntmps14
  go_wp2_with (fail)
  rw [← hZ.out]
  simp only [← hs]
  have hsw : w.heap.size ≤ s := Nat.le_of_eq hs.symm
  replace hs := Lib.hid hs
  (with_reducible refine hC1.out.mono ?_)
  rintro e w1 ⟨rfl, hb2⟩
  have hbz := hb1.trans (hb2.mono hb1.size)
  obtain ⟨a0, a1, a2, a3, a4, -⟩ := fa.out.keep hbz (by omega)
  obtain ⟨c0, c1, c2, c3, c4, -⟩ := fb.out.keep hbz (by omega)
  clear hC1 hB1 hb1 hb2
  go_wp2_with (fail)
  clear a0 a1 a2 a3 a4 c0 c1 c2 c3 c4
  go_loopw [29, 7, 9] (fun iS vS _ wr => ∃ k : Nat, k ≤ na ∧ iS = .int .i64 k ∧ OwnM wr Z.heap.size vS (k) (rowsL F.toDesc (m1 + m2) (ploR na m1 M1 M2)) ∧ Below Z.heap.size Z wr) (fun iS _ _ _ => na - (intOf iS).toNat)
  case atStart => exact ⟨0, by omega, rfl, OwnM.nil _ _ _, hbz⟩
  case round =>
    obtain ⟨k, hk, rfl, hown, hbw⟩ := hrel
    obtain ⟨w3, rfl⟩ : ∃ w3 : World, w3 = wr := ⟨_, rfl⟩
    have hB3 := hB.trans (hbw.mono hB.size)
    by_cases hlt : k < na
    · have hk0 : (0 : Int) ≤ (k : Int) := by omega
      have hk1 : (k : Int) < (na : Int) := by omega
      obtain ⟨ba, oa, Ka, la, rfl, hha, hca, hrka, hlka, hcka⟩ := hmar.at_ (show k < na by omega)
      rw [rowsL_length] at hca hlka
      have hda := (hB3.cell (p := ⟨ba, oa + k, none⟩) hha).trans hca
      clear hca
      obtain ⟨a0, a1, a2, a3, a4, -⟩ := fa.out.keep hbw (by omega)
      obtain ⟨c0, c1, c2, c3, c4, -⟩ := fb.out.keep hbw (by omega)
      have hbe : Below w3.heap.size w3 w3 := Below.refl _ _
      have hBe := hB3.trans (hbe.mono hB3.size)
      have hrow : (rowL F.toDesc m1 (M1 k)) ++ (rowL F.toDesc m1 (M1 k)) = (rowsL F.toDesc (m1 + m2) (ploR na m1 M1 M2)) (k) := by rw [rowL_join]; unfold rowsL ploR; rw [stackR_lo _ _ hlt, ← hmm.out]
      have hBes := cBeside_any (rowL F.toDesc m1 (M1 k)) (rowL F.toDesc m1 (M1 k)) Ka Ka la la w3 ((hrka.below hBe).more hBe.size) ((hrka.below hBe).more hBe.size) (by rw [rowL_length]; omega) (by rw [rowL_length]; omega)
      rw [hrow] at hBes
      unfold GivesA at hBes
      simp only [rowL_length] at hBes
      replace hBes := Lib.hid hBes
      replace hrow := Lib.hid hrow
      have hownH := hown
      obtain ⟨Av, cv, rfl⟩ := hown.size
      clear hrka hcka
      go_wp2_with (fail)
      (with_reducible refine hBes.out.mono ?_)
      rintro e w4 ⟨v4, rfl, ho4, hb4⟩
      obtain ⟨A4, c4, rfl, hl4, hc4, hr4, hA4⟩ := ho4.parts
      rw [rowsL_length] at hl4
      rw [rowsL_length]
      have hb34 := hbe.trans (hb4.mono hbe.size)
      have hown4 := hown.below hb34 (Nat.le_refl _)
      have hA5 : ∀ a, A4 = some a → w3.heap.size ≤ a.block := fun a e => Nat.le_trans hbe.size (hA4 a e)
      have hs34 := hb34.size
      have hZ3 : Z.heap.size ≤ w3.heap.size := hbw.size
      clear hbe hBe hB3
      go_wp2_with (at_builtin; refine wpList_appRow rfl (.tmp 33) (.tmp 37) rfl Z.heap.size _ (k) _ hown4 A4 (m1 + m2) c4 hr4 (rowsL_length _ _ _ _) hl4 hc4 w3.heap.size hownH.lt0 hA5 hZ3 rfl rfl rfl (by omega) (Nat.le_trans hZ3 hs34) ?_; intro v5 w5 ho5 hb5)
      go_roundw
      case rel => exact ⟨k + 1, by omega, by go_num, ho5, hbw.trans ((hb34.mono hbw.size).trans (hb5.mono (Nat.le_refl _)))⟩
      case measure => simp [intOf]; omega
    · obtain rfl : na = k := by omega
      obtain ⟨a0, a1, a2, a3, a4, -⟩ := fa.out.keep hbw (by omega)
      obtain ⟨c0, c1, c2, c3, c4, -⟩ := fb.out.keep hbw (by omega)
      go_wp2_with (fail)
      clear a0 a1 a2 a3 a4 c0 c1 c2 c3 c4
      go_loopw [43, 7, 11] (fun iS vS _ wr => ∃ k : Nat, k ≤ nb ∧ iS = .int .i64 k ∧ OwnM wr Z.heap.size vS (na + k) (rowsL F.toDesc (m1 + m2) (ploR na m1 M1 M2)) ∧ Below Z.heap.size Z wr) (fun iS _ _ _ => nb - (intOf iS).toNat)
      case atStart => exact ⟨0, by omega, rfl, hown, hbw⟩
      case round =>
        obtain ⟨k, hk, rfl, hown, hbw⟩ := hrel
        obtain ⟨w3, rfl⟩ : ∃ w3 : World, w3 = wr := ⟨_, rfl⟩
        have hB3 := hB.trans (hbw.mono hB.size)
        by_cases hlt : k < nb
        · have hk0 : (0 : Int) ≤ (k : Int) := by omega
          have hk1 : (k : Int) < (nb : Int) := by omega
          obtain ⟨bb, ob, Kb, lb, rfl, hhb, hcb, hrkb, hlkb, hckb⟩ := hmbr.at_ (show k < nb by omega)
          rw [rowsL_length] at hcb hlkb
          have hdb := (hB3.cell (p := ⟨bb, ob + k, none⟩) hhb).trans hcb
          clear hcb
          obtain ⟨a0, a1, a2, a3, a4, -⟩ := fa.out.keep hbw (by omega)
          obtain ⟨c0, c1, c2, c3, c4, -⟩ := fb.out.keep hbw (by omega)
          have hmk := mk_ints m1 (by omega)
          have hbe : Below w3.heap.size w3 (w3.alloc (.cells (Array.replicate m1 (Value.int .i64 0)) 3)) := (Below.refl _ _).alloc (Nat.le_refl _) _
          have hrz := (IB.newz w3 m1).rd
          have hBe := hB3.trans (hbe.mono hB3.size)
          have hrow : (List.replicate m1 (0 : Int)) ++ (rowL F.toDesc m2 (M2 k)) = (rowsL F.toDesc (m1 + m2) (ploR na m1 M1 M2)) (na + k) := by rw [rowL_zero, rowL_join]; unfold rowsL ploR; rw [stackR_hi]
          have hBes := cBeside_any (List.replicate m1 (0 : Int)) (rowL F.toDesc m2 (M2 k)) (some ⟨w3.heap.size, 0, none⟩) Kb m1 lb (w3.alloc (.cells (Array.replicate m1 (Value.int .i64 0)) 3)) hrz ((hrkb.below hBe).more hBe.size) (by rw [List.length_replicate]; omega) (by rw [rowL_length]; omega)
          rw [hrow] at hBes
          unfold GivesA at hBes
          simp only [rowL_length, List.length_replicate] at hBes
          replace hBes := Lib.hid hBes
          replace hrow := Lib.hid hrow
          have hownH := hown
          obtain ⟨Av, cv, rfl⟩ := hown.size
          clear hrkb hckb hrz
          go_wp2_with (fail)
          (with_reducible refine hBes.out.mono ?_)
          rintro e w4 ⟨v4, rfl, ho4, hb4⟩
          obtain ⟨A4, c4, rfl, hl4, hc4, hr4, hA4⟩ := ho4.parts
          rw [rowsL_length] at hl4
          rw [rowsL_length]
          have hb34 := hbe.trans (hb4.mono hbe.size)
          have hown4 := hown.below hb34 (Nat.le_refl _)
          have hA5 : ∀ a, A4 = some a → w3.heap.size ≤ a.block := fun a e => Nat.le_trans hbe.size (hA4 a e)
          have hs34 := hb34.size
          have hZ3 : Z.heap.size ≤ w3.heap.size := hbw.size
          clear hbe hBe hB3
          go_wp2_with (at_builtin; refine wpList_appRow rfl (.tmp 47) (.tmp 53) rfl Z.heap.size _ (na + k) _ hown4 A4 (m1 + m2) c4 hr4 (rowsL_length _ _ _ _) hl4 hc4 w3.heap.size hownH.lt0 hA5 hZ3 rfl rfl rfl (by omega) (Nat.le_trans hZ3 hs34) ?_; intro v5 w5 ho5 hb5)
          go_roundw
          case rel => exact ⟨k + 1, by omega, by go_num, ho5, hbw.trans ((hb34.mono hbw.size).trans (hb5.mono (Nat.le_refl _)))⟩
          case measure => simp [intOf]; omega
        · obtain rfl : nb = k := by omega
          have hB9 := hB.trans (hbw.mono hB.size)
          obtain ⟨A9, c9, rfl, hr9⟩ := hown.rdm
          have hG9 := Lib.hid (hG w3 A9 c9 ((hra.below hB9).more hB9.size) hr9)
          obtain ⟨a0, a1, a2, a3, a4, -⟩ := fa.out.keep hbw (by omega)
          obtain ⟨c0, c1, c2, c3, c4, -⟩ := fb.out.keep hbw (by omega)
          have hs9 : s + 1 + 1 < w3.heap.size := Nat.lt_of_lt_of_le hZs hbw.size
          have fz9 := fz.keep hbw hZs
          clear hG fz hown hr9
          go_wp2_with (fail)
          (with_reducible refine hG9.out.mono ?_)
          rintro e w6 ⟨A6, c6, Al, cl, rfl, hr6, hA6, hru, hb6⟩
          obtain ⟨t0, t1, t2, t3, t4, g0, g1, g2, g3, g4⟩ := fz9.keep hb6 hs9
          have hrf := Lib.hid (hr6.set5 (b := s + 1 + 1) (fun b hb => by have := hA6 b hb; omega) (.int .i64 P) (.int .i64 M) (.slice A6 ml.length c6) (.int .i64 N) (.slice Al n cl))
          have hruf : Hid (RdMU (((((w6.setCell ⟨s + 1 + 1, 0, none⟩ (.int .i64 P)).setCell ⟨s + 1 + 1, 1, none⟩ (.int .i64 M)).setCell ⟨s + 1 + 1, 2, none⟩ (.slice A6 ml.length c6)).setCell ⟨s + 1 + 1, 3, none⟩ (.int .i64 N)).setCell ⟨s + 1 + 1, 4, none⟩ (.slice Al n cl)) w3.heap.size w6.heap.size Al n rows) := hru.keepU fun p hp _ => set5_above (b := s + 1 + 1) (L := w3.heap.size) hs9 _ _ _ _ _ p hp
          have hBf : Hid (Below w.heap.size w (((((w6.setCell ⟨s + 1 + 1, 0, none⟩ (.int .i64 P)).setCell ⟨s + 1 + 1, 1, none⟩ (.int .i64 M)).setCell ⟨s + 1 + 1, 2, none⟩ (.slice A6 ml.length c6)).setCell ⟨s + 1 + 1, 3, none⟩ (.int .i64 N)).setCell ⟨s + 1 + 1, 4, none⟩ (.slice Al n cl))) := (hB9.trans (hb6.mono hB9.size)).trans ((set5 _ _ _ _ _).mono (by omega))
          have hsz : Hid ((((((w6.setCell ⟨s + 1 + 1, 0, none⟩ (.int .i64 P)).setCell ⟨s + 1 + 1, 1, none⟩ (.int .i64 M)).setCell ⟨s + 1 + 1, 2, none⟩ (.slice A6 ml.length c6)).setCell ⟨s + 1 + 1, 3, none⟩ (.int .i64 N)).setCell ⟨s + 1 + 1, 4, none⟩ (.slice Al n cl)).heap.size = w6.heap.size) := by unfold Hid; simp [World.setCell]
          have hW9 : w.heap.size ≤ w3.heap.size := hB9.size
          have hA9 : ∀ b, A6 = some b → w.heap.size ≤ b.block := fun b hb => Nat.le_trans hW9 (hA6 b hb)
          clear hr6 hA6 hru hb6 hB9 hG9
          go_wp2_with (fail)
          refine bodyPost_ret (v := .tuple #[.agg #[.int .i64 P, .int .i64 M, .slice A6 ml.length c6, .int .i64 N, .slice Al n cl], .int .i64 E]) (by simp [results, Try.results14, go_sem, t0, t1, t2, t3, t4]) rfl ⟨A6, c6, Al, cl, rfl, hrf.out.more (by rw [hsz.out]; exact Nat.le_refl _), hA9, ?_, hBf.out⟩
          have h5 := hruf.out.low hW9
          rw [← hsz.out] at h5
          exact h5

end Go.Proofs.Ytkmhopefnfaecaa
