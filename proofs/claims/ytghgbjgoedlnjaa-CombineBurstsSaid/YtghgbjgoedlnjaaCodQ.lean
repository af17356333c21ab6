/- The reference's Interleave: errors, and the code; one result of both. -/
import Derived.Test.YtghgbjgoedlnjaaCodO
namespace Go.Proofs.Ytghgbjgoedlnjaa
open Go.RowKit Cw
attribute [local go_sem] Oper.semAt_some

set_option maxRecDepth 100000 in
set_option maxHeartbeats 2000000 in
theorem rInter_err (Pa Ma Na : Int) (mla : List Int) (na : Nat) (rowsa : Nat → List Int) (Aa Ra : Option Addr) (ca ka : Nat) (x : Int) (w : World) (hPa : I64 Pa) (hMa : I64 Ma) (hla : mla.length ≤ maxLen) (hna : na ≤ 64) (hka : ∀ i, i < na → (rowsa i).length ≤ 4200) (hra : Rd w w.heap.size Aa mla) (hma : RdM w w.heap.size Ra na rowsa) (hE0 : cErr Pa Ma Na mla na rowsa ≠ 0) :
    Calls Try.prog 16 #[.agg #[.int .i64 Pa, .int .i64 Ma, .slice Aa mla.length ca, .int .i64 Na, .slice Ra na ka], .int .i64 x] w (ResErr (cErr Pa Ma Na mla na rowsa) w) := by
  obtain ⟨Z, hZ⟩ : ∃ Z, Z = ((w.alloc (.cells #[.int .i64 Pa, .int .i64 Ma, .slice Aa mla.length ca, .int .i64 Na, .slice Ra na ka] 27)).alloc (.cells #[.int .i64 0, .int .i64 0, .slice none 0 0, .int .i64 0, .slice none 0 0] 27)) := ⟨_, rfl⟩
  have hB : Below w.heap.size w Z := by rw [hZ]; exact ((Below.refl _ _).alloc (Nat.le_refl _) _).alloc (by simp) _
  obtain ⟨s, hs⟩ : ∃ s, s = w.heap.size := ⟨_, rfl⟩
  obtain ⟨hZe, fa, fz⟩ := one_enter Pa Ma Na mla na rowsa Aa Ra ca ka w hZ hs
  have hZs : s + 1 < Z.heap.size := by omega
  have hC1 := Check12_any Pa Ma Na mla na rowsa Aa Ra ca ka Z hPa hMa hla hna hka ((hra.below hB).more hB.size) ((hma.below hB).more hB.size)
  generalize cErr Pa Ma Na mla na rowsa = E at *
  have hEb : (E != 0) = true := by rw [bne_iff_ne]; exact hE0
  replace hE0 := Lib.hid hE0
  replace hC1 := Lib.hid hC1
  replace hZe := Lib.hid hZe
  replace hZ := Lib.hid hZ
  clear hka
  obtain ⟨a0, a1, a2, a3, a4, -⟩ := fa
  go_enter Try.func16, Try.ntmps16
  go_wp2_with (fail)
  rw [← hZ.out]
  simp only [← hs]
  have hsw : w.heap.size ≤ s := Nat.le_of_eq hs.symm
  replace hs := Lib.hid hs
  (with_reducible refine hC1.out.mono ?_)
  rintro e w1 ⟨rfl, hbz⟩
  have hBf := Lib.hid ((hB.trans (hbz.mono hB.size)).trans ((set5 (w3 := w1) (b := s + 1) (.int .i64 0) (.int .i64 0) (.slice none 0 0) (.int .i64 0) (.slice none 0 0)).mono (by omega)))
  obtain ⟨q0, q1, q2, q3, q4, g0, g1, g2, g3, g4⟩ := fz.keep hbz hZs
  clear hbz hB fz a0 a1 a2 a3 a4
  go_wp2_with (fail)
  refine bodyPost_ret (v := .tuple #[.agg #[.int .i64 0, .int .i64 0, .slice none 0 0, .int .i64 0, .slice none 0 0], .int .i64 E]) (by simp [results, Try.results16, go_sem, q0, q1, q2, q3, q4]) rfl (resErr hBf.out)

set_option maxRecDepth 100000 in
set_option maxHeartbeats 2000000 in
theorem rInter_range (Pa Ma Na : Int) (mla : List Int) (na : Nat) (rowsa : Nat → List Int) (Aa Ra : Option Addr) (ca ka : Nat) (x : Int) (w : World) (hPa : I64 Pa) (hMa : I64 Ma) (hla : mla.length ≤ maxLen) (hna : na ≤ 64) (hka : ∀ i, i < na → (rowsa i).length ≤ 4200) (hra : Rd w w.heap.size Aa mla) (hma : RdM w w.heap.size Ra na rowsa) (hE : cErr Pa Ma Na mla na rowsa = 0) (hx : x < 1) :
    Calls Try.prog 16 #[.agg #[.int .i64 Pa, .int .i64 Ma, .slice Aa mla.length ca, .int .i64 Na, .slice Ra na ka], .int .i64 x] w (ResErr 6 w) := by
  obtain ⟨Z, hZ⟩ : ∃ Z, Z = ((w.alloc (.cells #[.int .i64 Pa, .int .i64 Ma, .slice Aa mla.length ca, .int .i64 Na, .slice Ra na ka] 27)).alloc (.cells #[.int .i64 0, .int .i64 0, .slice none 0 0, .int .i64 0, .slice none 0 0] 27)) := ⟨_, rfl⟩
  have hB : Below w.heap.size w Z := by rw [hZ]; exact ((Below.refl _ _).alloc (Nat.le_refl _) _).alloc (by simp) _
  obtain ⟨s, hs⟩ : ∃ s, s = w.heap.size := ⟨_, rfl⟩
  obtain ⟨hZe, fa, fz⟩ := one_enter Pa Ma Na mla na rowsa Aa Ra ca ka w hZ hs
  have hZs : s + 1 < Z.heap.size := by omega
  have hC1 := Check12_any Pa Ma Na mla na rowsa Aa Ra ca ka Z hPa hMa hla hna hka ((hra.below hB).more hB.size) ((hma.below hB).more hB.size)
  rw [hE] at hC1
  have hxb : decide (x < 1) = true := decide_eq_true hx
  replace hE := Lib.hid hE
  replace hC1 := Lib.hid hC1
  replace hZe := Lib.hid hZe
  replace hZ := Lib.hid hZ
  clear hka
  obtain ⟨a0, a1, a2, a3, a4, -⟩ := fa
  go_enter Try.func16, Try.ntmps16
  go_wp2_with (fail)
  rw [← hZ.out]
  simp only [← hs]
  have hsw : w.heap.size ≤ s := Nat.le_of_eq hs.symm
  replace hs := Lib.hid hs
  (with_reducible refine hC1.out.mono ?_)
  rintro e w1 ⟨rfl, hbz⟩
  have hBf := Lib.hid ((hB.trans (hbz.mono hB.size)).trans ((set5 (w3 := w1) (b := s + 1) (.int .i64 0) (.int .i64 0) (.slice none 0 0) (.int .i64 0) (.slice none 0 0)).mono (by omega)))
  obtain ⟨q0, q1, q2, q3, q4, g0, g1, g2, g3, g4⟩ := fz.keep hbz hZs
  clear hbz hB fz a0 a1 a2 a3 a4
  go_wp2_with (fail)
  refine bodyPost_ret (v := .tuple #[.agg #[.int .i64 0, .int .i64 0, .slice none 0 0, .int .i64 0, .slice none 0 0], .int .i64 6]) (by simp [results, Try.results16, go_sem, q0, q1, q2, q3, q4]) rfl (resErr hBf.out)

set_option maxRecDepth 100000 in
set_option maxHeartbeats 2000000 in
theorem rInter_len (Pa Ma Na : Int) (mla : List Int) (na : Nat) (rowsa : Nat → List Int) (Aa Ra : Option Addr) (ca ka : Nat) (x : Int) (w : World) (hPa : I64 Pa) (hMa : I64 Ma) (hla : mla.length ≤ maxLen) (hna : na ≤ 64) (hka : ∀ i, i < na → (rowsa i).length ≤ 4200) (hra : Rd w w.heap.size Aa mla) (hma : RdM w w.heap.size Ra na rowsa) (hE : cErr Pa Ma Na mla na rowsa = 0) (hN : 1 ≤ Na ∧ Na ≤ 64) (hx : 1 ≤ x) (hx2 : 64 / Na < x) :
    Calls Try.prog 16 #[.agg #[.int .i64 Pa, .int .i64 Ma, .slice Aa mla.length ca, .int .i64 Na, .slice Ra na ka], .int .i64 x] w (ResErr 4 w) := by
  obtain ⟨hN1, hN2⟩ := hN
  obtain ⟨Z, hZ⟩ : ∃ Z, Z = ((w.alloc (.cells #[.int .i64 Pa, .int .i64 Ma, .slice Aa mla.length ca, .int .i64 Na, .slice Ra na ka] 27)).alloc (.cells #[.int .i64 0, .int .i64 0, .slice none 0 0, .int .i64 0, .slice none 0 0] 27)) := ⟨_, rfl⟩
  have hB : Below w.heap.size w Z := by rw [hZ]; exact ((Below.refl _ _).alloc (Nat.le_refl _) _).alloc (by simp) _
  obtain ⟨s, hs⟩ : ∃ s, s = w.heap.size := ⟨_, rfl⟩
  obtain ⟨hZe, fa, fz⟩ := one_enter Pa Ma Na mla na rowsa Aa Ra ca ka w hZ hs
  have hZs : s + 1 < Z.heap.size := by omega
  have hC1 := Check12_any Pa Ma Na mla na rowsa Aa Ra ca ka Z hPa hMa hla hna hka ((hra.below hB).more hB.size) ((hma.below hB).more hB.size)
  rw [hE] at hC1
  have hn0 : ¬ Na = 0 := by omega
  have hxb : ¬ x < 1 := by omega
  replace hE := Lib.hid hE
  replace hC1 := Lib.hid hC1
  replace hZe := Lib.hid hZe
  replace hZ := Lib.hid hZ
  clear hka
  obtain ⟨a0, a1, a2, a3, a4, -⟩ := Five.keep fa (Below.refl Z.heap.size Z) (by have := hZe.out; omega)
  have faH := Lib.hid fa
  clear fa
  go_enter Try.func16, Try.ntmps16
  go_wp2_with (fail)
  rw [← hZ.out]
  simp only [← hs]
  have hsw : w.heap.size ≤ s := Nat.le_of_eq hs.symm
  replace hs := Lib.hid hs
  (with_reducible refine hC1.out.mono ?_)
  rintro e w1 ⟨rfl, hbz⟩
  have hBf := Lib.hid ((hB.trans (hbz.mono hB.size)).trans ((set5 (w3 := w1) (b := s + 1) (.int .i64 0) (.int .i64 0) (.slice none 0 0) (.int .i64 0) (.slice none 0 0)).mono (by omega)))
  obtain ⟨q0, q1, q2, q3, q4, g0, g1, g2, g3, g4⟩ := fz.keep hbz hZs
  clear a0 a1 a2 a3 a4
  obtain ⟨a0, a1, a2, a3, a4, -⟩ := faH.out.keep hbz (by omega)
  clear hbz hB fz
  go_wp2_with (fail)
  refine bodyPost_ret (v := .tuple #[.agg #[.int .i64 0, .int .i64 0, .slice none 0 0, .int .i64 0, .slice none 0 0], .int .i64 4]) (by simp [results, Try.results16, go_sem, q0, q1, q2, q3, q4]) rfl (resErr hBf.out)
set_option maxRecDepth 100000 in
set_option maxHeartbeats 4000000 in
theorem rInter_code (Pa Ma Na : Int) (mla : List Int) (na : Nat) (rowsa : Nat → List Int) (Aa Ra : Option Addr) (ca ka : Nat) (d : Nat) (w : World) (hPa : I64 Pa) (hMa : I64 Ma) (hla : mla.length ≤ maxLen) (hna : na ≤ 64) (hka : ∀ i, i < na → (rowsa i).length ≤ 4200) (hra : Rd w w.heap.size Aa mla) (hma : RdM w w.heap.size Ra na rowsa) (F : FD) (m1 : Nat) (M1 : Nat → Nat → R F.toDesc) (va : VC Pa Ma Na mla na rowsa F m1 M1) (hE : cErr Pa Ma Na mla na rowsa = 0) (hd1 : 1 ≤ d) (NN : Nat) (hNN : NN = m1 * d) (hN64 : NN ≤ 64) {P M N : Int} {ml : List Int} {n : Nat} {rows : Nat → List Int} 
    (hG : ∀ (W : World) (Al : Option Addr) (cl : Nat), Rd W W.heap.size Aa mla → RdM W W.heap.size Al (na * d) (rowsL F.toDesc NN (ivR d na M1)) → Calls Try.prog 34 #[.agg #[.int .i64 Pa, .int .i64 Ma, .slice Aa mla.length ca], .slice Al (na * d) cl, .int .i64 (NN : Int)] W (ResM P M N ml n rows W)) :
    Calls Try.prog 16 #[.agg #[.int .i64 Pa, .int .i64 Ma, .slice Aa mla.length ca, .int .i64 Na, .slice Ra na ka], .int .i64 (d : Int)] w (ResC P M N ml n rows 0 w) := by
  have hN1 := va.hN
  subst hN1
  have hm0 := va.m1
  have hm1 := va.m64
  have hdm : d ≤ NN := by rw [hNN]; exact Nat.le_mul_of_pos_left d (by omega)
  have hmd : m1 ≤ NN := by rw [hNN]; exact Nat.le_mul_of_pos_right m1 (by omega)
  have hmar := va.rdm hma
  have hq1 : ¬ (d : Int) < 1 := by omega
  have hq2 : ¬ (64 : Int) / (m1 : Int) < (d : Int) := by
    have h3 : d ≤ 64 / m1 := (Nat.le_div_iff_mul_le (by omega)).2 (by rw [Nat.mul_comm, ← hNN]; exact hN64)
    have h4 : ((64 / m1 : Nat) : Int) = (64 : Int) / (m1 : Int) := by push_cast; rfl
    omega
  have hq3 : ¬ (m1 : Int) = 0 := by omega
  have hmul : IntKind.i64.wrap ((m1 : Int) * (d : Int)) = (NN : Int) := by
    rw [show ((m1 : Int) * (d : Int)) = (NN : Int) from by rw [hNN]; push_cast; rfl]
    exact IntWalk.i64_in _ (by omega)
  have hmk := mk_ints NN (by omega)
  have hlt2 : ∀ i j, i < m1 → j < d → i * d + j < NN := fun i j hi hj => by
    rw [hNN, Nat.mul_comm i d]; exact idx_lt hi hj
  replace hlt2 := fun i j hi hj => Lib.hid (hlt2 i j hi hj)
  obtain ⟨Z, hZ⟩ : ∃ Z, Z = ((w.alloc (.cells #[.int .i64 Pa, .int .i64 Ma, .slice Aa mla.length ca, .int .i64 m1, .slice Ra na ka] 27)).alloc (.cells #[.int .i64 0, .int .i64 0, .slice none 0 0, .int .i64 0, .slice none 0 0] 27)) := ⟨_, rfl⟩
  have hB : Below w.heap.size w Z := by rw [hZ]; exact ((Below.refl _ _).alloc (Nat.le_refl _) _).alloc (by simp) _
  obtain ⟨s, hs⟩ : ∃ s, s = w.heap.size := ⟨_, rfl⟩
  obtain ⟨hZe, fa, fz⟩ := one_enter Pa Ma m1 mla na rowsa Aa Ra ca ka w hZ hs
  have hZs : s + 1 < Z.heap.size := by omega
  have hC1 := Check12_any Pa Ma m1 mla na rowsa Aa Ra ca ka Z hPa hMa hla hna hka ((hra.below hB).more hB.size) ((hma.below hB).more hB.size)
  rw [hE] at hC1
  replace hC1 := Lib.hid hC1
  replace hZe := Lib.hid hZe
  replace hE := Lib.hid hE
  replace hZ := Lib.hid hZ
  replace hNN := Lib.hid hNN
  have faH := Lib.hid fa
  obtain ⟨a0, a1, a2, a3, a4, -⟩ := fa
  clear hka va hma
  unfold ResC
  unfold ResM at hG
  go_enter Try.func16, Try.ntmps16
  go_wp2_with (fail)
  rw [← hZ.out]
  simp only [← hs]
  have hsw : w.heap.size ≤ s := Nat.le_of_eq hs.symm
  replace hs := Lib.hid hs
  (with_reducible refine hC1.out.mono ?_)
  rintro e w1 ⟨rfl, hbz⟩
  clear a0 a1 a2 a3 a4
  obtain ⟨a0, a1, a2, a3, a4, -⟩ := faH.out.keep hbz (by omega)
  clear hC1
  go_wp2_with (fail)
  clear a0 a1 a2 a3 a4
  go_loopw [8, 7, 9, 10, 11] (fun iS vS _ _ _ wr => ∃ j : Nat, j ≤ d ∧ iS = .int .i64 j ∧ OwnM wr Z.heap.size vS (na * j) (rowsL F.toDesc NN (ivR d na M1)) ∧ Below Z.heap.size Z wr) (fun iS _ _ _ _ _ => d - (intOf iS).toNat)
  case atStart => exact ⟨0, by omega, rfl, by rw [Nat.mul_zero]; exact OwnM.nil _ _ _, hbz⟩
  case round =>
    obtain ⟨j, hj, rfl, hown, hbw⟩ := hrel
    obtain ⟨w3, rfl⟩ : ∃ w3 : World, w3 = wr := ⟨_, rfl⟩
    have hB3 := hB.trans (hbw.mono hB.size)
    by_cases hjd : j < d
    · have hj0 : (0 : Int) ≤ (j : Int) := by omega
      have hj1 : (j : Int) < (d : Int) := by omega
      obtain ⟨Av, cv, rfl⟩ := hown.size
      go_wp2_with (fail)
      go_loopw [9, 7, 10, 11] (fun iS vS _ _ wr => ∃ k : Nat, k ≤ na ∧ iS = .int .i64 k ∧ OwnM wr Z.heap.size vS (na * j + k) (rowsL F.toDesc NN (ivR d na M1)) ∧ Below Z.heap.size Z wr) (fun iS _ _ _ _ => na - (intOf iS).toNat)
      case atStart => exact ⟨0, by omega, rfl, by rw [Nat.add_zero]; exact hown, hbw⟩
      case round =>
        obtain ⟨k, hk, rfl, hown4, hZ4⟩ := hrel
        obtain ⟨w4, rfl⟩ : ∃ w4 : World, w4 = wr := ⟨_, rfl⟩
        have hB4 := hB.trans (hZ4.mono hB.size)
        have hZ34 : Z.heap.size ≤ w4.heap.size := hZ4.size
        have hsl : s < w4.heap.size := by omega
        have fa4 := faH.out.keep hZ4 (by omega)
        have fa4H := Lib.hid fa4
        obtain ⟨a0, a1, a2, a3, a4, -⟩ := fa4
        by_cases hlt : k < na
        · have hk0 : (0 : Int) ≤ (k : Int) := by omega
          have hk1 : (k : Int) < (na : Int) := by omega
          obtain ⟨ba, oa, Ka, la, rfl, hha, hca, hrka, hlka, hcka⟩ := hmar.at_ (show k < na by omega)
          rw [rowsL_length] at hca hlka
          have hda := (hB4.cell (p := ⟨ba, oa + k, none⟩) hha).trans hca
          have hba4 : ba < w4.heap.size := Nat.lt_of_lt_of_le hha hB4.size
          clear hca
          obtain ⟨g, hg⟩ : ∃ g, g = w4.heap.size := ⟨_, rfl⟩
          obtain ⟨Y, hY⟩ : ∃ Y, Y = w4.alloc (.cells (Array.replicate NN (Value.int .i64 0)) 3) := ⟨_, rfl⟩
          have hbY : Below w4.heap.size w4 Y := by rw [hY]; exact (Below.refl _ _).alloc (Nat.le_refl _) _
          have hib : IB Y g (List.replicate NN 0) := by rw [hY, hg]; exact IB.newz w4 NN
          have hYs : g < Y.heap.size := by rw [hY, hg]; simp
          have hrk4 := (hrka.below hB4).more hB4.size
          have hownH := hown4
          obtain ⟨Av4, cv4, rfl⟩ := hown4.size
          have hgH := Lib.hid hg
          replace hY := Lib.hid hY
          clear hg
          go_wp2_with (fail)
          rw [← hY.out]
          rw [← hgH.out]
          replace hda := Lib.hid hda
          clear a0 a1 a2 a3 a4
          go_loopw [11] (fun iS wr => ∃ i : Nat, i ≤ m1 ∧ iS = .int .i64 i ∧ IB wr g (ivL d j NN (rowL F.toDesc m1 (M1 k)) i) ∧ Below w4.heap.size w4 wr ∧ g < wr.heap.size) (fun iS _ => m1 - (intOf iS).toNat)
          case atStart => exact ⟨0, by omega, rfl, by rw [ivL_zero]; exact hib, hbY, hYs⟩
          case round =>
            obtain ⟨i, hi, rfl, hib5, hbq, hgl⟩ := hrel
            obtain ⟨w5, rfl⟩ : ∃ w5 : World, w5 = wr := ⟨_, rfl⟩
            obtain ⟨a0, a1, a2, a3, a4, -⟩ := fa4H.out.keep hbq hsl
            by_cases him : i < m1
            · have hi0 : (0 : Int) ≤ (i : Int) := by omega
              have hi1 : (i : Int) < (m1 : Int) := by omega
              have hdh := (hbq.cell (p := ⟨ba, oa + k, none⟩) hba4).trans hda.out
              obtain ⟨br, or, rfl, hbr, hcr⟩ := hrk4.at_ (show i < (rowsL F.toDesc m1 M1 k).length by rw [rowsL_length]; exact him)
              have hdr := (hbq.cell (p := ⟨br, or + i, none⟩) hbr).trans hcr
              have hset := Lib.hid (hib5.set_ (i * d + j) ((rowL F.toDesc m1 (M1 k))[i]?.getD 0))
              have hnext := ivL_set (s := d) (k := j) (N := NN) (rowL F.toDesc m1 (M1 k)) (i := i) hjd
              have hsetB := Lib.hid (hbq.setCell (p := ⟨g, i * d + j, none⟩) (Nat.le_of_eq hgH.out.symm) (.int .i64 ((rowL F.toDesc m1 (M1 k))[i]?.getD 0)))
              have hix := (hlt2 i j him hjd).out
              have hfz := hib5.frozen (i * d + j)
              have hcl := hib5.cell (i := i * d + j) (by rw [ivL_length]; exact hix)
              generalize hyy : (rowL F.toDesc m1 (M1 k))[i]?.getD 0 = y at *
              rw [show (rowsL F.toDesc m1 M1 k)[i]?.getD 0 = y from hyy] at hdr
              obtain ⟨T, hT⟩ : ∃ T, T = i * d := ⟨_, rfl⟩
              have hw1 : IntKind.i64.wrap ((i : Int) * (d : Int)) = (T : Int) := by
                rw [show ((i : Int) * (d : Int)) = (T : Int) from by rw [hT]; push_cast; rfl]
                exact IntWalk.i64_in _ (by omega)
              rw [← hT] at hset hnext hsetB hix hfz hcl
              have hsz5 : Hid (g < (w5.setCell ⟨g, T + j, none⟩ (.int .i64 y)).heap.size) := by unfold Hid; simp [World.setCell]; exact hgl
              replace hT := Lib.hid hT
              replace hnext := Lib.hid hnext
              replace hyy := Lib.hid hyy
              have hix0 : (0 : Int) ≤ (T : Int) + (j : Int) := by omega
              have hix1 : (T : Int) + (j : Int) < (NN : Int) := by omega
              have hixn : ((T : Int) + (j : Int)).toNat = T + j := by omega
              clear hcr
              go_wp2_with (fail)
              go_roundw
              case rel => exact ⟨i + 1, by omega, by go_num, by rw [← hnext.out]; exact hset.out, hsetB.out, hsz5.out⟩
              case measure => simp [intOf]; omega
            · obtain rfl : m1 = i := by omega
              have hfull := ivL_full F d j m1 (M1 k)
              rw [← hNN.out] at hfull
              have hrow : rowsL F.toDesc NN (ivR d na M1) (na * j + k) = rowL F.toDesc NN (iv d j (M1 k)) := by
                unfold rowsL ivR
                rw [(divmod_mul hlt).1, (divmod_mul hlt).2]
              rw [hfull, ← hrow] at hib5
              have hr5 := hib5.rd
              have hown5 := hownH.below hbq (Nat.le_refl _)
              replace hfull := Lib.hid hfull
              replace hrow := Lib.hid hrow
              have hs45 := hbq.size
              have hdk : na * j ≤ 64 * 64 := Nat.mul_le_mul (by omega) (by omega)
              have hg4 : ∀ a, some (⟨g, 0, none⟩ : Addr) = some a → w4.heap.size ≤ a.block := fun a e => by cases e; exact Nat.le_of_eq hgH.out.symm
              clear hib5
              go_wp2_with (at_builtin; refine wpList_appRow rfl (.tmp 65) (.tmp 67) rfl Z.heap.size _ (na * j + k) _ hown5 (some ⟨g, 0, none⟩) NN NN hr5 (rowsL_length _ _ _ _) (Nat.le_refl _) (by unfold maxLen; omega) w4.heap.size hownH.lt0 hg4 hZ34 rfl rfl rfl (by omega) (Nat.le_trans hZ34 hs45) ?_; intro v6 w6 ho6 hb6)
              go_roundw
              case rel => exact ⟨k + 1, by omega, by go_num, ho6, hZ4.trans ((hbq.mono hZ4.size).trans (hb6.mono (Nat.le_refl _)))⟩
              case measure => simp [intOf]; omega
        · obtain rfl : na = k := by omega
          go_wp2_with (fail)
          go_roundw
          case rel => exact ⟨j + 1, by omega, by go_num, by rw [Nat.mul_succ]; exact hown4, hZ4⟩
          case measure => simp [intOf]; omega
    · obtain rfl : d = j := by omega
      obtain ⟨A9, c9, rfl, hr9⟩ := hown.rdm
      have hG9 := Lib.hid (hG w3 A9 c9 ((hra.below hB3).more hB3.size) hr9)
      have hs9 : s + 1 < w3.heap.size := Nat.lt_of_lt_of_le hZs hbw.size
      have fz9 := fz.keep hbw hZs
      obtain ⟨a0, a1, a2, a3, a4, -⟩ := faH.out.keep hbw (by omega)
      clear hG fz hown hr9
      go_wp2_with (fail)
      (with_reducible refine hG9.out.mono ?_)
      rintro e w6 ⟨A6, c6, Al, cl, rfl, hr6, hA6, hru, hb6⟩
      obtain ⟨t0, t1, t2, t3, t4, g0, g1, g2, g3, g4⟩ := fz9.keep hb6 hs9
      have hrf := Lib.hid (hr6.set5 (b := s + 1) (fun b hb => by have := hA6 b hb; omega) (.int .i64 P) (.int .i64 M) (.slice A6 ml.length c6) (.int .i64 N) (.slice Al n cl))
      have hruf : Hid (RdMU (((((w6.setCell ⟨s + 1, 0, none⟩ (.int .i64 P)).setCell ⟨s + 1, 1, none⟩ (.int .i64 M)).setCell ⟨s + 1, 2, none⟩ (.slice A6 ml.length c6)).setCell ⟨s + 1, 3, none⟩ (.int .i64 N)).setCell ⟨s + 1, 4, none⟩ (.slice Al n cl)) w3.heap.size w6.heap.size Al n rows) := hru.keepU fun p hp _ => set5_above (b := s + 1) (L := w3.heap.size) hs9 _ _ _ _ _ p hp
      have hBf : Hid (Below w.heap.size w (((((w6.setCell ⟨s + 1, 0, none⟩ (.int .i64 P)).setCell ⟨s + 1, 1, none⟩ (.int .i64 M)).setCell ⟨s + 1, 2, none⟩ (.slice A6 ml.length c6)).setCell ⟨s + 1, 3, none⟩ (.int .i64 N)).setCell ⟨s + 1, 4, none⟩ (.slice Al n cl))) := (hB3.trans (hb6.mono hB3.size)).trans ((set5 _ _ _ _ _).mono (by omega))
      have hsz : Hid ((((((w6.setCell ⟨s + 1, 0, none⟩ (.int .i64 P)).setCell ⟨s + 1, 1, none⟩ (.int .i64 M)).setCell ⟨s + 1, 2, none⟩ (.slice A6 ml.length c6)).setCell ⟨s + 1, 3, none⟩ (.int .i64 N)).setCell ⟨s + 1, 4, none⟩ (.slice Al n cl)).heap.size = w6.heap.size) := by unfold Hid; simp [World.setCell]
      have hW9 : w.heap.size ≤ w3.heap.size := hB3.size
      have hA9 : ∀ b, A6 = some b → w.heap.size ≤ b.block := fun b hb => Nat.le_trans hW9 (hA6 b hb)
      clear hr6 hA6 hru hb6 hB3 hG9
      go_wp2_with (fail)
      refine bodyPost_ret (v := .tuple #[.agg #[.int .i64 P, .int .i64 M, .slice A6 ml.length c6, .int .i64 N, .slice Al n cl], .int .i64 0]) (by simp [results, Try.results16, go_sem, t0, t1, t2, t3, t4]) rfl ⟨A6, c6, Al, cl, rfl, hrf.out.more (by rw [hsz.out]; exact Nat.le_refl _), hA9, ?_, hBf.out⟩
      have h5 := hruf.out.low hW9
      rw [← hsz.out] at h5
      exact h5

theorem RdMU.congr {w : World} {L B n : Nat} {A : Option Addr} {rows rows' : Nat → List Int} (h : RdMU w L B A n rows) (he : ∀ i, i < n → rows i = rows' i) : RdMU w L B A n rows' := fun hn => by
  obtain ⟨b, off, e, h1, h2, h3⟩ := h hn
  refine ⟨b, off, e, h1, h2, fun i hi => ?_⟩
  have h4 := h3 i hi
  rw [he i hi] at h4
  exact h4
/-- A code lies in memory. -/
def Pre1 (mla : List Int) (na : Nat) (rowsa : Nat → List Int) (Aa Ra : Option Addr) (W : World) : Prop := Rd W W.heap.size Aa mla ∧ RdM W W.heap.size Ra na rowsa
theorem gen_codeN (F : FD) (hgood : Good F.p F.m (modL F.toDesc)) (n m : Nat) (M : Nat → Nat → R F.toDesc) (A Ar : Option Addr) (c cr : Nat) (w : World) (hr : Rd w w.heap.size A (modL F.toDesc)) (hrm : RdM w w.heap.size Ar n (rowsL F.toDesc m M)) (hn : n ≤ 256) (hm1 : 1 ≤ m) (hm : m ≤ 64) :
    Calls Try.prog 53 #[.agg #[.int .i64 F.p, .int .i64 F.m, .slice A (modL F.toDesc).length c], .int .i64 (m : Int), .slice Ar n cr] w (ResCode F n m M w) := by
  rw [modL_length]
  exact cGenerated_ok F hgood n m M A Ar c cr w hr hrm hn hm1 hm
theorem Inter_both (Pa Ma Na : Int) (mla : List Int) (na : Nat) (rowsa : Nat → List Int) (Aa Ra : Option Addr) (ca ka : Nat) (x : Int) (hPa : I64 Pa) (hMa : I64 Ma) (hla : mla.length ≤ maxLen) (hna : na ≤ 64) (hka : ∀ i, i < na → (rowsa i).length ≤ 4200) : BothC 15 16 #[.agg #[.int .i64 Pa, .int .i64 Ma, .slice Aa mla.length ca, .int .i64 Na, .slice Ra na ka], .int .i64 x] (Pre1 mla na rowsa Aa Ra) := by
  by_cases hE : cErr Pa Ma Na mla na rowsa = 0
  · obtain ⟨F, m1, M1, va⟩ := cErr_zero hE
    have hgood := va.good
    have h1 := va.m1; have h2 := va.m64; have h5 := va.le
    have eNa := va.hN
    by_cases hx : x < 1
    · exact both_err 6 (fun W h => cInter_range Pa Ma Na mla na rowsa Aa Ra ca ka x W hPa hMa hla hna hka h.1 h.2 hE hx) (fun W h => rInter_range Pa Ma Na mla na rowsa Aa Ra ca ka x W hPa hMa hla hna hka h.1 h.2 hE hx)
    by_cases hl : 64 / Na < x
    · exact both_err 4 (fun W h => cInter_len Pa Ma Na mla na rowsa Aa Ra ca ka x W hPa hMa hla hna hka h.1 h.2 hE ⟨by omega, by omega⟩ (by omega) hl) (fun W h => rInter_len Pa Ma Na mla na rowsa Aa Ra ca ka x W hPa hMa hla hna hka h.1 h.2 hE ⟨by omega, by omega⟩ (by omega) hl)
    obtain ⟨d, rfl⟩ : ∃ d : Nat, x = d := ⟨x.toNat, by omega⟩
    have hd : d ≤ 64 / m1 := by
      rw [eNa] at hl
      have h4 : ((64 / m1 : Nat) : Int) = (64 : Int) / (m1 : Int) := Int.natCast_ediv 64 m1
      omega
    have hmd : m1 * d ≤ 64 := by rw [Nat.mul_comm]; exact (Nat.le_div_iff_mul_le (by omega)).1 hd
    have hnd : na * d ≤ m1 * d := Nat.mul_le_mul_right d h5
    have eP := va.hP; have eM := va.hM; have eL := va.hl
    have hss : SameSpan (na * d) (na * d) (m1 * d) (ivP d M1) (ivR d na M1) := by have h := iv_same na d (m1 * d) M1; rwa [Nat.mul_comm d na] at h
    obtain ⟨u1, u2⟩ := elS_uniq hss
    have hrk : rkS F (na * d) (m1 * d) (ivP d M1) = rkS F (na * d) (m1 * d) (ivR d na M1) := u1
    have hrows : ∀ i, i < rkS F (na * d) (m1 * d) (ivP d M1) → rowsL F.toDesc (m1 * d) (elS (na * d) (ivR d na M1) (m1 * d)).1 i = rowsL F.toDesc (m1 * d) (elS (na * d) (ivP d M1) (m1 * d)).1 i := fun i hi => by
      unfold rowsL rowL
      exact lst_congr fun j hj => congrArg ci ((u2 i hi).2 j hj).symm
    refine both_code F (na * d) (m1 * d) (ivP d M1) (by omega) (by omega) (fun W h => ?_) (fun W h => ?_)
    · refine cInter_code Pa Ma Na mla na rowsa Aa Ra ca ka d W hPa hMa hla hna hka h.1 h.2 F m1 M1 va hE (by omega) (m1 * d) rfl hmd fun W2 Al cl g1 g2 => ?_
      subst eP eM eL
      rw [Nat.mul_comm d na] at g2 ⊢
      exact gen_codeN F hgood _ (m1 * d) _ Aa Al ca cl W2 g1 g2 (by omega) (Nat.mul_pos h1 (by omega)) hmd
    · refine rInter_code Pa Ma Na mla na rowsa Aa Ra ca ka d W hPa hMa hla hna hka h.1 h.2 F m1 M1 va hE (by omega) (m1 * d) rfl hmd fun W2 Al cl g1 g2 => ?_
      subst eP eM eL
      refine (make_code F (na * d) (m1 * d) _ rfl _ Aa Al ca cl W2 g1 g2 (by omega) (by omega)).mono ?_
      rintro e w' ⟨A, c, Al2, cl2, rfl, k1, k2, k3, k4⟩
      rw [← hrk] at k3
      exact ⟨A, c, Al2, cl2, by rw [hrk], k1, k2, k3.congr fun i hi => hrows i hi, k4⟩
  · exact both_err _ (fun W h => cInter_err Pa Ma Na mla na rowsa Aa Ra ca ka x W hPa hMa hla hna hka h.1 h.2 hE) (fun W h => rInter_err Pa Ma Na mla na rowsa Aa Ra ca ka x W hPa hMa hla hna hka h.1 h.2 hE)
end Go.Proofs.Ytghgbjgoedlnjaa
