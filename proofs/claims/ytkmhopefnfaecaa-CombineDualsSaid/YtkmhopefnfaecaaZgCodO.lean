/- combine.Interleave of the program: errors, and the code. -/
import Derived.IntWalk
import Derived.Test.YtkmhopefnfaecaaZgT00
namespace Go.Proofs.Ytkmhopefnfaecaa
open Go.RowKit Cw
attribute [local go_sem] Oper.semAt_some
/-- The two blocks that a function of one code begins with. -/
theorem one_enter (Pa Ma Na : Int) (mla : List Int) (na : Nat) (rowsa : Nat → List Int) (Aa Ra : Option Addr) (ca ka : Nat) (w : World) {Z : World} (hZ : Z = ((w.alloc (.cells #[.int .i64 Pa, .int .i64 Ma, .slice Aa mla.length ca, .int .i64 Na, .slice Ra na ka] 27)).alloc (.cells #[.int .i64 0, .int .i64 0, .slice none 0 0, .int .i64 0, .slice none 0 0] 27))) {s : Nat} (hs : s = w.heap.size) : Z.heap.size = s + 1 + 1 ∧ Five Z s (.int .i64 Pa) (.int .i64 Ma) (.slice Aa mla.length ca) (.int .i64 Na) (.slice Ra na ka) ∧ Five Z (s + 1) (.int .i64 0) (.int .i64 0) (.slice none 0 0) (.int .i64 0) (.slice none 0 0) := by
  subst hs
  have k1 := Five.new w (.int .i64 Pa) (.int .i64 Ma) (.slice Aa mla.length ca) (.int .i64 Na) (.slice Ra na ka) 27
  have k3 := Five.new (w.alloc (.cells #[.int .i64 Pa, .int .i64 Ma, .slice Aa mla.length ca, .int .i64 Na, .slice Ra na ka] 27)) (.int .i64 0) (.int .i64 0) (.slice none 0 0) (.int .i64 0) (.slice none 0 0) 27
  rw [World.size_alloc] at k3
  rw [hZ]
  exact ⟨by simp, k1.keep ((Below.refl _ _).alloc (Nat.le_refl _) _) (by simp), k3⟩

set_option maxRecDepth 100000 in
set_option maxHeartbeats 4000000 in
theorem cInter_code (Pa Ma Na : Int) (mla : List Int) (na : Nat) (rowsa : Nat → List Int) (Aa Ra : Option Addr) (ca ka : Nat) (d : Nat) (w : World) (hPa : I64 Pa) (hMa : I64 Ma) (hla : mla.length ≤ maxLen) (hna : na ≤ 64) (hka : ∀ i, i < na → (rowsa i).length ≤ 4200) (hra : Rd w w.heap.size Aa mla) (hma : RdM w w.heap.size Ra na rowsa) (F : FD) (m1 : Nat) (M1 : Nat → Nat → R F.toDesc) (va : VC Pa Ma Na mla na rowsa F m1 M1) (hE : cErr Pa Ma Na mla na rowsa = 0) (hd1 : 1 ≤ d) (NN : Nat) (hNN : NN = m1 * d) (hN64 : NN ≤ 64) {P M N : Int} {ml : List Int} {n : Nat} {rows : Nat → List Int} {E : Int}
    (hG : ∀ (W : World) (Al : Option Addr) (cl : Nat), Rd W W.heap.size Aa mla → RdM W W.heap.size Al (d * na) (rowsL F.toDesc NN (ivP d M1)) → Calls Try.prog 44 #[.agg #[.int .i64 Pa, .int .i64 Ma, .slice Aa mla.length ca], .int .i64 (NN : Int), .slice Al (d * na) cl] W (ResC P M N ml n rows E W)) :
    Calls Try.prog 13 #[.agg #[.int .i64 Pa, .int .i64 Ma, .slice Aa mla.length ca, .int .i64 Na, .slice Ra na ka], .int .i64 (d : Int)] w (ResC P M N ml n rows E w) := by
  have hN1 := va.hN
  subst hN1
  have hm0 := va.m1
  have hm1 := va.m64
  have hdm : d ≤ NN := by rw [hNN]; exact Nat.le_mul_of_pos_left d (by omega)
  have hmd : m1 ≤ NN := by rw [hNN]; exact Nat.le_mul_of_pos_right m1 (by omega)
  have hmar := va.rdm hma
  have hq1 : ¬ (d : Int) < 1 := by omega
  have hq2 : ¬ (64 : Int) / (m1 : Int) < (d : Int) := by
    have h3 : d ≤ 64 / m1 := (Nat.le_div_iff_mul_le (by omega)).2 (by rw [Nat.mul_comm, ← hNN]; exact hN64)
    have h4 : ((64 / m1 : Nat) : Int) = (64 : Int) / (m1 : Int) := by push_cast; rfl
    omega
  have hq3 : ¬ (m1 : Int) = 0 := by omega
  have hmul : IntKind.i64.wrap ((m1 : Int) * (d : Int)) = (NN : Int) := by
    rw [show ((m1 : Int) * (d : Int)) = (NN : Int) from by rw [hNN]; push_cast; rfl]
    exact IntWalk.i64_in _ (by omega)
  have hmk := mk_ints NN (by omega)
  have hlt2 : ∀ i j, i < m1 → j < d → i * d + j < NN := fun i j hi hj => by
    rw [hNN, Nat.mul_comm i d]; exact idx_lt hi hj
  replace hlt2 := fun i j hi hj => Lib.hid (hlt2 i j hi hj)
  obtain ⟨Z, hZ⟩ : ∃ Z, Z = ((w.alloc (.cells #[.int .i64 Pa, .int .i64 Ma, .slice Aa mla.length ca, .int .i64 m1, .slice Ra na ka] 27)).alloc (.cells #[.int .i64 0, .int .i64 0, .slice none 0 0, .int .i64 0, .slice none 0 0] 27)) := ⟨_, rfl⟩
  have hB : Below w.heap.size w Z := by rw [hZ]; exact ((Below.refl _ _).alloc (Nat.le_refl _) _).alloc (by simp) _
  obtain ⟨s, hs⟩ : ∃ s, s = w.heap.size := ⟨_, rfl⟩
  obtain ⟨hZe, fa, fz⟩ := one_enter Pa Ma m1 mla na rowsa Aa Ra ca ka w hZ hs
  have hZs : s + 1 < Z.heap.size := by omega
  have hC1 := cCheck_any Pa Ma m1 mla na rowsa Aa Ra ca ka Z hPa hMa hla hna hka ((hra.below hB).more hB.size) ((hma.below hB).more hB.size)
  rw [hE] at hC1
  replace hC1 := Lib.hid hC1
  replace hZe := Lib.hid hZe
  replace hE := Lib.hid hE
  replace hZ := Lib.hid hZ
  replace hNN := Lib.hid hNN
  have faH := Lib.hid fa
  obtain ⟨a0, a1, a2, a3, a4, -⟩ := fa
  clear hka va hma
  unfold ResC at hG ⊢
  go_enter Try.func13, Try.ntmps13
  go_wp2_with (fail)
  rw [← hZ.out]
  simp only [← hs]
  have hsw : w.heap.size ≤ s := Nat.le_of_eq hs.symm
  replace hs := Lib.hid hs
  (with_reducible refine hC1.out.mono ?_)
  rintro e w1 ⟨rfl, hbz⟩
  clear a0 a1 a2 a3 a4
  obtain ⟨a0, a1, a2, a3, a4, -⟩ := faH.out.keep hbz (by omega)
  clear hC1
  go_wp2_with (fail)
  clear a0 a1 a2 a3 a4
  go_loopw [34, 7, 9, 10, 11, 12, 13] (fun iS vS _ _ _ _ _ wr => ∃ k : Nat, k ≤ na ∧ iS = .int .i64 k ∧ OwnM wr Z.heap.size vS (d * k) (rowsL F.toDesc NN (ivP d M1)) ∧ Below Z.heap.size Z wr) (fun iS _ _ _ _ _ _ _ => na - (intOf iS).toNat)
  case atStart => exact ⟨0, by omega, rfl, by rw [Nat.mul_zero]; exact OwnM.nil _ _ _, hbz⟩
  case round =>
    obtain ⟨k, hk, rfl, hown, hbw⟩ := hrel
    obtain ⟨w3, rfl⟩ : ∃ w3 : World, w3 = wr := ⟨_, rfl⟩
    have hB3 := hB.trans (hbw.mono hB.size)
    by_cases hlt : k < na
    · have hk0 : (0 : Int) ≤ (k : Int) := by omega
      have hk1 : (k : Int) < (na : Int) := by omega
      obtain ⟨ba, oa, Ka, la, rfl, hha, hca, hrka, hlka, hcka⟩ := hmar.at_ (show k < na by omega)
      rw [rowsL_length] at hca hlka
      have hda := (hB3.cell (p := ⟨ba, oa + k, none⟩) hha).trans hca
      obtain ⟨Av, cv, rfl⟩ := hown.size
      clear hca
      go_wp2_with (fail)
      go_loopw [39, 7, 10, 11, 12, 13] (fun iS vS _ _ _ _ wr => ∃ j : Nat, j ≤ d ∧ iS = .int .i64 j ∧ OwnM wr Z.heap.size vS (d * k + j) (rowsL F.toDesc NN (ivP d M1)) ∧ Below Z.heap.size Z wr) (fun iS _ _ _ _ _ _ => d - (intOf iS).toNat)
      case atStart => exact ⟨0, by omega, rfl, by rw [Nat.add_zero]; exact hown, hbw⟩
      case round =>
        obtain ⟨j, hj, rfl, hown4, hbx⟩ := hrel
        obtain ⟨w4, rfl⟩ : ∃ w4 : World, w4 = wr := ⟨_, rfl⟩
        have hZ4 := hbx
        by_cases hjd : j < d
        · have hj0 : (0 : Int) ≤ (j : Int) := by omega
          have hj1 : (j : Int) < (d : Int) := by omega
          have hZ34 : Z.heap.size ≤ w4.heap.size := hZ4.size
          have hsl : s < w4.heap.size := by omega
          obtain ⟨a0, a1, a2, a3, a4, -⟩ := faH.out.keep hZ4 (by omega)
          obtain ⟨g, hg⟩ : ∃ g, g = w4.heap.size := ⟨_, rfl⟩
          obtain ⟨Y, hY⟩ : ∃ Y, Y = w4.alloc (.cells (Array.replicate NN (Value.int .i64 0)) 3) := ⟨_, rfl⟩
          have hbY : Below w4.heap.size w4 Y := by rw [hY]; exact (Below.refl _ _).alloc (Nat.le_refl _) _
          have hib : IB Y g (List.replicate NN 0) := by rw [hY, hg]; exact IB.newz w4 NN
          have hYs : g < Y.heap.size := by rw [hY, hg]; simp
          have hB4 := hB.trans (hbx.mono hB.size)
          have hrk4 := (hrka.below hB4).more hB4.size
          have hownH := hown4
          obtain ⟨Av4, cv4, rfl⟩ := hown4.size
          have hgH := Lib.hid hg
          replace hY := Lib.hid hY
          clear hg
          go_wp2_with (fail)
          rw [← hY.out]
          rw [← hgH.out]
          go_loopw [49, 12, 13] (fun iS _ _ wr => ∃ i : Nat, i ≤ m1 ∧ iS = .int .i64 i ∧ IB wr g (ivL d j NN (rowL F.toDesc m1 (M1 k)) i) ∧ Below w4.heap.size w4 wr ∧ g < wr.heap.size) (fun iS _ _ _ => m1 - (intOf iS).toNat)
          case atStart => exact ⟨0, by omega, rfl, by rw [ivL_zero]; exact hib, hbY, hYs⟩
          case round =>
            obtain ⟨i, hi, rfl, hib5, hbq, hgl⟩ := hrel
            obtain ⟨w5, rfl⟩ : ∃ w5 : World, w5 = wr := ⟨_, rfl⟩
            by_cases him : i < m1
            · have hi0 : (0 : Int) ≤ (i : Int) := by omega
              have hi1 : (i : Int) < (m1 : Int) := by omega
              obtain ⟨br, or, rfl, hbr, hcr⟩ := hrk4.at_ (show i < (rowsL F.toDesc m1 M1 k).length by rw [rowsL_length]; exact him)
              have hdr := (hbq.cell (p := ⟨br, or + i, none⟩) hbr).trans hcr
              have hset := Lib.hid (hib5.set_ (i * d + j) ((rowL F.toDesc m1 (M1 k))[i]?.getD 0))
              have hnext := ivL_set (s := d) (k := j) (N := NN) (rowL F.toDesc m1 (M1 k)) (i := i) hjd
              have hsetB := Lib.hid (hbq.setCell (p := ⟨g, i * d + j, none⟩) (Nat.le_of_eq hgH.out.symm) (.int .i64 ((rowL F.toDesc m1 (M1 k))[i]?.getD 0)))
              have hix := (hlt2 i j him hjd).out
              have hfz := hib5.frozen (i * d + j)
              have hcl := hib5.cell (i := i * d + j) (by rw [ivL_length]; exact hix)
              generalize hyy : (rowL F.toDesc m1 (M1 k))[i]?.getD 0 = y at *
              rw [show (rowsL F.toDesc m1 M1 k)[i]?.getD 0 = y from hyy] at hdr
              obtain ⟨T, hT⟩ : ∃ T, T = i * d := ⟨_, rfl⟩
              have hw1 : IntKind.i64.wrap ((i : Int) * (d : Int)) = (T : Int) := by
                rw [show ((i : Int) * (d : Int)) = (T : Int) from by rw [hT]; push_cast; rfl]
                exact IntWalk.i64_in _ (by omega)
              rw [← hT] at hset hnext hsetB hix hfz hcl
              have hsz5 : Hid (g < (w5.setCell ⟨g, T + j, none⟩ (.int .i64 y)).heap.size) := by unfold Hid; simp [World.setCell]; exact hgl
              replace hT := Lib.hid hT
              replace hnext := Lib.hid hnext
              replace hyy := Lib.hid hyy
              have hix0 : (0 : Int) ≤ (T : Int) + (j : Int) := by omega
              have hix1 : (T : Int) + (j : Int) < (NN : Int) := by omega
              have hixn : ((T : Int) + (j : Int)).toNat = T + j := by omega
              clear hcr
              go_wp2_with (fail)
              go_roundw
              case rel => exact ⟨i + 1, by omega, by go_num, by rw [← hnext.out]; exact hset.out, hsetB.out, hsz5.out⟩
              case measure => simp [intOf]; omega
            · obtain rfl : m1 = i := by omega
              have hfull := ivL_full F d j m1 (M1 k)
              rw [← hNN.out] at hfull
              have hrow : rowsL F.toDesc NN (ivP d M1) (d * k + j) = rowL F.toDesc NN (iv d j (M1 k)) := by
                unfold rowsL ivP
                rw [(divmod_mul hjd).1, (divmod_mul hjd).2]
              rw [hfull, ← hrow] at hib5
              have hr5 := hib5.rd
              have hown5 := hownH.below hbq (Nat.le_refl _)
              replace hfull := Lib.hid hfull
              replace hrow := Lib.hid hrow
              have hs45 := hbq.size
              have hdk : d * k ≤ 64 * 64 := Nat.mul_le_mul (by omega) (by omega)
              have hg4 : ∀ a, some (⟨g, 0, none⟩ : Addr) = some a → w4.heap.size ≤ a.block := fun a e => by cases e; exact Nat.le_of_eq hgH.out.symm
              clear hib5
              go_wp2_with (at_builtin; refine wpList_appRow rfl (.tmp 63) (.tmp 65) rfl Z.heap.size _ (d * k + j) _ hown5 (some ⟨g, 0, none⟩) NN NN hr5 (rowsL_length _ _ _ _) (Nat.le_refl _) (by unfold maxLen; omega) w4.heap.size hownH.lt0 hg4 hZ34 rfl rfl rfl (by omega) (Nat.le_trans hZ34 hs45) ?_; intro v6 w6 ho6 hb6)
              go_roundw
              case rel => exact ⟨j + 1, by omega, by go_num, ho6, hbx.trans ((hbq.mono hbx.size).trans (hb6.mono (Nat.le_refl _)))⟩
              case measure => simp [intOf]; omega
        · obtain rfl : d = j := by omega
          go_wp2_with (fail)
          go_roundw
          case rel => exact ⟨k + 1, by omega, by go_num, by rw [Nat.mul_succ]; exact hown4, hZ4⟩
          case measure => simp [intOf]; omega
    · obtain rfl : na = k := by omega
      obtain ⟨A9, c9, rfl, hr9⟩ := hown.rdm
      have hG9 := Lib.hid (hG w3 A9 c9 ((hra.below hB3).more hB3.size) hr9)
      have hs9 : s + 1 < w3.heap.size := Nat.lt_of_lt_of_le hZs hbw.size
      have fz9 := fz.keep hbw hZs
      obtain ⟨a0, a1, a2, a3, a4, -⟩ := faH.out.keep hbw (by omega)
      clear hG fz hown hr9
      go_wp2_with (fail)
      (with_reducible refine hG9.out.mono ?_)
      rintro e w6 ⟨A6, c6, Al, cl, rfl, hr6, hA6, hru, hb6⟩
      obtain ⟨t0, t1, t2, t3, t4, g0, g1, g2, g3, g4⟩ := fz9.keep hb6 hs9
      have hrf := Lib.hid (hr6.set5 (b := s + 1) (fun b hb => by have := hA6 b hb; omega) (.int .i64 P) (.int .i64 M) (.slice A6 ml.length c6) (.int .i64 N) (.slice Al n cl))
      have hruf : Hid (RdMU (((((w6.setCell ⟨s + 1, 0, none⟩ (.int .i64 P)).setCell ⟨s + 1, 1, none⟩ (.int .i64 M)).setCell ⟨s + 1, 2, none⟩ (.slice A6 ml.length c6)).setCell ⟨s + 1, 3, none⟩ (.int .i64 N)).setCell ⟨s + 1, 4, none⟩ (.slice Al n cl)) w3.heap.size w6.heap.size Al n rows) := hru.keepU fun p hp _ => set5_above (b := s + 1) (L := w3.heap.size) hs9 _ _ _ _ _ p hp
      have hBf : Hid (Below w.heap.size w (((((w6.setCell ⟨s + 1, 0, none⟩ (.int .i64 P)).setCell ⟨s + 1, 1, none⟩ (.int .i64 M)).setCell ⟨s + 1, 2, none⟩ (.slice A6 ml.length c6)).setCell ⟨s + 1, 3, none⟩ (.int .i64 N)).setCell ⟨s + 1, 4, none⟩ (.slice Al n cl))) := (hB3.trans (hb6.mono hB3.size)).trans ((set5 _ _ _ _ _).mono (by omega))
      have hsz : Hid ((((((w6.setCell ⟨s + 1, 0, none⟩ (.int .i64 P)).setCell ⟨s + 1, 1, none⟩ (.int .i64 M)).setCell ⟨s + 1, 2, none⟩ (.slice A6 ml.length c6)).setCell ⟨s + 1, 3, none⟩ (.int .i64 N)).setCell ⟨s + 1, 4, none⟩ (.slice Al n cl)).heap.size = w6.heap.size) := by unfold Hid; simp [World.setCell]
      have hW9 : w.heap.size ≤ w3.heap.size := hB3.size
      have hA9 : ∀ b, A6 = some b → w.heap.size ≤ b.block := fun b hb => Nat.le_trans hW9 (hA6 b hb)
      clear hr6 hA6 hru hb6 hB3 hG9
      go_wp2_with (fail)
      refine bodyPost_ret (v := .tuple #[.agg #[.int .i64 P, .int .i64 M, .slice A6 ml.length c6, .int .i64 N, .slice Al n cl], .int .i64 E]) (by simp [results, Try.results13, go_sem, t0, t1, t2, t3, t4]) rfl ⟨A6, c6, Al, cl, rfl, hrf.out.more (by rw [hsz.out]; exact Nat.le_refl _), hA9, ?_, hBf.out⟩
      have h5 := hruf.out.low hW9
      rw [← hsz.out] at h5
      exact h5
end Go.Proofs.Ytkmhopefnfaecaa
