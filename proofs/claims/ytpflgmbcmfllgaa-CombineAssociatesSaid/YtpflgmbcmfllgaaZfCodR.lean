/- combine.Product of two codes without an error. -/
import Derived.IntWalk
import Derived.Test.YtpflgmbcmfllgaaZfCodT
namespace Go.Proofs.Ytpflgmbcmfllgaa
open Go.RowKit Cw
attribute [local go_sem] Oper.semAt_some

theorem rowL_app (D : Desc) (a b : Nat) (f : Nat → R D) : rowL D a f ++ rowL D b (fun c => f (a + c)) = rowL D (a + b) f := by
  rw [rowL_join]
  unfold rowL
  refine lst_congr fun j _ => congrArg ci ?_
  unfold joinF
  by_cases h : j < a
  · rw [if_pos h]
  · rw [if_neg h]
    show f (a + (j - a)) = f j
    rw [Nat.add_sub_cancel' (by omega)]
theorem scale_two (F F1 : FD) (h : F1.toDesc = F.toDesc) (m : Nat) (f : Nat → R F.toDesc) (a : Int) : ∃ f1 : Nat → R F1.toDesc, rowL F1.toDesc m f1 = rowL F.toDesc m f ∧ rowL F1.toDesc m (fun j => eli F1.toDesc a * f1 j) = rowL F.toDesc m (fun j => eli F.toDesc a * f j) := by
  obtain ⟨D0, g0, a0, b0, c0⟩ := F
  obtain ⟨D1, g1, a1, b1, c1⟩ := F1
  dsimp only at h
  subst h
  exact ⟨f, rfl, rfl⟩
theorem gScale_two (F F1 : FD) (h : F1.toDesc = F.toDesc) (m : Nat) (f : Nat → R F.toDesc) (a : Int) (A1 : Option Addr) (c1 gf : Nat) (w : World) (hg : GF w w.heap.size gf F1) (hr1 : Rd w w.heap.size A1 (rowL F.toDesc m f)) (hm : m ≤ 70000) :
    Calls Try.prog 62 #[.pointer (some ⟨gf, 0, none⟩), .int .i64 a, .slice A1 m c1] w (Gives w.heap.size (rowL F.toDesc m fun j => eli F.toDesc a * f j) w) := by
  obtain ⟨f1, e1, e2⟩ := scale_two F F1 h m f a
  rw [← e2]
  rw [← e1] at hr1
  exact gScale_any F1 m f1 a A1 c1 gf w hg hr1 hm
/-- New, at the field of a code. -/
theorem new_vc {P M N : Int} {ml : List Int} {n : Nat} {rows : Nat → List Int} {F : FD} {m : Nat} {B : Nat → Nat → R F.toDesc} (h : VC P M N ml n rows F m B) (A : Option Addr) (c : Nat) (w : World) (hr : Rd w w.heap.size A ml) :
    Calls Try.prog 61 #[.agg #[.int .i64 P, .int .i64 M, .slice A ml.length c]] w fun e w' =>
      ∃ g, ∃ F1 : FD, F1.toDesc = F.toDesc ∧ e = .returned (.tuple #[.pointer (some ⟨g, 0, none⟩), .int .i64 0]) ∧ w.heap.size ≤ g ∧ GF w' w'.heap.size g F1 ∧ Below w.heap.size w w' := by
  have eP := h.hP; have eM := h.hM; have eL := h.hl
  have hg := h.good
  clear h
  subst eP eM eL
  rw [modL_length]
  exact New_good F.toDesc A c w hr hg

set_option maxRecDepth 100000 in
set_option maxHeartbeats 8000000 in
theorem cProduct_code (Pa Ma Na : Int) (mla : List Int) (na : Nat) (rowsa : Nat → List Int) (Aa Ra : Option Addr) (ca ka : Nat) (Pb Mb Nb : Int) (mlb : List Int) (nb : Nat) (rowsb : Nat → List Int) (Ab Rb : Option Addr) (cb kb : Nat) (w : World) (hPa : I64 Pa) (hMa : I64 Ma) (hla : mla.length ≤ maxLen) (hna : na ≤ 64) (hka : ∀ i, i < na → (rowsa i).length ≤ 4200) (hra : Rd w w.heap.size Aa mla) (hma : RdM w w.heap.size Ra na rowsa) (hPb : I64 Pb) (hMb : I64 Mb) (hlb : mlb.length ≤ maxLen) (hnb : nb ≤ 64) (hkb : ∀ i, i < nb → (rowsb i).length ≤ 4200) (hrb : Rd w w.heap.size Ab mlb) (hmb : RdM w w.heap.size Rb nb rowsb) (F : FD) (m1 m2 : Nat) (M1 M2 : Nat → Nat → R F.toDesc) (va : VC Pa Ma Na mla na rowsa F m1 M1) (vb : VC Pb Mb Nb mlb nb rowsb F m2 M2) (hE : twoE Pa Ma Na mla na rowsa Aa Ra ca ka Pb Mb Nb mlb nb rowsb Ab Rb cb kb = 0) (NN : Nat) (hNN : NN = m1 * m2) (hN64 : NN ≤ 64) {P M N : Int} {ml : List Int} {n : Nat} {rows : Nat → List Int} {E : Int}
    (hG : ∀ (W : World) (Al : Option Addr) (cl : Nat), Rd W W.heap.size Aa mla → RdM W W.heap.size Al (nb * na) (rowsL F.toDesc NN (prodR nb m2 M1 M2)) → Calls Try.prog 59 #[.agg #[.int .i64 Pa, .int .i64 Ma, .slice Aa mla.length ca], .int .i64 (NN : Int), .slice Al (nb * na) cl] W (ResC P M N ml n rows E W)) :
    Calls Try.prog 17 #[.agg #[.int .i64 Pa, .int .i64 Ma, .slice Aa mla.length ca, .int .i64 Na, .slice Ra na ka], .agg #[.int .i64 Pb, .int .i64 Mb, .slice Ab mlb.length cb, .int .i64 Nb, .slice Rb nb kb]] w (ResC P M N ml n rows E w) := by
  have hN1 := va.hN
  have hN2 := vb.hN
  subst hN1 hN2
  have hm1 := va.m64; have hm2 := vb.m64
  have hm10 := va.m1; have hm20 := vb.m1
  have hmar := va.rdm hma
  have hmbr := vb.rdm hmb
  have hNw := fun W h => Lib.hid (new_vc va Aa ca W h)
  have hw0 : ((m1 : Int) * (m2 : Int)) = (NN : Int) := by rw [hNN]; push_cast; rfl
  have hmul : IntKind.i64.wrap ((m1 : Int) * (m2 : Int)) = (NN : Int) := by rw [hw0]; exact IntWalk.i64_in _ (by omega)
  have hNb : ¬ (64 : Int) < (NN : Int) := by omega
  have hC := fun (W : World) (h : Below w.heap.size w W) X h0 h1 h2 => checked2_any Pa Ma m1 mla na rowsa Aa Ra ca ka Pb Mb m2 mlb nb rowsb Ab Rb cb kb X W hPa hMa hla hna hka ((hra.below h).more h.size) ((hma.below h).more h.size) hPb hMb hlb hnb hkb ((hrb.below h).more h.size) ((hmb.below h).more h.size) h0 h1 h2
  rw [hE] at hC
  obtain ⟨Z, hZ⟩ : ∃ Z, Z = (((w.alloc (.cells #[.int .i64 Pa, .int .i64 Ma, .slice Aa mla.length ca, .int .i64 m1, .slice Ra na ka] 27)).alloc (.cells #[.int .i64 Pb, .int .i64 Mb, .slice Ab mlb.length cb, .int .i64 m2, .slice Rb nb kb] 27)).alloc (.cells #[.int .i64 0, .int .i64 0, .slice none 0 0, .int .i64 0, .slice none 0 0] 27)) := ⟨_, rfl⟩
  have hB : Below w.heap.size w Z := by rw [hZ]; exact (((Below.refl _ _).alloc (Nat.le_refl _) _).alloc (by simp) _).alloc (by simp; omega) _
  obtain ⟨s, hs⟩ : ∃ s, s = w.heap.size := ⟨_, rfl⟩
  obtain ⟨hZe, fa, fb, fz⟩ := two_enter Pa Ma m1 mla na rowsa Aa Ra ca ka Pb Mb m2 mlb nb rowsb Ab Rb cb kb w hZ hs
  have hZs : s + 1 + 1 < Z.heap.size := by omega
  have hb1 : Below Z.heap.size Z (Z.alloc (.cells #[.int .i64 Pa, .int .i64 Ma, .slice Aa mla.length ca, .int .i64 m1, .slice Ra na ka, .int .i64 Pb, .int .i64 Mb, .slice Ab mlb.length cb, .int .i64 m2, .slice Rb nb kb] 27)) := (Below.refl _ _).alloc (Nat.le_refl _) _
  have hB1 := hB.trans (hb1.mono hB.size)
  have hC1 := hC _ hB1 (s + 1 + 1 + 1) (by rw [World.size_alloc]; omega) (by rw [← hZe]; simp [go_sem]) (by rw [← hZe]; simp [go_sem])
  replace hC1 := Lib.hid hC1
  replace hZe := Lib.hid hZe
  replace hE := Lib.hid hE
  replace hZ := Lib.hid hZ
  replace fa := Lib.hid fa
  replace fb := Lib.hid fb
  replace hNN := Lib.hid hNN
  replace hw0 := Lib.hid hw0
  clear hC hka hkb va vb hma hmb
  unfold ResC at hG ⊢
  go_enter Try.func17, Try.ntmps17
  go_wp2_with (fail)
  rw [← hZ.out]
  simp only [← hs]
  have hsw : w.heap.size ≤ s := Nat.le_of_eq hs.symm
  replace hs := Lib.hid hs
  (with_reducible refine hC1.out.mono ?_)
  rintro e w1 ⟨rfl, hb2⟩
  have hbz := hb1.trans (hb2.mono hb1.size)
  have hBz := hB.trans (hbz.mono hB.size)
  obtain ⟨a0, a1, a2, a3, a4, -⟩ := fa.out.keep hbz (by omega)
  obtain ⟨c0, c1, c2, c3, c4, -⟩ := fb.out.keep hbz (by omega)
  have hNw1 := hNw w1 ((hra.below hBz).more hBz.size)
  clear hC1 hB1 hb1 hb2 hNw
  go_wp2_with (fail)
  (with_reducible refine hNw1.out.mono ?_)
  rintro e w2 ⟨gf, F1, h1, rfl, hgl, hgf, hb2⟩
  have hbz2 := hbz.trans (hb2.mono hbz.size)
  clear a0 a1 a2 a3 a4 c0 c1 c2 c3 c4
  obtain ⟨a0, a1, a2, a3, a4, -⟩ := fa.out.keep hbz2 (by omega)
  have hSc := fun f a A1 c1 W h2 h3 => gScale_two F F1 h1 m2 f a A1 c1 gf W h2 h3 (by omega)
  replace h1 := Lib.hid h1
  have hb2s := hbz2.size
  clear hb2 hNw1 hbz
  go_wp2_with (fail)
  clear a0 a1 a2 a3 a4
  go_loopw [41, 9, 11, 13, 14, 16] (fun iS vS _ _ _ _ wr => ∃ k : Nat, k ≤ na ∧ iS = .int .i64 k ∧ OwnM wr w2.heap.size vS (nb * k) (rowsL F.toDesc NN (prodR nb m2 M1 M2)) ∧ Below w2.heap.size w2 wr) (fun iS _ _ _ _ _ _ => na - (intOf iS).toNat)
  case atStart => exact ⟨0, by omega, rfl, by rw [Nat.mul_zero]; exact OwnM.nil _ _ _, Below.refl _ _⟩
  case round =>
    obtain ⟨k, hk, rfl, hown, hbw0⟩ := hrel
    obtain ⟨w3, rfl⟩ : ∃ w3 : World, w3 = wr := ⟨_, rfl⟩
    have hbw := hbz2.trans (hbw0.mono hbz2.size)
    have hB3 := hB.trans (hbw.mono hB.size)
    obtain ⟨a0, a1, a2, a3, a4, -⟩ := fa.out.keep hbw (by omega)
    obtain ⟨c0, c1, c2, c3, c4, -⟩ := fb.out.keep hbw (by omega)
    by_cases hlt : k < na
    · have hk0 : (0 : Int) ≤ (k : Int) := by omega
      have hk1 : (k : Int) < (na : Int) := by omega
      obtain ⟨ba, oa, Ka, la, rfl, hha, hca, hrka, hlka, hcka⟩ := hmar.at_ (show k < na by omega)
      rw [rowsL_length] at hca hlka
      have hda := (hB3.cell (p := ⟨ba, oa + k, none⟩) hha).trans hca
      obtain ⟨Av, cv, rfl⟩ := hown.size
      clear hca
      go_wp2_with (fail)
      clear a0 a1 a2 a3 a4 c0 c1 c2 c3 c4
      go_loopw [48, 9, 13, 14, 16] (fun iS vS _ _ _ wr => ∃ j : Nat, j ≤ nb ∧ iS = .int .i64 j ∧ OwnM wr w2.heap.size vS (nb * k + j) (rowsL F.toDesc NN (prodR nb m2 M1 M2)) ∧ Below w2.heap.size w2 wr) (fun iS _ _ _ _ _ => nb - (intOf iS).toNat)
      case atStart => exact ⟨0, by omega, rfl, by rw [Nat.add_zero]; exact hown, hbw0⟩
      case round =>
        obtain ⟨j, hj, rfl, hown4, hbx⟩ := hrel
        obtain ⟨w4, rfl⟩ : ∃ w4 : World, w4 = wr := ⟨_, rfl⟩
        have hZ4 := hbz2.trans (hbx.mono hbz2.size)
        by_cases hjd : j < nb
        · have hj0 : (0 : Int) ≤ (j : Int) := by omega
          have hj1 : (j : Int) < (nb : Int) := by omega
          have hW24 : w2.heap.size ≤ w4.heap.size := hbx.size
          have hB4 := hB.trans (hZ4.mono hB.size)
          obtain ⟨bb, ob, Kb, lb, rfl, hhb, hcb, hrkb, hlkb, hckb⟩ := hmbr.at_ (show j < nb by omega)
          rw [rowsL_length] at hcb hlkb
          have hdb := (hB4.cell (p := ⟨bb, ob + j, none⟩) hhb).trans hcb
          have hra4 := (hrka.below hB4).more hB4.size
          have hrb4 := (hrkb.below hB4).more hB4.size
          have hgf4 := (hgf.below hbx).more hbx.size
          have hownH := hown4
          obtain ⟨Av4, cv4, rfl⟩ := hown4.size
          clear hcb
          go_wp2_with (fail)
          go_loopw [54, 14, 16] (fun iS vS _ wr => ∃ i : Nat, i ≤ m1 ∧ iS = .int .i64 i ∧ Own wr w4.heap.size vS (rowL F.toDesc (m2 * i) (prodR nb m2 M1 M2 (nb * k + j))) ∧ Below w4.heap.size w4 wr) (fun iS _ _ _ => m1 - (intOf iS).toNat)
          case atStart => exact ⟨0, by omega, rfl, by rw [Nat.mul_zero]; exact Own.nil _ _, Below.refl _ _⟩
          case round =>
            obtain ⟨i, hi, rfl, hoi, hbq⟩ := hrel
            obtain ⟨w5, rfl⟩ : ∃ w5 : World, w5 = wr := ⟨_, rfl⟩
            by_cases him : i < m1
            · have hi0 : (0 : Int) ≤ (i : Int) := by omega
              have hi1 : (i : Int) < (m1 : Int) := by omega
              obtain ⟨br, or, rfl, hbr, hcr⟩ := hra4.at_ (show i < (rowsL F.toDesc m1 M1 k).length by rw [rowsL_length]; exact him)
              rw [rowsL_get F.toDesc M1 k him] at hcr
              have hdr := (hbq.cell (p := ⟨br, or + i, none⟩) hbr).trans hcr
              have hSc5 := hSc (M2 j) (ci (M1 k i)) Kb lb w5 ((hgf4.below hbq).more hbq.size) ((hrb4.below hbq).more hbq.size)
              rw [eli_ci] at hSc5
              have hrow : rowL F.toDesc m2 (fun c => M1 k i * M2 j c) = rowL F.toDesc m2 (fun c => prodR nb m2 M1 M2 (nb * k + j) (m2 * i + c)) := by
                unfold rowL
                exact lst_congr fun c hc => congrArg ci (prodR_at hjd hc).symm
              rw [hrow] at hSc5
              unfold Gives at hSc5
              replace hSc5 := Lib.hid hSc5
              generalize ci (M1 k i) = y at *
              replace hrow := Lib.hid hrow
              have happ := Lib.hid (rowL_app F.toDesc (m2 * i) m2 (prodR nb m2 M1 M2 (nb * k + j)))
              have hmi : m2 * i ≤ 64 * 64 := Nat.mul_le_mul (by omega) (by omega)
              have hoiH := hoi
              have hwlow : w4.heap.size ≤ w5.heap.size := hbq.size
              clear hcr
              go_wp2_with (fail)
              (with_reducible refine hSc5.out.mono ?_)
              rintro e w6 ⟨g6, rfl, hg6, hib6, hb6⟩
              have hoi6 := hoi.below hb6 (Nat.le_refl _)
              have hr6 := hib6.rd
              have hs56 := hb6.size
              go_wp2_with (at_builtin; refine wpList_appN (n2 := (rowL F.toDesc m2 (fun c => prodR nb m2 M1 M2 (nb * k + j) (m2 * i + c))).length) rfl (.tmp 58) (.tmp 62) rfl w4.heap.size _ _ _ (some ⟨g6, 0, none⟩) _ _ hoi6 hr6 rfl rfl rfl (by rw [rowL_length, rowL_length]; omega) (Nat.le_trans hwlow hs56) ?_; intro v7 w7 ho7 hb7 hg7 hv7)
              rw [happ.out, ← Nat.mul_succ] at ho7
              go_roundw
              case rel => exact ⟨i + 1, by omega, by go_num, ho7, hbq.trans ((hb6.mono hbq.size).trans (hb7.mono (Nat.le_refl _)))⟩
              case measure => simp [intOf]; omega
            · obtain rfl : m1 = i := by omega
              rw [Nat.mul_comm m2 m1, ← hNN.out] at hoi
              obtain ⟨A4, c4, rfl, hl4, hc4, hr4, hA4⟩ := hoi.parts
              rw [rowL_length] at hl4
              rw [rowL_length]
              have hown5 := hownH.below hbq (Nat.le_refl _)
              have hs45 := hbq.size
              have hdk : nb * k ≤ 64 * 64 := Nat.mul_le_mul (by omega) (by omega)
              clear hoi
              go_wp2_with (at_builtin; refine wpList_appRow rfl (.tmp 65) (.tmp 67) rfl w2.heap.size _ (nb * k + j) _ hown5 A4 NN c4 hr4 (rowsL_length _ _ _ _) hl4 hc4 w4.heap.size hownH.lt0 hA4 hW24 rfl rfl rfl (by omega) (Nat.le_trans hW24 hs45) ?_; intro v8 w8 ho8 hb8)
              go_roundw
              case rel => exact ⟨j + 1, by omega, by go_num, ho8, hbx.trans ((hbq.mono hbx.size).trans (hb8.mono (Nat.le_refl _)))⟩
              case measure => simp [intOf]; omega
        · obtain rfl : nb = j := by omega
          go_wp2_with (fail)
          go_roundw
          case rel => exact ⟨k + 1, by omega, by go_num, by rw [Nat.mul_succ]; exact hown4, hbx⟩
          case measure => simp [intOf]; omega
    · obtain rfl : na = k := by omega
      obtain ⟨A9, c9, rfl, hr9⟩ := hown.rdm
      have hG9 := Lib.hid (hG w3 A9 c9 ((hra.below hB3).more hB3.size) hr9)
      have hs9 : s + 1 + 1 < w3.heap.size := Nat.lt_of_lt_of_le hZs hbw.size
      have fz9 := fz.keep hbw hZs
      have hB9 := hB3
      clear hG fz hown hr9
      go_wp2_with (fail)
      (with_reducible refine hG9.out.mono ?_)
      rintro e w6 ⟨A6, c6, Al, cl, rfl, hr6, hA6, hru, hb6⟩
      obtain ⟨t0, t1, t2, t3, t4, g0, g1, g2, g3, g4⟩ := fz9.keep hb6 hs9
      have hrf := Lib.hid (hr6.set5 (b := s + 1 + 1) (fun b hb => by have := hA6 b hb; omega) (.int .i64 P) (.int .i64 M) (.slice A6 ml.length c6) (.int .i64 N) (.slice Al n cl))
      have hruf : Hid (RdMU (((((w6.setCell ⟨s + 1 + 1, 0, none⟩ (.int .i64 P)).setCell ⟨s + 1 + 1, 1, none⟩ (.int .i64 M)).setCell ⟨s + 1 + 1, 2, none⟩ (.slice A6 ml.length c6)).setCell ⟨s + 1 + 1, 3, none⟩ (.int .i64 N)).setCell ⟨s + 1 + 1, 4, none⟩ (.slice Al n cl)) w3.heap.size w6.heap.size Al n rows) := hru.keepU fun p hp _ => set5_above (b := s + 1 + 1) (L := w3.heap.size) hs9 _ _ _ _ _ p hp
      have hBf : Hid (Below w.heap.size w (((((w6.setCell ⟨s + 1 + 1, 0, none⟩ (.int .i64 P)).setCell ⟨s + 1 + 1, 1, none⟩ (.int .i64 M)).setCell ⟨s + 1 + 1, 2, none⟩ (.slice A6 ml.length c6)).setCell ⟨s + 1 + 1, 3, none⟩ (.int .i64 N)).setCell ⟨s + 1 + 1, 4, none⟩ (.slice Al n cl))) := (hB9.trans (hb6.mono hB9.size)).trans ((set5 _ _ _ _ _).mono (by omega))
      have hsz : Hid ((((((w6.setCell ⟨s + 1 + 1, 0, none⟩ (.int .i64 P)).setCell ⟨s + 1 + 1, 1, none⟩ (.int .i64 M)).setCell ⟨s + 1 + 1, 2, none⟩ (.slice A6 ml.length c6)).setCell ⟨s + 1 + 1, 3, none⟩ (.int .i64 N)).setCell ⟨s + 1 + 1, 4, none⟩ (.slice Al n cl)).heap.size = w6.heap.size) := by unfold Hid; simp [World.setCell]
      have hW9 : w.heap.size ≤ w3.heap.size := hB9.size
      have hA9 : ∀ b, A6 = some b → w.heap.size ≤ b.block := fun b hb => Nat.le_trans hW9 (hA6 b hb)
      clear hr6 hA6 hru hb6 hB9 hG9 hB3
      go_wp2_with (fail)
      refine bodyPost_ret (v := .tuple #[.agg #[.int .i64 P, .int .i64 M, .slice A6 ml.length c6, .int .i64 N, .slice Al n cl], .int .i64 E]) (by simp [results, Try.results17, go_sem, t0, t1, t2, t3, t4]) rfl ⟨A6, c6, Al, cl, rfl, hrf.out.more (by rw [hsz.out]; exact Nat.le_refl _), hA9, ?_, hBf.out⟩
      have h5 := hruf.out.low hW9
      rw [← hsz.out] at h5
      exact h5
end Go.Proofs.Ytpflgmbcmfllgaa
