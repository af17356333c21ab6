/- The errors of the functions of two codes: of the program's combine and of the reference. -/
import Derived.Test.YtghgbjgoedlnjaaCodJ
import Derived.IntWalk
namespace Go.Proofs.Ytghgbjgoedlnjaa
open Go.RowKit Cw
attribute [local go_sem] Oper.semAt_some

set_option maxRecDepth 100000 in
set_option maxHeartbeats 2000000 in
theorem rSum_err (Pa Ma Na : Int) (mla : List Int) (na : Nat) (rowsa : Nat → List Int) (Aa Ra : Option Addr) (ca ka : Nat) (Pb Mb Nb : Int) (mlb : List Int) (nb : Nat) (rowsb : Nat → List Int) (Ab Rb : Option Addr) (cb kb : Nat) (w : World) (hPa : I64 Pa) (hMa : I64 Ma) (hla : mla.length ≤ maxLen) (hna : na ≤ 64) (hka : ∀ i, i < na → (rowsa i).length ≤ 4200) (hra : Rd w w.heap.size Aa mla) (hma : RdM w w.heap.size Ra na rowsa) (hPb : I64 Pb) (hMb : I64 Mb) (hlb : mlb.length ≤ maxLen) (hnb : nb ≤ 64) (hkb : ∀ i, i < nb → (rowsb i).length ≤ 4200) (hrb : Rd w w.heap.size Ab mlb) (hmb : RdM w w.heap.size Rb nb rowsb) (hE0 : twoE Pa Ma Na mla na rowsa Aa Ra ca ka Pb Mb Nb mlb nb rowsb Ab Rb cb kb ≠ 0) :
    Calls Try.prog 30 #[.agg #[.int .i64 Pa, .int .i64 Ma, .slice Aa mla.length ca, .int .i64 Na, .slice Ra na ka], .agg #[.int .i64 Pb, .int .i64 Mb, .slice Ab mlb.length cb, .int .i64 Nb, .slice Rb nb kb]] w (ResErr (twoE Pa Ma Na mla na rowsa Aa Ra ca ka Pb Mb Nb mlb nb rowsb Ab Rb cb kb) w) := by
  obtain ⟨Z, hZ⟩ : ∃ Z, Z = (((w.alloc (.cells #[.int .i64 Pa, .int .i64 Ma, .slice Aa mla.length ca, .int .i64 Na, .slice Ra na ka] 27)).alloc (.cells #[.int .i64 Pb, .int .i64 Mb, .slice Ab mlb.length cb, .int .i64 Nb, .slice Rb nb kb] 27)).alloc (.cells #[.int .i64 0, .int .i64 0, .slice none 0 0, .int .i64 0, .slice none 0 0] 27)) := ⟨_, rfl⟩
  have hB : Below w.heap.size w Z := by rw [hZ]; exact (((Below.refl _ _).alloc (Nat.le_refl _) _).alloc (by simp) _).alloc (by simp; omega) _
  obtain ⟨s, hs⟩ : ∃ s, s = w.heap.size := ⟨_, rfl⟩
  obtain ⟨hZe, fa, fb, fz⟩ := two_enter Pa Ma Na mla na rowsa Aa Ra ca ka Pb Mb Nb mlb nb rowsb Ab Rb cb kb w hZ hs
  have hZs : s + 1 + 1 < Z.heap.size := by omega
  have hC1 := Two14_any Pa Ma Na mla na rowsa Aa Ra ca ka Pb Mb Nb mlb nb rowsb Ab Rb cb kb Z hPa hMa hla hna hka ((hra.below hB).more hB.size) ((hma.below hB).more hB.size) hPb hMb hlb hnb hkb ((hrb.below hB).more hB.size) ((hmb.below hB).more hB.size)
  replace hZe := Lib.hid hZe
  generalize twoE Pa Ma Na mla na rowsa Aa Ra ca ka Pb Mb Nb mlb nb rowsb Ab Rb cb kb = E at *
  have hEb : (E != 0) = true := by rw [bne_iff_ne]; exact hE0
  replace hE0 := Lib.hid hE0
  replace hC1 := Lib.hid hC1
  replace hZ := Lib.hid hZ
  replace fa := Lib.hid fa
  replace fb := Lib.hid fb
  clear hka hkb
  go_enter Try.func30, Try.ntmps30
  go_wp2_with (fail)
  rw [← hZ.out]
  simp only [← hs]
  have hsw : w.heap.size ≤ s := Nat.le_of_eq hs.symm
  replace hs := Lib.hid hs
  (with_reducible refine hC1.out.mono ?_)
  rintro e w1 ⟨rfl, hb2⟩
  have hbz := hb2
  have hBf := Lib.hid ((hB.trans (hbz.mono hB.size)).trans ((set5 (w3 := w1) (b := s + 1 + 1) (.int .i64 0) (.int .i64 0) (.slice none 0 0) (.int .i64 0) (.slice none 0 0)).mono (by omega)))
  obtain ⟨q0, q1, q2, q3, q4, g0, g1, g2, g3, g4⟩ := fz.keep hbz hZs
  clear hbz hB fz
  go_wp2_with (fail)
  refine bodyPost_ret (v := .tuple #[.agg #[.int .i64 0, .int .i64 0, .slice none 0 0, .int .i64 0, .slice none 0 0], .int .i64 E]) (by simp [results, Try.results30, go_sem, q0, q1, q2, q3, q4]) rfl (resErr hBf.out)

set_option maxRecDepth 100000 in
set_option maxHeartbeats 2000000 in
theorem cPlotkin_err (Pa Ma Na : Int) (mla : List Int) (na : Nat) (rowsa : Nat → List Int) (Aa Ra : Option Addr) (ca ka : Nat) (Pb Mb Nb : Int) (mlb : List Int) (nb : Nat) (rowsb : Nat → List Int) (Ab Rb : Option Addr) (cb kb : Nat) (w : World) (hPa : I64 Pa) (hMa : I64 Ma) (hla : mla.length ≤ maxLen) (hna : na ≤ 64) (hka : ∀ i, i < na → (rowsa i).length ≤ 4200) (hra : Rd w w.heap.size Aa mla) (hma : RdM w w.heap.size Ra na rowsa) (hPb : I64 Pb) (hMb : I64 Mb) (hlb : mlb.length ≤ maxLen) (hnb : nb ≤ 64) (hkb : ∀ i, i < nb → (rowsb i).length ≤ 4200) (hrb : Rd w w.heap.size Ab mlb) (hmb : RdM w w.heap.size Rb nb rowsb) (hE0 : twoE Pa Ma Na mla na rowsa Aa Ra ca ka Pb Mb Nb mlb nb rowsb Ab Rb cb kb ≠ 0) :
    Calls Try.prog 31 #[.agg #[.int .i64 Pa, .int .i64 Ma, .slice Aa mla.length ca, .int .i64 Na, .slice Ra na ka], .agg #[.int .i64 Pb, .int .i64 Mb, .slice Ab mlb.length cb, .int .i64 Nb, .slice Rb nb kb]] w (ResErr (twoE Pa Ma Na mla na rowsa Aa Ra ca ka Pb Mb Nb mlb nb rowsb Ab Rb cb kb) w) := by
  have hC := fun (W : World) (h : Below w.heap.size w W) X h0 h1 h2 => checked2_any Pa Ma Na mla na rowsa Aa Ra ca ka Pb Mb Nb mlb nb rowsb Ab Rb cb kb X W hPa hMa hla hna hka ((hra.below h).more h.size) ((hma.below h).more h.size) hPb hMb hlb hnb hkb ((hrb.below h).more h.size) ((hmb.below h).more h.size) h0 h1 h2
  obtain ⟨Z, hZ⟩ : ∃ Z, Z = (((w.alloc (.cells #[.int .i64 Pa, .int .i64 Ma, .slice Aa mla.length ca, .int .i64 Na, .slice Ra na ka] 27)).alloc (.cells #[.int .i64 Pb, .int .i64 Mb, .slice Ab mlb.length cb, .int .i64 Nb, .slice Rb nb kb] 27)).alloc (.cells #[.int .i64 0, .int .i64 0, .slice none 0 0, .int .i64 0, .slice none 0 0] 27)) := ⟨_, rfl⟩
  have hB : Below w.heap.size w Z := by rw [hZ]; exact (((Below.refl _ _).alloc (Nat.le_refl _) _).alloc (by simp) _).alloc (by simp; omega) _
  obtain ⟨s, hs⟩ : ∃ s, s = w.heap.size := ⟨_, rfl⟩
  obtain ⟨hZe, fa, fb, fz⟩ := two_enter Pa Ma Na mla na rowsa Aa Ra ca ka Pb Mb Nb mlb nb rowsb Ab Rb cb kb w hZ hs
  have hZs : s + 1 + 1 < Z.heap.size := by omega
  have hb1 : Below Z.heap.size Z (Z.alloc (.cells #[.int .i64 Pa, .int .i64 Ma, .slice Aa mla.length ca, .int .i64 Na, .slice Ra na ka, .int .i64 Pb, .int .i64 Mb, .slice Ab mlb.length cb, .int .i64 Nb, .slice Rb nb kb] 27)) := (Below.refl _ _).alloc (Nat.le_refl _) _
  have hB1 := hB.trans (hb1.mono hB.size)
  have hC1 := hC _ hB1 (s + 1 + 1 + 1) (by rw [World.size_alloc]; omega) (by rw [← hZe]; simp [go_sem]) (by rw [← hZe]; simp [go_sem])
  clear hC
  replace hZe := Lib.hid hZe
  generalize twoE Pa Ma Na mla na rowsa Aa Ra ca ka Pb Mb Nb mlb nb rowsb Ab Rb cb kb = E at *
  have hEb : (E != 0) = true := by rw [bne_iff_ne]; exact hE0
  replace hE0 := Lib.hid hE0
  replace hC1 := Lib.hid hC1
  replace hZ := Lib.hid hZ
  replace fa := Lib.hid fa
  replace fb := Lib.hid fb
  clear hka hkb
  go_enter Try.func31, Try.ntmps31
  go_wp2_with (fail)
  rw [← hZ.out]
  simp only [← hs]
  have hsw : w.heap.size ≤ s := Nat.le_of_eq hs.symm
  replace hs := Lib.hid hs
  (with_reducible refine hC1.out.mono ?_)
  rintro e w1 ⟨rfl, hb2⟩
  have hbz := hb1.trans (hb2.mono hb1.size)
  clear hb1 hB1
  have hBf := Lib.hid ((hB.trans (hbz.mono hB.size)).trans ((set5 (w3 := w1) (b := s + 1 + 1) (.int .i64 0) (.int .i64 0) (.slice none 0 0) (.int .i64 0) (.slice none 0 0)).mono (by omega)))
  obtain ⟨q0, q1, q2, q3, q4, g0, g1, g2, g3, g4⟩ := fz.keep hbz hZs
  clear hbz hB fz
  go_wp2_with (fail)
  refine bodyPost_ret (v := .tuple #[.agg #[.int .i64 0, .int .i64 0, .slice none 0 0, .int .i64 0, .slice none 0 0], .int .i64 E]) (by simp [results, Try.results31, go_sem, q0, q1, q2, q3, q4]) rfl (resErr hBf.out)

set_option maxRecDepth 100000 in
set_option maxHeartbeats 2000000 in
theorem rPlotkin_err (Pa Ma Na : Int) (mla : List Int) (na : Nat) (rowsa : Nat → List Int) (Aa Ra : Option Addr) (ca ka : Nat) (Pb Mb Nb : Int) (mlb : List Int) (nb : Nat) (rowsb : Nat → List Int) (Ab Rb : Option Addr) (cb kb : Nat) (w : World) (hPa : I64 Pa) (hMa : I64 Ma) (hla : mla.length ≤ maxLen) (hna : na ≤ 64) (hka : ∀ i, i < na → (rowsa i).length ≤ 4200) (hra : Rd w w.heap.size Aa mla) (hma : RdM w w.heap.size Ra na rowsa) (hPb : I64 Pb) (hMb : I64 Mb) (hlb : mlb.length ≤ maxLen) (hnb : nb ≤ 64) (hkb : ∀ i, i < nb → (rowsb i).length ≤ 4200) (hrb : Rd w w.heap.size Ab mlb) (hmb : RdM w w.heap.size Rb nb rowsb) (hE0 : twoE Pa Ma Na mla na rowsa Aa Ra ca ka Pb Mb Nb mlb nb rowsb Ab Rb cb kb ≠ 0) :
    Calls Try.prog 32 #[.agg #[.int .i64 Pa, .int .i64 Ma, .slice Aa mla.length ca, .int .i64 Na, .slice Ra na ka], .agg #[.int .i64 Pb, .int .i64 Mb, .slice Ab mlb.length cb, .int .i64 Nb, .slice Rb nb kb]] w (ResErr (twoE Pa Ma Na mla na rowsa Aa Ra ca ka Pb Mb Nb mlb nb rowsb Ab Rb cb kb) w) := by
  obtain ⟨Z, hZ⟩ : ∃ Z, Z = (((w.alloc (.cells #[.int .i64 Pa, .int .i64 Ma, .slice Aa mla.length ca, .int .i64 Na, .slice Ra na ka] 27)).alloc (.cells #[.int .i64 Pb, .int .i64 Mb, .slice Ab mlb.length cb, .int .i64 Nb, .slice Rb nb kb] 27)).alloc (.cells #[.int .i64 0, .int .i64 0, .slice none 0 0, .int .i64 0, .slice none 0 0] 27)) := ⟨_, rfl⟩
  have hB : Below w.heap.size w Z := by rw [hZ]; exact (((Below.refl _ _).alloc (Nat.le_refl _) _).alloc (by simp) _).alloc (by simp; omega) _
  obtain ⟨s, hs⟩ : ∃ s, s = w.heap.size := ⟨_, rfl⟩
  obtain ⟨hZe, fa, fb, fz⟩ := two_enter Pa Ma Na mla na rowsa Aa Ra ca ka Pb Mb Nb mlb nb rowsb Ab Rb cb kb w hZ hs
  have hZs : s + 1 + 1 < Z.heap.size := by omega
  have hC1 := Two14_any Pa Ma Na mla na rowsa Aa Ra ca ka Pb Mb Nb mlb nb rowsb Ab Rb cb kb Z hPa hMa hla hna hka ((hra.below hB).more hB.size) ((hma.below hB).more hB.size) hPb hMb hlb hnb hkb ((hrb.below hB).more hB.size) ((hmb.below hB).more hB.size)
  replace hZe := Lib.hid hZe
  generalize twoE Pa Ma Na mla na rowsa Aa Ra ca ka Pb Mb Nb mlb nb rowsb Ab Rb cb kb = E at *
  have hEb : (E != 0) = true := by rw [bne_iff_ne]; exact hE0
  replace hE0 := Lib.hid hE0
  replace hC1 := Lib.hid hC1
  replace hZ := Lib.hid hZ
  replace fa := Lib.hid fa
  replace fb := Lib.hid fb
  clear hka hkb
  go_enter Try.func32, Try.ntmps32
  go_wp2_with (fail)
  rw [← hZ.out]
  simp only [← hs]
  have hsw : w.heap.size ≤ s := Nat.le_of_eq hs.symm
  replace hs := Lib.hid hs
  (with_reducible refine hC1.out.mono ?_)
  rintro e w1 ⟨rfl, hb2⟩
  have hbz := hb2
  have hBf := Lib.hid ((hB.trans (hbz.mono hB.size)).trans ((set5 (w3 := w1) (b := s + 1 + 1) (.int .i64 0) (.int .i64 0) (.slice none 0 0) (.int .i64 0) (.slice none 0 0)).mono (by omega)))
  obtain ⟨q0, q1, q2, q3, q4, g0, g1, g2, g3, g4⟩ := fz.keep hbz hZs
  clear hbz hB fz
  go_wp2_with (fail)
  refine bodyPost_ret (v := .tuple #[.agg #[.int .i64 0, .int .i64 0, .slice none 0 0, .int .i64 0, .slice none 0 0], .int .i64 E]) (by simp [results, Try.results32, go_sem, q0, q1, q2, q3, q4]) rfl (resErr hBf.out)

set_option maxRecDepth 100000 in
set_option maxHeartbeats 2000000 in
theorem cJuxtapose_err (Pa Ma Na : Int) (mla : List Int) (na : Nat) (rowsa : Nat → List Int) (Aa Ra : Option Addr) (ca ka : Nat) (Pb Mb Nb : Int) (mlb : List Int) (nb : Nat) (rowsb : Nat → List Int) (Ab Rb : Option Addr) (cb kb : Nat) (w : World) (hPa : I64 Pa) (hMa : I64 Ma) (hla : mla.length ≤ maxLen) (hna : na ≤ 64) (hka : ∀ i, i < na → (rowsa i).length ≤ 4200) (hra : Rd w w.heap.size Aa mla) (hma : RdM w w.heap.size Ra na rowsa) (hPb : I64 Pb) (hMb : I64 Mb) (hlb : mlb.length ≤ maxLen) (hnb : nb ≤ 64) (hkb : ∀ i, i < nb → (rowsb i).length ≤ 4200) (hrb : Rd w w.heap.size Ab mlb) (hmb : RdM w w.heap.size Rb nb rowsb) (hE0 : twoE Pa Ma Na mla na rowsa Aa Ra ca ka Pb Mb Nb mlb nb rowsb Ab Rb cb kb ≠ 0) :
    Calls Try.prog 20 #[.agg #[.int .i64 Pa, .int .i64 Ma, .slice Aa mla.length ca, .int .i64 Na, .slice Ra na ka], .agg #[.int .i64 Pb, .int .i64 Mb, .slice Ab mlb.length cb, .int .i64 Nb, .slice Rb nb kb]] w (ResErr (twoE Pa Ma Na mla na rowsa Aa Ra ca ka Pb Mb Nb mlb nb rowsb Ab Rb cb kb) w) := by
  have hC := fun (W : World) (h : Below w.heap.size w W) X h0 h1 h2 => checked2_any Pa Ma Na mla na rowsa Aa Ra ca ka Pb Mb Nb mlb nb rowsb Ab Rb cb kb X W hPa hMa hla hna hka ((hra.below h).more h.size) ((hma.below h).more h.size) hPb hMb hlb hnb hkb ((hrb.below h).more h.size) ((hmb.below h).more h.size) h0 h1 h2
  obtain ⟨Z, hZ⟩ : ∃ Z, Z = (((w.alloc (.cells #[.int .i64 Pa, .int .i64 Ma, .slice Aa mla.length ca, .int .i64 Na, .slice Ra na ka] 27)).alloc (.cells #[.int .i64 Pb, .int .i64 Mb, .slice Ab mlb.length cb, .int .i64 Nb, .slice Rb nb kb] 27)).alloc (.cells #[.int .i64 0, .int .i64 0, .slice none 0 0, .int .i64 0, .slice none 0 0] 27)) := ⟨_, rfl⟩
  have hB : Below w.heap.size w Z := by rw [hZ]; exact (((Below.refl _ _).alloc (Nat.le_refl _) _).alloc (by simp) _).alloc (by simp; omega) _
  obtain ⟨s, hs⟩ : ∃ s, s = w.heap.size := ⟨_, rfl⟩
  obtain ⟨hZe, fa, fb, fz⟩ := two_enter Pa Ma Na mla na rowsa Aa Ra ca ka Pb Mb Nb mlb nb rowsb Ab Rb cb kb w hZ hs
  have hZs : s + 1 + 1 < Z.heap.size := by omega
  have hb1 : Below Z.heap.size Z (Z.alloc (.cells #[.int .i64 Pa, .int .i64 Ma, .slice Aa mla.length ca, .int .i64 Na, .slice Ra na ka, .int .i64 Pb, .int .i64 Mb, .slice Ab mlb.length cb, .int .i64 Nb, .slice Rb nb kb] 27)) := (Below.refl _ _).alloc (Nat.le_refl _) _
  have hB1 := hB.trans (hb1.mono hB.size)
  have hC1 := hC _ hB1 (s + 1 + 1 + 1) (by rw [World.size_alloc]; omega) (by rw [← hZe]; simp [go_sem]) (by rw [← hZe]; simp [go_sem])
  clear hC
  replace hZe := Lib.hid hZe
  generalize twoE Pa Ma Na mla na rowsa Aa Ra ca ka Pb Mb Nb mlb nb rowsb Ab Rb cb kb = E at *
  have hEb : (E != 0) = true := by rw [bne_iff_ne]; exact hE0
  replace hE0 := Lib.hid hE0
  replace hC1 := Lib.hid hC1
  replace hZ := Lib.hid hZ
  replace fa := Lib.hid fa
  replace fb := Lib.hid fb
  clear hka hkb
  go_enter Try.func20, Try.ntmps20
  go_wp2_with (fail)
  rw [← hZ.out]
  simp only [← hs]
  have hsw : w.heap.size ≤ s := Nat.le_of_eq hs.symm
  replace hs := Lib.hid hs
  (with_reducible refine hC1.out.mono ?_)
  rintro e w1 ⟨rfl, hb2⟩
  have hbz := hb1.trans (hb2.mono hb1.size)
  clear hb1 hB1
  have hBf := Lib.hid ((hB.trans (hbz.mono hB.size)).trans ((set5 (w3 := w1) (b := s + 1 + 1) (.int .i64 0) (.int .i64 0) (.slice none 0 0) (.int .i64 0) (.slice none 0 0)).mono (by omega)))
  obtain ⟨q0, q1, q2, q3, q4, g0, g1, g2, g3, g4⟩ := fz.keep hbz hZs
  clear hbz hB fz
  go_wp2_with (fail)
  refine bodyPost_ret (v := .tuple #[.agg #[.int .i64 0, .int .i64 0, .slice none 0 0, .int .i64 0, .slice none 0 0], .int .i64 E]) (by simp [results, Try.results20, go_sem, q0, q1, q2, q3, q4]) rfl (resErr hBf.out)

set_option maxRecDepth 100000 in
set_option maxHeartbeats 2000000 in
theorem rJuxtapose_err (Pa Ma Na : Int) (mla : List Int) (na : Nat) (rowsa : Nat → List Int) (Aa Ra : Option Addr) (ca ka : Nat) (Pb Mb Nb : Int) (mlb : List Int) (nb : Nat) (rowsb : Nat → List Int) (Ab Rb : Option Addr) (cb kb : Nat) (w : World) (hPa : I64 Pa) (hMa : I64 Ma) (hla : mla.length ≤ maxLen) (hna : na ≤ 64) (hka : ∀ i, i < na → (rowsa i).length ≤ 4200) (hra : Rd w w.heap.size Aa mla) (hma : RdM w w.heap.size Ra na rowsa) (hPb : I64 Pb) (hMb : I64 Mb) (hlb : mlb.length ≤ maxLen) (hnb : nb ≤ 64) (hkb : ∀ i, i < nb → (rowsb i).length ≤ 4200) (hrb : Rd w w.heap.size Ab mlb) (hmb : RdM w w.heap.size Rb nb rowsb) (hE0 : twoE Pa Ma Na mla na rowsa Aa Ra ca ka Pb Mb Nb mlb nb rowsb Ab Rb cb kb ≠ 0) :
    Calls Try.prog 21 #[.agg #[.int .i64 Pa, .int .i64 Ma, .slice Aa mla.length ca, .int .i64 Na, .slice Ra na ka], .agg #[.int .i64 Pb, .int .i64 Mb, .slice Ab mlb.length cb, .int .i64 Nb, .slice Rb nb kb]] w (ResErr (twoE Pa Ma Na mla na rowsa Aa Ra ca ka Pb Mb Nb mlb nb rowsb Ab Rb cb kb) w) := by
  obtain ⟨Z, hZ⟩ : ∃ Z, Z = (((w.alloc (.cells #[.int .i64 Pa, .int .i64 Ma, .slice Aa mla.length ca, .int .i64 Na, .slice Ra na ka] 27)).alloc (.cells #[.int .i64 Pb, .int .i64 Mb, .slice Ab mlb.length cb, .int .i64 Nb, .slice Rb nb kb] 27)).alloc (.cells #[.int .i64 0, .int .i64 0, .slice none 0 0, .int .i64 0, .slice none 0 0] 27)) := ⟨_, rfl⟩
  have hB : Below w.heap.size w Z := by rw [hZ]; exact (((Below.refl _ _).alloc (Nat.le_refl _) _).alloc (by simp) _).alloc (by simp; omega) _
  obtain ⟨s, hs⟩ : ∃ s, s = w.heap.size := ⟨_, rfl⟩
  obtain ⟨hZe, fa, fb, fz⟩ := two_enter Pa Ma Na mla na rowsa Aa Ra ca ka Pb Mb Nb mlb nb rowsb Ab Rb cb kb w hZ hs
  have hZs : s + 1 + 1 < Z.heap.size := by omega
  have hC1 := Two14_any Pa Ma Na mla na rowsa Aa Ra ca ka Pb Mb Nb mlb nb rowsb Ab Rb cb kb Z hPa hMa hla hna hka ((hra.below hB).more hB.size) ((hma.below hB).more hB.size) hPb hMb hlb hnb hkb ((hrb.below hB).more hB.size) ((hmb.below hB).more hB.size)
  replace hZe := Lib.hid hZe
  generalize twoE Pa Ma Na mla na rowsa Aa Ra ca ka Pb Mb Nb mlb nb rowsb Ab Rb cb kb = E at *
  have hEb : (E != 0) = true := by rw [bne_iff_ne]; exact hE0
  replace hE0 := Lib.hid hE0
  replace hC1 := Lib.hid hC1
  replace hZ := Lib.hid hZ
  replace fa := Lib.hid fa
  replace fb := Lib.hid fb
  clear hka hkb
  go_enter Try.func21, Try.ntmps21
  go_wp2_with (fail)
  rw [← hZ.out]
  simp only [← hs]
  have hsw : w.heap.size ≤ s := Nat.le_of_eq hs.symm
  replace hs := Lib.hid hs
  (with_reducible refine hC1.out.mono ?_)
  rintro e w1 ⟨rfl, hb2⟩
  have hbz := hb2
  have hBf := Lib.hid ((hB.trans (hbz.mono hB.size)).trans ((set5 (w3 := w1) (b := s + 1 + 1) (.int .i64 0) (.int .i64 0) (.slice none 0 0) (.int .i64 0) (.slice none 0 0)).mono (by omega)))
  obtain ⟨q0, q1, q2, q3, q4, g0, g1, g2, g3, g4⟩ := fz.keep hbz hZs
  clear hbz hB fz
  go_wp2_with (fail)
  refine bodyPost_ret (v := .tuple #[.agg #[.int .i64 0, .int .i64 0, .slice none 0 0, .int .i64 0, .slice none 0 0], .int .i64 E]) (by simp [results, Try.results21, go_sem, q0, q1, q2, q3, q4]) rfl (resErr hBf.out)

set_option maxRecDepth 100000 in
set_option maxHeartbeats 2000000 in
theorem cProduct_err (Pa Ma Na : Int) (mla : List Int) (na : Nat) (rowsa : Nat → List Int) (Aa Ra : Option Addr) (ca ka : Nat) (Pb Mb Nb : Int) (mlb : List Int) (nb : Nat) (rowsb : Nat → List Int) (Ab Rb : Option Addr) (cb kb : Nat) (w : World) (hPa : I64 Pa) (hMa : I64 Ma) (hla : mla.length ≤ maxLen) (hna : na ≤ 64) (hka : ∀ i, i < na → (rowsa i).length ≤ 4200) (hra : Rd w w.heap.size Aa mla) (hma : RdM w w.heap.size Ra na rowsa) (hPb : I64 Pb) (hMb : I64 Mb) (hlb : mlb.length ≤ maxLen) (hnb : nb ≤ 64) (hkb : ∀ i, i < nb → (rowsb i).length ≤ 4200) (hrb : Rd w w.heap.size Ab mlb) (hmb : RdM w w.heap.size Rb nb rowsb) (hE0 : twoE Pa Ma Na mla na rowsa Aa Ra ca ka Pb Mb Nb mlb nb rowsb Ab Rb cb kb ≠ 0) :
    Calls Try.prog 22 #[.agg #[.int .i64 Pa, .int .i64 Ma, .slice Aa mla.length ca, .int .i64 Na, .slice Ra na ka], .agg #[.int .i64 Pb, .int .i64 Mb, .slice Ab mlb.length cb, .int .i64 Nb, .slice Rb nb kb]] w (ResErr (twoE Pa Ma Na mla na rowsa Aa Ra ca ka Pb Mb Nb mlb nb rowsb Ab Rb cb kb) w) := by
  have hC := fun (W : World) (h : Below w.heap.size w W) X h0 h1 h2 => checked2_any Pa Ma Na mla na rowsa Aa Ra ca ka Pb Mb Nb mlb nb rowsb Ab Rb cb kb X W hPa hMa hla hna hka ((hra.below h).more h.size) ((hma.below h).more h.size) hPb hMb hlb hnb hkb ((hrb.below h).more h.size) ((hmb.below h).more h.size) h0 h1 h2
  obtain ⟨Z, hZ⟩ : ∃ Z, Z = (((w.alloc (.cells #[.int .i64 Pa, .int .i64 Ma, .slice Aa mla.length ca, .int .i64 Na, .slice Ra na ka] 27)).alloc (.cells #[.int .i64 Pb, .int .i64 Mb, .slice Ab mlb.length cb, .int .i64 Nb, .slice Rb nb kb] 27)).alloc (.cells #[.int .i64 0, .int .i64 0, .slice none 0 0, .int .i64 0, .slice none 0 0] 27)) := ⟨_, rfl⟩
  have hB : Below w.heap.size w Z := by rw [hZ]; exact (((Below.refl _ _).alloc (Nat.le_refl _) _).alloc (by simp) _).alloc (by simp; omega) _
  obtain ⟨s, hs⟩ : ∃ s, s = w.heap.size := ⟨_, rfl⟩
  obtain ⟨hZe, fa, fb, fz⟩ := two_enter Pa Ma Na mla na rowsa Aa Ra ca ka Pb Mb Nb mlb nb rowsb Ab Rb cb kb w hZ hs
  have hZs : s + 1 + 1 < Z.heap.size := by omega
  have hb1 : Below Z.heap.size Z (Z.alloc (.cells #[.int .i64 Pa, .int .i64 Ma, .slice Aa mla.length ca, .int .i64 Na, .slice Ra na ka, .int .i64 Pb, .int .i64 Mb, .slice Ab mlb.length cb, .int .i64 Nb, .slice Rb nb kb] 27)) := (Below.refl _ _).alloc (Nat.le_refl _) _
  have hB1 := hB.trans (hb1.mono hB.size)
  have hC1 := hC _ hB1 (s + 1 + 1 + 1) (by rw [World.size_alloc]; omega) (by rw [← hZe]; simp [go_sem]) (by rw [← hZe]; simp [go_sem])
  clear hC
  replace hZe := Lib.hid hZe
  generalize twoE Pa Ma Na mla na rowsa Aa Ra ca ka Pb Mb Nb mlb nb rowsb Ab Rb cb kb = E at *
  have hEb : (E != 0) = true := by rw [bne_iff_ne]; exact hE0
  replace hE0 := Lib.hid hE0
  replace hC1 := Lib.hid hC1
  replace hZ := Lib.hid hZ
  replace fa := Lib.hid fa
  replace fb := Lib.hid fb
  clear hka hkb
  go_enter Try.func22, Try.ntmps22
  go_wp2_with (fail)
  rw [← hZ.out]
  simp only [← hs]
  have hsw : w.heap.size ≤ s := Nat.le_of_eq hs.symm
  replace hs := Lib.hid hs
  (with_reducible refine hC1.out.mono ?_)
  rintro e w1 ⟨rfl, hb2⟩
  have hbz := hb1.trans (hb2.mono hb1.size)
  clear hb1 hB1
  have hBf := Lib.hid ((hB.trans (hbz.mono hB.size)).trans ((set5 (w3 := w1) (b := s + 1 + 1) (.int .i64 0) (.int .i64 0) (.slice none 0 0) (.int .i64 0) (.slice none 0 0)).mono (by omega)))
  obtain ⟨q0, q1, q2, q3, q4, g0, g1, g2, g3, g4⟩ := fz.keep hbz hZs
  clear hbz hB fz
  go_wp2_with (fail)
  refine bodyPost_ret (v := .tuple #[.agg #[.int .i64 0, .int .i64 0, .slice none 0 0, .int .i64 0, .slice none 0 0], .int .i64 E]) (by simp [results, Try.results22, go_sem, q0, q1, q2, q3, q4]) rfl (resErr hBf.out)

set_option maxRecDepth 100000 in
set_option maxHeartbeats 2000000 in
theorem rProduct_err (Pa Ma Na : Int) (mla : List Int) (na : Nat) (rowsa : Nat → List Int) (Aa Ra : Option Addr) (ca ka : Nat) (Pb Mb Nb : Int) (mlb : List Int) (nb : Nat) (rowsb : Nat → List Int) (Ab Rb : Option Addr) (cb kb : Nat) (w : World) (hPa : I64 Pa) (hMa : I64 Ma) (hla : mla.length ≤ maxLen) (hna : na ≤ 64) (hka : ∀ i, i < na → (rowsa i).length ≤ 4200) (hra : Rd w w.heap.size Aa mla) (hma : RdM w w.heap.size Ra na rowsa) (hPb : I64 Pb) (hMb : I64 Mb) (hlb : mlb.length ≤ maxLen) (hnb : nb ≤ 64) (hkb : ∀ i, i < nb → (rowsb i).length ≤ 4200) (hrb : Rd w w.heap.size Ab mlb) (hmb : RdM w w.heap.size Rb nb rowsb) (hE0 : twoE Pa Ma Na mla na rowsa Aa Ra ca ka Pb Mb Nb mlb nb rowsb Ab Rb cb kb ≠ 0) :
    Calls Try.prog 23 #[.agg #[.int .i64 Pa, .int .i64 Ma, .slice Aa mla.length ca, .int .i64 Na, .slice Ra na ka], .agg #[.int .i64 Pb, .int .i64 Mb, .slice Ab mlb.length cb, .int .i64 Nb, .slice Rb nb kb]] w (ResErr (twoE Pa Ma Na mla na rowsa Aa Ra ca ka Pb Mb Nb mlb nb rowsb Ab Rb cb kb) w) := by
  obtain ⟨Z, hZ⟩ : ∃ Z, Z = (((w.alloc (.cells #[.int .i64 Pa, .int .i64 Ma, .slice Aa mla.length ca, .int .i64 Na, .slice Ra na ka] 27)).alloc (.cells #[.int .i64 Pb, .int .i64 Mb, .slice Ab mlb.length cb, .int .i64 Nb, .slice Rb nb kb] 27)).alloc (.cells #[.int .i64 0, .int .i64 0, .slice none 0 0, .int .i64 0, .slice none 0 0] 27)) := ⟨_, rfl⟩
  have hB : Below w.heap.size w Z := by rw [hZ]; exact (((Below.refl _ _).alloc (Nat.le_refl _) _).alloc (by simp) _).alloc (by simp; omega) _
  obtain ⟨s, hs⟩ : ∃ s, s = w.heap.size := ⟨_, rfl⟩
  obtain ⟨hZe, fa, fb, fz⟩ := two_enter Pa Ma Na mla na rowsa Aa Ra ca ka Pb Mb Nb mlb nb rowsb Ab Rb cb kb w hZ hs
  have hZs : s + 1 + 1 < Z.heap.size := by omega
  have hC1 := Two14_any Pa Ma Na mla na rowsa Aa Ra ca ka Pb Mb Nb mlb nb rowsb Ab Rb cb kb Z hPa hMa hla hna hka ((hra.below hB).more hB.size) ((hma.below hB).more hB.size) hPb hMb hlb hnb hkb ((hrb.below hB).more hB.size) ((hmb.below hB).more hB.size)
  replace hZe := Lib.hid hZe
  generalize twoE Pa Ma Na mla na rowsa Aa Ra ca ka Pb Mb Nb mlb nb rowsb Ab Rb cb kb = E at *
  have hEb : (E != 0) = true := by rw [bne_iff_ne]; exact hE0
  replace hE0 := Lib.hid hE0
  replace hC1 := Lib.hid hC1
  replace hZ := Lib.hid hZ
  replace fa := Lib.hid fa
  replace fb := Lib.hid fb
  clear hka hkb
  go_enter Try.func23, Try.ntmps23
  go_wp2_with (fail)
  rw [← hZ.out]
  simp only [← hs]
  have hsw : w.heap.size ≤ s := Nat.le_of_eq hs.symm
  replace hs := Lib.hid hs
  (with_reducible refine hC1.out.mono ?_)
  rintro e w1 ⟨rfl, hb2⟩
  have hbz := hb2
  have hBf := Lib.hid ((hB.trans (hbz.mono hB.size)).trans ((set5 (w3 := w1) (b := s + 1 + 1) (.int .i64 0) (.int .i64 0) (.slice none 0 0) (.int .i64 0) (.slice none 0 0)).mono (by omega)))
  obtain ⟨q0, q1, q2, q3, q4, g0, g1, g2, g3, g4⟩ := fz.keep hbz hZs
  clear hbz hB fz
  go_wp2_with (fail)
  refine bodyPost_ret (v := .tuple #[.agg #[.int .i64 0, .int .i64 0, .slice none 0 0, .int .i64 0, .slice none 0 0], .int .i64 E]) (by simp [results, Try.results23, go_sem, q0, q1, q2, q3, q4]) rfl (resErr hBf.out)

set_option maxRecDepth 100000 in
set_option maxHeartbeats 2000000 in
theorem cPlotkin_m (Pa Ma Na : Int) (mla : List Int) (na : Nat) (rowsa : Nat → List Int) (Aa Ra : Option Addr) (ca ka : Nat) (Pb Mb Nb : Int) (mlb : List Int) (nb : Nat) (rowsb : Nat → List Int) (Ab Rb : Option Addr) (cb kb : Nat) (w : World) (hPa : I64 Pa) (hMa : I64 Ma) (hla : mla.length ≤ maxLen) (hna : na ≤ 64) (hka : ∀ i, i < na → (rowsa i).length ≤ 4200) (hra : Rd w w.heap.size Aa mla) (hma : RdM w w.heap.size Ra na rowsa) (hPb : I64 Pb) (hMb : I64 Mb) (hlb : mlb.length ≤ maxLen) (hnb : nb ≤ 64) (hkb : ∀ i, i < nb → (rowsb i).length ≤ 4200) (hrb : Rd w w.heap.size Ab mlb) (hmb : RdM w w.heap.size Rb nb rowsb) (hE : twoE Pa Ma Na mla na rowsa Aa Ra ca ka Pb Mb Nb mlb nb rowsb Ab Rb cb kb = 0) (hne : Na ≠ Nb) :
    Calls Try.prog 31 #[.agg #[.int .i64 Pa, .int .i64 Ma, .slice Aa mla.length ca, .int .i64 Na, .slice Ra na ka], .agg #[.int .i64 Pb, .int .i64 Mb, .slice Ab mlb.length cb, .int .i64 Nb, .slice Rb nb kb]] w (ResErr 10 w) := by
  have hC := fun (W : World) (h : Below w.heap.size w W) X h0 h1 h2 => checked2_any Pa Ma Na mla na rowsa Aa Ra ca ka Pb Mb Nb mlb nb rowsb Ab Rb cb kb X W hPa hMa hla hna hka ((hra.below h).more h.size) ((hma.below h).more h.size) hPb hMb hlb hnb hkb ((hrb.below h).more h.size) ((hmb.below h).more h.size) h0 h1 h2
  obtain ⟨Z, hZ⟩ : ∃ Z, Z = (((w.alloc (.cells #[.int .i64 Pa, .int .i64 Ma, .slice Aa mla.length ca, .int .i64 Na, .slice Ra na ka] 27)).alloc (.cells #[.int .i64 Pb, .int .i64 Mb, .slice Ab mlb.length cb, .int .i64 Nb, .slice Rb nb kb] 27)).alloc (.cells #[.int .i64 0, .int .i64 0, .slice none 0 0, .int .i64 0, .slice none 0 0] 27)) := ⟨_, rfl⟩
  have hB : Below w.heap.size w Z := by rw [hZ]; exact (((Below.refl _ _).alloc (Nat.le_refl _) _).alloc (by simp) _).alloc (by simp; omega) _
  obtain ⟨s, hs⟩ : ∃ s, s = w.heap.size := ⟨_, rfl⟩
  obtain ⟨hZe, fa, fb, fz⟩ := two_enter Pa Ma Na mla na rowsa Aa Ra ca ka Pb Mb Nb mlb nb rowsb Ab Rb cb kb w hZ hs
  have hZs : s + 1 + 1 < Z.heap.size := by omega
  have hb1 : Below Z.heap.size Z (Z.alloc (.cells #[.int .i64 Pa, .int .i64 Ma, .slice Aa mla.length ca, .int .i64 Na, .slice Ra na ka, .int .i64 Pb, .int .i64 Mb, .slice Ab mlb.length cb, .int .i64 Nb, .slice Rb nb kb] 27)) := (Below.refl _ _).alloc (Nat.le_refl _) _
  have hB1 := hB.trans (hb1.mono hB.size)
  have hC1 := hC _ hB1 (s + 1 + 1 + 1) (by rw [World.size_alloc]; omega) (by rw [← hZe]; simp [go_sem]) (by rw [← hZe]; simp [go_sem])
  clear hC
  replace hZe := Lib.hid hZe
  rw [hE] at hC1
  replace hE := Lib.hid hE
  have hq : (Na != Nb) = true := by rw [bne_iff_ne]; exact hne
  replace hne := Lib.hid hne
  replace hC1 := Lib.hid hC1
  replace hZ := Lib.hid hZ
  replace fa := Lib.hid fa
  replace fb := Lib.hid fb
  clear hka hkb
  go_enter Try.func31, Try.ntmps31
  go_wp2_with (fail)
  rw [← hZ.out]
  simp only [← hs]
  have hsw : w.heap.size ≤ s := Nat.le_of_eq hs.symm
  replace hs := Lib.hid hs
  (with_reducible refine hC1.out.mono ?_)
  rintro e w1 ⟨rfl, hb2⟩
  have hbz := hb1.trans (hb2.mono hb1.size)
  clear hb1 hB1
  have hBf := Lib.hid ((hB.trans (hbz.mono hB.size)).trans ((set5 (w3 := w1) (b := s + 1 + 1) (.int .i64 0) (.int .i64 0) (.slice none 0 0) (.int .i64 0) (.slice none 0 0)).mono (by omega)))
  obtain ⟨q0, q1, q2, q3, q4, g0, g1, g2, g3, g4⟩ := fz.keep hbz hZs
  obtain ⟨a0, a1, a2, a3, a4, -⟩ := fa.out.keep hbz (by omega)
  obtain ⟨c0, c1, c2, c3, c4, -⟩ := fb.out.keep hbz (by omega)
  clear hbz hB fz
  go_wp2_with (fail)
  refine bodyPost_ret (v := .tuple #[.agg #[.int .i64 0, .int .i64 0, .slice none 0 0, .int .i64 0, .slice none 0 0], .int .i64 10]) (by simp [results, Try.results31, go_sem, q0, q1, q2, q3, q4]) rfl (resErr hBf.out)

set_option maxRecDepth 100000 in
set_option maxHeartbeats 2000000 in
theorem rPlotkin_m (Pa Ma Na : Int) (mla : List Int) (na : Nat) (rowsa : Nat → List Int) (Aa Ra : Option Addr) (ca ka : Nat) (Pb Mb Nb : Int) (mlb : List Int) (nb : Nat) (rowsb : Nat → List Int) (Ab Rb : Option Addr) (cb kb : Nat) (w : World) (hPa : I64 Pa) (hMa : I64 Ma) (hla : mla.length ≤ maxLen) (hna : na ≤ 64) (hka : ∀ i, i < na → (rowsa i).length ≤ 4200) (hra : Rd w w.heap.size Aa mla) (hma : RdM w w.heap.size Ra na rowsa) (hPb : I64 Pb) (hMb : I64 Mb) (hlb : mlb.length ≤ maxLen) (hnb : nb ≤ 64) (hkb : ∀ i, i < nb → (rowsb i).length ≤ 4200) (hrb : Rd w w.heap.size Ab mlb) (hmb : RdM w w.heap.size Rb nb rowsb) (hE : twoE Pa Ma Na mla na rowsa Aa Ra ca ka Pb Mb Nb mlb nb rowsb Ab Rb cb kb = 0) (hne : Na ≠ Nb) :
    Calls Try.prog 32 #[.agg #[.int .i64 Pa, .int .i64 Ma, .slice Aa mla.length ca, .int .i64 Na, .slice Ra na ka], .agg #[.int .i64 Pb, .int .i64 Mb, .slice Ab mlb.length cb, .int .i64 Nb, .slice Rb nb kb]] w (ResErr 10 w) := by
  obtain ⟨Z, hZ⟩ : ∃ Z, Z = (((w.alloc (.cells #[.int .i64 Pa, .int .i64 Ma, .slice Aa mla.length ca, .int .i64 Na, .slice Ra na ka] 27)).alloc (.cells #[.int .i64 Pb, .int .i64 Mb, .slice Ab mlb.length cb, .int .i64 Nb, .slice Rb nb kb] 27)).alloc (.cells #[.int .i64 0, .int .i64 0, .slice none 0 0, .int .i64 0, .slice none 0 0] 27)) := ⟨_, rfl⟩
  have hB : Below w.heap.size w Z := by rw [hZ]; exact (((Below.refl _ _).alloc (Nat.le_refl _) _).alloc (by simp) _).alloc (by simp; omega) _
  obtain ⟨s, hs⟩ : ∃ s, s = w.heap.size := ⟨_, rfl⟩
  obtain ⟨hZe, fa, fb, fz⟩ := two_enter Pa Ma Na mla na rowsa Aa Ra ca ka Pb Mb Nb mlb nb rowsb Ab Rb cb kb w hZ hs
  have hZs : s + 1 + 1 < Z.heap.size := by omega
  have hC1 := Two14_any Pa Ma Na mla na rowsa Aa Ra ca ka Pb Mb Nb mlb nb rowsb Ab Rb cb kb Z hPa hMa hla hna hka ((hra.below hB).more hB.size) ((hma.below hB).more hB.size) hPb hMb hlb hnb hkb ((hrb.below hB).more hB.size) ((hmb.below hB).more hB.size)
  replace hZe := Lib.hid hZe
  rw [hE] at hC1
  replace hE := Lib.hid hE
  have hq : (Na != Nb) = true := by rw [bne_iff_ne]; exact hne
  replace hne := Lib.hid hne
  replace hC1 := Lib.hid hC1
  replace hZ := Lib.hid hZ
  replace fa := Lib.hid fa
  replace fb := Lib.hid fb
  clear hka hkb
  go_enter Try.func32, Try.ntmps32
  go_wp2_with (fail)
  rw [← hZ.out]
  simp only [← hs]
  have hsw : w.heap.size ≤ s := Nat.le_of_eq hs.symm
  replace hs := Lib.hid hs
  (with_reducible refine hC1.out.mono ?_)
  rintro e w1 ⟨rfl, hb2⟩
  have hbz := hb2
  have hBf := Lib.hid ((hB.trans (hbz.mono hB.size)).trans ((set5 (w3 := w1) (b := s + 1 + 1) (.int .i64 0) (.int .i64 0) (.slice none 0 0) (.int .i64 0) (.slice none 0 0)).mono (by omega)))
  obtain ⟨q0, q1, q2, q3, q4, g0, g1, g2, g3, g4⟩ := fz.keep hbz hZs
  obtain ⟨a0, a1, a2, a3, a4, -⟩ := fa.out.keep hbz (by omega)
  obtain ⟨c0, c1, c2, c3, c4, -⟩ := fb.out.keep hbz (by omega)
  clear hbz hB fz
  go_wp2_with (fail)
  refine bodyPost_ret (v := .tuple #[.agg #[.int .i64 0, .int .i64 0, .slice none 0 0, .int .i64 0, .slice none 0 0], .int .i64 10]) (by simp [results, Try.results32, go_sem, q0, q1, q2, q3, q4]) rfl (resErr hBf.out)

set_option maxRecDepth 100000 in
set_option maxHeartbeats 2000000 in
theorem cJuxtapose_m (Pa Ma Na : Int) (mla : List Int) (na : Nat) (rowsa : Nat → List Int) (Aa Ra : Option Addr) (ca ka : Nat) (Pb Mb Nb : Int) (mlb : List Int) (nb : Nat) (rowsb : Nat → List Int) (Ab Rb : Option Addr) (cb kb : Nat) (w : World) (hPa : I64 Pa) (hMa : I64 Ma) (hla : mla.length ≤ maxLen) (hna : na ≤ 64) (hka : ∀ i, i < na → (rowsa i).length ≤ 4200) (hra : Rd w w.heap.size Aa mla) (hma : RdM w w.heap.size Ra na rowsa) (hPb : I64 Pb) (hMb : I64 Mb) (hlb : mlb.length ≤ maxLen) (hnb : nb ≤ 64) (hkb : ∀ i, i < nb → (rowsb i).length ≤ 4200) (hrb : Rd w w.heap.size Ab mlb) (hmb : RdM w w.heap.size Rb nb rowsb) (hE : twoE Pa Ma Na mla na rowsa Aa Ra ca ka Pb Mb Nb mlb nb rowsb Ab Rb cb kb = 0) (hne : na ≠ nb) :
    Calls Try.prog 20 #[.agg #[.int .i64 Pa, .int .i64 Ma, .slice Aa mla.length ca, .int .i64 Na, .slice Ra na ka], .agg #[.int .i64 Pb, .int .i64 Mb, .slice Ab mlb.length cb, .int .i64 Nb, .slice Rb nb kb]] w (ResErr 10 w) := by
  have hC := fun (W : World) (h : Below w.heap.size w W) X h0 h1 h2 => checked2_any Pa Ma Na mla na rowsa Aa Ra ca ka Pb Mb Nb mlb nb rowsb Ab Rb cb kb X W hPa hMa hla hna hka ((hra.below h).more h.size) ((hma.below h).more h.size) hPb hMb hlb hnb hkb ((hrb.below h).more h.size) ((hmb.below h).more h.size) h0 h1 h2
  obtain ⟨Z, hZ⟩ : ∃ Z, Z = (((w.alloc (.cells #[.int .i64 Pa, .int .i64 Ma, .slice Aa mla.length ca, .int .i64 Na, .slice Ra na ka] 27)).alloc (.cells #[.int .i64 Pb, .int .i64 Mb, .slice Ab mlb.length cb, .int .i64 Nb, .slice Rb nb kb] 27)).alloc (.cells #[.int .i64 0, .int .i64 0, .slice none 0 0, .int .i64 0, .slice none 0 0] 27)) := ⟨_, rfl⟩
  have hB : Below w.heap.size w Z := by rw [hZ]; exact (((Below.refl _ _).alloc (Nat.le_refl _) _).alloc (by simp) _).alloc (by simp; omega) _
  obtain ⟨s, hs⟩ : ∃ s, s = w.heap.size := ⟨_, rfl⟩
  obtain ⟨hZe, fa, fb, fz⟩ := two_enter Pa Ma Na mla na rowsa Aa Ra ca ka Pb Mb Nb mlb nb rowsb Ab Rb cb kb w hZ hs
  have hZs : s + 1 + 1 < Z.heap.size := by omega
  have hb1 : Below Z.heap.size Z (Z.alloc (.cells #[.int .i64 Pa, .int .i64 Ma, .slice Aa mla.length ca, .int .i64 Na, .slice Ra na ka, .int .i64 Pb, .int .i64 Mb, .slice Ab mlb.length cb, .int .i64 Nb, .slice Rb nb kb] 27)) := (Below.refl _ _).alloc (Nat.le_refl _) _
  have hB1 := hB.trans (hb1.mono hB.size)
  have hC1 := hC _ hB1 (s + 1 + 1 + 1) (by rw [World.size_alloc]; omega) (by rw [← hZe]; simp [go_sem]) (by rw [← hZe]; simp [go_sem])
  clear hC
  replace hZe := Lib.hid hZe
  rw [hE] at hC1
  replace hE := Lib.hid hE
  have hq : ((na : Int) != (nb : Int)) = true := by rw [bne_iff_ne]; omega
  have hq2 : (na != nb) = true := by rw [bne_iff_ne]; exact hne
  replace hne := Lib.hid hne
  replace hC1 := Lib.hid hC1
  replace hZ := Lib.hid hZ
  replace fa := Lib.hid fa
  replace fb := Lib.hid fb
  clear hka hkb
  go_enter Try.func20, Try.ntmps20
  go_wp2_with (fail)
  rw [← hZ.out]
  simp only [← hs]
  have hsw : w.heap.size ≤ s := Nat.le_of_eq hs.symm
  replace hs := Lib.hid hs
  (with_reducible refine hC1.out.mono ?_)
  rintro e w1 ⟨rfl, hb2⟩
  have hbz := hb1.trans (hb2.mono hb1.size)
  clear hb1 hB1
  have hBf := Lib.hid ((hB.trans (hbz.mono hB.size)).trans ((set5 (w3 := w1) (b := s + 1 + 1) (.int .i64 0) (.int .i64 0) (.slice none 0 0) (.int .i64 0) (.slice none 0 0)).mono (by omega)))
  obtain ⟨q0, q1, q2, q3, q4, g0, g1, g2, g3, g4⟩ := fz.keep hbz hZs
  obtain ⟨a0, a1, a2, a3, a4, -⟩ := fa.out.keep hbz (by omega)
  obtain ⟨c0, c1, c2, c3, c4, -⟩ := fb.out.keep hbz (by omega)
  clear hbz hB fz
  go_wp2_with (fail)
  refine bodyPost_ret (v := .tuple #[.agg #[.int .i64 0, .int .i64 0, .slice none 0 0, .int .i64 0, .slice none 0 0], .int .i64 10]) (by simp [results, Try.results20, go_sem, q0, q1, q2, q3, q4]) rfl (resErr hBf.out)

set_option maxRecDepth 100000 in
set_option maxHeartbeats 2000000 in
theorem rJuxtapose_m (Pa Ma Na : Int) (mla : List Int) (na : Nat) (rowsa : Nat → List Int) (Aa Ra : Option Addr) (ca ka : Nat) (Pb Mb Nb : Int) (mlb : List Int) (nb : Nat) (rowsb : Nat → List Int) (Ab Rb : Option Addr) (cb kb : Nat) (w : World) (hPa : I64 Pa) (hMa : I64 Ma) (hla : mla.length ≤ maxLen) (hna : na ≤ 64) (hka : ∀ i, i < na → (rowsa i).length ≤ 4200) (hra : Rd w w.heap.size Aa mla) (hma : RdM w w.heap.size Ra na rowsa) (hPb : I64 Pb) (hMb : I64 Mb) (hlb : mlb.length ≤ maxLen) (hnb : nb ≤ 64) (hkb : ∀ i, i < nb → (rowsb i).length ≤ 4200) (hrb : Rd w w.heap.size Ab mlb) (hmb : RdM w w.heap.size Rb nb rowsb) (hE : twoE Pa Ma Na mla na rowsa Aa Ra ca ka Pb Mb Nb mlb nb rowsb Ab Rb cb kb = 0) (hne : na ≠ nb) :
    Calls Try.prog 21 #[.agg #[.int .i64 Pa, .int .i64 Ma, .slice Aa mla.length ca, .int .i64 Na, .slice Ra na ka], .agg #[.int .i64 Pb, .int .i64 Mb, .slice Ab mlb.length cb, .int .i64 Nb, .slice Rb nb kb]] w (ResErr 10 w) := by
  obtain ⟨Z, hZ⟩ : ∃ Z, Z = (((w.alloc (.cells #[.int .i64 Pa, .int .i64 Ma, .slice Aa mla.length ca, .int .i64 Na, .slice Ra na ka] 27)).alloc (.cells #[.int .i64 Pb, .int .i64 Mb, .slice Ab mlb.length cb, .int .i64 Nb, .slice Rb nb kb] 27)).alloc (.cells #[.int .i64 0, .int .i64 0, .slice none 0 0, .int .i64 0, .slice none 0 0] 27)) := ⟨_, rfl⟩
  have hB : Below w.heap.size w Z := by rw [hZ]; exact (((Below.refl _ _).alloc (Nat.le_refl _) _).alloc (by simp) _).alloc (by simp; omega) _
  obtain ⟨s, hs⟩ : ∃ s, s = w.heap.size := ⟨_, rfl⟩
  obtain ⟨hZe, fa, fb, fz⟩ := two_enter Pa Ma Na mla na rowsa Aa Ra ca ka Pb Mb Nb mlb nb rowsb Ab Rb cb kb w hZ hs
  have hZs : s + 1 + 1 < Z.heap.size := by omega
  have hC1 := Two14_any Pa Ma Na mla na rowsa Aa Ra ca ka Pb Mb Nb mlb nb rowsb Ab Rb cb kb Z hPa hMa hla hna hka ((hra.below hB).more hB.size) ((hma.below hB).more hB.size) hPb hMb hlb hnb hkb ((hrb.below hB).more hB.size) ((hmb.below hB).more hB.size)
  replace hZe := Lib.hid hZe
  rw [hE] at hC1
  replace hE := Lib.hid hE
  have hq : ((na : Int) != (nb : Int)) = true := by rw [bne_iff_ne]; omega
  have hq2 : (na != nb) = true := by rw [bne_iff_ne]; exact hne
  replace hne := Lib.hid hne
  replace hC1 := Lib.hid hC1
  replace hZ := Lib.hid hZ
  replace fa := Lib.hid fa
  replace fb := Lib.hid fb
  clear hka hkb
  go_enter Try.func21, Try.ntmps21
  go_wp2_with (fail)
  rw [← hZ.out]
  simp only [← hs]
  have hsw : w.heap.size ≤ s := Nat.le_of_eq hs.symm
  replace hs := Lib.hid hs
  (with_reducible refine hC1.out.mono ?_)
  rintro e w1 ⟨rfl, hb2⟩
  have hbz := hb2
  have hBf := Lib.hid ((hB.trans (hbz.mono hB.size)).trans ((set5 (w3 := w1) (b := s + 1 + 1) (.int .i64 0) (.int .i64 0) (.slice none 0 0) (.int .i64 0) (.slice none 0 0)).mono (by omega)))
  obtain ⟨q0, q1, q2, q3, q4, g0, g1, g2, g3, g4⟩ := fz.keep hbz hZs
  obtain ⟨a0, a1, a2, a3, a4, -⟩ := fa.out.keep hbz (by omega)
  obtain ⟨c0, c1, c2, c3, c4, -⟩ := fb.out.keep hbz (by omega)
  clear hbz hB fz
  go_wp2_with (fail)
  refine bodyPost_ret (v := .tuple #[.agg #[.int .i64 0, .int .i64 0, .slice none 0 0, .int .i64 0, .slice none 0 0], .int .i64 10]) (by simp [results, Try.results21, go_sem, q0, q1, q2, q3, q4]) rfl (resErr hBf.out)

set_option maxRecDepth 100000 in
set_option maxHeartbeats 2000000 in
theorem rSum_len (Pa Ma Na : Int) (mla : List Int) (na : Nat) (rowsa : Nat → List Int) (Aa Ra : Option Addr) (ca ka : Nat) (Pb Mb Nb : Int) (mlb : List Int) (nb : Nat) (rowsb : Nat → List Int) (Ab Rb : Option Addr) (cb kb : Nat) (w : World) (hPa : I64 Pa) (hMa : I64 Ma) (hla : mla.length ≤ maxLen) (hna : na ≤ 64) (hka : ∀ i, i < na → (rowsa i).length ≤ 4200) (hra : Rd w w.heap.size Aa mla) (hma : RdM w w.heap.size Ra na rowsa) (hPb : I64 Pb) (hMb : I64 Mb) (hlb : mlb.length ≤ maxLen) (hnb : nb ≤ 64) (hkb : ∀ i, i < nb → (rowsb i).length ≤ 4200) (hrb : Rd w w.heap.size Ab mlb) (hmb : RdM w w.heap.size Rb nb rowsb) (hE : twoE Pa Ma Na mla na rowsa Aa Ra ca ka Pb Mb Nb mlb nb rowsb Ab Rb cb kb = 0) (hNa : 1 ≤ Na ∧ Na ≤ 64) (hNb : 1 ≤ Nb ∧ Nb ≤ 64) (hbig : 64 < Na + Nb) :
    Calls Try.prog 30 #[.agg #[.int .i64 Pa, .int .i64 Ma, .slice Aa mla.length ca, .int .i64 Na, .slice Ra na ka], .agg #[.int .i64 Pb, .int .i64 Mb, .slice Ab mlb.length cb, .int .i64 Nb, .slice Rb nb kb]] w (ResErr 4 w) := by
  obtain ⟨Z, hZ⟩ : ∃ Z, Z = (((w.alloc (.cells #[.int .i64 Pa, .int .i64 Ma, .slice Aa mla.length ca, .int .i64 Na, .slice Ra na ka] 27)).alloc (.cells #[.int .i64 Pb, .int .i64 Mb, .slice Ab mlb.length cb, .int .i64 Nb, .slice Rb nb kb] 27)).alloc (.cells #[.int .i64 0, .int .i64 0, .slice none 0 0, .int .i64 0, .slice none 0 0] 27)) := ⟨_, rfl⟩
  have hB : Below w.heap.size w Z := by rw [hZ]; exact (((Below.refl _ _).alloc (Nat.le_refl _) _).alloc (by simp) _).alloc (by simp; omega) _
  obtain ⟨s, hs⟩ : ∃ s, s = w.heap.size := ⟨_, rfl⟩
  obtain ⟨hZe, fa, fb, fz⟩ := two_enter Pa Ma Na mla na rowsa Aa Ra ca ka Pb Mb Nb mlb nb rowsb Ab Rb cb kb w hZ hs
  have hZs : s + 1 + 1 < Z.heap.size := by omega
  have hC1 := Two14_any Pa Ma Na mla na rowsa Aa Ra ca ka Pb Mb Nb mlb nb rowsb Ab Rb cb kb Z hPa hMa hla hna hka ((hra.below hB).more hB.size) ((hma.below hB).more hB.size) hPb hMb hlb hnb hkb ((hrb.below hB).more hB.size) ((hmb.below hB).more hB.size)
  replace hZe := Lib.hid hZe
  rw [hE] at hC1
  replace hE := Lib.hid hE
  obtain ⟨hn1, hn2⟩ := hNa
  obtain ⟨hn3, hn4⟩ := hNb
  have hbig2 : (64 : Int) < Na + Nb := hbig
  replace hC1 := Lib.hid hC1
  replace hZ := Lib.hid hZ
  replace fa := Lib.hid fa
  replace fb := Lib.hid fb
  clear hka hkb
  go_enter Try.func30, Try.ntmps30
  go_wp2_with (fail)
  rw [← hZ.out]
  simp only [← hs]
  have hsw : w.heap.size ≤ s := Nat.le_of_eq hs.symm
  replace hs := Lib.hid hs
  (with_reducible refine hC1.out.mono ?_)
  rintro e w1 ⟨rfl, hb2⟩
  have hbz := hb2
  have hBf := Lib.hid ((hB.trans (hbz.mono hB.size)).trans ((set5 (w3 := w1) (b := s + 1 + 1) (.int .i64 0) (.int .i64 0) (.slice none 0 0) (.int .i64 0) (.slice none 0 0)).mono (by omega)))
  obtain ⟨q0, q1, q2, q3, q4, g0, g1, g2, g3, g4⟩ := fz.keep hbz hZs
  obtain ⟨a0, a1, a2, a3, a4, -⟩ := fa.out.keep hbz (by omega)
  obtain ⟨c0, c1, c2, c3, c4, -⟩ := fb.out.keep hbz (by omega)
  clear hbz hB fz
  go_wp2_with (fail)
  refine bodyPost_ret (v := .tuple #[.agg #[.int .i64 0, .int .i64 0, .slice none 0 0, .int .i64 0, .slice none 0 0], .int .i64 4]) (by simp [results, Try.results30, go_sem, q0, q1, q2, q3, q4]) rfl (resErr hBf.out)

set_option maxRecDepth 100000 in
set_option maxHeartbeats 2000000 in
theorem rPlotkin_len (Pa Ma Na : Int) (mla : List Int) (na : Nat) (rowsa : Nat → List Int) (Aa Ra : Option Addr) (ca ka : Nat) (Pb Mb Nb : Int) (mlb : List Int) (nb : Nat) (rowsb : Nat → List Int) (Ab Rb : Option Addr) (cb kb : Nat) (w : World) (hPa : I64 Pa) (hMa : I64 Ma) (hla : mla.length ≤ maxLen) (hna : na ≤ 64) (hka : ∀ i, i < na → (rowsa i).length ≤ 4200) (hra : Rd w w.heap.size Aa mla) (hma : RdM w w.heap.size Ra na rowsa) (hPb : I64 Pb) (hMb : I64 Mb) (hlb : mlb.length ≤ maxLen) (hnb : nb ≤ 64) (hkb : ∀ i, i < nb → (rowsb i).length ≤ 4200) (hrb : Rd w w.heap.size Ab mlb) (hmb : RdM w w.heap.size Rb nb rowsb) (hE : twoE Pa Ma Na mla na rowsa Aa Ra ca ka Pb Mb Nb mlb nb rowsb Ab Rb cb kb = 0) (hNa : 1 ≤ Na ∧ Na ≤ 64) (hNb : 1 ≤ Nb ∧ Nb ≤ 64) (heq : Na = Nb) (hbig : 64 < Na + Nb) :
    Calls Try.prog 32 #[.agg #[.int .i64 Pa, .int .i64 Ma, .slice Aa mla.length ca, .int .i64 Na, .slice Ra na ka], .agg #[.int .i64 Pb, .int .i64 Mb, .slice Ab mlb.length cb, .int .i64 Nb, .slice Rb nb kb]] w (ResErr 4 w) := by
  obtain ⟨Z, hZ⟩ : ∃ Z, Z = (((w.alloc (.cells #[.int .i64 Pa, .int .i64 Ma, .slice Aa mla.length ca, .int .i64 Na, .slice Ra na ka] 27)).alloc (.cells #[.int .i64 Pb, .int .i64 Mb, .slice Ab mlb.length cb, .int .i64 Nb, .slice Rb nb kb] 27)).alloc (.cells #[.int .i64 0, .int .i64 0, .slice none 0 0, .int .i64 0, .slice none 0 0] 27)) := ⟨_, rfl⟩
  have hB : Below w.heap.size w Z := by rw [hZ]; exact (((Below.refl _ _).alloc (Nat.le_refl _) _).alloc (by simp) _).alloc (by simp; omega) _
  obtain ⟨s, hs⟩ : ∃ s, s = w.heap.size := ⟨_, rfl⟩
  obtain ⟨hZe, fa, fb, fz⟩ := two_enter Pa Ma Na mla na rowsa Aa Ra ca ka Pb Mb Nb mlb nb rowsb Ab Rb cb kb w hZ hs
  have hZs : s + 1 + 1 < Z.heap.size := by omega
  have hC1 := Two14_any Pa Ma Na mla na rowsa Aa Ra ca ka Pb Mb Nb mlb nb rowsb Ab Rb cb kb Z hPa hMa hla hna hka ((hra.below hB).more hB.size) ((hma.below hB).more hB.size) hPb hMb hlb hnb hkb ((hrb.below hB).more hB.size) ((hmb.below hB).more hB.size)
  replace hZe := Lib.hid hZe
  rw [hE] at hC1
  replace hE := Lib.hid hE
  have hq : (Na != Nb) = false := by rw [bne_eq_false_iff_eq]; exact heq
  replace heq := Lib.hid heq
  obtain ⟨hn1, hn2⟩ := hNa
  obtain ⟨hn3, hn4⟩ := hNb
  have hbig2 : (64 : Int) < Na + Nb := hbig
  replace hC1 := Lib.hid hC1
  replace hZ := Lib.hid hZ
  replace fa := Lib.hid fa
  replace fb := Lib.hid fb
  clear hka hkb
  go_enter Try.func32, Try.ntmps32
  go_wp2_with (fail)
  rw [← hZ.out]
  simp only [← hs]
  have hsw : w.heap.size ≤ s := Nat.le_of_eq hs.symm
  replace hs := Lib.hid hs
  (with_reducible refine hC1.out.mono ?_)
  rintro e w1 ⟨rfl, hb2⟩
  have hbz := hb2
  have hBf := Lib.hid ((hB.trans (hbz.mono hB.size)).trans ((set5 (w3 := w1) (b := s + 1 + 1) (.int .i64 0) (.int .i64 0) (.slice none 0 0) (.int .i64 0) (.slice none 0 0)).mono (by omega)))
  obtain ⟨q0, q1, q2, q3, q4, g0, g1, g2, g3, g4⟩ := fz.keep hbz hZs
  obtain ⟨a0, a1, a2, a3, a4, -⟩ := fa.out.keep hbz (by omega)
  obtain ⟨c0, c1, c2, c3, c4, -⟩ := fb.out.keep hbz (by omega)
  clear hbz hB fz
  go_wp2_with (fail)
  refine bodyPost_ret (v := .tuple #[.agg #[.int .i64 0, .int .i64 0, .slice none 0 0, .int .i64 0, .slice none 0 0], .int .i64 4]) (by simp [results, Try.results32, go_sem, q0, q1, q2, q3, q4]) rfl (resErr hBf.out)

set_option maxRecDepth 100000 in
set_option maxHeartbeats 2000000 in
theorem rJuxtapose_len (Pa Ma Na : Int) (mla : List Int) (na : Nat) (rowsa : Nat → List Int) (Aa Ra : Option Addr) (ca ka : Nat) (Pb Mb Nb : Int) (mlb : List Int) (nb : Nat) (rowsb : Nat → List Int) (Ab Rb : Option Addr) (cb kb : Nat) (w : World) (hPa : I64 Pa) (hMa : I64 Ma) (hla : mla.length ≤ maxLen) (hna : na ≤ 64) (hka : ∀ i, i < na → (rowsa i).length ≤ 4200) (hra : Rd w w.heap.size Aa mla) (hma : RdM w w.heap.size Ra na rowsa) (hPb : I64 Pb) (hMb : I64 Mb) (hlb : mlb.length ≤ maxLen) (hnb : nb ≤ 64) (hkb : ∀ i, i < nb → (rowsb i).length ≤ 4200) (hrb : Rd w w.heap.size Ab mlb) (hmb : RdM w w.heap.size Rb nb rowsb) (hE : twoE Pa Ma Na mla na rowsa Aa Ra ca ka Pb Mb Nb mlb nb rowsb Ab Rb cb kb = 0) (hNa : 1 ≤ Na ∧ Na ≤ 64) (hNb : 1 ≤ Nb ∧ Nb ≤ 64) (heq : na = nb) (hbig : 64 < Na + Nb) :
    Calls Try.prog 21 #[.agg #[.int .i64 Pa, .int .i64 Ma, .slice Aa mla.length ca, .int .i64 Na, .slice Ra na ka], .agg #[.int .i64 Pb, .int .i64 Mb, .slice Ab mlb.length cb, .int .i64 Nb, .slice Rb nb kb]] w (ResErr 4 w) := by
  obtain ⟨Z, hZ⟩ : ∃ Z, Z = (((w.alloc (.cells #[.int .i64 Pa, .int .i64 Ma, .slice Aa mla.length ca, .int .i64 Na, .slice Ra na ka] 27)).alloc (.cells #[.int .i64 Pb, .int .i64 Mb, .slice Ab mlb.length cb, .int .i64 Nb, .slice Rb nb kb] 27)).alloc (.cells #[.int .i64 0, .int .i64 0, .slice none 0 0, .int .i64 0, .slice none 0 0] 27)) := ⟨_, rfl⟩
  have hB : Below w.heap.size w Z := by rw [hZ]; exact (((Below.refl _ _).alloc (Nat.le_refl _) _).alloc (by simp) _).alloc (by simp; omega) _
  obtain ⟨s, hs⟩ : ∃ s, s = w.heap.size := ⟨_, rfl⟩
  obtain ⟨hZe, fa, fb, fz⟩ := two_enter Pa Ma Na mla na rowsa Aa Ra ca ka Pb Mb Nb mlb nb rowsb Ab Rb cb kb w hZ hs
  have hZs : s + 1 + 1 < Z.heap.size := by omega
  have hC1 := Two14_any Pa Ma Na mla na rowsa Aa Ra ca ka Pb Mb Nb mlb nb rowsb Ab Rb cb kb Z hPa hMa hla hna hka ((hra.below hB).more hB.size) ((hma.below hB).more hB.size) hPb hMb hlb hnb hkb ((hrb.below hB).more hB.size) ((hmb.below hB).more hB.size)
  replace hZe := Lib.hid hZe
  rw [hE] at hC1
  replace hE := Lib.hid hE
  have hq : ((na : Int) != (nb : Int)) = false := by rw [bne_eq_false_iff_eq]; omega
  have hq2 : (na != nb) = false := by rw [bne_eq_false_iff_eq]; exact heq
  replace heq := Lib.hid heq
  obtain ⟨hn1, hn2⟩ := hNa
  obtain ⟨hn3, hn4⟩ := hNb
  have hbig2 : (64 : Int) < Na + Nb := hbig
  replace hC1 := Lib.hid hC1
  replace hZ := Lib.hid hZ
  replace fa := Lib.hid fa
  replace fb := Lib.hid fb
  clear hka hkb
  go_enter Try.func21, Try.ntmps21
  go_wp2_with (fail)
  rw [← hZ.out]
  simp only [← hs]
  have hsw : w.heap.size ≤ s := Nat.le_of_eq hs.symm
  replace hs := Lib.hid hs
  (with_reducible refine hC1.out.mono ?_)
  rintro e w1 ⟨rfl, hb2⟩
  have hbz := hb2
  have hBf := Lib.hid ((hB.trans (hbz.mono hB.size)).trans ((set5 (w3 := w1) (b := s + 1 + 1) (.int .i64 0) (.int .i64 0) (.slice none 0 0) (.int .i64 0) (.slice none 0 0)).mono (by omega)))
  obtain ⟨q0, q1, q2, q3, q4, g0, g1, g2, g3, g4⟩ := fz.keep hbz hZs
  obtain ⟨a0, a1, a2, a3, a4, -⟩ := fa.out.keep hbz (by omega)
  obtain ⟨c0, c1, c2, c3, c4, -⟩ := fb.out.keep hbz (by omega)
  clear hbz hB fz
  go_wp2_with (fail)
  refine bodyPost_ret (v := .tuple #[.agg #[.int .i64 0, .int .i64 0, .slice none 0 0, .int .i64 0, .slice none 0 0], .int .i64 4]) (by simp [results, Try.results21, go_sem, q0, q1, q2, q3, q4]) rfl (resErr hBf.out)

set_option maxRecDepth 100000 in
set_option maxHeartbeats 2000000 in
theorem cProduct_len (Pa Ma Na : Int) (mla : List Int) (na : Nat) (rowsa : Nat → List Int) (Aa Ra : Option Addr) (ca ka : Nat) (Pb Mb Nb : Int) (mlb : List Int) (nb : Nat) (rowsb : Nat → List Int) (Ab Rb : Option Addr) (cb kb : Nat) (w : World) (hPa : I64 Pa) (hMa : I64 Ma) (hla : mla.length ≤ maxLen) (hna : na ≤ 64) (hka : ∀ i, i < na → (rowsa i).length ≤ 4200) (hra : Rd w w.heap.size Aa mla) (hma : RdM w w.heap.size Ra na rowsa) (hPb : I64 Pb) (hMb : I64 Mb) (hlb : mlb.length ≤ maxLen) (hnb : nb ≤ 64) (hkb : ∀ i, i < nb → (rowsb i).length ≤ 4200) (hrb : Rd w w.heap.size Ab mlb) (hmb : RdM w w.heap.size Rb nb rowsb) (hE : twoE Pa Ma Na mla na rowsa Aa Ra ca ka Pb Mb Nb mlb nb rowsb Ab Rb cb kb = 0) (hNa : 1 ≤ Na ∧ Na ≤ 64) (hNb : 1 ≤ Nb ∧ Nb ≤ 64) (hbig : 64 < Na * Nb) :
    Calls Try.prog 22 #[.agg #[.int .i64 Pa, .int .i64 Ma, .slice Aa mla.length ca, .int .i64 Na, .slice Ra na ka], .agg #[.int .i64 Pb, .int .i64 Mb, .slice Ab mlb.length cb, .int .i64 Nb, .slice Rb nb kb]] w (ResErr 4 w) := by
  have hC := fun (W : World) (h : Below w.heap.size w W) X h0 h1 h2 => checked2_any Pa Ma Na mla na rowsa Aa Ra ca ka Pb Mb Nb mlb nb rowsb Ab Rb cb kb X W hPa hMa hla hna hka ((hra.below h).more h.size) ((hma.below h).more h.size) hPb hMb hlb hnb hkb ((hrb.below h).more h.size) ((hmb.below h).more h.size) h0 h1 h2
  obtain ⟨Z, hZ⟩ : ∃ Z, Z = (((w.alloc (.cells #[.int .i64 Pa, .int .i64 Ma, .slice Aa mla.length ca, .int .i64 Na, .slice Ra na ka] 27)).alloc (.cells #[.int .i64 Pb, .int .i64 Mb, .slice Ab mlb.length cb, .int .i64 Nb, .slice Rb nb kb] 27)).alloc (.cells #[.int .i64 0, .int .i64 0, .slice none 0 0, .int .i64 0, .slice none 0 0] 27)) := ⟨_, rfl⟩
  have hB : Below w.heap.size w Z := by rw [hZ]; exact (((Below.refl _ _).alloc (Nat.le_refl _) _).alloc (by simp) _).alloc (by simp; omega) _
  obtain ⟨s, hs⟩ : ∃ s, s = w.heap.size := ⟨_, rfl⟩
  obtain ⟨hZe, fa, fb, fz⟩ := two_enter Pa Ma Na mla na rowsa Aa Ra ca ka Pb Mb Nb mlb nb rowsb Ab Rb cb kb w hZ hs
  have hZs : s + 1 + 1 < Z.heap.size := by omega
  have hb1 : Below Z.heap.size Z (Z.alloc (.cells #[.int .i64 Pa, .int .i64 Ma, .slice Aa mla.length ca, .int .i64 Na, .slice Ra na ka, .int .i64 Pb, .int .i64 Mb, .slice Ab mlb.length cb, .int .i64 Nb, .slice Rb nb kb] 27)) := (Below.refl _ _).alloc (Nat.le_refl _) _
  have hB1 := hB.trans (hb1.mono hB.size)
  have hC1 := hC _ hB1 (s + 1 + 1 + 1) (by rw [World.size_alloc]; omega) (by rw [← hZe]; simp [go_sem]) (by rw [← hZe]; simp [go_sem])
  clear hC
  replace hZe := Lib.hid hZe
  rw [hE] at hC1
  replace hE := Lib.hid hE
  obtain ⟨hn1, hn2⟩ := hNa
  obtain ⟨hn3, hn4⟩ := hNb
  obtain ⟨p, rfl⟩ : ∃ p : Nat, Na = p := ⟨Na.toNat, by omega⟩
  obtain ⟨q, rfl⟩ : ∃ q : Nat, Nb = q := ⟨Nb.toNat, by omega⟩
  have hpq : p * q ≤ 64 * 64 := Nat.mul_le_mul (by omega) (by omega)
  have hpm : (p : Int) * (q : Int) = ((p * q : Nat) : Int) := by push_cast; rfl
  have hwr : IntKind.i64.wrap ((p : Int) * (q : Int)) = ((p * q : Nat) : Int) := by rw [hpm]; exact IntWalk.i64_in _ (by omega)
  have hbg : (64 : Int) < ((p * q : Nat) : Int) := by rw [hpm] at hbig; exact hbig
  clear hbig
  replace hpm := Lib.hid hpm
  replace hC1 := Lib.hid hC1
  replace hZ := Lib.hid hZ
  replace fa := Lib.hid fa
  replace fb := Lib.hid fb
  clear hka hkb
  go_enter Try.func22, Try.ntmps22
  go_wp2_with (fail)
  rw [← hZ.out]
  simp only [← hs]
  have hsw : w.heap.size ≤ s := Nat.le_of_eq hs.symm
  replace hs := Lib.hid hs
  (with_reducible refine hC1.out.mono ?_)
  rintro e w1 ⟨rfl, hb2⟩
  have hbz := hb1.trans (hb2.mono hb1.size)
  clear hb1 hB1
  have hBf := Lib.hid ((hB.trans (hbz.mono hB.size)).trans ((set5 (w3 := w1) (b := s + 1 + 1) (.int .i64 0) (.int .i64 0) (.slice none 0 0) (.int .i64 0) (.slice none 0 0)).mono (by omega)))
  obtain ⟨q0, q1, q2, q3, q4, g0, g1, g2, g3, g4⟩ := fz.keep hbz hZs
  obtain ⟨a0, a1, a2, a3, a4, -⟩ := fa.out.keep hbz (by omega)
  obtain ⟨c0, c1, c2, c3, c4, -⟩ := fb.out.keep hbz (by omega)
  clear hbz hB fz
  go_wp2_with (fail)
  refine bodyPost_ret (v := .tuple #[.agg #[.int .i64 0, .int .i64 0, .slice none 0 0, .int .i64 0, .slice none 0 0], .int .i64 4]) (by simp [results, Try.results22, go_sem, q0, q1, q2, q3, q4]) rfl (resErr hBf.out)

set_option maxRecDepth 100000 in
set_option maxHeartbeats 2000000 in
theorem rProduct_len (Pa Ma Na : Int) (mla : List Int) (na : Nat) (rowsa : Nat → List Int) (Aa Ra : Option Addr) (ca ka : Nat) (Pb Mb Nb : Int) (mlb : List Int) (nb : Nat) (rowsb : Nat → List Int) (Ab Rb : Option Addr) (cb kb : Nat) (w : World) (hPa : I64 Pa) (hMa : I64 Ma) (hla : mla.length ≤ maxLen) (hna : na ≤ 64) (hka : ∀ i, i < na → (rowsa i).length ≤ 4200) (hra : Rd w w.heap.size Aa mla) (hma : RdM w w.heap.size Ra na rowsa) (hPb : I64 Pb) (hMb : I64 Mb) (hlb : mlb.length ≤ maxLen) (hnb : nb ≤ 64) (hkb : ∀ i, i < nb → (rowsb i).length ≤ 4200) (hrb : Rd w w.heap.size Ab mlb) (hmb : RdM w w.heap.size Rb nb rowsb) (hE : twoE Pa Ma Na mla na rowsa Aa Ra ca ka Pb Mb Nb mlb nb rowsb Ab Rb cb kb = 0) (hNa : 1 ≤ Na ∧ Na ≤ 64) (hNb : 1 ≤ Nb ∧ Nb ≤ 64) (hbig : 64 < Na * Nb) :
    Calls Try.prog 23 #[.agg #[.int .i64 Pa, .int .i64 Ma, .slice Aa mla.length ca, .int .i64 Na, .slice Ra na ka], .agg #[.int .i64 Pb, .int .i64 Mb, .slice Ab mlb.length cb, .int .i64 Nb, .slice Rb nb kb]] w (ResErr 4 w) := by
  obtain ⟨Z, hZ⟩ : ∃ Z, Z = (((w.alloc (.cells #[.int .i64 Pa, .int .i64 Ma, .slice Aa mla.length ca, .int .i64 Na, .slice Ra na ka] 27)).alloc (.cells #[.int .i64 Pb, .int .i64 Mb, .slice Ab mlb.length cb, .int .i64 Nb, .slice Rb nb kb] 27)).alloc (.cells #[.int .i64 0, .int .i64 0, .slice none 0 0, .int .i64 0, .slice none 0 0] 27)) := ⟨_, rfl⟩
  have hB : Below w.heap.size w Z := by rw [hZ]; exact (((Below.refl _ _).alloc (Nat.le_refl _) _).alloc (by simp) _).alloc (by simp; omega) _
  obtain ⟨s, hs⟩ : ∃ s, s = w.heap.size := ⟨_, rfl⟩
  obtain ⟨hZe, fa, fb, fz⟩ := two_enter Pa Ma Na mla na rowsa Aa Ra ca ka Pb Mb Nb mlb nb rowsb Ab Rb cb kb w hZ hs
  have hZs : s + 1 + 1 < Z.heap.size := by omega
  have hC1 := Two14_any Pa Ma Na mla na rowsa Aa Ra ca ka Pb Mb Nb mlb nb rowsb Ab Rb cb kb Z hPa hMa hla hna hka ((hra.below hB).more hB.size) ((hma.below hB).more hB.size) hPb hMb hlb hnb hkb ((hrb.below hB).more hB.size) ((hmb.below hB).more hB.size)
  replace hZe := Lib.hid hZe
  rw [hE] at hC1
  replace hE := Lib.hid hE
  obtain ⟨hn1, hn2⟩ := hNa
  obtain ⟨hn3, hn4⟩ := hNb
  obtain ⟨p, rfl⟩ : ∃ p : Nat, Na = p := ⟨Na.toNat, by omega⟩
  obtain ⟨q, rfl⟩ : ∃ q : Nat, Nb = q := ⟨Nb.toNat, by omega⟩
  have hpq : p * q ≤ 64 * 64 := Nat.mul_le_mul (by omega) (by omega)
  have hpm : (p : Int) * (q : Int) = ((p * q : Nat) : Int) := by push_cast; rfl
  have hwr : IntKind.i64.wrap ((p : Int) * (q : Int)) = ((p * q : Nat) : Int) := by rw [hpm]; exact IntWalk.i64_in _ (by omega)
  have hbg : (64 : Int) < ((p * q : Nat) : Int) := by rw [hpm] at hbig; exact hbig
  clear hbig
  replace hpm := Lib.hid hpm
  replace hC1 := Lib.hid hC1
  replace hZ := Lib.hid hZ
  replace fa := Lib.hid fa
  replace fb := Lib.hid fb
  clear hka hkb
  go_enter Try.func23, Try.ntmps23
  go_wp2_with (fail)
  rw [← hZ.out]
  simp only [← hs]
  have hsw : w.heap.size ≤ s := Nat.le_of_eq hs.symm
  replace hs := Lib.hid hs
  (with_reducible refine hC1.out.mono ?_)
  rintro e w1 ⟨rfl, hb2⟩
  have hbz := hb2
  have hBf := Lib.hid ((hB.trans (hbz.mono hB.size)).trans ((set5 (w3 := w1) (b := s + 1 + 1) (.int .i64 0) (.int .i64 0) (.slice none 0 0) (.int .i64 0) (.slice none 0 0)).mono (by omega)))
  obtain ⟨q0, q1, q2, q3, q4, g0, g1, g2, g3, g4⟩ := fz.keep hbz hZs
  obtain ⟨a0, a1, a2, a3, a4, -⟩ := fa.out.keep hbz (by omega)
  obtain ⟨c0, c1, c2, c3, c4, -⟩ := fb.out.keep hbz (by omega)
  clear hbz hB fz
  go_wp2_with (fail)
  refine bodyPost_ret (v := .tuple #[.agg #[.int .i64 0, .int .i64 0, .slice none 0 0, .int .i64 0, .slice none 0 0], .int .i64 4]) (by simp [results, Try.results23, go_sem, q0, q1, q2, q3, q4]) rfl (resErr hBf.out)

end Go.Proofs.Ytghgbjgoedlnjaa
