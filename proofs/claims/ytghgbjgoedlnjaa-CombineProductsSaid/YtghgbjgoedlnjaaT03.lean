/- CombineProducts: the walk. -/
import Derived.Test.YtghgbjgoedlnjaaT00
import Derived.Test.YtghgbjgoedlnjaaCodS
namespace Go.Proofs.Ytghgbjgoedlnjaa
open Go.RowKit Cw
attribute [local go_sem] Oper.semAt_some

set_option maxRecDepth 100000 in
set_option maxHeartbeats 4000000 in
theorem prodL (Pa Ma Na : Int) (mla : List Int) (na : Nat) (rowsa : Nat → List Int) (Aa Ra : Option Addr) (ca ka : Nat) (Pb Mb Nb : Int) (mlb : List Int) (nb : Nat) (rowsb : Nat → List Int) (Ab Rb : Option Addr) (cb kb : Nat) (w : World) (hPa : I64 Pa) (hMa : I64 Ma) (_hNa : I64 Na) (hla : mla.length ≤ maxLen) (hna : na ≤ maxLen) (hra : Rd w w.heap.size Aa mla) (hma : RdM w w.heap.size Ra na rowsa) (hPb : I64 Pb) (hMb : I64 Mb) (_hNb : I64 Nb) (hlb : mlb.length ≤ maxLen) (hnb : nb ≤ maxLen) (hrb : Rd w w.heap.size Ab mlb) (hmb : RdM w w.heap.size Rb nb rowsb) :
    Calls Try.prog 6 #[.agg #[.int .i64 Pa, .int .i64 Ma, .slice Aa mla.length ca, .int .i64 Na, .slice Ra na ka], .agg #[.int .i64 Pb, .int .i64 Mb, .slice Ab mlb.length cb, .int .i64 Nb, .slice Rb nb kb]] w (LawEnd w) := by
  have hLa := rdm_len hma
  have hLb := rdm_len hmb
  obtain ⟨Z, hZ⟩ : ∃ Z, Z = (w.alloc (.cells #[.int .i64 Pa, .int .i64 Ma, .slice Aa mla.length ca, .int .i64 Na, .slice Ra na ka] 27)).alloc (.cells #[.int .i64 Pb, .int .i64 Mb, .slice Ab mlb.length cb, .int .i64 Nb, .slice Rb nb kb] 27) := ⟨_, rfl⟩
  have hB : Below w.heap.size w Z := by rw [hZ]; exact ((Below.refl _ _).alloc (Nat.le_refl _) _).alloc (by simp) _
  obtain ⟨s, hs⟩ : ∃ s, s = w.heap.size := ⟨_, rfl⟩
  obtain ⟨hZe, fa, fb⟩ := two_enter2 Pa Ma Na mla na rowsa Aa Ra ca ka Pb Mb Nb mlb nb rowsb Ab Rb cb kb w hZ hs
  have hb1 : Below Z.heap.size Z (Z.alloc (.cells #[.int .i64 Pa, .int .i64 Ma, .slice Aa mla.length ca, .int .i64 Na, .slice Ra na ka, .int .i64 Pb, .int .i64 Mb, .slice Ab mlb.length cb, .int .i64 Nb, .slice Rb nb kb] 27)) := (Below.refl _ _).alloc (Nat.le_refl _) _
  have hB1 := hB.trans (hb1.mono hB.size)
  have hF := few2_any Pa Ma Na mla na rowsa Aa Ra ca ka Pb Mb Nb mlb nb rowsb Ab Rb cb kb (s + 1 + 1) _ ((hma.below hB1).more hB1.size) ((hmb.below hB1).more hB1.size) ⟨hna, hLa⟩ ⟨hnb, hLb⟩ (by rw [World.size_alloc]; omega) (by rw [← hZe]; simp [go_sem]) (by rw [← hZe]; simp [go_sem])
  replace fa := Lib.hid fa
  replace fb := Lib.hid fb
  by_cases hf : fewAll2 na rowsa nb rowsb = true
  rotate_left
  · rw [show fewAll2 na rowsa nb rowsb = false from by simpa using hf] at hF
    replace hF := Lib.hid hF
    replace hZe := Lib.hid hZe
    replace hZ := Lib.hid hZ
    replace hf := Lib.hid hf
    clear hLa hLb
    unfold LawEnd
    go_enter Try.func6, Try.ntmps6
    go_wp2_with (fail)
    rw [← hZ.out]
    simp only [← hs]
    replace hs := Lib.hid hs
    (with_reducible refine hF.out.mono ?_)
    rintro e w1 ⟨rfl, hb2⟩
    go_wp2_with (fail)
    go_ret
    exact ⟨rfl, hB1.trans (hb2.mono hB1.size)⟩
  rw [hf] at hF
  replace hF := Lib.hid hF
  obtain ⟨hfa, hfb⟩ : fewC na rowsa = true ∧ fewC nb rowsb = true := by unfold fewAll2 at hf; simpa using hf
  obtain ⟨hna2, hka⟩ := fewC_le hfa
  obtain ⟨hnb2, hkb⟩ := fewC_le hfb
  obtain ⟨P0, M0, N0, l0, n0, r0, E0, g0a, g0b, g0c, hBo0⟩ := Product_both Pa Ma Na mla na rowsa Aa Ra ca ka Pb Mb Nb mlb nb rowsb Ab Rb cb kb hPa hMa hla hna2 hka hPb hMb hlb hnb2 hkb
  unfold ResC Pre2 at hBo0
  replace hBo0 := fun W h => Lib.hid (hBo0 W h)
  replace hZe := Lib.hid hZe
  replace hZ := Lib.hid hZ
  replace hf := Lib.hid hf
  replace hfa := Lib.hid hfa
  replace hfb := Lib.hid hfb
  clear hLa hLb hka hkb
  unfold LawEnd
  go_enter Try.func6, Try.ntmps6
  go_wp2_with (fail)
  rw [← hZ.out]
  simp only [← hs]
  replace hs := Lib.hid hs
  (with_reducible refine hF.out.mono ?_)
  rintro e w1 ⟨rfl, hb2⟩
  have hbz := hb1.trans (hb2.mono hb1.size)
  have hBw := hB.trans (hbz.mono hB.size)
  have hsz : s + 1 < w1.heap.size := by have := hbz.size; have := hZe.out; omega
  have fa1 := Lib.hid (fa.out.keep hbz (by have := hZe.out; omega))
  have fb1 := Lib.hid (fb.out.keep hbz (by have := hZe.out; omega))
  clear hF hb2 hb1 hB1 hbz
  obtain ⟨a0, a1, a2, a3, a4, -⟩ := fa1.out
  obtain ⟨c0, c1, c2, c3, c4, -⟩ := fb1.out
  have hp1 := hBo0 w1 ⟨⟨(hra.below hBw).more hBw.size, (hma.below hBw).more hBw.size⟩, (hrb.below hBw).more hBw.size, (hmb.below hBw).more hBw.size⟩
  have hq1 := Lib.hid hp1.out.1
  clear hp1
  go_wp2_with (fail)
  (with_reducible refine hq1.out.mono ?_)
  rintro e w2 ⟨A2, x2, R2, y2, rfl, hr2, -, hu2, hb2⟩
  clear hq1 a0 a1 a2 a3 a4 c0 c1 c2 c3 c4
  have hbb : Below w2.heap.size w2 (w2.alloc (.cells #[.int .i64 P0, .int .i64 M0, .slice A2 l0.length x2, .int .i64 N0, .slice R2 n0 y2] 27)) := (Below.refl _ _).alloc (Nat.le_refl _) _
  have hbc := hb2.trans (hbb.mono hb2.size)
  have fa2 := Lib.hid (fa1.out.keep hbc (by first | omega | (simp; omega)))
  have fb2 := Lib.hid (fb1.out.keep hbc (by first | omega | (simp; omega)))
  have u2 := Lib.hid (Five.new w2 (.int .i64 P0) (.int .i64 M0) (.slice A2 l0.length x2) (.int .i64 N0) (.slice R2 n0 y2) 27)
  have hd2 := (hu2.rdm.below hbb).more hbb.size
  replace hr2 := (hr2.below hbb).more hbb.size
  replace hBw := hBw.trans (hbc.mono hBw.size)
  have hs2 : w2.heap.size < (w2.alloc (.cells #[.int .i64 P0, .int .i64 M0, .slice A2 l0.length x2, .int .i64 N0, .slice R2 n0 y2] 27)).heap.size := by simp
  replace hsz : s + 1 < (w2.alloc (.cells #[.int .i64 P0, .int .i64 M0, .slice A2 l0.length x2, .int .i64 N0, .slice R2 n0 y2] 27)).heap.size := Nat.lt_of_lt_of_le hsz hbc.size
  clear hbb hbc hu2 hb2 fa1 fb1
  obtain ⟨a0, a1, a2, a3, a4, -⟩ := fa2.out
  obtain ⟨c0, c1, c2, c3, c4, -⟩ := fb2.out
  have hp2 := hBo0 (w2.alloc (.cells #[.int .i64 P0, .int .i64 M0, .slice A2 l0.length x2, .int .i64 N0, .slice R2 n0 y2] 27)) ⟨⟨(hra.below hBw).more hBw.size, (hma.below hBw).more hBw.size⟩, (hrb.below hBw).more hBw.size, (hmb.below hBw).more hBw.size⟩
  have hq2 := Lib.hid hp2.out.2
  clear hp2
  go_wp2_with (fail)
  (with_reducible refine hq2.out.mono ?_)
  rintro e w3 ⟨A3, x3, R3, y3, rfl, hr3, -, hu3, hb3⟩
  clear hq2 a0 a1 a2 a3 a4 c0 c1 c2 c3 c4
  have hbb : Below w3.heap.size w3 (w3.alloc (.cells #[.int .i64 P0, .int .i64 M0, .slice A3 l0.length x3, .int .i64 N0, .slice R3 n0 y3] 27)) := (Below.refl _ _).alloc (Nat.le_refl _) _
  have hbc := hb3.trans (hbb.mono hb3.size)
  have fa3 := Lib.hid (fa2.out.keep hbc (by first | omega | (simp; omega)))
  have fb3 := Lib.hid (fb2.out.keep hbc (by first | omega | (simp; omega)))
  have u3 := Lib.hid (Five.new w3 (.int .i64 P0) (.int .i64 M0) (.slice A3 l0.length x3) (.int .i64 N0) (.slice R3 n0 y3) 27)
  replace u2 := Lib.hid (u2.out.keep hbc (by first | omega | (simp; omega)))
  replace hr2 := (hr2.below hbc).more hbc.size
  replace hd2 := (hd2.below hbc).more hbc.size
  have hd3 := (hu3.rdm.below hbb).more hbb.size
  replace hr3 := (hr3.below hbb).more hbb.size
  replace hBw := hBw.trans (hbc.mono hBw.size)
  have hs3 : w3.heap.size < (w3.alloc (.cells #[.int .i64 P0, .int .i64 M0, .slice A3 l0.length x3, .int .i64 N0, .slice R3 n0 y3] 27)).heap.size := by simp
  replace hsz : s + 1 < (w3.alloc (.cells #[.int .i64 P0, .int .i64 M0, .slice A3 l0.length x3, .int .i64 N0, .slice R3 n0 y3] 27)).heap.size := Nat.lt_of_lt_of_le hsz hbc.size
  replace hs2 : w2.heap.size < (w3.alloc (.cells #[.int .i64 P0, .int .i64 M0, .slice A3 l0.length x3, .int .i64 N0, .slice R3 n0 y3] 27)).heap.size := Nat.lt_of_lt_of_le hs2 hbc.size
  clear hbb hbc hu3 hb3 fa2 fb2
  obtain ⟨a0, a1, a2, a3, a4, -⟩ := u2.out
  obtain ⟨c0, c1, c2, c3, c4, -⟩ := u3.out
  have hE0 := Lib.hid (equal14_eq P0 M0 N0 E0 l0 n0 r0 A2 A3 R2 R3 x2 x3 y2 y3 _ hr2 hr3 g0a hd2 hd3 g0b g0c)
  go_wp2_with (fail)
  (with_reducible refine hE0.out.mono ?_)
  rintro e v0 ⟨rfl, hv0⟩
  replace hBw := hBw.trans (hv0.mono hBw.size)
  clear a0 a1 a2 a3 a4 c0 c1 c2 c3 c4
  go_wp2_with (fail)
  go_ret
  exact ⟨rfl, hBw⟩
end Go.Proofs.Ytghgbjgoedlnjaa
