/- CombineInterleaves: the walk. -/
import Derived.Test.YtghgbjgoedlnjaaT00
import Derived.Test.YtghgbjgoedlnjaaCodQ
namespace Go.Proofs.Ytghgbjgoedlnjaa
open Go.RowKit Cw
attribute [local go_sem] Oper.semAt_some

set_option maxRecDepth 100000 in
set_option maxHeartbeats 4000000 in
theorem interL (Pa Ma Na : Int) (mla : List Int) (na : Nat) (rowsa : Nat → List Int) (Aa Ra : Option Addr) (ca ka : Nat) (x : Int) (w : World) (hPa : I64 Pa) (hMa : I64 Ma) (_hNa : I64 Na) (hla : mla.length ≤ maxLen) (hna : na ≤ maxLen) (hra : Rd w w.heap.size Aa mla) (hma : RdM w w.heap.size Ra na rowsa) (_hx : I64 x) :
    Calls Try.prog 3 #[.agg #[.int .i64 Pa, .int .i64 Ma, .slice Aa mla.length ca, .int .i64 Na, .slice Ra na ka], .int .i64 x] w (LawEnd w) := by
  have hLa := rdm_len hma
  obtain ⟨Z, hZ⟩ : ∃ Z, Z = w.alloc (.cells #[.int .i64 Pa, .int .i64 Ma, .slice Aa mla.length ca, .int .i64 Na, .slice Ra na ka] 27) := ⟨_, rfl⟩
  have hB : Below w.heap.size w Z := by rw [hZ]; exact (Below.refl _ _).alloc (Nat.le_refl _) _
  obtain ⟨s, hs⟩ : ∃ s, s = w.heap.size := ⟨_, rfl⟩
  have hZe : Z.heap.size = s + 1 := by rw [hZ, hs]; simp
  have fa : Five Z s (.int .i64 Pa) (.int .i64 Ma) (.slice Aa mla.length ca) (.int .i64 Na) (.slice Ra na ka) := by rw [hZ, hs]; exact Five.new w _ _ _ _ _ 27
  have hb1 : Below Z.heap.size Z (Z.alloc (.cells #[.int .i64 Pa, .int .i64 Ma, .slice Aa mla.length ca, .int .i64 Na, .slice Ra na ka] 27)) := (Below.refl _ _).alloc (Nat.le_refl _) _
  have hB1 := hB.trans (hb1.mono hB.size)
  have hF := few1_any Pa Ma Na mla na rowsa Aa Ra ca ka (s + 1) _ ((hma.below hB1).more hB1.size) ⟨hna, hLa⟩ (by rw [World.size_alloc]; omega) (by rw [← hZe]; simp [go_sem])
  replace fa := Lib.hid fa
  by_cases hf : fewAll1 na rowsa = true
  rotate_left
  · rw [show fewAll1 na rowsa = false from by simpa using hf] at hF
    replace hF := Lib.hid hF
    replace hZe := Lib.hid hZe
    replace hZ := Lib.hid hZ
    replace hf := Lib.hid hf
    clear hLa
    unfold LawEnd
    go_enter Try.func3, Try.ntmps3
    go_wp2_with (fail)
    rw [← hZ.out]
    simp only [← hs]
    replace hs := Lib.hid hs
    (with_reducible refine hF.out.mono ?_)
    rintro e w1 ⟨rfl, hb2⟩
    go_wp2_with (fail)
    go_ret
    exact ⟨rfl, hB1.trans (hb2.mono hB1.size)⟩
  rw [hf] at hF
  replace hF := Lib.hid hF
  have hfa : fewC na rowsa = true := by unfold fewAll1 at hf; exact hf
  obtain ⟨hna2, hka⟩ := fewC_le hfa
  obtain ⟨P0, M0, N0, l0, n0, r0, E0, g0a, g0b, g0c, hBo0⟩ := Inter_both Pa Ma Na mla na rowsa Aa Ra ca ka x hPa hMa hla hna2 hka
  unfold ResC Pre1 at hBo0
  replace hBo0 := fun W h => Lib.hid (hBo0 W h)
  replace hZe := Lib.hid hZe
  replace hZ := Lib.hid hZ
  replace hf := Lib.hid hf
  replace hfa := Lib.hid hfa
  clear hLa hka
  unfold LawEnd
  go_enter Try.func3, Try.ntmps3
  go_wp2_with (fail)
  rw [← hZ.out]
  simp only [← hs]
  replace hs := Lib.hid hs
  (with_reducible refine hF.out.mono ?_)
  rintro e w1 ⟨rfl, hb2⟩
  have hbz := hb1.trans (hb2.mono hb1.size)
  have hBw := hB.trans (hbz.mono hB.size)
  have hsz : s < w1.heap.size := by have := hbz.size; have := hZe.out; omega
  have fa1 := Lib.hid (fa.out.keep hbz (by have := hZe.out; omega))
  clear hF hb2 hb1 hB1 hbz
  obtain ⟨a0, a1, a2, a3, a4, -⟩ := fa1.out
  have hq1 := Lib.hid (hBo0 w1 ⟨(hra.below hBw).more hBw.size, (hma.below hBw).more hBw.size⟩).out.1
  go_wp2_with (fail)
  (with_reducible refine hq1.out.mono ?_)
  rintro e w2 ⟨A2, x2, R2, y2, rfl, hr2, -, hu2, hb2⟩
  clear hq1 a0 a1 a2 a3 a4
  have hbb : Below w2.heap.size w2 (w2.alloc (.cells #[.int .i64 P0, .int .i64 M0, .slice A2 l0.length x2, .int .i64 N0, .slice R2 n0 y2] 27)) := (Below.refl _ _).alloc (Nat.le_refl _) _
  have hbc := hb2.trans (hbb.mono hb2.size)
  have fa2 := fa1.out.keep hbc hsz
  have u2 := Lib.hid (Five.new w2 (.int .i64 P0) (.int .i64 M0) (.slice A2 l0.length x2) (.int .i64 N0) (.slice R2 n0 y2) 27)
  have hd2 := (hu2.rdm.below hbb).more hbb.size
  replace hr2 := (hr2.below hbb).more hbb.size
  replace hBw := hBw.trans (hbc.mono hBw.size)
  have hs2 : w2.heap.size < (w2.alloc (.cells #[.int .i64 P0, .int .i64 M0, .slice A2 l0.length x2, .int .i64 N0, .slice R2 n0 y2] 27)).heap.size := by simp
  obtain ⟨a0, a1, a2, a3, a4, -⟩ := fa2
  have hq2 := Lib.hid (hBo0 (w2.alloc (.cells #[.int .i64 P0, .int .i64 M0, .slice A2 l0.length x2, .int .i64 N0, .slice R2 n0 y2] 27)) ⟨(hra.below hBw).more hBw.size, (hma.below hBw).more hBw.size⟩).out.2
  clear hbb hbc hu2 hb2 fa1
  go_wp2_with (fail)
  (with_reducible refine hq2.out.mono ?_)
  rintro e w3 ⟨A3, x3, R3, y3, rfl, hr3, -, hu3, hb3⟩
  clear hq2 a0 a1 a2 a3 a4
  have hbb : Below w3.heap.size w3 (w3.alloc (.cells #[.int .i64 P0, .int .i64 M0, .slice A3 l0.length x3, .int .i64 N0, .slice R3 n0 y3] 27)) := (Below.refl _ _).alloc (Nat.le_refl _) _
  have hbc := hb3.trans (hbb.mono hb3.size)
  obtain ⟨a0, a1, a2, a3, a4, -⟩ := u2.out.keep hbc hs2
  obtain ⟨c0, c1, c2, c3, c4, -⟩ := Five.new w3 (.int .i64 P0) (.int .i64 M0) (.slice A3 l0.length x3) (.int .i64 N0) (.slice R3 n0 y3) 27
  have hE0 := Lib.hid (equal14_eq P0 M0 N0 E0 l0 n0 r0 A2 A3 R2 R3 x2 x3 y2 y3 _ ((hr2.below hbc).more hbc.size) ((hr3.below hbb).more hbb.size) g0a ((hd2.below hbc).more hbc.size) ((hu3.rdm.below hbb).more hbb.size) g0b g0c)
  replace hBw := hBw.trans (hbc.mono hBw.size)
  clear hbb hbc hu3 hb3 hr2 hr3 hd2 u2
  go_wp2_with (fail)
  (with_reducible refine hE0.out.mono ?_)
  rintro e v0 ⟨rfl, hv0⟩
  go_wp2_with (fail)
  go_ret
  exact ⟨rfl, hBw.trans (hv0.mono hBw.size)⟩
end Go.Proofs.Ytghgbjgoedlnjaa
