/- CombineDuals: the walk. -/
import Derived.Test.YtkmhopefnfaecaaZgT00
import Derived.Test.YtkmhopefnfaecaaZgDuT
namespace Go.Proofs.Ytkmhopefnfaecaa
open Go.RowKit Cw
attribute [local go_sem] Oper.semAt_some

set_option maxRecDepth 100000 in
set_option maxHeartbeats 16000000 in
theorem dualsL14 (Pa Ma Na : Int) (mla : List Int) (na : Nat) (rowsa : Nat → List Int) (Aa Ra : Option Addr) (ca ka : Nat) (Pb Mb Nb : Int) (mlb : List Int) (nb : Nat) (rowsb : Nat → List Int) (Ab Rb : Option Addr) (cb kb : Nat) (x : Int) (ul : List Int) (Au : Option Addr) (cu : Nat) (vl : List Int) (Av : Option Addr) (cv : Nat) (w : World) (hPa : I64 Pa) (hMa : I64 Ma) (_hNa : I64 Na) (hla : mla.length ≤ maxLen) (hna : na ≤ maxLen) (hra : Rd w w.heap.size Aa mla) (hma : RdM w w.heap.size Ra na rowsa) (hPb : I64 Pb) (hMb : I64 Mb) (_hNb : I64 Nb) (hlb : mlb.length ≤ maxLen) (hnb : nb ≤ maxLen) (hrb : Rd w w.heap.size Ab mlb) (hmb : RdM w w.heap.size Rb nb rowsb) (_hx : I64 x) (_huc : ul.length ≤ cu) (_hul : cu ≤ maxLen) (hru : Rd w w.heap.size Au ul) (_hvc : vl.length ≤ cv) (_hvl : cv ≤ maxLen) (hrv : Rd w w.heap.size Av vl) :
    Calls Try.prog 3 #[.agg #[.int .i64 Pa, .int .i64 Ma, .slice Aa mla.length ca, .int .i64 Na, .slice Ra na ka], .agg #[.int .i64 Pb, .int .i64 Mb, .slice Ab mlb.length cb, .int .i64 Nb, .slice Rb nb kb], .int .i64 x, .slice Au ul.length cu, .slice Av vl.length cv] w (LawEnd w) := by
  have hLa := rdm_len hma
  have hLb := rdm_len hmb
  obtain ⟨Z, hZ⟩ : ∃ Z, Z = (w.alloc (.cells #[.int .i64 Pa, .int .i64 Ma, .slice Aa mla.length ca, .int .i64 Na, .slice Ra na ka] 27)).alloc (.cells #[.int .i64 Pb, .int .i64 Mb, .slice Ab mlb.length cb, .int .i64 Nb, .slice Rb nb kb] 27) := ⟨_, rfl⟩
  have hB : Below w.heap.size w Z := by rw [hZ]; exact ((Below.refl _ _).alloc (Nat.le_refl _) _).alloc (by simp) _
  obtain ⟨s, hs⟩ : ∃ s, s = w.heap.size := ⟨_, rfl⟩
  obtain ⟨hZe, fa, fb⟩ := two_enter2 Pa Ma Na mla na rowsa Aa Ra ca ka Pb Mb Nb mlb nb rowsb Ab Rb cb kb w hZ hs
  have hb1 : Below Z.heap.size Z (Z.alloc (.cells #[.int .i64 Pa, .int .i64 Ma, .slice Aa mla.length ca, .int .i64 Na, .slice Ra na ka, .int .i64 Pb, .int .i64 Mb, .slice Ab mlb.length cb, .int .i64 Nb, .slice Rb nb kb] 27)) := (Below.refl _ _).alloc (Nat.le_refl _) _
  have hB1 := hB.trans (hb1.mono hB.size)
  have hF := few2_any Pa Ma Na mla na rowsa Aa Ra ca ka Pb Mb Nb mlb nb rowsb Ab Rb cb kb (s + 1 + 1) _ ((hma.below hB1).more hB1.size) ((hmb.below hB1).more hB1.size) ⟨hna, hLa⟩ ⟨hnb, hLb⟩ (by rw [World.size_alloc]; omega) (by rw [← hZe]; simp [go_sem]) (by rw [← hZe]; simp [go_sem])
  replace fa := Lib.hid fa
  replace fb := Lib.hid fb
  by_cases hf : fewAll2 na rowsa nb rowsb = true
  rotate_left
  · rw [show fewAll2 na rowsa nb rowsb = false from by simpa using hf] at hF
    replace hF := Lib.hid hF
    replace hZe := Lib.hid hZe
    replace hZ := Lib.hid hZ
    replace hf := Lib.hid hf
    clear hLa hLb
    unfold LawEnd
    go_enter Try.func3, Try.ntmps3
    go_wp2_with (fail)
    rw [← hZ.out]
    simp only [← hs]
    replace hs := Lib.hid hs
    (with_reducible refine hF.out.mono ?_)
    rintro e w1 ⟨rfl, hb2⟩
    go_wp2_with (fail)
    go_ret
    exact ⟨rfl, hB1.trans (hb2.mono hB1.size)⟩
  rw [hf] at hF
  replace hF := Lib.hid hF
  obtain ⟨hfa, hfb⟩ : fewC na rowsa = true ∧ fewC nb rowsb = true := by unfold fewAll2 at hf; simpa using hf
  obtain ⟨hna2, hka⟩ := fewC_le hfa
  obtain ⟨hnb2, hkb⟩ := fewC_le hfb
  have hT := fun W (h : Pre2 mla na rowsa Aa Ra mlb nb rowsb Ab Rb W) => Two14_any Pa Ma Na mla na rowsa Aa Ra ca ka Pb Mb Nb mlb nb rowsb Ab Rb cb kb W hPa hMa hla hna2 hka h.1.1 h.1.2 hPb hMb hlb hnb2 hkb h.2.1 h.2.2
  replace hZe := Lib.hid hZe
  replace hZ := Lib.hid hZ
  replace hf := Lib.hid hf
  replace hfa := Lib.hid hfa
  replace hfb := Lib.hid hfb
  clear hLa hLb
  by_cases hE : twoE Pa Ma Na mla na rowsa Aa Ra ca ka Pb Mb Nb mlb nb rowsb Ab Rb cb kb = 0
  rotate_left
  · generalize twoE Pa Ma Na mla na rowsa Aa Ra ca ka Pb Mb Nb mlb nb rowsb Ab Rb cb kb = E at *
    have hEb : (E != 0) = true := by rw [bne_iff_ne]; exact hE
    replace hT := fun W h => Lib.hid (hT W h)
    replace hE := Lib.hid hE
    clear hka hkb
    unfold LawEnd
    go_enter Try.func3, Try.ntmps3
    go_wp2_with (fail)
    rw [← hZ.out]
    simp only [← hs]
    replace hs := Lib.hid hs
    (with_reducible refine hF.out.mono ?_)
    rintro e w1 ⟨rfl, hb2⟩
    have hbz := hb1.trans (hb2.mono hb1.size)
    have hBw := hB.trans (hbz.mono hB.size)
    have hsz : s + 1 < w1.heap.size := by have := hbz.size; have := hZe.out; omega
    have fa1 := Lib.hid (fa.out.keep hbz (by have := hZe.out; omega))
    have fb1 := Lib.hid (fb.out.keep hbz (by have := hZe.out; omega))
    replace hZe := Lib.hid hZe
    clear hF hb2 hb1 hB1 hbz
    obtain ⟨a0, a1, a2, a3, a4, -⟩ := fa1.out
    obtain ⟨c0, c1, c2, c3, c4, -⟩ := fb1.out
    have hq := hT w1 ⟨⟨(hra.below hBw).more hBw.size, (hma.below hBw).more hBw.size⟩, (hrb.below hBw).more hBw.size, (hmb.below hBw).more hBw.size⟩
    go_wp2_with (fail)
    (with_reducible refine hq.out.mono ?_)
    rintro e w2 ⟨rfl, hb⟩
    clear hq
    clear  a0 a1 a2 a3 a4 c0 c1 c2 c3 c4
    have fa2 := Lib.hid (fa1.out.keep hb (by first | omega | (simp; omega)))
    have fb2 := Lib.hid (fb1.out.keep hb (by first | omega | (simp; omega)))
    replace hBw := hBw.trans (hb.mono hBw.size)
    replace hsz : s + 1 < w2.heap.size := Nat.lt_of_lt_of_le hsz hb.size
    clear fa1 fb1
    obtain ⟨a0, a1, a2, a3, a4, -⟩ := fa2.out
    obtain ⟨c0, c1, c2, c3, c4, -⟩ := fb2.out
    go_wp2_with (fail)
    go_ret
    exact ⟨rfl, hBw⟩
  obtain ⟨F, m1, m2, M1, M2, va, vb⟩ := twoE_zero hE
  have h1 := va.m1; have h2 := va.m64; have h3 := vb.m1; have h4 := vb.m64; have h5 := va.le; have h6 := vb.le
  have eNa := va.hN; have eNb := vb.hN
  subst eNa eNb
  obtain ⟨N2, hN2⟩ : ∃ N2, N2 = m1 + m2 := ⟨_, rfl⟩
  have hw2 : IntKind.i64.wrap ((m1 : Int) + (m2 : Int)) = (N2 : Int) := by
    rw [show ((m1 : Int) + (m2 : Int)) = (N2 : Int) from by rw [hN2]; push_cast; rfl]
    exact IntWalk.i64_in _ (by omega)
  have hv2 : ((m1 : Int) + (m2 : Int)) = (N2 : Int) := by rw [hN2]; push_cast; rfl
  rw [hE] at hT
  replace hT := fun W h => Lib.hid (hT W h)
  by_cases hN : N2 ≤ 64
  rotate_left
  · have hNb : decide (64 < (N2 : Int)) = true := decide_eq_true (by omega)
    have hNc : (64 : Int) < (N2 : Int) := by omega
    replace hN2 := Lib.hid hN2
    replace hE := Lib.hid hE
    clear hka hkb va vb
    unfold LawEnd
    go_enter Try.func3, Try.ntmps3
    go_wp2_with (fail)
    rw [← hZ.out]
    simp only [← hs]
    replace hs := Lib.hid hs
    (with_reducible refine hF.out.mono ?_)
    rintro e w1 ⟨rfl, hb2⟩
    have hbz := hb1.trans (hb2.mono hb1.size)
    have hBw := hB.trans (hbz.mono hB.size)
    have hsz : s + 1 < w1.heap.size := by have := hbz.size; have := hZe.out; omega
    have fa1 := Lib.hid (fa.out.keep hbz (by have := hZe.out; omega))
    have fb1 := Lib.hid (fb.out.keep hbz (by have := hZe.out; omega))
    replace hZe := Lib.hid hZe
    clear hF hb2 hb1 hB1 hbz
    obtain ⟨a0, a1, a2, a3, a4, -⟩ := fa1.out
    obtain ⟨c0, c1, c2, c3, c4, -⟩ := fb1.out
    have hq := hT w1 ⟨⟨(hra.below hBw).more hBw.size, (hma.below hBw).more hBw.size⟩, (hrb.below hBw).more hBw.size, (hmb.below hBw).more hBw.size⟩
    go_wp2_with (fail)
    (with_reducible refine hq.out.mono ?_)
    rintro e w2 ⟨rfl, hb⟩
    clear hq
    clear  a0 a1 a2 a3 a4 c0 c1 c2 c3 c4
    have fa2 := Lib.hid (fa1.out.keep hb (by first | omega | (simp; omega)))
    have fb2 := Lib.hid (fb1.out.keep hb (by first | omega | (simp; omega)))
    replace hBw := hBw.trans (hb.mono hBw.size)
    replace hsz : s + 1 < w2.heap.size := Nat.lt_of_lt_of_le hsz hb.size
    clear fa1 fb1
    obtain ⟨a0, a1, a2, a3, a4, -⟩ := fa2.out
    obtain ⟨c0, c1, c2, c3, c4, -⟩ := fb2.out
    go_wp2_with (fail)
    go_ret
    exact ⟨rfl, hBw⟩
  obtain ⟨ra, rb, rs, rt, DA, DB, q1, q2, q3, q4, q5, vda, dda, vdb, ddb, hrl⟩ := duals_sum va vb (by omega)
  obtain ⟨KA, hKA⟩ : ∃ KA, KA = m1 - na := ⟨_, rfl⟩
  obtain ⟨KB, hKB⟩ : ∃ KB, KB = m2 - nb := ⟨_, rfl⟩
  obtain ⟨KT, hKT⟩ : ∃ KT, KT = KA + KB := ⟨_, rfl⟩
  obtain ⟨K2, hK2⟩ : ∃ K2, K2 = na + nb := ⟨_, rfl⟩
  rw [← hKA, ← hKB] at q4 q5 hrl
  rw [← hKA] at q1 vda dda
  rw [← hKB] at q2 vdb ddb
  rw [← hKT] at q4 q5 hrl
  rw [← hK2] at q3 q5
  rw [← hN2] at q3 q4 q5
  have hNb : decide (64 < (N2 : Int)) = false := decide_eq_false (by omega)
  have hNc : ¬ (64 : Int) < (N2 : Int) := by omega
  unfold SumC at q3 q4
  unfold OneC at q1 q2 q5
  replace q3 := fun Aa Ra ca ka Ab Rb cb kb W h => Lib.hid ((q3 Aa Ra ca ka Ab Rb cb kb W h).mono fun _ _ hr => resC_in hr)
  replace q4 := fun Aa Ra ca ka Ab Rb cb kb W h => Lib.hid ((q4 Aa Ra ca ka Ab Rb cb kb W h).mono fun _ _ hr => resC_in hr)
  replace q1 := fun A R c k W h => Lib.hid (q1 A R c k W h)
  replace q2 := fun A R c k W h => Lib.hid (q2 A R c k W h)
  replace q5 := fun A R c k W h => Lib.hid (q5 A R c k W h)
  have hKT6 : KT ≤ 64 := by omega
  have hSm := fun (P Q N : Int) (ml : List Int) (n : Nat) (rows : Nat → List Int) A A' Ar Ar' c c' cr cr' W g1 g2 hl g3 g4 hn hrl => Lib.hid (Same12_eq P Q N ml n rows A A' Ar Ar' c c' cr cr' W g1 g2 hl g3 g4 hn hrl)
  replace hN2 := Lib.hid hN2
  replace hKA := Lib.hid hKA
  replace hKB := Lib.hid hKB
  replace hKT := Lib.hid hKT
  replace hK2 := Lib.hid hK2
  replace hE := Lib.hid hE
  replace va := Lib.hid va
  replace vb := Lib.hid vb
  replace vda := Lib.hid vda
  replace vdb := Lib.hid vdb
  replace dda := Lib.hid dda
  replace ddb := Lib.hid ddb
  replace hrl := Lib.hid hrl
  clear hka hkb
  unfold LawEnd
  go_enter Try.func3, Try.ntmps3
  go_wp2_with (fail)
  rw [← hZ.out]
  simp only [← hs]
  replace hs := Lib.hid hs
  (with_reducible refine hF.out.mono ?_)
  rintro e w1 ⟨rfl, hb2⟩
  have hbz := hb1.trans (hb2.mono hb1.size)
  have hBw := hB.trans (hbz.mono hB.size)
  have hsz : s + 1 < w1.heap.size := by have := hbz.size; have := hZe.out; omega
  have fa1 := Lib.hid (fa.out.keep hbz (by have := hZe.out; omega))
  have fb1 := Lib.hid (fb.out.keep hbz (by have := hZe.out; omega))
  replace hZe := Lib.hid hZe
  clear hF hb2 hb1 hB1 hbz
  obtain ⟨a0, a1, a2, a3, a4, -⟩ := fa1.out
  obtain ⟨c0, c1, c2, c3, c4, -⟩ := fb1.out
  have hq := hT w1 ⟨⟨(hra.below hBw).more hBw.size, (hma.below hBw).more hBw.size⟩, (hrb.below hBw).more hBw.size, (hmb.below hBw).more hBw.size⟩
  go_wp2_with (fail)
  (with_reducible refine hq.out.mono ?_)
  rintro e w2 ⟨rfl, hb⟩
  clear hq
  clear  a0 a1 a2 a3 a4 c0 c1 c2 c3 c4
  have fa2 := Lib.hid (fa1.out.keep hb (by first | omega | (simp; omega)))
  have fb2 := Lib.hid (fb1.out.keep hb (by first | omega | (simp; omega)))
  replace hBw := hBw.trans (hb.mono hBw.size)
  replace hsz : s + 1 < w2.heap.size := Nat.lt_of_lt_of_le hsz hb.size
  clear fa1 fb1
  obtain ⟨a0, a1, a2, a3, a4, -⟩ := fa2.out
  obtain ⟨c0, c1, c2, c3, c4, -⟩ := fb2.out
  have hq := q1 Aa Ra ca ka w2 ⟨(hra.below hBw).more hBw.size, (hma.below hBw).more hBw.size⟩
  go_wp2_with (fail)
  (with_reducible refine hq.out.mono ?_)
  rintro e w3 ⟨A1, x1, R1, y1, rfl, i1, hb⟩
  clear hq
  clear  a0 a1 a2 a3 a4 c0 c1 c2 c3 c4
  have hbb : Below w3.heap.size w3 (w3.alloc (.cells #[.int .i64 Pa, .int .i64 Ma, .slice A1 mla.length x1, .int .i64 m1, .slice R1 KA y1] 27)) := (Below.refl _ _).alloc (Nat.le_refl _) _
  have hbc := hb.trans (hbb.mono hb.size)
  have u1 := Lib.hid (Five.new w3 (.int .i64 Pa) (.int .i64 Ma) (.slice A1 mla.length x1) (.int .i64 m1) (.slice R1 KA y1) 27)
  replace i1 := i1.below hbb
  have hs1 : w3.heap.size < (w3.alloc (.cells #[.int .i64 Pa, .int .i64 Ma, .slice A1 mla.length x1, .int .i64 m1, .slice R1 KA y1] 27)).heap.size := by simp
  have fa3 := Lib.hid (fa2.out.keep hbc (by first | omega | (simp; omega)))
  have fb3 := Lib.hid (fb2.out.keep hbc (by first | omega | (simp; omega)))
  replace hBw := hBw.trans (hbc.mono hBw.size)
  replace hsz : s + 1 < (w3.alloc (.cells #[.int .i64 Pa, .int .i64 Ma, .slice A1 mla.length x1, .int .i64 m1, .slice R1 KA y1] 27)).heap.size := Nat.lt_of_lt_of_le hsz hbc.size
  clear fa2 fb2
  clear hbb hbc hb
  obtain ⟨a0, a1, a2, a3, a4, -⟩ := fa3.out
  obtain ⟨c0, c1, c2, c3, c4, -⟩ := fb3.out
  have hq := q2 Ab Rb cb kb (w3.alloc (.cells #[.int .i64 Pa, .int .i64 Ma, .slice A1 mla.length x1, .int .i64 m1, .slice R1 KA y1] 27)) ⟨(hrb.below hBw).more hBw.size, (hmb.below hBw).more hBw.size⟩
  go_wp2_with (fail)
  (with_reducible refine hq.out.mono ?_)
  rintro e w4 ⟨A2, x2, R2, y2, rfl, i2, hb⟩
  clear hq
  clear  a0 a1 a2 a3 a4 c0 c1 c2 c3 c4
  have hbb : Below w4.heap.size w4 (w4.alloc (.cells #[.int .i64 Pb, .int .i64 Mb, .slice A2 mlb.length x2, .int .i64 m2, .slice R2 KB y2] 27)) := (Below.refl _ _).alloc (Nat.le_refl _) _
  have hbc := hb.trans (hbb.mono hb.size)
  have u2 := Lib.hid (Five.new w4 (.int .i64 Pb) (.int .i64 Mb) (.slice A2 mlb.length x2) (.int .i64 m2) (.slice R2 KB y2) 27)
  replace i2 := i2.below hbb
  have hs2 : w4.heap.size < (w4.alloc (.cells #[.int .i64 Pb, .int .i64 Mb, .slice A2 mlb.length x2, .int .i64 m2, .slice R2 KB y2] 27)).heap.size := by simp
  replace u1 := Lib.hid (u1.out.keep hbc (by first | omega | (simp; omega)))
  replace i1 := i1.below hbc
  replace hs1 := Nat.lt_of_lt_of_le hs1 hbc.size
  have fa4 := Lib.hid (fa3.out.keep hbc (by first | omega | (simp; omega)))
  have fb4 := Lib.hid (fb3.out.keep hbc (by first | omega | (simp; omega)))
  replace hBw := hBw.trans (hbc.mono hBw.size)
  replace hsz : s + 1 < (w4.alloc (.cells #[.int .i64 Pb, .int .i64 Mb, .slice A2 mlb.length x2, .int .i64 m2, .slice R2 KB y2] 27)).heap.size := Nat.lt_of_lt_of_le hsz hbc.size
  clear fa3 fb3
  clear hbb hbc hb
  obtain ⟨a0, a1, a2, a3, a4, -⟩ := fa4.out
  obtain ⟨c0, c1, c2, c3, c4, -⟩ := fb4.out
  have hq := q3 Aa Ra ca ka Ab Rb cb kb (w4.alloc (.cells #[.int .i64 Pb, .int .i64 Mb, .slice A2 mlb.length x2, .int .i64 m2, .slice R2 KB y2] 27)) ⟨⟨(hra.below hBw).more hBw.size, (hma.below hBw).more hBw.size⟩, ⟨(hrb.below hBw).more hBw.size, (hmb.below hBw).more hBw.size⟩⟩
  go_wp2_with (fail)
  (with_reducible refine hq.out.mono ?_)
  rintro e w5 ⟨A3, x3, R3, y3, rfl, i3, hb⟩
  clear hq
  clear  a0 a1 a2 a3 a4 c0 c1 c2 c3 c4
  have hbb : Below w5.heap.size w5 (w5.alloc (.cells #[.int .i64 Pa, .int .i64 Ma, .slice A3 mla.length x3, .int .i64 N2, .slice R3 K2 y3] 27)) := (Below.refl _ _).alloc (Nat.le_refl _) _
  have hbc := hb.trans (hbb.mono hb.size)
  have u3 := Lib.hid (Five.new w5 (.int .i64 Pa) (.int .i64 Ma) (.slice A3 mla.length x3) (.int .i64 N2) (.slice R3 K2 y3) 27)
  replace i3 := i3.below hbb
  have hs3 : w5.heap.size < (w5.alloc (.cells #[.int .i64 Pa, .int .i64 Ma, .slice A3 mla.length x3, .int .i64 N2, .slice R3 K2 y3] 27)).heap.size := by simp
  replace u1 := Lib.hid (u1.out.keep hbc (by first | omega | (simp; omega)))
  replace i1 := i1.below hbc
  replace hs1 := Nat.lt_of_lt_of_le hs1 hbc.size
  replace u2 := Lib.hid (u2.out.keep hbc (by first | omega | (simp; omega)))
  replace i2 := i2.below hbc
  replace hs2 := Nat.lt_of_lt_of_le hs2 hbc.size
  have fa5 := Lib.hid (fa4.out.keep hbc (by first | omega | (simp; omega)))
  have fb5 := Lib.hid (fb4.out.keep hbc (by first | omega | (simp; omega)))
  replace hBw := hBw.trans (hbc.mono hBw.size)
  replace hsz : s + 1 < (w5.alloc (.cells #[.int .i64 Pa, .int .i64 Ma, .slice A3 mla.length x3, .int .i64 N2, .slice R3 K2 y3] 27)).heap.size := Nat.lt_of_lt_of_le hsz hbc.size
  clear fa4 fb4
  clear hbb hbc hb
  obtain ⟨a0, a1, a2, a3, a4, -⟩ := fa5.out
  obtain ⟨c0, c1, c2, c3, c4, -⟩ := fb5.out
  obtain ⟨d00, d01, d02, d03, d04, -⟩ := u1.out
  obtain ⟨d10, d11, d12, d13, d14, -⟩ := u2.out
  have hq := q4 A1 R1 x1 y1 A2 R2 x2 y2 (w5.alloc (.cells #[.int .i64 Pa, .int .i64 Ma, .slice A3 mla.length x3, .int .i64 N2, .slice R3 K2 y3] 27)) ⟨i1.pre, i2.pre⟩
  go_wp2_with (fail)
  (with_reducible refine hq.out.mono ?_)
  rintro e w6 ⟨A4, x4, R4, y4, rfl, i4, hb⟩
  clear hq
  clear  a0 a1 a2 a3 a4 c0 c1 c2 c3 c4
  clear d00 d01 d02 d03 d04
  clear d10 d11 d12 d13 d14
  have hbb : Below w6.heap.size w6 (w6.alloc (.cells #[.int .i64 Pa, .int .i64 Ma, .slice A4 mla.length x4, .int .i64 N2, .slice R4 KT y4] 27)) := (Below.refl _ _).alloc (Nat.le_refl _) _
  have hbc := hb.trans (hbb.mono hb.size)
  have u4 := Lib.hid (Five.new w6 (.int .i64 Pa) (.int .i64 Ma) (.slice A4 mla.length x4) (.int .i64 N2) (.slice R4 KT y4) 27)
  replace i4 := i4.below hbb
  have hs4 : w6.heap.size < (w6.alloc (.cells #[.int .i64 Pa, .int .i64 Ma, .slice A4 mla.length x4, .int .i64 N2, .slice R4 KT y4] 27)).heap.size := by simp
  replace u1 := Lib.hid (u1.out.keep hbc (by first | omega | (simp; omega)))
  replace i1 := i1.below hbc
  replace hs1 := Nat.lt_of_lt_of_le hs1 hbc.size
  replace u2 := Lib.hid (u2.out.keep hbc (by first | omega | (simp; omega)))
  replace i2 := i2.below hbc
  replace hs2 := Nat.lt_of_lt_of_le hs2 hbc.size
  replace u3 := Lib.hid (u3.out.keep hbc (by first | omega | (simp; omega)))
  replace i3 := i3.below hbc
  replace hs3 := Nat.lt_of_lt_of_le hs3 hbc.size
  have fa6 := Lib.hid (fa5.out.keep hbc (by first | omega | (simp; omega)))
  have fb6 := Lib.hid (fb5.out.keep hbc (by first | omega | (simp; omega)))
  replace hBw := hBw.trans (hbc.mono hBw.size)
  replace hsz : s + 1 < (w6.alloc (.cells #[.int .i64 Pa, .int .i64 Ma, .slice A4 mla.length x4, .int .i64 N2, .slice R4 KT y4] 27)).heap.size := Nat.lt_of_lt_of_le hsz hbc.size
  clear fa5 fb5
  clear hbb hbc hb
  obtain ⟨a0, a1, a2, a3, a4, -⟩ := fa6.out
  obtain ⟨c0, c1, c2, c3, c4, -⟩ := fb6.out
  obtain ⟨d00, d01, d02, d03, d04, -⟩ := u3.out
  have hq := q5 A3 R3 x3 y3 (w6.alloc (.cells #[.int .i64 Pa, .int .i64 Ma, .slice A4 mla.length x4, .int .i64 N2, .slice R4 KT y4] 27)) i3.pre
  go_wp2_with (fail)
  (with_reducible refine hq.out.mono ?_)
  rintro e w7 ⟨A5, x5, R5, y5, rfl, i5, hb⟩
  clear hq
  clear  a0 a1 a2 a3 a4 c0 c1 c2 c3 c4
  clear d00 d01 d02 d03 d04
  have hbb : Below w7.heap.size w7 (w7.alloc (.cells #[.int .i64 Pa, .int .i64 Ma, .slice A5 mla.length x5, .int .i64 N2, .slice R5 KT y5] 27)) := (Below.refl _ _).alloc (Nat.le_refl _) _
  have hbc := hb.trans (hbb.mono hb.size)
  have u5 := Lib.hid (Five.new w7 (.int .i64 Pa) (.int .i64 Ma) (.slice A5 mla.length x5) (.int .i64 N2) (.slice R5 KT y5) 27)
  replace i5 := i5.below hbb
  have hs5 : w7.heap.size < (w7.alloc (.cells #[.int .i64 Pa, .int .i64 Ma, .slice A5 mla.length x5, .int .i64 N2, .slice R5 KT y5] 27)).heap.size := by simp
  replace u1 := Lib.hid (u1.out.keep hbc (by first | omega | (simp; omega)))
  replace i1 := i1.below hbc
  replace hs1 := Nat.lt_of_lt_of_le hs1 hbc.size
  replace u2 := Lib.hid (u2.out.keep hbc (by first | omega | (simp; omega)))
  replace i2 := i2.below hbc
  replace hs2 := Nat.lt_of_lt_of_le hs2 hbc.size
  replace u3 := Lib.hid (u3.out.keep hbc (by first | omega | (simp; omega)))
  replace i3 := i3.below hbc
  replace hs3 := Nat.lt_of_lt_of_le hs3 hbc.size
  replace u4 := Lib.hid (u4.out.keep hbc (by first | omega | (simp; omega)))
  replace i4 := i4.below hbc
  replace hs4 := Nat.lt_of_lt_of_le hs4 hbc.size
  have fa7 := Lib.hid (fa6.out.keep hbc (by first | omega | (simp; omega)))
  have fb7 := Lib.hid (fb6.out.keep hbc (by first | omega | (simp; omega)))
  replace hBw := hBw.trans (hbc.mono hBw.size)
  replace hsz : s + 1 < (w7.alloc (.cells #[.int .i64 Pa, .int .i64 Ma, .slice A5 mla.length x5, .int .i64 N2, .slice R5 KT y5] 27)).heap.size := Nat.lt_of_lt_of_le hsz hbc.size
  clear fa6 fb6
  clear hbb hbc hb
  obtain ⟨a0, a1, a2, a3, a4, -⟩ := fa7.out
  obtain ⟨c0, c1, c2, c3, c4, -⟩ := fb7.out
  obtain ⟨d00, d01, d02, d03, d04, -⟩ := u5.out
  obtain ⟨d10, d11, d12, d13, d14, -⟩ := u4.out
  have hq := hSm Pa Ma N2 mla KT rt A5 A4 R5 R4 x5 x4 y5 y4 (w7.alloc (.cells #[.int .i64 Pa, .int .i64 Ma, .slice A5 mla.length x5, .int .i64 N2, .slice R5 KT y5] 27)) i5.pre.1 i4.pre.1 hla i5.pre.2 i4.pre.2 (by omega) (fun i hi => Nat.le_trans (hrl.out i hi) (by omega))
  go_wp2_with (fail)
  (with_reducible refine hq.out.mono ?_)
  rintro e w8 ⟨rfl, hb⟩
  clear hq
  clear  a0 a1 a2 a3 a4 c0 c1 c2 c3 c4
  clear d00 d01 d02 d03 d04
  clear d10 d11 d12 d13 d14
  replace u1 := Lib.hid (u1.out.keep hb (by first | omega | (simp; omega)))
  replace i1 := i1.below hb
  replace hs1 := Nat.lt_of_lt_of_le hs1 hb.size
  replace u2 := Lib.hid (u2.out.keep hb (by first | omega | (simp; omega)))
  replace i2 := i2.below hb
  replace hs2 := Nat.lt_of_lt_of_le hs2 hb.size
  replace u3 := Lib.hid (u3.out.keep hb (by first | omega | (simp; omega)))
  replace i3 := i3.below hb
  replace hs3 := Nat.lt_of_lt_of_le hs3 hb.size
  replace u4 := Lib.hid (u4.out.keep hb (by first | omega | (simp; omega)))
  replace i4 := i4.below hb
  replace hs4 := Nat.lt_of_lt_of_le hs4 hb.size
  replace u5 := Lib.hid (u5.out.keep hb (by first | omega | (simp; omega)))
  replace i5 := i5.below hb
  replace hs5 := Nat.lt_of_lt_of_le hs5 hb.size
  have fa8 := Lib.hid (fa7.out.keep hb (by first | omega | (simp; omega)))
  have fb8 := Lib.hid (fb7.out.keep hb (by first | omega | (simp; omega)))
  replace hBw := hBw.trans (hb.mono hBw.size)
  replace hsz : s + 1 < w8.heap.size := Nat.lt_of_lt_of_le hsz hb.size
  clear fa7 fb7
  clear hb q1 q2 q3 q4 q5
  have hn0 : ¬ (m1 : Int) = 0 := by omega
  have hna1 : (1 : Int) ≤ (m1 : Int) := by omega
  have hna64 : (m1 : Int) ≤ 64 := by omega
  by_cases hxa : x < 1
  · have hx1b : decide (1 ≤ x) = false := decide_eq_false (by omega)
    have hx1c : ¬ (1 : Int) ≤ x := by omega
    by_cases hmm : m1 = m2
    rotate_left
    · have hmb : ((m1 : Int) != (m2 : Int)) = true := by rw [bne_iff_ne]; omega
      have hmc : ¬ (m1 : Int) = (m2 : Int) := by omega
      obtain ⟨a0, a1, a2, a3, a4, -⟩ := fa8.out
      obtain ⟨c0, c1, c2, c3, c4, -⟩ := fb8.out
      go_wp2_with (fail)
      go_ret
      exact ⟨rfl, hBw⟩
    subst hmm
    have hE2 := hN2.out
    obtain ⟨rp, rd, BD, q9, q10, vD, hsp⟩ := duals_plo va.out vb.out (by rw [← hE2]; exact hN) (by have h := dda.out; rw [hKA.out] at h; exact h) (by have h := ddb.out; rw [hKB.out] at h; exact h)
    rw [← hE2, ← hK2.out] at q9
    rw [← hE2, ← hK2.out, ← hKA.out, ← hKB.out, ← hKT.out] at q10
    rw [← hE2, ← hKA.out, ← hKB.out, ← hKT.out] at vD
    rw [← hE2, ← hKA.out, ← hKB.out, ← hKT.out] at hsp
    have hwK : IntKind.i64.wrap ((KA : Int) + (KB : Int)) = (KT : Int) := by
      rw [show ((KA : Int) + (KB : Int)) = (KT : Int) from by rw [hKT.out]; push_cast; rfl]
      exact IntWalk.i64_in _ (by omega)
    have hvK : (KA : Int) + (KB : Int) = (KT : Int) := by rw [hKT.out]; push_cast; rfl
    unfold SumC at q9
    unfold OneC at q10
    replace q9 := fun Aa Ra ca ka Ab Rb cb kb W h => Lib.hid ((q9 Aa Ra ca ka Ab Rb cb kb W h).mono fun _ _ hr => resC_in hr)
    replace q10 := fun A R c k W h => Lib.hid (q10 A R c k W h)
    obtain ⟨fu, hfu⟩ : ∃ f, f = ofF KA DA ul := ⟨_, rfl⟩
    obtain ⟨fv, hfv⟩ : ∃ f, f = ofF KB DB vl := ⟨_, rfl⟩
    obtain ⟨n1, hn1⟩ : ∃ n1, n1 = ci (-(eli F.toDesc 1)) := ⟨_, rfl⟩
    have hNg := fun W => neg_field F (mla := mla) va.out.hP va.out.hM Aa ca W
    rw [← hn1] at hNg
    have hAd := fun A1 A2 c1 c2 W g1 g2 g3 => addto_field F va.out.hP va.out.hM va.out.hl m1 h2 fu fv n1 Aa A1 A2 ca c1 c2 W g1 g2 g3
    obtain ⟨fw, hfw⟩ : ∃ f, f = (fun j => fu j + eli F.toDesc n1 * fv j) := ⟨_, rfl⟩
    rw [← hfw] at hAd
    have hJo := fun A1 A2 c1 c2 W g1 g2 => join_rows F m1 N2 hE2 h2 fw fv A1 A2 c1 c2 W g1 g2
    have hspT : spB KT N2 BD (joinF m1 fw fv) = true := by
      refine spB_iff.2 (hsp fu fv _ (by rw [hfu]; exact ofF_span ul) (by rw [hfv]; exact ofF_span vl) (fun j hj => ?_) (fun j _ => ?_))
      · rw [joinF_lo hj, hfw, hn1, eli_ci, eli_one]
        show fu j + -(1 : R F.toDesc) * fv j + fv j = fu j
        rw [neg_mul, one_mul, add_a, neg_add, add_zero]
      · unfold joinF; rw [if_neg (by omega), Nat.add_sub_cancel_left]
    have hHs := fun A10 R10 x10 y10 A1 c1 W g1 g2 g3 => Has12_vc vD (joinF m1 fw fv) A10 R10 A1 x10 y10 c1 W g1 g2 g3
    rw [hspT] at hHs
    have hO1 := fun A1 R1 x1 y1 W g1 g2 g3 => of_vc vda.out ul A1 R1 Au x1 y1 cu W g1 g2 g3 (Nat.le_trans _huc _hul)
    have hO2 := fun A2 R2 x2 y2 W g1 g2 g3 => of_vc vdb.out vl A2 R2 Av x2 y2 cv W g1 g2 g3 (Nat.le_trans _hvc _hvl)
    rw [← hfu] at hO1
    rw [← hfv] at hO2
    replace hNg := fun W => Lib.hid (hNg W)
    replace hAd := fun A1 A2 c1 c2 W g1 g2 g3 => Lib.hid (hAd A1 A2 c1 c2 W g1 g2 g3)
    replace hJo := fun A1 A2 c1 c2 W g1 g2 => Lib.hid (hJo A1 A2 c1 c2 W g1 g2)
    replace hHs := fun A10 R10 x10 y10 A1 c1 W g1 g2 g3 => Lib.hid (hHs A10 R10 x10 y10 A1 c1 W g1 g2 g3)
    replace hO1 := fun A1 R1 x1 y1 W g1 g2 g3 => Lib.hid (hO1 A1 R1 x1 y1 W g1 g2 g3)
    replace hO2 := fun A2 R2 x2 y2 W g1 g2 g3 => Lib.hid (hO2 A2 R2 x2 y2 W g1 g2 g3)
    replace hfu := Lib.hid hfu
    replace hfv := Lib.hid hfv
    replace hfw := Lib.hid hfw
    replace hn1 := Lib.hid hn1
    replace hE2 := Lib.hid hE2
    clear hsp hspT
    obtain ⟨a0, a1, a2, a3, a4, -⟩ := fa8.out
    obtain ⟨c0, c1, c2, c3, c4, -⟩ := fb8.out
    have hq := q9 Aa Ra ca ka Ab Rb cb kb w8 ⟨⟨(hra.below hBw).more hBw.size, (hma.below hBw).more hBw.size⟩, ⟨(hrb.below hBw).more hBw.size, (hmb.below hBw).more hBw.size⟩⟩
    go_wp2_with (fail)
    (with_reducible refine hq.out.mono ?_)
    rintro e w9 ⟨A9, x9, R9, y9, rfl, i9, hb⟩
    clear hq
    clear  a0 a1 a2 a3 a4 c0 c1 c2 c3 c4
    have hbb : Below w9.heap.size w9 (w9.alloc (.cells #[.int .i64 Pa, .int .i64 Ma, .slice A9 mla.length x9, .int .i64 N2, .slice R9 K2 y9] 27)) := (Below.refl _ _).alloc (Nat.le_refl _) _
    have hbc := hb.trans (hbb.mono hb.size)
    have u9 := Lib.hid (Five.new w9 (.int .i64 Pa) (.int .i64 Ma) (.slice A9 mla.length x9) (.int .i64 N2) (.slice R9 K2 y9) 27)
    replace i9 := i9.below hbb
    have hs9 : w9.heap.size < (w9.alloc (.cells #[.int .i64 Pa, .int .i64 Ma, .slice A9 mla.length x9, .int .i64 N2, .slice R9 K2 y9] 27)).heap.size := by simp
    replace u1 := Lib.hid (u1.out.keep hbc (by first | omega | (simp; omega)))
    replace i1 := i1.below hbc
    replace hs1 := Nat.lt_of_lt_of_le hs1 hbc.size
    replace u2 := Lib.hid (u2.out.keep hbc (by first | omega | (simp; omega)))
    replace i2 := i2.below hbc
    replace hs2 := Nat.lt_of_lt_of_le hs2 hbc.size
    replace u3 := Lib.hid (u3.out.keep hbc (by first | omega | (simp; omega)))
    replace i3 := i3.below hbc
    replace hs3 := Nat.lt_of_lt_of_le hs3 hbc.size
    replace u4 := Lib.hid (u4.out.keep hbc (by first | omega | (simp; omega)))
    replace i4 := i4.below hbc
    replace hs4 := Nat.lt_of_lt_of_le hs4 hbc.size
    replace u5 := Lib.hid (u5.out.keep hbc (by first | omega | (simp; omega)))
    replace i5 := i5.below hbc
    replace hs5 := Nat.lt_of_lt_of_le hs5 hbc.size
    have fa9 := Lib.hid (fa8.out.keep hbc (by first | omega | (simp; omega)))
    have fb9 := Lib.hid (fb8.out.keep hbc (by first | omega | (simp; omega)))
    replace hBw := hBw.trans (hbc.mono hBw.size)
    replace hsz : s + 1 < (w9.alloc (.cells #[.int .i64 Pa, .int .i64 Ma, .slice A9 mla.length x9, .int .i64 N2, .slice R9 K2 y9] 27)).heap.size := Nat.lt_of_lt_of_le hsz hbc.size
    clear fa8 fb8
    clear hbb hbc hb
    obtain ⟨a0, a1, a2, a3, a4, -⟩ := fa9.out
    obtain ⟨c0, c1, c2, c3, c4, -⟩ := fb9.out
    obtain ⟨d00, d01, d02, d03, d04, -⟩ := u9.out
    have hq := q10 A9 R9 x9 y9 (w9.alloc (.cells #[.int .i64 Pa, .int .i64 Ma, .slice A9 mla.length x9, .int .i64 N2, .slice R9 K2 y9] 27)) i9.pre
    go_wp2_with (fail)
    (with_reducible refine hq.out.mono ?_)
    rintro e w10 ⟨A10, x10, R10, y10, rfl, i10, hb⟩
    clear hq
    clear  a0 a1 a2 a3 a4 c0 c1 c2 c3 c4
    clear d00 d01 d02 d03 d04
    have hbb : Below w10.heap.size w10 (w10.alloc (.cells #[.int .i64 Pa, .int .i64 Ma, .slice A10 mla.length x10, .int .i64 N2, .slice R10 KT y10] 27)) := (Below.refl _ _).alloc (Nat.le_refl _) _
    have hbc := hb.trans (hbb.mono hb.size)
    have u10 := Lib.hid (Five.new w10 (.int .i64 Pa) (.int .i64 Ma) (.slice A10 mla.length x10) (.int .i64 N2) (.slice R10 KT y10) 27)
    replace i10 := i10.below hbb
    have hs10 : w10.heap.size < (w10.alloc (.cells #[.int .i64 Pa, .int .i64 Ma, .slice A10 mla.length x10, .int .i64 N2, .slice R10 KT y10] 27)).heap.size := by simp
    replace u1 := Lib.hid (u1.out.keep hbc (by first | omega | (simp; omega)))
    replace i1 := i1.below hbc
    replace hs1 := Nat.lt_of_lt_of_le hs1 hbc.size
    replace u2 := Lib.hid (u2.out.keep hbc (by first | omega | (simp; omega)))
    replace i2 := i2.below hbc
    replace hs2 := Nat.lt_of_lt_of_le hs2 hbc.size
    replace u3 := Lib.hid (u3.out.keep hbc (by first | omega | (simp; omega)))
    replace i3 := i3.below hbc
    replace hs3 := Nat.lt_of_lt_of_le hs3 hbc.size
    replace u4 := Lib.hid (u4.out.keep hbc (by first | omega | (simp; omega)))
    replace i4 := i4.below hbc
    replace hs4 := Nat.lt_of_lt_of_le hs4 hbc.size
    replace u5 := Lib.hid (u5.out.keep hbc (by first | omega | (simp; omega)))
    replace i5 := i5.below hbc
    replace hs5 := Nat.lt_of_lt_of_le hs5 hbc.size
    replace u9 := Lib.hid (u9.out.keep hbc (by first | omega | (simp; omega)))
    replace i9 := i9.below hbc
    replace hs9 := Nat.lt_of_lt_of_le hs9 hbc.size
    have fa10 := Lib.hid (fa9.out.keep hbc (by first | omega | (simp; omega)))
    have fb10 := Lib.hid (fb9.out.keep hbc (by first | omega | (simp; omega)))
    replace hBw := hBw.trans (hbc.mono hBw.size)
    replace hsz : s + 1 < (w10.alloc (.cells #[.int .i64 Pa, .int .i64 Ma, .slice A10 mla.length x10, .int .i64 N2, .slice R10 KT y10] 27)).heap.size := Nat.lt_of_lt_of_le hsz hbc.size
    clear fa9 fb9
    clear hbb hbc hb
    obtain ⟨a0, a1, a2, a3, a4, -⟩ := fa10.out
    obtain ⟨c0, c1, c2, c3, c4, -⟩ := fb10.out
    obtain ⟨d00, d01, d02, d03, d04, -⟩ := u10.out
    obtain ⟨d10, d11, d12, d13, d14, -⟩ := u1.out
    obtain ⟨d20, d21, d22, d23, d24, -⟩ := u2.out
    obtain ⟨V, hV⟩ : ∃ V, V = (w10.alloc (.cells #[.int .i64 Pa, .int .i64 Ma, .slice A10 mla.length x10, .int .i64 N2, .slice R10 KT y10] 27)) := ⟨_, rfl⟩
    rw [← hV] at fa10 u1 u2 u10 i1 i2 i10 hBw hs1 hs2 hs10 hsz
    replace hV := Lib.hid hV
    go_wp2_with (fail)
    rw [← hV.out]
    clear  a0 a1 a2 a3 a4 c0 c1 c2 c3 c4
    clear d00 d01 d02 d03 d04
    clear d10 d11 d12 d13 d14
    clear d20 d21 d22 d23 d24
    have vL := fun W (h : Below V.heap.size V W) => Lib.hid (show (W.cell? ⟨w3.heap.size, 0, none⟩ = some (.int .i64 Pa) ∧ W.cell? ⟨w3.heap.size, 1, none⟩ = some (.int .i64 Ma) ∧ W.cell? ⟨w3.heap.size, 2, none⟩ = some (.slice A1 mla.length x1) ∧ W.cell? ⟨w3.heap.size, 3, none⟩ = some (.int .i64 (m1 : Int)) ∧ W.cell? ⟨w3.heap.size, 4, none⟩ = some (.slice R1 KA y1)) ∧ (W.cell? ⟨w4.heap.size, 0, none⟩ = some (.int .i64 Pb) ∧ W.cell? ⟨w4.heap.size, 1, none⟩ = some (.int .i64 Mb) ∧ W.cell? ⟨w4.heap.size, 2, none⟩ = some (.slice A2 mlb.length x2) ∧ W.cell? ⟨w4.heap.size, 3, none⟩ = some (.int .i64 (m1 : Int)) ∧ W.cell? ⟨w4.heap.size, 4, none⟩ = some (.slice R2 KB y2)) from ⟨⟨(u1.out.keep h hs1).1, (u1.out.keep h hs1).2.1, (u1.out.keep h hs1).2.2.1, (u1.out.keep h hs1).2.2.2.1, (u1.out.keep h hs1).2.2.2.2.1⟩, ⟨(u2.out.keep h hs2).1, (u2.out.keep h hs2).2.1, (u2.out.keep h hs2).2.2.1, (u2.out.keep h hs2).2.2.2.1, (u2.out.keep h hs2).2.2.2.2.1⟩⟩)
    have vM := fun W (h : Below V.heap.size V W) => Lib.hid (show (W.cell? ⟨w10.heap.size, 0, none⟩ = some (.int .i64 Pa) ∧ W.cell? ⟨w10.heap.size, 1, none⟩ = some (.int .i64 Ma) ∧ W.cell? ⟨w10.heap.size, 2, none⟩ = some (.slice A10 mla.length x10) ∧ W.cell? ⟨w10.heap.size, 3, none⟩ = some (.int .i64 (N2 : Int)) ∧ W.cell? ⟨w10.heap.size, 4, none⟩ = some (.slice R10 KT y10)) ∧ (W.cell? ⟨s, 0, none⟩ = some (.int .i64 Pa) ∧ W.cell? ⟨s, 1, none⟩ = some (.int .i64 Ma) ∧ W.cell? ⟨s, 2, none⟩ = some (.slice Aa mla.length ca)) from ⟨⟨(u10.out.keep h hs10).1, (u10.out.keep h hs10).2.1, (u10.out.keep h hs10).2.2.1, (u10.out.keep h hs10).2.2.2.1, (u10.out.keep h hs10).2.2.2.2.1⟩, ⟨(fa10.out.keep h (by omega)).1, (fa10.out.keep h (by omega)).2.1, (fa10.out.keep h (by omega)).2.2.1⟩⟩)
    have hrA := (hra.below hBw).more hBw.size
    have hrU := (hru.below hBw).more hBw.size
    have hrW := (hrv.below hBw).more hBw.size
    obtain ⟨hb0, hl0⟩ : Below V.heap.size V V.drew ∧ V.heap.size ≤ V.drew.heap.size := ⟨(Below.refl _ _).drew, Nat.le_refl _⟩
    replace hb0 := Lib.hid hb0
    refine wp_region_held_drew (S := fun w' => (w'.cell? ⟨w3.heap.size, 0, none⟩ = some (.int .i64 Pa) ∧ w'.cell? ⟨w3.heap.size, 1, none⟩ = some (.int .i64 Ma) ∧ w'.cell? ⟨w3.heap.size, 2, none⟩ = some (.slice A1 mla.length x1) ∧ w'.cell? ⟨w3.heap.size, 3, none⟩ = some (.int .i64 (m1 : Int)) ∧ w'.cell? ⟨w3.heap.size, 4, none⟩ = some (.slice R1 KA y1)) ∧ (w'.cell? ⟨w4.heap.size, 0, none⟩ = some (.int .i64 Pb) ∧ w'.cell? ⟨w4.heap.size, 1, none⟩ = some (.int .i64 Mb) ∧ w'.cell? ⟨w4.heap.size, 2, none⟩ = some (.slice A2 mlb.length x2) ∧ w'.cell? ⟨w4.heap.size, 3, none⟩ = some (.int .i64 (m1 : Int)) ∧ w'.cell? ⟨w4.heap.size, 4, none⟩ = some (.slice R2 KB y2))) (by kernel_rfl) (by (try dsimp only); exact (vL _ hb0.out).out) (fun hHeld => ?_)
    revert hb0 hl0 hHeld
    generalize V.drew = wq
    intro hl0 hb0 hHeld
    refine wpAnyH_take (i := 0) (oi := ⟨_, _, _, _, _, _⟩) (v := ?_) rfl (by kernel_rfl) (by kernel_rfl) (by kernel_rfl) (fun _ _ _ h => h) (Or.inl ⟨by rfl, ?_⟩) (by assumption) ?_
    rotate_left
    · intro w hSw; (try dsimp only at hSw); go_simp; try with_reducible rfl
    try simp only [Act.put, List.setIfInBounds_toArray, List.set_cons_zero, List.set_cons_succ]
    refine wpAnyH_take (i := 1) (oi := ⟨_, _, _, _, _, _⟩) (v := ?_) rfl (by kernel_rfl) (by kernel_rfl) (by kernel_rfl) (fun _ _ _ h => h) (Or.inl ⟨by rfl, ?_⟩) (by assumption) ?_
    rotate_left
    · intro w hSw; (try dsimp only at hSw); go_simp; try with_reducible rfl
    try simp only [Act.put, List.setIfInBounds_toArray, List.set_cons_zero, List.set_cons_succ]
    refine wpAnyH_take (i := 3) (oi := ⟨_, _, _, _, _, _⟩) (v := ?_) rfl (by kernel_rfl) (by kernel_rfl) (by kernel_rfl) (fun _ _ _ h => h) (Or.inl ⟨by rfl, ?_⟩) (by assumption) ?_
    rotate_left
    · intro w hSw; (try dsimp only at hSw); go_simp; try with_reducible rfl
    try simp only [Act.put, List.setIfInBounds_toArray, List.set_cons_zero, List.set_cons_succ]
    refine wpAnyH_take (i := 4) (oi := ⟨_, _, _, _, _, _⟩) (v := ?_) rfl (by kernel_rfl) (by kernel_rfl) (by kernel_rfl) (fun _ _ _ h => h) (Or.inl ⟨by rfl, ?_⟩) (by assumption) ?_
    rotate_left
    · intro w hSw; (try dsimp only at hSw); go_simp; try with_reducible rfl
    try simp only [Act.put, List.setIfInBounds_toArray, List.set_cons_zero, List.set_cons_succ]
    refine wpAnyH_ready (rs := [2]) (by kernel_rfl) (by simp) ?_
    refine AllReadyH.cons (o := ⟨_, _, _, _, _, _⟩) rfl (fun K hK => ?_) AllReadyH.nil
    go_simp
    go_at_call 15
    (with_reducible refine (hO1 _ _ _ _ _ ((i1.pre.1.below hb0.out).more hl0) ((i1.pre.2.below hb0.out).more hl0) ((hrU.below hb0.out).more hl0)).out.mono ?_)
    rintro e wq ⟨AX, cX, rfl, hrX, -, -, -, hb⟩
    try replace hrY := (hrY.below hb).more hb.size
    replace hb0 := Lib.hid (hb0.out.trans (hb.mono hl0))
    replace hl0 := Nat.le_trans hl0 hb.size
    go_wp2_with (fail)
    refine hK.out _ _ (by (try dsimp only); exact (vL _ hb0.out).out) (fun hHeld => ?_)
    clear hK K
    try simp only [Act.put, List.setIfInBounds_toArray, List.set_cons_zero, List.set_cons_succ]
    refine wpAnyH_ready (rs := [5]) (by kernel_rfl) (by simp) ?_
    refine AllReadyH.cons (o := ⟨_, _, _, _, _, _⟩) rfl (fun K hK => ?_) AllReadyH.nil
    go_simp
    go_at_call 15
    (with_reducible refine (hO2 _ _ _ _ _ ((i2.pre.1.below hb0.out).more hl0) ((i2.pre.2.below hb0.out).more hl0) ((hrW.below hb0.out).more hl0)).out.mono ?_)
    rintro e wq ⟨AY, cY, rfl, hrY, -, -, -, hb⟩
    try replace hrX := (hrX.below hb).more hb.size
    replace hb0 := Lib.hid (hb0.out.trans (hb.mono hl0))
    replace hl0 := Nat.le_trans hl0 hb.size
    go_wp2_with (fail)
    refine hK.out _ _ (by (try dsimp only); exact (vL _ hb0.out).out) (fun hHeld => ?_)
    clear hK K
    try simp only [Act.put, List.setIfInBounds_toArray, List.set_cons_zero, List.set_cons_succ]
    refine wpAnyH_take (i := 6) (oi := ⟨_, _, _, _, _, _⟩) (v := ?_) rfl (by kernel_rfl) (by kernel_rfl) (by kernel_rfl) (fun _ _ _ h => h) (Or.inl ⟨by rfl, ?_⟩) (by assumption) ?_
    rotate_left
    · intro w hSw; (try dsimp only at hSw); go_simp; try with_reducible rfl
    try simp only [Act.put, List.setIfInBounds_toArray, List.set_cons_zero, List.set_cons_succ]
    refine wpAnyH_take (i := 7) (oi := ⟨_, _, _, _, _, _⟩) (v := ?_) rfl (by kernel_rfl) (by kernel_rfl) (by kernel_rfl) (fun _ _ _ h => h) (Or.inl ⟨by rfl, ?_⟩) (by assumption) ?_
    rotate_left
    · intro w hSw; (try dsimp only at hSw); go_simp; try with_reducible rfl
    try simp only [Act.put, List.setIfInBounds_toArray, List.set_cons_zero, List.set_cons_succ]
    refine wpAnyH_done (by kernel_rfl) ?_ _
    have hb2 := Lib.hid hb0.out.drew
    have hl2 : V.heap.size ≤ wq.drew.heap.size := hl0
    have hrX2 : Rd wq.drew wq.drew.heap.size AX (rowL F.toDesc m1 fu) := hrX
    have hrY2 : Rd wq.drew wq.drew.heap.size AY (rowL F.toDesc m1 fv) := hrY
    obtain ⟨⟨y0, y1, y2, y3, y4⟩, z0, z1, z2⟩ := (vM _ hb0.out).out
    go_wp2_with (fail)
    clear y0 y1 y2 y3 y4 z0 z1 z2
    refine wp_region_held_drew (S := fun w' => (w'.cell? ⟨w10.heap.size, 0, none⟩ = some (.int .i64 Pa) ∧ w'.cell? ⟨w10.heap.size, 1, none⟩ = some (.int .i64 Ma) ∧ w'.cell? ⟨w10.heap.size, 2, none⟩ = some (.slice A10 mla.length x10) ∧ w'.cell? ⟨w10.heap.size, 3, none⟩ = some (.int .i64 (N2 : Int)) ∧ w'.cell? ⟨w10.heap.size, 4, none⟩ = some (.slice R10 KT y10)) ∧ (w'.cell? ⟨s, 0, none⟩ = some (.int .i64 Pa) ∧ w'.cell? ⟨s, 1, none⟩ = some (.int .i64 Ma) ∧ w'.cell? ⟨s, 2, none⟩ = some (.slice Aa mla.length ca))) (by kernel_rfl) (by (try dsimp only); exact (vM _ hb2.out).out) (fun hHeld => ?_)
    revert hb2 hl2 hrX2 hrY2 hHeld
    generalize wq.drew = wz
    intro hb2 hl2 hrX2 hrY2 hHeld
    refine wpAnyH_take (i := 0) (oi := ⟨_, _, _, _, _, _⟩) (v := ?_) rfl (by kernel_rfl) (by kernel_rfl) (by kernel_rfl) (fun _ _ _ h => h) (Or.inl ⟨by rfl, ?_⟩) (by assumption) ?_
    rotate_left
    · intro w hSw; (try dsimp only at hSw); go_simp; try with_reducible rfl
    try simp only [Act.put, List.setIfInBounds_toArray, List.set_cons_zero, List.set_cons_succ]
    refine wpAnyH_take (i := 1) (oi := ⟨_, _, _, _, _, _⟩) (v := ?_) rfl (by kernel_rfl) (by kernel_rfl) (by kernel_rfl) (fun _ _ _ h => h) (Or.inl ⟨by rfl, ?_⟩) (by assumption) ?_
    rotate_left
    · intro w hSw; (try dsimp only at hSw); go_simp; try with_reducible rfl
    try simp only [Act.put, List.setIfInBounds_toArray, List.set_cons_zero, List.set_cons_succ]
    refine wpAnyH_take (i := 2) (oi := ⟨_, _, _, _, _, _⟩) (v := ?_) rfl (by kernel_rfl) (by kernel_rfl) (by kernel_rfl) (fun _ _ _ h => h) (Or.inl ⟨by rfl, ?_⟩) (by assumption) ?_
    rotate_left
    · intro w hSw; (try dsimp only at hSw); go_simp; try with_reducible rfl
    try simp only [Act.put, List.setIfInBounds_toArray, List.set_cons_zero, List.set_cons_succ]
    refine wpAnyH_take (i := 3) (oi := ⟨_, _, _, _, _, _⟩) (v := ?_) rfl (by kernel_rfl) (by kernel_rfl) (by kernel_rfl) (fun _ _ _ h => h) (Or.inl ⟨by rfl, ?_⟩) (by assumption) ?_
    rotate_left
    · intro w hSw; (try dsimp only at hSw); go_simp; try with_reducible rfl
    try simp only [Act.put, List.setIfInBounds_toArray, List.set_cons_zero, List.set_cons_succ]
    refine wpAnyH_take (i := 4) (oi := ⟨_, _, _, _, _, _⟩) (v := ?_) rfl (by kernel_rfl) (by kernel_rfl) (by kernel_rfl) (fun _ _ _ h => h) (Or.inl ⟨by rfl, ?_⟩) (by assumption) ?_
    rotate_left
    · intro w hSw; (try dsimp only at hSw); go_simp; try with_reducible rfl
    try simp only [Act.put, List.setIfInBounds_toArray, List.set_cons_zero, List.set_cons_succ]
    refine wpAnyH_take (i := 5) (oi := ⟨_, _, _, _, _, _⟩) (v := ?_) rfl (by kernel_rfl) (by kernel_rfl) (by kernel_rfl) (fun _ _ _ h => h) (Or.inl ⟨by rfl, ?_⟩) (by assumption) ?_
    rotate_left
    · intro w hSw; (try dsimp only at hSw); go_simp; try with_reducible rfl
    try simp only [Act.put, List.setIfInBounds_toArray, List.set_cons_zero, List.set_cons_succ]
    refine wpAnyH_take (i := 7) (oi := ⟨_, _, _, _, _, _⟩) (v := ?_) rfl (by kernel_rfl) (by kernel_rfl) (by kernel_rfl) (fun _ _ _ h => h) (Or.inl ⟨by rfl, ?_⟩) (by assumption) ?_
    rotate_left
    · intro w hSw; (try dsimp only at hSw); go_simp; try with_reducible rfl
    try simp only [Act.put, List.setIfInBounds_toArray, List.set_cons_zero, List.set_cons_succ]
    refine wpAnyH_take (i := 9) (oi := ⟨_, _, _, _, _, _⟩) (v := ?_) rfl (by kernel_rfl) (by kernel_rfl) (by kernel_rfl) (fun _ _ _ h => h) (Or.inl ⟨by rfl, ?_⟩) (by assumption) ?_
    rotate_left
    · intro w hSw; (try dsimp only at hSw); go_simp; try with_reducible rfl
    try simp only [Act.put, List.setIfInBounds_toArray, List.set_cons_zero, List.set_cons_succ]
    refine wpAnyH_ready (rs := [6]) (by kernel_rfl) (by simp) ?_
    refine AllReadyH.cons (o := ⟨_, _, _, _, _, _⟩) rfl (fun K hK => ?_) AllReadyH.nil
    go_simp
    go_at_call 19
    (with_reducible refine (hNg _).out.mono ?_)
    rintro e wz ⟨rfl, hb⟩
    replace hrX2 := (hrX2.below hb).more hb.size
    replace hrY2 := (hrY2.below hb).more hb.size
    replace hb2 := Lib.hid (hb2.out.trans (hb.mono hl2))
    replace hl2 := Nat.le_trans hl2 hb.size
    go_wp2_with (fail)
    refine hK.out _ _ (by (try dsimp only); exact (vM _ hb2.out).out) (fun hHeld => ?_)
    clear hK K
    try simp only [Act.put, List.setIfInBounds_toArray, List.set_cons_zero, List.set_cons_succ]
    refine wpAnyH_ready (rs := [8]) (by kernel_rfl) (by simp) ?_
    refine AllReadyH.cons (o := ⟨_, _, _, _, _, _⟩) rfl (fun K hK => ?_) AllReadyH.nil
    go_simp
    go_at_call 18
    (with_reducible refine (hAd _ _ _ _ _ ((hrA.below hb2.out).more hl2) hrX2 hrY2).out.mono ?_)
    rintro e wz ⟨AD, cD, rfl, hrD, hb⟩
    replace hrY2 := (hrY2.below hb).more hb.size
    replace hb2 := Lib.hid (hb2.out.trans (hb.mono hl2))
    replace hl2 := Nat.le_trans hl2 hb.size
    go_wp2_with (fail)
    refine hK.out _ _ (by (try dsimp only); exact (vM _ hb2.out).out) (fun hHeld => ?_)
    clear hK K
    try simp only [Act.put, List.setIfInBounds_toArray, List.set_cons_zero, List.set_cons_succ]
    refine wpAnyH_ready (rs := [10]) (by kernel_rfl) (by simp) ?_
    refine AllReadyH.cons (o := ⟨_, _, _, _, _, _⟩) rfl (fun K hK => ?_) AllReadyH.nil
    go_simp
    go_at_call 17
    (with_reducible refine (hJo _ _ _ _ _ hrD hrY2).out.mono ?_)
    rintro e wz ⟨AJ, cJ, rfl, hrJ, hb⟩
    replace hb2 := Lib.hid (hb2.out.trans (hb.mono hl2))
    replace hl2 := Nat.le_trans hl2 hb.size
    go_wp2_with (fail)
    refine hK.out _ _ (by (try dsimp only); exact (vM _ hb2.out).out) (fun hHeld => ?_)
    clear hK K
    try simp only [Act.put, List.setIfInBounds_toArray, List.set_cons_zero, List.set_cons_succ]
    refine wpAnyH_ready (rs := [11]) (by kernel_rfl) (by simp) ?_
    refine AllReadyH.cons (o := ⟨_, _, _, _, _, _⟩) rfl (fun K hK => ?_) AllReadyH.nil
    go_simp
    go_at_call 16
    (with_reducible refine (hHs _ _ _ _ _ _ _ ((i10.pre.1.below hb2.out).more hl2) ((i10.pre.2.below hb2.out).more hl2) hrJ).out.mono ?_)
    rintro e wz ⟨rfl, hb⟩
    replace hb2 := Lib.hid (hb2.out.trans (hb.mono hl2))
    replace hl2 := Nat.le_trans hl2 hb.size
    go_wp2_with (fail)
    refine hK.out _ _ (by (try dsimp only); exact (vM _ hb2.out).out) (fun hHeld => ?_)
    clear hK K
    try simp only [Act.put, List.setIfInBounds_toArray, List.set_cons_zero, List.set_cons_succ]
    refine wpAnyH_take (i := 12) (oi := ⟨_, _, _, _, _, _⟩) (v := ?_) rfl (by kernel_rfl) (by kernel_rfl) (by kernel_rfl) (fun _ _ _ h => h) (Or.inl ⟨by rfl, ?_⟩) (by assumption) ?_
    rotate_left
    · intro w hSw; (try dsimp only at hSw); go_simp; try with_reducible rfl
    try simp only [Act.put, List.setIfInBounds_toArray, List.set_cons_zero, List.set_cons_succ]
    refine wpAnyH_take (i := 13) (oi := ⟨_, _, _, _, _, _⟩) (v := ?_) rfl (by kernel_rfl) (by kernel_rfl) (by kernel_rfl) (fun _ _ _ h => h) (Or.inl ⟨by rfl, ?_⟩) (by assumption) ?_
    rotate_left
    · intro w hSw; (try dsimp only at hSw); go_simp; try with_reducible rfl
    try simp only [Act.put, List.setIfInBounds_toArray, List.set_cons_zero, List.set_cons_succ]
    refine wpAnyH_take (i := 14) (oi := ⟨_, _, _, _, _, _⟩) (v := ?_) rfl (by kernel_rfl) (by kernel_rfl) (by kernel_rfl) (fun _ _ _ h => h) (Or.inl ⟨by rfl, ?_⟩) (by assumption) ?_
    rotate_left
    · intro w hSw; (try dsimp only at hSw); go_simp; try with_reducible rfl
    try simp only [Act.put, List.setIfInBounds_toArray, List.set_cons_zero, List.set_cons_succ]
    refine wpAnyH_take (i := 15) (oi := ⟨_, _, _, _, _, _⟩) (v := ?_) rfl (by kernel_rfl) (by kernel_rfl) (by kernel_rfl) (fun _ _ _ h => h) (Or.inl ⟨by rfl, ?_⟩) (by assumption) ?_
    rotate_left
    · intro w hSw; (try dsimp only at hSw); go_simp; try with_reducible rfl
    try simp only [Act.put, List.setIfInBounds_toArray, List.set_cons_zero, List.set_cons_succ]
    refine wpAnyH_take (i := 16) (oi := ⟨_, _, _, _, _, _⟩) (v := ?_) rfl (by kernel_rfl) (by kernel_rfl) (by kernel_rfl) (fun _ _ _ h => h) (Or.inl ⟨by rfl, ?_⟩) (by assumption) ?_
    rotate_left
    · intro w hSw; (try dsimp only at hSw); go_simp; try with_reducible rfl
    try simp only [Act.put, List.setIfInBounds_toArray, List.set_cons_zero, List.set_cons_succ]
    refine wpAnyH_done (by kernel_rfl) ?_ _
    have hBx := hBw.trans (hb2.out.mono hBw.size)
    go_wp2_with (fail)
    go_ret
    exact ⟨rfl, hBx⟩
  have hx1b : decide (1 ≤ x) = true := decide_eq_true (by omega)
  have hx1c : (1 : Int) ≤ x := by omega
  by_cases hxb : x ≤ 64 / (m1 : Int)
  rotate_left
  · have hx2b : decide (x ≤ 64 / (m1 : Int)) = false := decide_eq_false hxb
    by_cases hmm : m1 = m2
    rotate_left
    · have hmb : ((m1 : Int) != (m2 : Int)) = true := by rw [bne_iff_ne]; omega
      have hmc : ¬ (m1 : Int) = (m2 : Int) := by omega
      obtain ⟨a0, a1, a2, a3, a4, -⟩ := fa8.out
      obtain ⟨c0, c1, c2, c3, c4, -⟩ := fb8.out
      go_wp2_with (fail)
      go_ret
      exact ⟨rfl, hBw⟩
    subst hmm
    have hE2 := hN2.out
    obtain ⟨rp, rd, BD, q9, q10, vD, hsp⟩ := duals_plo va.out vb.out (by rw [← hE2]; exact hN) (by have h := dda.out; rw [hKA.out] at h; exact h) (by have h := ddb.out; rw [hKB.out] at h; exact h)
    rw [← hE2, ← hK2.out] at q9
    rw [← hE2, ← hK2.out, ← hKA.out, ← hKB.out, ← hKT.out] at q10
    rw [← hE2, ← hKA.out, ← hKB.out, ← hKT.out] at vD
    rw [← hE2, ← hKA.out, ← hKB.out, ← hKT.out] at hsp
    have hwK : IntKind.i64.wrap ((KA : Int) + (KB : Int)) = (KT : Int) := by
      rw [show ((KA : Int) + (KB : Int)) = (KT : Int) from by rw [hKT.out]; push_cast; rfl]
      exact IntWalk.i64_in _ (by omega)
    have hvK : (KA : Int) + (KB : Int) = (KT : Int) := by rw [hKT.out]; push_cast; rfl
    unfold SumC at q9
    unfold OneC at q10
    replace q9 := fun Aa Ra ca ka Ab Rb cb kb W h => Lib.hid ((q9 Aa Ra ca ka Ab Rb cb kb W h).mono fun _ _ hr => resC_in hr)
    replace q10 := fun A R c k W h => Lib.hid (q10 A R c k W h)
    obtain ⟨fu, hfu⟩ : ∃ f, f = ofF KA DA ul := ⟨_, rfl⟩
    obtain ⟨fv, hfv⟩ : ∃ f, f = ofF KB DB vl := ⟨_, rfl⟩
    obtain ⟨n1, hn1⟩ : ∃ n1, n1 = ci (-(eli F.toDesc 1)) := ⟨_, rfl⟩
    have hNg := fun W => neg_field F (mla := mla) va.out.hP va.out.hM Aa ca W
    rw [← hn1] at hNg
    have hAd := fun A1 A2 c1 c2 W g1 g2 g3 => addto_field F va.out.hP va.out.hM va.out.hl m1 h2 fu fv n1 Aa A1 A2 ca c1 c2 W g1 g2 g3
    obtain ⟨fw, hfw⟩ : ∃ f, f = (fun j => fu j + eli F.toDesc n1 * fv j) := ⟨_, rfl⟩
    rw [← hfw] at hAd
    have hJo := fun A1 A2 c1 c2 W g1 g2 => join_rows F m1 N2 hE2 h2 fw fv A1 A2 c1 c2 W g1 g2
    have hspT : spB KT N2 BD (joinF m1 fw fv) = true := by
      refine spB_iff.2 (hsp fu fv _ (by rw [hfu]; exact ofF_span ul) (by rw [hfv]; exact ofF_span vl) (fun j hj => ?_) (fun j _ => ?_))
      · rw [joinF_lo hj, hfw, hn1, eli_ci, eli_one]
        show fu j + -(1 : R F.toDesc) * fv j + fv j = fu j
        rw [neg_mul, one_mul, add_a, neg_add, add_zero]
      · unfold joinF; rw [if_neg (by omega), Nat.add_sub_cancel_left]
    have hHs := fun A10 R10 x10 y10 A1 c1 W g1 g2 g3 => Has12_vc vD (joinF m1 fw fv) A10 R10 A1 x10 y10 c1 W g1 g2 g3
    rw [hspT] at hHs
    have hO1 := fun A1 R1 x1 y1 W g1 g2 g3 => of_vc vda.out ul A1 R1 Au x1 y1 cu W g1 g2 g3 (Nat.le_trans _huc _hul)
    have hO2 := fun A2 R2 x2 y2 W g1 g2 g3 => of_vc vdb.out vl A2 R2 Av x2 y2 cv W g1 g2 g3 (Nat.le_trans _hvc _hvl)
    rw [← hfu] at hO1
    rw [← hfv] at hO2
    replace hNg := fun W => Lib.hid (hNg W)
    replace hAd := fun A1 A2 c1 c2 W g1 g2 g3 => Lib.hid (hAd A1 A2 c1 c2 W g1 g2 g3)
    replace hJo := fun A1 A2 c1 c2 W g1 g2 => Lib.hid (hJo A1 A2 c1 c2 W g1 g2)
    replace hHs := fun A10 R10 x10 y10 A1 c1 W g1 g2 g3 => Lib.hid (hHs A10 R10 x10 y10 A1 c1 W g1 g2 g3)
    replace hO1 := fun A1 R1 x1 y1 W g1 g2 g3 => Lib.hid (hO1 A1 R1 x1 y1 W g1 g2 g3)
    replace hO2 := fun A2 R2 x2 y2 W g1 g2 g3 => Lib.hid (hO2 A2 R2 x2 y2 W g1 g2 g3)
    replace hfu := Lib.hid hfu
    replace hfv := Lib.hid hfv
    replace hfw := Lib.hid hfw
    replace hn1 := Lib.hid hn1
    replace hE2 := Lib.hid hE2
    clear hsp hspT
    obtain ⟨a0, a1, a2, a3, a4, -⟩ := fa8.out
    obtain ⟨c0, c1, c2, c3, c4, -⟩ := fb8.out
    have hq := q9 Aa Ra ca ka Ab Rb cb kb w8 ⟨⟨(hra.below hBw).more hBw.size, (hma.below hBw).more hBw.size⟩, ⟨(hrb.below hBw).more hBw.size, (hmb.below hBw).more hBw.size⟩⟩
    go_wp2_with (fail)
    (with_reducible refine hq.out.mono ?_)
    rintro e w9 ⟨A9, x9, R9, y9, rfl, i9, hb⟩
    clear hq
    clear  a0 a1 a2 a3 a4 c0 c1 c2 c3 c4
    have hbb : Below w9.heap.size w9 (w9.alloc (.cells #[.int .i64 Pa, .int .i64 Ma, .slice A9 mla.length x9, .int .i64 N2, .slice R9 K2 y9] 27)) := (Below.refl _ _).alloc (Nat.le_refl _) _
    have hbc := hb.trans (hbb.mono hb.size)
    have u9 := Lib.hid (Five.new w9 (.int .i64 Pa) (.int .i64 Ma) (.slice A9 mla.length x9) (.int .i64 N2) (.slice R9 K2 y9) 27)
    replace i9 := i9.below hbb
    have hs9 : w9.heap.size < (w9.alloc (.cells #[.int .i64 Pa, .int .i64 Ma, .slice A9 mla.length x9, .int .i64 N2, .slice R9 K2 y9] 27)).heap.size := by simp
    replace u1 := Lib.hid (u1.out.keep hbc (by first | omega | (simp; omega)))
    replace i1 := i1.below hbc
    replace hs1 := Nat.lt_of_lt_of_le hs1 hbc.size
    replace u2 := Lib.hid (u2.out.keep hbc (by first | omega | (simp; omega)))
    replace i2 := i2.below hbc
    replace hs2 := Nat.lt_of_lt_of_le hs2 hbc.size
    replace u3 := Lib.hid (u3.out.keep hbc (by first | omega | (simp; omega)))
    replace i3 := i3.below hbc
    replace hs3 := Nat.lt_of_lt_of_le hs3 hbc.size
    replace u4 := Lib.hid (u4.out.keep hbc (by first | omega | (simp; omega)))
    replace i4 := i4.below hbc
    replace hs4 := Nat.lt_of_lt_of_le hs4 hbc.size
    replace u5 := Lib.hid (u5.out.keep hbc (by first | omega | (simp; omega)))
    replace i5 := i5.below hbc
    replace hs5 := Nat.lt_of_lt_of_le hs5 hbc.size
    have fa9 := Lib.hid (fa8.out.keep hbc (by first | omega | (simp; omega)))
    have fb9 := Lib.hid (fb8.out.keep hbc (by first | omega | (simp; omega)))
    replace hBw := hBw.trans (hbc.mono hBw.size)
    replace hsz : s + 1 < (w9.alloc (.cells #[.int .i64 Pa, .int .i64 Ma, .slice A9 mla.length x9, .int .i64 N2, .slice R9 K2 y9] 27)).heap.size := Nat.lt_of_lt_of_le hsz hbc.size
    clear fa8 fb8
    clear hbb hbc hb
    obtain ⟨a0, a1, a2, a3, a4, -⟩ := fa9.out
    obtain ⟨c0, c1, c2, c3, c4, -⟩ := fb9.out
    obtain ⟨d00, d01, d02, d03, d04, -⟩ := u9.out
    have hq := q10 A9 R9 x9 y9 (w9.alloc (.cells #[.int .i64 Pa, .int .i64 Ma, .slice A9 mla.length x9, .int .i64 N2, .slice R9 K2 y9] 27)) i9.pre
    go_wp2_with (fail)
    (with_reducible refine hq.out.mono ?_)
    rintro e w10 ⟨A10, x10, R10, y10, rfl, i10, hb⟩
    clear hq
    clear  a0 a1 a2 a3 a4 c0 c1 c2 c3 c4
    clear d00 d01 d02 d03 d04
    have hbb : Below w10.heap.size w10 (w10.alloc (.cells #[.int .i64 Pa, .int .i64 Ma, .slice A10 mla.length x10, .int .i64 N2, .slice R10 KT y10] 27)) := (Below.refl _ _).alloc (Nat.le_refl _) _
    have hbc := hb.trans (hbb.mono hb.size)
    have u10 := Lib.hid (Five.new w10 (.int .i64 Pa) (.int .i64 Ma) (.slice A10 mla.length x10) (.int .i64 N2) (.slice R10 KT y10) 27)
    replace i10 := i10.below hbb
    have hs10 : w10.heap.size < (w10.alloc (.cells #[.int .i64 Pa, .int .i64 Ma, .slice A10 mla.length x10, .int .i64 N2, .slice R10 KT y10] 27)).heap.size := by simp
    replace u1 := Lib.hid (u1.out.keep hbc (by first | omega | (simp; omega)))
    replace i1 := i1.below hbc
    replace hs1 := Nat.lt_of_lt_of_le hs1 hbc.size
    replace u2 := Lib.hid (u2.out.keep hbc (by first | omega | (simp; omega)))
    replace i2 := i2.below hbc
    replace hs2 := Nat.lt_of_lt_of_le hs2 hbc.size
    replace u3 := Lib.hid (u3.out.keep hbc (by first | omega | (simp; omega)))
    replace i3 := i3.below hbc
    replace hs3 := Nat.lt_of_lt_of_le hs3 hbc.size
    replace u4 := Lib.hid (u4.out.keep hbc (by first | omega | (simp; omega)))
    replace i4 := i4.below hbc
    replace hs4 := Nat.lt_of_lt_of_le hs4 hbc.size
    replace u5 := Lib.hid (u5.out.keep hbc (by first | omega | (simp; omega)))
    replace i5 := i5.below hbc
    replace hs5 := Nat.lt_of_lt_of_le hs5 hbc.size
    replace u9 := Lib.hid (u9.out.keep hbc (by first | omega | (simp; omega)))
    replace i9 := i9.below hbc
    replace hs9 := Nat.lt_of_lt_of_le hs9 hbc.size
    have fa10 := Lib.hid (fa9.out.keep hbc (by first | omega | (simp; omega)))
    have fb10 := Lib.hid (fb9.out.keep hbc (by first | omega | (simp; omega)))
    replace hBw := hBw.trans (hbc.mono hBw.size)
    replace hsz : s + 1 < (w10.alloc (.cells #[.int .i64 Pa, .int .i64 Ma, .slice A10 mla.length x10, .int .i64 N2, .slice R10 KT y10] 27)).heap.size := Nat.lt_of_lt_of_le hsz hbc.size
    clear fa9 fb9
    clear hbb hbc hb
    obtain ⟨a0, a1, a2, a3, a4, -⟩ := fa10.out
    obtain ⟨c0, c1, c2, c3, c4, -⟩ := fb10.out
    obtain ⟨d00, d01, d02, d03, d04, -⟩ := u10.out
    obtain ⟨d10, d11, d12, d13, d14, -⟩ := u1.out
    obtain ⟨d20, d21, d22, d23, d24, -⟩ := u2.out
    obtain ⟨V, hV⟩ : ∃ V, V = (w10.alloc (.cells #[.int .i64 Pa, .int .i64 Ma, .slice A10 mla.length x10, .int .i64 N2, .slice R10 KT y10] 27)) := ⟨_, rfl⟩
    rw [← hV] at fa10 u1 u2 u10 i1 i2 i10 hBw hs1 hs2 hs10 hsz
    replace hV := Lib.hid hV
    go_wp2_with (fail)
    rw [← hV.out]
    clear  a0 a1 a2 a3 a4 c0 c1 c2 c3 c4
    clear d00 d01 d02 d03 d04
    clear d10 d11 d12 d13 d14
    clear d20 d21 d22 d23 d24
    have vL := fun W (h : Below V.heap.size V W) => Lib.hid (show (W.cell? ⟨w3.heap.size, 0, none⟩ = some (.int .i64 Pa) ∧ W.cell? ⟨w3.heap.size, 1, none⟩ = some (.int .i64 Ma) ∧ W.cell? ⟨w3.heap.size, 2, none⟩ = some (.slice A1 mla.length x1) ∧ W.cell? ⟨w3.heap.size, 3, none⟩ = some (.int .i64 (m1 : Int)) ∧ W.cell? ⟨w3.heap.size, 4, none⟩ = some (.slice R1 KA y1)) ∧ (W.cell? ⟨w4.heap.size, 0, none⟩ = some (.int .i64 Pb) ∧ W.cell? ⟨w4.heap.size, 1, none⟩ = some (.int .i64 Mb) ∧ W.cell? ⟨w4.heap.size, 2, none⟩ = some (.slice A2 mlb.length x2) ∧ W.cell? ⟨w4.heap.size, 3, none⟩ = some (.int .i64 (m1 : Int)) ∧ W.cell? ⟨w4.heap.size, 4, none⟩ = some (.slice R2 KB y2)) from ⟨⟨(u1.out.keep h hs1).1, (u1.out.keep h hs1).2.1, (u1.out.keep h hs1).2.2.1, (u1.out.keep h hs1).2.2.2.1, (u1.out.keep h hs1).2.2.2.2.1⟩, ⟨(u2.out.keep h hs2).1, (u2.out.keep h hs2).2.1, (u2.out.keep h hs2).2.2.1, (u2.out.keep h hs2).2.2.2.1, (u2.out.keep h hs2).2.2.2.2.1⟩⟩)
    have vM := fun W (h : Below V.heap.size V W) => Lib.hid (show (W.cell? ⟨w10.heap.size, 0, none⟩ = some (.int .i64 Pa) ∧ W.cell? ⟨w10.heap.size, 1, none⟩ = some (.int .i64 Ma) ∧ W.cell? ⟨w10.heap.size, 2, none⟩ = some (.slice A10 mla.length x10) ∧ W.cell? ⟨w10.heap.size, 3, none⟩ = some (.int .i64 (N2 : Int)) ∧ W.cell? ⟨w10.heap.size, 4, none⟩ = some (.slice R10 KT y10)) ∧ (W.cell? ⟨s, 0, none⟩ = some (.int .i64 Pa) ∧ W.cell? ⟨s, 1, none⟩ = some (.int .i64 Ma) ∧ W.cell? ⟨s, 2, none⟩ = some (.slice Aa mla.length ca)) from ⟨⟨(u10.out.keep h hs10).1, (u10.out.keep h hs10).2.1, (u10.out.keep h hs10).2.2.1, (u10.out.keep h hs10).2.2.2.1, (u10.out.keep h hs10).2.2.2.2.1⟩, ⟨(fa10.out.keep h (by omega)).1, (fa10.out.keep h (by omega)).2.1, (fa10.out.keep h (by omega)).2.2.1⟩⟩)
    have hrA := (hra.below hBw).more hBw.size
    have hrU := (hru.below hBw).more hBw.size
    have hrW := (hrv.below hBw).more hBw.size
    obtain ⟨hb0, hl0⟩ : Below V.heap.size V V.drew ∧ V.heap.size ≤ V.drew.heap.size := ⟨(Below.refl _ _).drew, Nat.le_refl _⟩
    replace hb0 := Lib.hid hb0
    refine wp_region_held_drew (S := fun w' => (w'.cell? ⟨w3.heap.size, 0, none⟩ = some (.int .i64 Pa) ∧ w'.cell? ⟨w3.heap.size, 1, none⟩ = some (.int .i64 Ma) ∧ w'.cell? ⟨w3.heap.size, 2, none⟩ = some (.slice A1 mla.length x1) ∧ w'.cell? ⟨w3.heap.size, 3, none⟩ = some (.int .i64 (m1 : Int)) ∧ w'.cell? ⟨w3.heap.size, 4, none⟩ = some (.slice R1 KA y1)) ∧ (w'.cell? ⟨w4.heap.size, 0, none⟩ = some (.int .i64 Pb) ∧ w'.cell? ⟨w4.heap.size, 1, none⟩ = some (.int .i64 Mb) ∧ w'.cell? ⟨w4.heap.size, 2, none⟩ = some (.slice A2 mlb.length x2) ∧ w'.cell? ⟨w4.heap.size, 3, none⟩ = some (.int .i64 (m1 : Int)) ∧ w'.cell? ⟨w4.heap.size, 4, none⟩ = some (.slice R2 KB y2))) (by kernel_rfl) (by (try dsimp only); exact (vL _ hb0.out).out) (fun hHeld => ?_)
    revert hb0 hl0 hHeld
    generalize V.drew = wq
    intro hl0 hb0 hHeld
    refine wpAnyH_take (i := 0) (oi := ⟨_, _, _, _, _, _⟩) (v := ?_) rfl (by kernel_rfl) (by kernel_rfl) (by kernel_rfl) (fun _ _ _ h => h) (Or.inl ⟨by rfl, ?_⟩) (by assumption) ?_
    rotate_left
    · intro w hSw; (try dsimp only at hSw); go_simp; try with_reducible rfl
    try simp only [Act.put, List.setIfInBounds_toArray, List.set_cons_zero, List.set_cons_succ]
    refine wpAnyH_take (i := 1) (oi := ⟨_, _, _, _, _, _⟩) (v := ?_) rfl (by kernel_rfl) (by kernel_rfl) (by kernel_rfl) (fun _ _ _ h => h) (Or.inl ⟨by rfl, ?_⟩) (by assumption) ?_
    rotate_left
    · intro w hSw; (try dsimp only at hSw); go_simp; try with_reducible rfl
    try simp only [Act.put, List.setIfInBounds_toArray, List.set_cons_zero, List.set_cons_succ]
    refine wpAnyH_take (i := 3) (oi := ⟨_, _, _, _, _, _⟩) (v := ?_) rfl (by kernel_rfl) (by kernel_rfl) (by kernel_rfl) (fun _ _ _ h => h) (Or.inl ⟨by rfl, ?_⟩) (by assumption) ?_
    rotate_left
    · intro w hSw; (try dsimp only at hSw); go_simp; try with_reducible rfl
    try simp only [Act.put, List.setIfInBounds_toArray, List.set_cons_zero, List.set_cons_succ]
    refine wpAnyH_take (i := 4) (oi := ⟨_, _, _, _, _, _⟩) (v := ?_) rfl (by kernel_rfl) (by kernel_rfl) (by kernel_rfl) (fun _ _ _ h => h) (Or.inl ⟨by rfl, ?_⟩) (by assumption) ?_
    rotate_left
    · intro w hSw; (try dsimp only at hSw); go_simp; try with_reducible rfl
    try simp only [Act.put, List.setIfInBounds_toArray, List.set_cons_zero, List.set_cons_succ]
    refine wpAnyH_ready (rs := [2]) (by kernel_rfl) (by simp) ?_
    refine AllReadyH.cons (o := ⟨_, _, _, _, _, _⟩) rfl (fun K hK => ?_) AllReadyH.nil
    go_simp
    go_at_call 15
    (with_reducible refine (hO1 _ _ _ _ _ ((i1.pre.1.below hb0.out).more hl0) ((i1.pre.2.below hb0.out).more hl0) ((hrU.below hb0.out).more hl0)).out.mono ?_)
    rintro e wq ⟨AX, cX, rfl, hrX, -, -, -, hb⟩
    try replace hrY := (hrY.below hb).more hb.size
    replace hb0 := Lib.hid (hb0.out.trans (hb.mono hl0))
    replace hl0 := Nat.le_trans hl0 hb.size
    go_wp2_with (fail)
    refine hK.out _ _ (by (try dsimp only); exact (vL _ hb0.out).out) (fun hHeld => ?_)
    clear hK K
    try simp only [Act.put, List.setIfInBounds_toArray, List.set_cons_zero, List.set_cons_succ]
    refine wpAnyH_ready (rs := [5]) (by kernel_rfl) (by simp) ?_
    refine AllReadyH.cons (o := ⟨_, _, _, _, _, _⟩) rfl (fun K hK => ?_) AllReadyH.nil
    go_simp
    go_at_call 15
    (with_reducible refine (hO2 _ _ _ _ _ ((i2.pre.1.below hb0.out).more hl0) ((i2.pre.2.below hb0.out).more hl0) ((hrW.below hb0.out).more hl0)).out.mono ?_)
    rintro e wq ⟨AY, cY, rfl, hrY, -, -, -, hb⟩
    try replace hrX := (hrX.below hb).more hb.size
    replace hb0 := Lib.hid (hb0.out.trans (hb.mono hl0))
    replace hl0 := Nat.le_trans hl0 hb.size
    go_wp2_with (fail)
    refine hK.out _ _ (by (try dsimp only); exact (vL _ hb0.out).out) (fun hHeld => ?_)
    clear hK K
    try simp only [Act.put, List.setIfInBounds_toArray, List.set_cons_zero, List.set_cons_succ]
    refine wpAnyH_take (i := 6) (oi := ⟨_, _, _, _, _, _⟩) (v := ?_) rfl (by kernel_rfl) (by kernel_rfl) (by kernel_rfl) (fun _ _ _ h => h) (Or.inl ⟨by rfl, ?_⟩) (by assumption) ?_
    rotate_left
    · intro w hSw; (try dsimp only at hSw); go_simp; try with_reducible rfl
    try simp only [Act.put, List.setIfInBounds_toArray, List.set_cons_zero, List.set_cons_succ]
    refine wpAnyH_take (i := 7) (oi := ⟨_, _, _, _, _, _⟩) (v := ?_) rfl (by kernel_rfl) (by kernel_rfl) (by kernel_rfl) (fun _ _ _ h => h) (Or.inl ⟨by rfl, ?_⟩) (by assumption) ?_
    rotate_left
    · intro w hSw; (try dsimp only at hSw); go_simp; try with_reducible rfl
    try simp only [Act.put, List.setIfInBounds_toArray, List.set_cons_zero, List.set_cons_succ]
    refine wpAnyH_done (by kernel_rfl) ?_ _
    have hb2 := Lib.hid hb0.out.drew
    have hl2 : V.heap.size ≤ wq.drew.heap.size := hl0
    have hrX2 : Rd wq.drew wq.drew.heap.size AX (rowL F.toDesc m1 fu) := hrX
    have hrY2 : Rd wq.drew wq.drew.heap.size AY (rowL F.toDesc m1 fv) := hrY
    obtain ⟨⟨y0, y1, y2, y3, y4⟩, z0, z1, z2⟩ := (vM _ hb0.out).out
    go_wp2_with (fail)
    clear y0 y1 y2 y3 y4 z0 z1 z2
    refine wp_region_held_drew (S := fun w' => (w'.cell? ⟨w10.heap.size, 0, none⟩ = some (.int .i64 Pa) ∧ w'.cell? ⟨w10.heap.size, 1, none⟩ = some (.int .i64 Ma) ∧ w'.cell? ⟨w10.heap.size, 2, none⟩ = some (.slice A10 mla.length x10) ∧ w'.cell? ⟨w10.heap.size, 3, none⟩ = some (.int .i64 (N2 : Int)) ∧ w'.cell? ⟨w10.heap.size, 4, none⟩ = some (.slice R10 KT y10)) ∧ (w'.cell? ⟨s, 0, none⟩ = some (.int .i64 Pa) ∧ w'.cell? ⟨s, 1, none⟩ = some (.int .i64 Ma) ∧ w'.cell? ⟨s, 2, none⟩ = some (.slice Aa mla.length ca))) (by kernel_rfl) (by (try dsimp only); exact (vM _ hb2.out).out) (fun hHeld => ?_)
    revert hb2 hl2 hrX2 hrY2 hHeld
    generalize wq.drew = wz
    intro hb2 hl2 hrX2 hrY2 hHeld
    refine wpAnyH_take (i := 0) (oi := ⟨_, _, _, _, _, _⟩) (v := ?_) rfl (by kernel_rfl) (by kernel_rfl) (by kernel_rfl) (fun _ _ _ h => h) (Or.inl ⟨by rfl, ?_⟩) (by assumption) ?_
    rotate_left
    · intro w hSw; (try dsimp only at hSw); go_simp; try with_reducible rfl
    try simp only [Act.put, List.setIfInBounds_toArray, List.set_cons_zero, List.set_cons_succ]
    refine wpAnyH_take (i := 1) (oi := ⟨_, _, _, _, _, _⟩) (v := ?_) rfl (by kernel_rfl) (by kernel_rfl) (by kernel_rfl) (fun _ _ _ h => h) (Or.inl ⟨by rfl, ?_⟩) (by assumption) ?_
    rotate_left
    · intro w hSw; (try dsimp only at hSw); go_simp; try with_reducible rfl
    try simp only [Act.put, List.setIfInBounds_toArray, List.set_cons_zero, List.set_cons_succ]
    refine wpAnyH_take (i := 2) (oi := ⟨_, _, _, _, _, _⟩) (v := ?_) rfl (by kernel_rfl) (by kernel_rfl) (by kernel_rfl) (fun _ _ _ h => h) (Or.inl ⟨by rfl, ?_⟩) (by assumption) ?_
    rotate_left
    · intro w hSw; (try dsimp only at hSw); go_simp; try with_reducible rfl
    try simp only [Act.put, List.setIfInBounds_toArray, List.set_cons_zero, List.set_cons_succ]
    refine wpAnyH_take (i := 3) (oi := ⟨_, _, _, _, _, _⟩) (v := ?_) rfl (by kernel_rfl) (by kernel_rfl) (by kernel_rfl) (fun _ _ _ h => h) (Or.inl ⟨by rfl, ?_⟩) (by assumption) ?_
    rotate_left
    · intro w hSw; (try dsimp only at hSw); go_simp; try with_reducible rfl
    try simp only [Act.put, List.setIfInBounds_toArray, List.set_cons_zero, List.set_cons_succ]
    refine wpAnyH_take (i := 4) (oi := ⟨_, _, _, _, _, _⟩) (v := ?_) rfl (by kernel_rfl) (by kernel_rfl) (by kernel_rfl) (fun _ _ _ h => h) (Or.inl ⟨by rfl, ?_⟩) (by assumption) ?_
    rotate_left
    · intro w hSw; (try dsimp only at hSw); go_simp; try with_reducible rfl
    try simp only [Act.put, List.setIfInBounds_toArray, List.set_cons_zero, List.set_cons_succ]
    refine wpAnyH_take (i := 5) (oi := ⟨_, _, _, _, _, _⟩) (v := ?_) rfl (by kernel_rfl) (by kernel_rfl) (by kernel_rfl) (fun _ _ _ h => h) (Or.inl ⟨by rfl, ?_⟩) (by assumption) ?_
    rotate_left
    · intro w hSw; (try dsimp only at hSw); go_simp; try with_reducible rfl
    try simp only [Act.put, List.setIfInBounds_toArray, List.set_cons_zero, List.set_cons_succ]
    refine wpAnyH_take (i := 7) (oi := ⟨_, _, _, _, _, _⟩) (v := ?_) rfl (by kernel_rfl) (by kernel_rfl) (by kernel_rfl) (fun _ _ _ h => h) (Or.inl ⟨by rfl, ?_⟩) (by assumption) ?_
    rotate_left
    · intro w hSw; (try dsimp only at hSw); go_simp; try with_reducible rfl
    try simp only [Act.put, List.setIfInBounds_toArray, List.set_cons_zero, List.set_cons_succ]
    refine wpAnyH_take (i := 9) (oi := ⟨_, _, _, _, _, _⟩) (v := ?_) rfl (by kernel_rfl) (by kernel_rfl) (by kernel_rfl) (fun _ _ _ h => h) (Or.inl ⟨by rfl, ?_⟩) (by assumption) ?_
    rotate_left
    · intro w hSw; (try dsimp only at hSw); go_simp; try with_reducible rfl
    try simp only [Act.put, List.setIfInBounds_toArray, List.set_cons_zero, List.set_cons_succ]
    refine wpAnyH_ready (rs := [6]) (by kernel_rfl) (by simp) ?_
    refine AllReadyH.cons (o := ⟨_, _, _, _, _, _⟩) rfl (fun K hK => ?_) AllReadyH.nil
    go_simp
    go_at_call 19
    (with_reducible refine (hNg _).out.mono ?_)
    rintro e wz ⟨rfl, hb⟩
    replace hrX2 := (hrX2.below hb).more hb.size
    replace hrY2 := (hrY2.below hb).more hb.size
    replace hb2 := Lib.hid (hb2.out.trans (hb.mono hl2))
    replace hl2 := Nat.le_trans hl2 hb.size
    go_wp2_with (fail)
    refine hK.out _ _ (by (try dsimp only); exact (vM _ hb2.out).out) (fun hHeld => ?_)
    clear hK K
    try simp only [Act.put, List.setIfInBounds_toArray, List.set_cons_zero, List.set_cons_succ]
    refine wpAnyH_ready (rs := [8]) (by kernel_rfl) (by simp) ?_
    refine AllReadyH.cons (o := ⟨_, _, _, _, _, _⟩) rfl (fun K hK => ?_) AllReadyH.nil
    go_simp
    go_at_call 18
    (with_reducible refine (hAd _ _ _ _ _ ((hrA.below hb2.out).more hl2) hrX2 hrY2).out.mono ?_)
    rintro e wz ⟨AD, cD, rfl, hrD, hb⟩
    replace hrY2 := (hrY2.below hb).more hb.size
    replace hb2 := Lib.hid (hb2.out.trans (hb.mono hl2))
    replace hl2 := Nat.le_trans hl2 hb.size
    go_wp2_with (fail)
    refine hK.out _ _ (by (try dsimp only); exact (vM _ hb2.out).out) (fun hHeld => ?_)
    clear hK K
    try simp only [Act.put, List.setIfInBounds_toArray, List.set_cons_zero, List.set_cons_succ]
    refine wpAnyH_ready (rs := [10]) (by kernel_rfl) (by simp) ?_
    refine AllReadyH.cons (o := ⟨_, _, _, _, _, _⟩) rfl (fun K hK => ?_) AllReadyH.nil
    go_simp
    go_at_call 17
    (with_reducible refine (hJo _ _ _ _ _ hrD hrY2).out.mono ?_)
    rintro e wz ⟨AJ, cJ, rfl, hrJ, hb⟩
    replace hb2 := Lib.hid (hb2.out.trans (hb.mono hl2))
    replace hl2 := Nat.le_trans hl2 hb.size
    go_wp2_with (fail)
    refine hK.out _ _ (by (try dsimp only); exact (vM _ hb2.out).out) (fun hHeld => ?_)
    clear hK K
    try simp only [Act.put, List.setIfInBounds_toArray, List.set_cons_zero, List.set_cons_succ]
    refine wpAnyH_ready (rs := [11]) (by kernel_rfl) (by simp) ?_
    refine AllReadyH.cons (o := ⟨_, _, _, _, _, _⟩) rfl (fun K hK => ?_) AllReadyH.nil
    go_simp
    go_at_call 16
    (with_reducible refine (hHs _ _ _ _ _ _ _ ((i10.pre.1.below hb2.out).more hl2) ((i10.pre.2.below hb2.out).more hl2) hrJ).out.mono ?_)
    rintro e wz ⟨rfl, hb⟩
    replace hb2 := Lib.hid (hb2.out.trans (hb.mono hl2))
    replace hl2 := Nat.le_trans hl2 hb.size
    go_wp2_with (fail)
    refine hK.out _ _ (by (try dsimp only); exact (vM _ hb2.out).out) (fun hHeld => ?_)
    clear hK K
    try simp only [Act.put, List.setIfInBounds_toArray, List.set_cons_zero, List.set_cons_succ]
    refine wpAnyH_take (i := 12) (oi := ⟨_, _, _, _, _, _⟩) (v := ?_) rfl (by kernel_rfl) (by kernel_rfl) (by kernel_rfl) (fun _ _ _ h => h) (Or.inl ⟨by rfl, ?_⟩) (by assumption) ?_
    rotate_left
    · intro w hSw; (try dsimp only at hSw); go_simp; try with_reducible rfl
    try simp only [Act.put, List.setIfInBounds_toArray, List.set_cons_zero, List.set_cons_succ]
    refine wpAnyH_take (i := 13) (oi := ⟨_, _, _, _, _, _⟩) (v := ?_) rfl (by kernel_rfl) (by kernel_rfl) (by kernel_rfl) (fun _ _ _ h => h) (Or.inl ⟨by rfl, ?_⟩) (by assumption) ?_
    rotate_left
    · intro w hSw; (try dsimp only at hSw); go_simp; try with_reducible rfl
    try simp only [Act.put, List.setIfInBounds_toArray, List.set_cons_zero, List.set_cons_succ]
    refine wpAnyH_take (i := 14) (oi := ⟨_, _, _, _, _, _⟩) (v := ?_) rfl (by kernel_rfl) (by kernel_rfl) (by kernel_rfl) (fun _ _ _ h => h) (Or.inl ⟨by rfl, ?_⟩) (by assumption) ?_
    rotate_left
    · intro w hSw; (try dsimp only at hSw); go_simp; try with_reducible rfl
    try simp only [Act.put, List.setIfInBounds_toArray, List.set_cons_zero, List.set_cons_succ]
    refine wpAnyH_take (i := 15) (oi := ⟨_, _, _, _, _, _⟩) (v := ?_) rfl (by kernel_rfl) (by kernel_rfl) (by kernel_rfl) (fun _ _ _ h => h) (Or.inl ⟨by rfl, ?_⟩) (by assumption) ?_
    rotate_left
    · intro w hSw; (try dsimp only at hSw); go_simp; try with_reducible rfl
    try simp only [Act.put, List.setIfInBounds_toArray, List.set_cons_zero, List.set_cons_succ]
    refine wpAnyH_take (i := 16) (oi := ⟨_, _, _, _, _, _⟩) (v := ?_) rfl (by kernel_rfl) (by kernel_rfl) (by kernel_rfl) (fun _ _ _ h => h) (Or.inl ⟨by rfl, ?_⟩) (by assumption) ?_
    rotate_left
    · intro w hSw; (try dsimp only at hSw); go_simp; try with_reducible rfl
    try simp only [Act.put, List.setIfInBounds_toArray, List.set_cons_zero, List.set_cons_succ]
    refine wpAnyH_done (by kernel_rfl) ?_ _
    have hBx := hBw.trans (hb2.out.mono hBw.size)
    go_wp2_with (fail)
    go_ret
    exact ⟨rfl, hBx⟩
  obtain ⟨d, rfl⟩ : ∃ d : Nat, x = d := ⟨x.toNat, by omega⟩
  have hx2b : decide ((d : Int) ≤ 64 / (m1 : Int)) = true := decide_eq_true hxb
  have hd : d ≤ 64 / m1 := by
    have h4' : ((64 / m1 : Nat) : Int) = (64 : Int) / (m1 : Int) := Int.natCast_ediv 64 m1
    omega
  have hmd : m1 * d ≤ 64 := by rw [Nat.mul_comm]; exact (Nat.le_div_iff_mul_le (by omega)).1 hd
  obtain ⟨rc, re, q6, q7, q8, hrl2⟩ := duals_iv va.out (by have h := vda.out; rw [hKA.out] at h; exact h) (by have h := dda.out; rw [hKA.out] at h; exact h) (show 1 ≤ d by omega) hmd
  rw [← hKA.out] at q7 q8 hrl2
  obtain ⟨ND, hND⟩ : ∃ ND, ND = m1 * d := ⟨_, rfl⟩
  obtain ⟨KC, hKC⟩ : ∃ KC, KC = na * d := ⟨_, rfl⟩
  obtain ⟨KE, hKE⟩ : ∃ KE, KE = KA * d := ⟨_, rfl⟩
  rw [← hND, ← hKC] at q6
  rw [← hND, ← hKE] at q7
  rw [← hND, ← hKC, ← hKE] at q8
  rw [← hKE] at hrl2
  have hKE6 : KE ≤ 64 := by
    rw [hKE]
    exact Nat.le_trans (Nat.mul_le_mul_right d (show KA ≤ m1 by have := hKA.out; omega)) hmd
  unfold IntC at q6 q7
  unfold OneC at q8
  replace q6 := fun A R c k W h => Lib.hid (q6 A R c k W h)
  replace q7 := fun A R c k W h => Lib.hid (q7 A R c k W h)
  replace q8 := fun A R c k W h => Lib.hid (q8 A R c k W h)
  replace hrl2 := Lib.hid hrl2
  replace hND := Lib.hid hND
  replace hKC := Lib.hid hKC
  replace hKE := Lib.hid hKE
  replace hd := Lib.hid hd
  replace hmd := Lib.hid hmd
  obtain ⟨a0, a1, a2, a3, a4, -⟩ := fa8.out
  obtain ⟨c0, c1, c2, c3, c4, -⟩ := fb8.out
  have hq := q6 Aa Ra ca ka w8 ⟨(hra.below hBw).more hBw.size, (hma.below hBw).more hBw.size⟩
  go_wp2_with (fail)
  (with_reducible refine hq.out.mono ?_)
  rintro e w9 ⟨A6, x6, R6, y6, rfl, i6, hb⟩
  clear hq
  clear  a0 a1 a2 a3 a4 c0 c1 c2 c3 c4
  have hbb : Below w9.heap.size w9 (w9.alloc (.cells #[.int .i64 Pa, .int .i64 Ma, .slice A6 mla.length x6, .int .i64 ND, .slice R6 KC y6] 27)) := (Below.refl _ _).alloc (Nat.le_refl _) _
  have hbc := hb.trans (hbb.mono hb.size)
  have u6 := Lib.hid (Five.new w9 (.int .i64 Pa) (.int .i64 Ma) (.slice A6 mla.length x6) (.int .i64 ND) (.slice R6 KC y6) 27)
  replace i6 := i6.below hbb
  have hs6 : w9.heap.size < (w9.alloc (.cells #[.int .i64 Pa, .int .i64 Ma, .slice A6 mla.length x6, .int .i64 ND, .slice R6 KC y6] 27)).heap.size := by simp
  replace u1 := Lib.hid (u1.out.keep hbc (by first | omega | (simp; omega)))
  replace i1 := i1.below hbc
  replace hs1 := Nat.lt_of_lt_of_le hs1 hbc.size
  replace u2 := Lib.hid (u2.out.keep hbc (by first | omega | (simp; omega)))
  replace i2 := i2.below hbc
  replace hs2 := Nat.lt_of_lt_of_le hs2 hbc.size
  replace u3 := Lib.hid (u3.out.keep hbc (by first | omega | (simp; omega)))
  replace i3 := i3.below hbc
  replace hs3 := Nat.lt_of_lt_of_le hs3 hbc.size
  replace u4 := Lib.hid (u4.out.keep hbc (by first | omega | (simp; omega)))
  replace i4 := i4.below hbc
  replace hs4 := Nat.lt_of_lt_of_le hs4 hbc.size
  replace u5 := Lib.hid (u5.out.keep hbc (by first | omega | (simp; omega)))
  replace i5 := i5.below hbc
  replace hs5 := Nat.lt_of_lt_of_le hs5 hbc.size
  have fa9 := Lib.hid (fa8.out.keep hbc (by first | omega | (simp; omega)))
  have fb9 := Lib.hid (fb8.out.keep hbc (by first | omega | (simp; omega)))
  replace hBw := hBw.trans (hbc.mono hBw.size)
  replace hsz : s + 1 < (w9.alloc (.cells #[.int .i64 Pa, .int .i64 Ma, .slice A6 mla.length x6, .int .i64 ND, .slice R6 KC y6] 27)).heap.size := Nat.lt_of_lt_of_le hsz hbc.size
  clear fa8 fb8
  clear hbb hbc hb
  obtain ⟨a0, a1, a2, a3, a4, -⟩ := fa9.out
  obtain ⟨c0, c1, c2, c3, c4, -⟩ := fb9.out
  obtain ⟨d00, d01, d02, d03, d04, -⟩ := u1.out
  have hq := q7 A1 R1 x1 y1 (w9.alloc (.cells #[.int .i64 Pa, .int .i64 Ma, .slice A6 mla.length x6, .int .i64 ND, .slice R6 KC y6] 27)) i1.pre
  go_wp2_with (fail)
  (with_reducible refine hq.out.mono ?_)
  rintro e w10 ⟨A7, x7, R7, y7, rfl, i7, hb⟩
  clear hq
  clear  a0 a1 a2 a3 a4 c0 c1 c2 c3 c4
  clear d00 d01 d02 d03 d04
  have hbb : Below w10.heap.size w10 (w10.alloc (.cells #[.int .i64 Pa, .int .i64 Ma, .slice A7 mla.length x7, .int .i64 ND, .slice R7 KE y7] 27)) := (Below.refl _ _).alloc (Nat.le_refl _) _
  have hbc := hb.trans (hbb.mono hb.size)
  have u7 := Lib.hid (Five.new w10 (.int .i64 Pa) (.int .i64 Ma) (.slice A7 mla.length x7) (.int .i64 ND) (.slice R7 KE y7) 27)
  replace i7 := i7.below hbb
  have hs7 : w10.heap.size < (w10.alloc (.cells #[.int .i64 Pa, .int .i64 Ma, .slice A7 mla.length x7, .int .i64 ND, .slice R7 KE y7] 27)).heap.size := by simp
  replace u1 := Lib.hid (u1.out.keep hbc (by first | omega | (simp; omega)))
  replace i1 := i1.below hbc
  replace hs1 := Nat.lt_of_lt_of_le hs1 hbc.size
  replace u2 := Lib.hid (u2.out.keep hbc (by first | omega | (simp; omega)))
  replace i2 := i2.below hbc
  replace hs2 := Nat.lt_of_lt_of_le hs2 hbc.size
  replace u3 := Lib.hid (u3.out.keep hbc (by first | omega | (simp; omega)))
  replace i3 := i3.below hbc
  replace hs3 := Nat.lt_of_lt_of_le hs3 hbc.size
  replace u4 := Lib.hid (u4.out.keep hbc (by first | omega | (simp; omega)))
  replace i4 := i4.below hbc
  replace hs4 := Nat.lt_of_lt_of_le hs4 hbc.size
  replace u5 := Lib.hid (u5.out.keep hbc (by first | omega | (simp; omega)))
  replace i5 := i5.below hbc
  replace hs5 := Nat.lt_of_lt_of_le hs5 hbc.size
  replace u6 := Lib.hid (u6.out.keep hbc (by first | omega | (simp; omega)))
  replace i6 := i6.below hbc
  replace hs6 := Nat.lt_of_lt_of_le hs6 hbc.size
  have fa10 := Lib.hid (fa9.out.keep hbc (by first | omega | (simp; omega)))
  have fb10 := Lib.hid (fb9.out.keep hbc (by first | omega | (simp; omega)))
  replace hBw := hBw.trans (hbc.mono hBw.size)
  replace hsz : s + 1 < (w10.alloc (.cells #[.int .i64 Pa, .int .i64 Ma, .slice A7 mla.length x7, .int .i64 ND, .slice R7 KE y7] 27)).heap.size := Nat.lt_of_lt_of_le hsz hbc.size
  clear fa9 fb9
  clear hbb hbc hb
  obtain ⟨a0, a1, a2, a3, a4, -⟩ := fa10.out
  obtain ⟨c0, c1, c2, c3, c4, -⟩ := fb10.out
  obtain ⟨d00, d01, d02, d03, d04, -⟩ := u6.out
  have hq := q8 A6 R6 x6 y6 (w10.alloc (.cells #[.int .i64 Pa, .int .i64 Ma, .slice A7 mla.length x7, .int .i64 ND, .slice R7 KE y7] 27)) i6.pre
  go_wp2_with (fail)
  (with_reducible refine hq.out.mono ?_)
  rintro e w11 ⟨A8, x8, R8, y8, rfl, i8, hb⟩
  clear hq
  clear  a0 a1 a2 a3 a4 c0 c1 c2 c3 c4
  clear d00 d01 d02 d03 d04
  have hbb : Below w11.heap.size w11 (w11.alloc (.cells #[.int .i64 Pa, .int .i64 Ma, .slice A8 mla.length x8, .int .i64 ND, .slice R8 KE y8] 27)) := (Below.refl _ _).alloc (Nat.le_refl _) _
  have hbc := hb.trans (hbb.mono hb.size)
  have u8 := Lib.hid (Five.new w11 (.int .i64 Pa) (.int .i64 Ma) (.slice A8 mla.length x8) (.int .i64 ND) (.slice R8 KE y8) 27)
  replace i8 := i8.below hbb
  have hs8 : w11.heap.size < (w11.alloc (.cells #[.int .i64 Pa, .int .i64 Ma, .slice A8 mla.length x8, .int .i64 ND, .slice R8 KE y8] 27)).heap.size := by simp
  replace u1 := Lib.hid (u1.out.keep hbc (by first | omega | (simp; omega)))
  replace i1 := i1.below hbc
  replace hs1 := Nat.lt_of_lt_of_le hs1 hbc.size
  replace u2 := Lib.hid (u2.out.keep hbc (by first | omega | (simp; omega)))
  replace i2 := i2.below hbc
  replace hs2 := Nat.lt_of_lt_of_le hs2 hbc.size
  replace u3 := Lib.hid (u3.out.keep hbc (by first | omega | (simp; omega)))
  replace i3 := i3.below hbc
  replace hs3 := Nat.lt_of_lt_of_le hs3 hbc.size
  replace u4 := Lib.hid (u4.out.keep hbc (by first | omega | (simp; omega)))
  replace i4 := i4.below hbc
  replace hs4 := Nat.lt_of_lt_of_le hs4 hbc.size
  replace u5 := Lib.hid (u5.out.keep hbc (by first | omega | (simp; omega)))
  replace i5 := i5.below hbc
  replace hs5 := Nat.lt_of_lt_of_le hs5 hbc.size
  replace u6 := Lib.hid (u6.out.keep hbc (by first | omega | (simp; omega)))
  replace i6 := i6.below hbc
  replace hs6 := Nat.lt_of_lt_of_le hs6 hbc.size
  replace u7 := Lib.hid (u7.out.keep hbc (by first | omega | (simp; omega)))
  replace i7 := i7.below hbc
  replace hs7 := Nat.lt_of_lt_of_le hs7 hbc.size
  have fa11 := Lib.hid (fa10.out.keep hbc (by first | omega | (simp; omega)))
  have fb11 := Lib.hid (fb10.out.keep hbc (by first | omega | (simp; omega)))
  replace hBw := hBw.trans (hbc.mono hBw.size)
  replace hsz : s + 1 < (w11.alloc (.cells #[.int .i64 Pa, .int .i64 Ma, .slice A8 mla.length x8, .int .i64 ND, .slice R8 KE y8] 27)).heap.size := Nat.lt_of_lt_of_le hsz hbc.size
  clear fa10 fb10
  clear hbb hbc hb
  obtain ⟨a0, a1, a2, a3, a4, -⟩ := fa11.out
  obtain ⟨c0, c1, c2, c3, c4, -⟩ := fb11.out
  obtain ⟨d00, d01, d02, d03, d04, -⟩ := u8.out
  obtain ⟨d10, d11, d12, d13, d14, -⟩ := u7.out
  have hq := hSm Pa Ma ND mla KE re A8 A7 R8 R7 x8 x7 y8 y7 (w11.alloc (.cells #[.int .i64 Pa, .int .i64 Ma, .slice A8 mla.length x8, .int .i64 ND, .slice R8 KE y8] 27)) i8.pre.1 i7.pre.1 hla i8.pre.2 i7.pre.2 (by omega) (fun i hi => Nat.le_trans (hrl2.out i hi) (by omega))
  go_wp2_with (fail)
  (with_reducible refine hq.out.mono ?_)
  rintro e w12 ⟨rfl, hb⟩
  clear hq
  clear  a0 a1 a2 a3 a4 c0 c1 c2 c3 c4
  clear d00 d01 d02 d03 d04
  clear d10 d11 d12 d13 d14
  replace u1 := Lib.hid (u1.out.keep hb (by first | omega | (simp; omega)))
  replace i1 := i1.below hb
  replace hs1 := Nat.lt_of_lt_of_le hs1 hb.size
  replace u2 := Lib.hid (u2.out.keep hb (by first | omega | (simp; omega)))
  replace i2 := i2.below hb
  replace hs2 := Nat.lt_of_lt_of_le hs2 hb.size
  replace u3 := Lib.hid (u3.out.keep hb (by first | omega | (simp; omega)))
  replace i3 := i3.below hb
  replace hs3 := Nat.lt_of_lt_of_le hs3 hb.size
  replace u4 := Lib.hid (u4.out.keep hb (by first | omega | (simp; omega)))
  replace i4 := i4.below hb
  replace hs4 := Nat.lt_of_lt_of_le hs4 hb.size
  replace u5 := Lib.hid (u5.out.keep hb (by first | omega | (simp; omega)))
  replace i5 := i5.below hb
  replace hs5 := Nat.lt_of_lt_of_le hs5 hb.size
  replace u6 := Lib.hid (u6.out.keep hb (by first | omega | (simp; omega)))
  replace i6 := i6.below hb
  replace hs6 := Nat.lt_of_lt_of_le hs6 hb.size
  replace u7 := Lib.hid (u7.out.keep hb (by first | omega | (simp; omega)))
  replace i7 := i7.below hb
  replace hs7 := Nat.lt_of_lt_of_le hs7 hb.size
  replace u8 := Lib.hid (u8.out.keep hb (by first | omega | (simp; omega)))
  replace i8 := i8.below hb
  replace hs8 := Nat.lt_of_lt_of_le hs8 hb.size
  have fa12 := Lib.hid (fa11.out.keep hb (by first | omega | (simp; omega)))
  have fb12 := Lib.hid (fb11.out.keep hb (by first | omega | (simp; omega)))
  replace hBw := hBw.trans (hb.mono hBw.size)
  replace hsz : s + 1 < w12.heap.size := Nat.lt_of_lt_of_le hsz hb.size
  clear fa11 fb11
  clear hb q6 q7 q8
  by_cases hmm : m1 = m2
  rotate_left
  · have hmb : ((m1 : Int) != (m2 : Int)) = true := by rw [bne_iff_ne]; omega
    have hmc : ¬ (m1 : Int) = (m2 : Int) := by omega
    obtain ⟨a0, a1, a2, a3, a4, -⟩ := fa12.out
    obtain ⟨c0, c1, c2, c3, c4, -⟩ := fb12.out
    go_wp2_with (fail)
    go_ret
    exact ⟨rfl, hBw⟩
  subst hmm
  have hE2 := hN2.out
  obtain ⟨rp, rd, BD, q9, q10, vD, hsp⟩ := duals_plo va.out vb.out (by rw [← hE2]; exact hN) (by have h := dda.out; rw [hKA.out] at h; exact h) (by have h := ddb.out; rw [hKB.out] at h; exact h)
  rw [← hE2, ← hK2.out] at q9
  rw [← hE2, ← hK2.out, ← hKA.out, ← hKB.out, ← hKT.out] at q10
  rw [← hE2, ← hKA.out, ← hKB.out, ← hKT.out] at vD
  rw [← hE2, ← hKA.out, ← hKB.out, ← hKT.out] at hsp
  have hwK : IntKind.i64.wrap ((KA : Int) + (KB : Int)) = (KT : Int) := by
    rw [show ((KA : Int) + (KB : Int)) = (KT : Int) from by rw [hKT.out]; push_cast; rfl]
    exact IntWalk.i64_in _ (by omega)
  have hvK : (KA : Int) + (KB : Int) = (KT : Int) := by rw [hKT.out]; push_cast; rfl
  unfold SumC at q9
  unfold OneC at q10
  replace q9 := fun Aa Ra ca ka Ab Rb cb kb W h => Lib.hid ((q9 Aa Ra ca ka Ab Rb cb kb W h).mono fun _ _ hr => resC_in hr)
  replace q10 := fun A R c k W h => Lib.hid (q10 A R c k W h)
  obtain ⟨fu, hfu⟩ : ∃ f, f = ofF KA DA ul := ⟨_, rfl⟩
  obtain ⟨fv, hfv⟩ : ∃ f, f = ofF KB DB vl := ⟨_, rfl⟩
  obtain ⟨n1, hn1⟩ : ∃ n1, n1 = ci (-(eli F.toDesc 1)) := ⟨_, rfl⟩
  have hNg := fun W => neg_field F (mla := mla) va.out.hP va.out.hM Aa ca W
  rw [← hn1] at hNg
  have hAd := fun A1 A2 c1 c2 W g1 g2 g3 => addto_field F va.out.hP va.out.hM va.out.hl m1 h2 fu fv n1 Aa A1 A2 ca c1 c2 W g1 g2 g3
  obtain ⟨fw, hfw⟩ : ∃ f, f = (fun j => fu j + eli F.toDesc n1 * fv j) := ⟨_, rfl⟩
  rw [← hfw] at hAd
  have hJo := fun A1 A2 c1 c2 W g1 g2 => join_rows F m1 N2 hE2 h2 fw fv A1 A2 c1 c2 W g1 g2
  have hspT : spB KT N2 BD (joinF m1 fw fv) = true := by
    refine spB_iff.2 (hsp fu fv _ (by rw [hfu]; exact ofF_span ul) (by rw [hfv]; exact ofF_span vl) (fun j hj => ?_) (fun j _ => ?_))
    · rw [joinF_lo hj, hfw, hn1, eli_ci, eli_one]
      show fu j + -(1 : R F.toDesc) * fv j + fv j = fu j
      rw [neg_mul, one_mul, add_a, neg_add, add_zero]
    · unfold joinF; rw [if_neg (by omega), Nat.add_sub_cancel_left]
  have hHs := fun A10 R10 x10 y10 A1 c1 W g1 g2 g3 => Has12_vc vD (joinF m1 fw fv) A10 R10 A1 x10 y10 c1 W g1 g2 g3
  rw [hspT] at hHs
  have hO1 := fun A1 R1 x1 y1 W g1 g2 g3 => of_vc vda.out ul A1 R1 Au x1 y1 cu W g1 g2 g3 (Nat.le_trans _huc _hul)
  have hO2 := fun A2 R2 x2 y2 W g1 g2 g3 => of_vc vdb.out vl A2 R2 Av x2 y2 cv W g1 g2 g3 (Nat.le_trans _hvc _hvl)
  rw [← hfu] at hO1
  rw [← hfv] at hO2
  replace hNg := fun W => Lib.hid (hNg W)
  replace hAd := fun A1 A2 c1 c2 W g1 g2 g3 => Lib.hid (hAd A1 A2 c1 c2 W g1 g2 g3)
  replace hJo := fun A1 A2 c1 c2 W g1 g2 => Lib.hid (hJo A1 A2 c1 c2 W g1 g2)
  replace hHs := fun A10 R10 x10 y10 A1 c1 W g1 g2 g3 => Lib.hid (hHs A10 R10 x10 y10 A1 c1 W g1 g2 g3)
  replace hO1 := fun A1 R1 x1 y1 W g1 g2 g3 => Lib.hid (hO1 A1 R1 x1 y1 W g1 g2 g3)
  replace hO2 := fun A2 R2 x2 y2 W g1 g2 g3 => Lib.hid (hO2 A2 R2 x2 y2 W g1 g2 g3)
  replace hfu := Lib.hid hfu
  replace hfv := Lib.hid hfv
  replace hfw := Lib.hid hfw
  replace hn1 := Lib.hid hn1
  replace hE2 := Lib.hid hE2
  clear hsp hspT
  obtain ⟨a0, a1, a2, a3, a4, -⟩ := fa12.out
  obtain ⟨c0, c1, c2, c3, c4, -⟩ := fb12.out
  have hq := q9 Aa Ra ca ka Ab Rb cb kb w12 ⟨⟨(hra.below hBw).more hBw.size, (hma.below hBw).more hBw.size⟩, ⟨(hrb.below hBw).more hBw.size, (hmb.below hBw).more hBw.size⟩⟩
  go_wp2_with (fail)
  (with_reducible refine hq.out.mono ?_)
  rintro e w13 ⟨A9, x9, R9, y9, rfl, i9, hb⟩
  clear hq
  clear  a0 a1 a2 a3 a4 c0 c1 c2 c3 c4
  have hbb : Below w13.heap.size w13 (w13.alloc (.cells #[.int .i64 Pa, .int .i64 Ma, .slice A9 mla.length x9, .int .i64 N2, .slice R9 K2 y9] 27)) := (Below.refl _ _).alloc (Nat.le_refl _) _
  have hbc := hb.trans (hbb.mono hb.size)
  have u9 := Lib.hid (Five.new w13 (.int .i64 Pa) (.int .i64 Ma) (.slice A9 mla.length x9) (.int .i64 N2) (.slice R9 K2 y9) 27)
  replace i9 := i9.below hbb
  have hs9 : w13.heap.size < (w13.alloc (.cells #[.int .i64 Pa, .int .i64 Ma, .slice A9 mla.length x9, .int .i64 N2, .slice R9 K2 y9] 27)).heap.size := by simp
  replace u1 := Lib.hid (u1.out.keep hbc (by first | omega | (simp; omega)))
  replace i1 := i1.below hbc
  replace hs1 := Nat.lt_of_lt_of_le hs1 hbc.size
  replace u2 := Lib.hid (u2.out.keep hbc (by first | omega | (simp; omega)))
  replace i2 := i2.below hbc
  replace hs2 := Nat.lt_of_lt_of_le hs2 hbc.size
  replace u3 := Lib.hid (u3.out.keep hbc (by first | omega | (simp; omega)))
  replace i3 := i3.below hbc
  replace hs3 := Nat.lt_of_lt_of_le hs3 hbc.size
  replace u4 := Lib.hid (u4.out.keep hbc (by first | omega | (simp; omega)))
  replace i4 := i4.below hbc
  replace hs4 := Nat.lt_of_lt_of_le hs4 hbc.size
  replace u5 := Lib.hid (u5.out.keep hbc (by first | omega | (simp; omega)))
  replace i5 := i5.below hbc
  replace hs5 := Nat.lt_of_lt_of_le hs5 hbc.size
  replace u6 := Lib.hid (u6.out.keep hbc (by first | omega | (simp; omega)))
  replace i6 := i6.below hbc
  replace hs6 := Nat.lt_of_lt_of_le hs6 hbc.size
  replace u7 := Lib.hid (u7.out.keep hbc (by first | omega | (simp; omega)))
  replace i7 := i7.below hbc
  replace hs7 := Nat.lt_of_lt_of_le hs7 hbc.size
  replace u8 := Lib.hid (u8.out.keep hbc (by first | omega | (simp; omega)))
  replace i8 := i8.below hbc
  replace hs8 := Nat.lt_of_lt_of_le hs8 hbc.size
  have fa13 := Lib.hid (fa12.out.keep hbc (by first | omega | (simp; omega)))
  have fb13 := Lib.hid (fb12.out.keep hbc (by first | omega | (simp; omega)))
  replace hBw := hBw.trans (hbc.mono hBw.size)
  replace hsz : s + 1 < (w13.alloc (.cells #[.int .i64 Pa, .int .i64 Ma, .slice A9 mla.length x9, .int .i64 N2, .slice R9 K2 y9] 27)).heap.size := Nat.lt_of_lt_of_le hsz hbc.size
  clear fa12 fb12
  clear hbb hbc hb
  obtain ⟨a0, a1, a2, a3, a4, -⟩ := fa13.out
  obtain ⟨c0, c1, c2, c3, c4, -⟩ := fb13.out
  obtain ⟨d00, d01, d02, d03, d04, -⟩ := u9.out
  have hq := q10 A9 R9 x9 y9 (w13.alloc (.cells #[.int .i64 Pa, .int .i64 Ma, .slice A9 mla.length x9, .int .i64 N2, .slice R9 K2 y9] 27)) i9.pre
  go_wp2_with (fail)
  (with_reducible refine hq.out.mono ?_)
  rintro e w14 ⟨A10, x10, R10, y10, rfl, i10, hb⟩
  clear hq
  clear  a0 a1 a2 a3 a4 c0 c1 c2 c3 c4
  clear d00 d01 d02 d03 d04
  have hbb : Below w14.heap.size w14 (w14.alloc (.cells #[.int .i64 Pa, .int .i64 Ma, .slice A10 mla.length x10, .int .i64 N2, .slice R10 KT y10] 27)) := (Below.refl _ _).alloc (Nat.le_refl _) _
  have hbc := hb.trans (hbb.mono hb.size)
  have u10 := Lib.hid (Five.new w14 (.int .i64 Pa) (.int .i64 Ma) (.slice A10 mla.length x10) (.int .i64 N2) (.slice R10 KT y10) 27)
  replace i10 := i10.below hbb
  have hs10 : w14.heap.size < (w14.alloc (.cells #[.int .i64 Pa, .int .i64 Ma, .slice A10 mla.length x10, .int .i64 N2, .slice R10 KT y10] 27)).heap.size := by simp
  replace u1 := Lib.hid (u1.out.keep hbc (by first | omega | (simp; omega)))
  replace i1 := i1.below hbc
  replace hs1 := Nat.lt_of_lt_of_le hs1 hbc.size
  replace u2 := Lib.hid (u2.out.keep hbc (by first | omega | (simp; omega)))
  replace i2 := i2.below hbc
  replace hs2 := Nat.lt_of_lt_of_le hs2 hbc.size
  replace u3 := Lib.hid (u3.out.keep hbc (by first | omega | (simp; omega)))
  replace i3 := i3.below hbc
  replace hs3 := Nat.lt_of_lt_of_le hs3 hbc.size
  replace u4 := Lib.hid (u4.out.keep hbc (by first | omega | (simp; omega)))
  replace i4 := i4.below hbc
  replace hs4 := Nat.lt_of_lt_of_le hs4 hbc.size
  replace u5 := Lib.hid (u5.out.keep hbc (by first | omega | (simp; omega)))
  replace i5 := i5.below hbc
  replace hs5 := Nat.lt_of_lt_of_le hs5 hbc.size
  replace u6 := Lib.hid (u6.out.keep hbc (by first | omega | (simp; omega)))
  replace i6 := i6.below hbc
  replace hs6 := Nat.lt_of_lt_of_le hs6 hbc.size
  replace u7 := Lib.hid (u7.out.keep hbc (by first | omega | (simp; omega)))
  replace i7 := i7.below hbc
  replace hs7 := Nat.lt_of_lt_of_le hs7 hbc.size
  replace u8 := Lib.hid (u8.out.keep hbc (by first | omega | (simp; omega)))
  replace i8 := i8.below hbc
  replace hs8 := Nat.lt_of_lt_of_le hs8 hbc.size
  replace u9 := Lib.hid (u9.out.keep hbc (by first | omega | (simp; omega)))
  replace i9 := i9.below hbc
  replace hs9 := Nat.lt_of_lt_of_le hs9 hbc.size
  have fa14 := Lib.hid (fa13.out.keep hbc (by first | omega | (simp; omega)))
  have fb14 := Lib.hid (fb13.out.keep hbc (by first | omega | (simp; omega)))
  replace hBw := hBw.trans (hbc.mono hBw.size)
  replace hsz : s + 1 < (w14.alloc (.cells #[.int .i64 Pa, .int .i64 Ma, .slice A10 mla.length x10, .int .i64 N2, .slice R10 KT y10] 27)).heap.size := Nat.lt_of_lt_of_le hsz hbc.size
  clear fa13 fb13
  clear hbb hbc hb
  obtain ⟨a0, a1, a2, a3, a4, -⟩ := fa14.out
  obtain ⟨c0, c1, c2, c3, c4, -⟩ := fb14.out
  obtain ⟨d00, d01, d02, d03, d04, -⟩ := u10.out
  obtain ⟨d10, d11, d12, d13, d14, -⟩ := u1.out
  obtain ⟨d20, d21, d22, d23, d24, -⟩ := u2.out
  obtain ⟨V, hV⟩ : ∃ V, V = (w14.alloc (.cells #[.int .i64 Pa, .int .i64 Ma, .slice A10 mla.length x10, .int .i64 N2, .slice R10 KT y10] 27)) := ⟨_, rfl⟩
  rw [← hV] at fa14 u1 u2 u10 i1 i2 i10 hBw hs1 hs2 hs10 hsz
  replace hV := Lib.hid hV
  go_wp2_with (fail)
  rw [← hV.out]
  clear  a0 a1 a2 a3 a4 c0 c1 c2 c3 c4
  clear d00 d01 d02 d03 d04
  clear d10 d11 d12 d13 d14
  clear d20 d21 d22 d23 d24
  have vL := fun W (h : Below V.heap.size V W) => Lib.hid (show (W.cell? ⟨w3.heap.size, 0, none⟩ = some (.int .i64 Pa) ∧ W.cell? ⟨w3.heap.size, 1, none⟩ = some (.int .i64 Ma) ∧ W.cell? ⟨w3.heap.size, 2, none⟩ = some (.slice A1 mla.length x1) ∧ W.cell? ⟨w3.heap.size, 3, none⟩ = some (.int .i64 (m1 : Int)) ∧ W.cell? ⟨w3.heap.size, 4, none⟩ = some (.slice R1 KA y1)) ∧ (W.cell? ⟨w4.heap.size, 0, none⟩ = some (.int .i64 Pb) ∧ W.cell? ⟨w4.heap.size, 1, none⟩ = some (.int .i64 Mb) ∧ W.cell? ⟨w4.heap.size, 2, none⟩ = some (.slice A2 mlb.length x2) ∧ W.cell? ⟨w4.heap.size, 3, none⟩ = some (.int .i64 (m1 : Int)) ∧ W.cell? ⟨w4.heap.size, 4, none⟩ = some (.slice R2 KB y2)) from ⟨⟨(u1.out.keep h hs1).1, (u1.out.keep h hs1).2.1, (u1.out.keep h hs1).2.2.1, (u1.out.keep h hs1).2.2.2.1, (u1.out.keep h hs1).2.2.2.2.1⟩, ⟨(u2.out.keep h hs2).1, (u2.out.keep h hs2).2.1, (u2.out.keep h hs2).2.2.1, (u2.out.keep h hs2).2.2.2.1, (u2.out.keep h hs2).2.2.2.2.1⟩⟩)
  have vM := fun W (h : Below V.heap.size V W) => Lib.hid (show (W.cell? ⟨w14.heap.size, 0, none⟩ = some (.int .i64 Pa) ∧ W.cell? ⟨w14.heap.size, 1, none⟩ = some (.int .i64 Ma) ∧ W.cell? ⟨w14.heap.size, 2, none⟩ = some (.slice A10 mla.length x10) ∧ W.cell? ⟨w14.heap.size, 3, none⟩ = some (.int .i64 (N2 : Int)) ∧ W.cell? ⟨w14.heap.size, 4, none⟩ = some (.slice R10 KT y10)) ∧ (W.cell? ⟨s, 0, none⟩ = some (.int .i64 Pa) ∧ W.cell? ⟨s, 1, none⟩ = some (.int .i64 Ma) ∧ W.cell? ⟨s, 2, none⟩ = some (.slice Aa mla.length ca)) from ⟨⟨(u10.out.keep h hs10).1, (u10.out.keep h hs10).2.1, (u10.out.keep h hs10).2.2.1, (u10.out.keep h hs10).2.2.2.1, (u10.out.keep h hs10).2.2.2.2.1⟩, ⟨(fa14.out.keep h (by omega)).1, (fa14.out.keep h (by omega)).2.1, (fa14.out.keep h (by omega)).2.2.1⟩⟩)
  have hrA := (hra.below hBw).more hBw.size
  have hrU := (hru.below hBw).more hBw.size
  have hrW := (hrv.below hBw).more hBw.size
  obtain ⟨hb0, hl0⟩ : Below V.heap.size V V.drew ∧ V.heap.size ≤ V.drew.heap.size := ⟨(Below.refl _ _).drew, Nat.le_refl _⟩
  replace hb0 := Lib.hid hb0
  refine wp_region_held_drew (S := fun w' => (w'.cell? ⟨w3.heap.size, 0, none⟩ = some (.int .i64 Pa) ∧ w'.cell? ⟨w3.heap.size, 1, none⟩ = some (.int .i64 Ma) ∧ w'.cell? ⟨w3.heap.size, 2, none⟩ = some (.slice A1 mla.length x1) ∧ w'.cell? ⟨w3.heap.size, 3, none⟩ = some (.int .i64 (m1 : Int)) ∧ w'.cell? ⟨w3.heap.size, 4, none⟩ = some (.slice R1 KA y1)) ∧ (w'.cell? ⟨w4.heap.size, 0, none⟩ = some (.int .i64 Pb) ∧ w'.cell? ⟨w4.heap.size, 1, none⟩ = some (.int .i64 Mb) ∧ w'.cell? ⟨w4.heap.size, 2, none⟩ = some (.slice A2 mlb.length x2) ∧ w'.cell? ⟨w4.heap.size, 3, none⟩ = some (.int .i64 (m1 : Int)) ∧ w'.cell? ⟨w4.heap.size, 4, none⟩ = some (.slice R2 KB y2))) (by kernel_rfl) (by (try dsimp only); exact (vL _ hb0.out).out) (fun hHeld => ?_)
  revert hb0 hl0 hHeld
  generalize V.drew = wq
  intro hl0 hb0 hHeld
  refine wpAnyH_take (i := 0) (oi := ⟨_, _, _, _, _, _⟩) (v := ?_) rfl (by kernel_rfl) (by kernel_rfl) (by kernel_rfl) (fun _ _ _ h => h) (Or.inl ⟨by rfl, ?_⟩) (by assumption) ?_
  rotate_left
  · intro w hSw; (try dsimp only at hSw); go_simp; try with_reducible rfl
  try simp only [Act.put, List.setIfInBounds_toArray, List.set_cons_zero, List.set_cons_succ]
  refine wpAnyH_take (i := 1) (oi := ⟨_, _, _, _, _, _⟩) (v := ?_) rfl (by kernel_rfl) (by kernel_rfl) (by kernel_rfl) (fun _ _ _ h => h) (Or.inl ⟨by rfl, ?_⟩) (by assumption) ?_
  rotate_left
  · intro w hSw; (try dsimp only at hSw); go_simp; try with_reducible rfl
  try simp only [Act.put, List.setIfInBounds_toArray, List.set_cons_zero, List.set_cons_succ]
  refine wpAnyH_take (i := 3) (oi := ⟨_, _, _, _, _, _⟩) (v := ?_) rfl (by kernel_rfl) (by kernel_rfl) (by kernel_rfl) (fun _ _ _ h => h) (Or.inl ⟨by rfl, ?_⟩) (by assumption) ?_
  rotate_left
  · intro w hSw; (try dsimp only at hSw); go_simp; try with_reducible rfl
  try simp only [Act.put, List.setIfInBounds_toArray, List.set_cons_zero, List.set_cons_succ]
  refine wpAnyH_take (i := 4) (oi := ⟨_, _, _, _, _, _⟩) (v := ?_) rfl (by kernel_rfl) (by kernel_rfl) (by kernel_rfl) (fun _ _ _ h => h) (Or.inl ⟨by rfl, ?_⟩) (by assumption) ?_
  rotate_left
  · intro w hSw; (try dsimp only at hSw); go_simp; try with_reducible rfl
  try simp only [Act.put, List.setIfInBounds_toArray, List.set_cons_zero, List.set_cons_succ]
  refine wpAnyH_ready (rs := [2]) (by kernel_rfl) (by simp) ?_
  refine AllReadyH.cons (o := ⟨_, _, _, _, _, _⟩) rfl (fun K hK => ?_) AllReadyH.nil
  go_simp
  go_at_call 15
  (with_reducible refine (hO1 _ _ _ _ _ ((i1.pre.1.below hb0.out).more hl0) ((i1.pre.2.below hb0.out).more hl0) ((hrU.below hb0.out).more hl0)).out.mono ?_)
  rintro e wq ⟨AX, cX, rfl, hrX, -, -, -, hb⟩
  try replace hrY := (hrY.below hb).more hb.size
  replace hb0 := Lib.hid (hb0.out.trans (hb.mono hl0))
  replace hl0 := Nat.le_trans hl0 hb.size
  go_wp2_with (fail)
  refine hK.out _ _ (by (try dsimp only); exact (vL _ hb0.out).out) (fun hHeld => ?_)
  clear hK K
  try simp only [Act.put, List.setIfInBounds_toArray, List.set_cons_zero, List.set_cons_succ]
  refine wpAnyH_ready (rs := [5]) (by kernel_rfl) (by simp) ?_
  refine AllReadyH.cons (o := ⟨_, _, _, _, _, _⟩) rfl (fun K hK => ?_) AllReadyH.nil
  go_simp
  go_at_call 15
  (with_reducible refine (hO2 _ _ _ _ _ ((i2.pre.1.below hb0.out).more hl0) ((i2.pre.2.below hb0.out).more hl0) ((hrW.below hb0.out).more hl0)).out.mono ?_)
  rintro e wq ⟨AY, cY, rfl, hrY, -, -, -, hb⟩
  try replace hrX := (hrX.below hb).more hb.size
  replace hb0 := Lib.hid (hb0.out.trans (hb.mono hl0))
  replace hl0 := Nat.le_trans hl0 hb.size
  go_wp2_with (fail)
  refine hK.out _ _ (by (try dsimp only); exact (vL _ hb0.out).out) (fun hHeld => ?_)
  clear hK K
  try simp only [Act.put, List.setIfInBounds_toArray, List.set_cons_zero, List.set_cons_succ]
  refine wpAnyH_take (i := 6) (oi := ⟨_, _, _, _, _, _⟩) (v := ?_) rfl (by kernel_rfl) (by kernel_rfl) (by kernel_rfl) (fun _ _ _ h => h) (Or.inl ⟨by rfl, ?_⟩) (by assumption) ?_
  rotate_left
  · intro w hSw; (try dsimp only at hSw); go_simp; try with_reducible rfl
  try simp only [Act.put, List.setIfInBounds_toArray, List.set_cons_zero, List.set_cons_succ]
  refine wpAnyH_take (i := 7) (oi := ⟨_, _, _, _, _, _⟩) (v := ?_) rfl (by kernel_rfl) (by kernel_rfl) (by kernel_rfl) (fun _ _ _ h => h) (Or.inl ⟨by rfl, ?_⟩) (by assumption) ?_
  rotate_left
  · intro w hSw; (try dsimp only at hSw); go_simp; try with_reducible rfl
  try simp only [Act.put, List.setIfInBounds_toArray, List.set_cons_zero, List.set_cons_succ]
  refine wpAnyH_done (by kernel_rfl) ?_ _
  have hb2 := Lib.hid hb0.out.drew
  have hl2 : V.heap.size ≤ wq.drew.heap.size := hl0
  have hrX2 : Rd wq.drew wq.drew.heap.size AX (rowL F.toDesc m1 fu) := hrX
  have hrY2 : Rd wq.drew wq.drew.heap.size AY (rowL F.toDesc m1 fv) := hrY
  obtain ⟨⟨y0, y1, y2, y3, y4⟩, z0, z1, z2⟩ := (vM _ hb0.out).out
  go_wp2_with (fail)
  clear y0 y1 y2 y3 y4 z0 z1 z2
  refine wp_region_held_drew (S := fun w' => (w'.cell? ⟨w14.heap.size, 0, none⟩ = some (.int .i64 Pa) ∧ w'.cell? ⟨w14.heap.size, 1, none⟩ = some (.int .i64 Ma) ∧ w'.cell? ⟨w14.heap.size, 2, none⟩ = some (.slice A10 mla.length x10) ∧ w'.cell? ⟨w14.heap.size, 3, none⟩ = some (.int .i64 (N2 : Int)) ∧ w'.cell? ⟨w14.heap.size, 4, none⟩ = some (.slice R10 KT y10)) ∧ (w'.cell? ⟨s, 0, none⟩ = some (.int .i64 Pa) ∧ w'.cell? ⟨s, 1, none⟩ = some (.int .i64 Ma) ∧ w'.cell? ⟨s, 2, none⟩ = some (.slice Aa mla.length ca))) (by kernel_rfl) (by (try dsimp only); exact (vM _ hb2.out).out) (fun hHeld => ?_)
  revert hb2 hl2 hrX2 hrY2 hHeld
  generalize wq.drew = wz
  intro hb2 hl2 hrX2 hrY2 hHeld
  refine wpAnyH_take (i := 0) (oi := ⟨_, _, _, _, _, _⟩) (v := ?_) rfl (by kernel_rfl) (by kernel_rfl) (by kernel_rfl) (fun _ _ _ h => h) (Or.inl ⟨by rfl, ?_⟩) (by assumption) ?_
  rotate_left
  · intro w hSw; (try dsimp only at hSw); go_simp; try with_reducible rfl
  try simp only [Act.put, List.setIfInBounds_toArray, List.set_cons_zero, List.set_cons_succ]
  refine wpAnyH_take (i := 1) (oi := ⟨_, _, _, _, _, _⟩) (v := ?_) rfl (by kernel_rfl) (by kernel_rfl) (by kernel_rfl) (fun _ _ _ h => h) (Or.inl ⟨by rfl, ?_⟩) (by assumption) ?_
  rotate_left
  · intro w hSw; (try dsimp only at hSw); go_simp; try with_reducible rfl
  try simp only [Act.put, List.setIfInBounds_toArray, List.set_cons_zero, List.set_cons_succ]
  refine wpAnyH_take (i := 2) (oi := ⟨_, _, _, _, _, _⟩) (v := ?_) rfl (by kernel_rfl) (by kernel_rfl) (by kernel_rfl) (fun _ _ _ h => h) (Or.inl ⟨by rfl, ?_⟩) (by assumption) ?_
  rotate_left
  · intro w hSw; (try dsimp only at hSw); go_simp; try with_reducible rfl
  try simp only [Act.put, List.setIfInBounds_toArray, List.set_cons_zero, List.set_cons_succ]
  refine wpAnyH_take (i := 3) (oi := ⟨_, _, _, _, _, _⟩) (v := ?_) rfl (by kernel_rfl) (by kernel_rfl) (by kernel_rfl) (fun _ _ _ h => h) (Or.inl ⟨by rfl, ?_⟩) (by assumption) ?_
  rotate_left
  · intro w hSw; (try dsimp only at hSw); go_simp; try with_reducible rfl
  try simp only [Act.put, List.setIfInBounds_toArray, List.set_cons_zero, List.set_cons_succ]
  refine wpAnyH_take (i := 4) (oi := ⟨_, _, _, _, _, _⟩) (v := ?_) rfl (by kernel_rfl) (by kernel_rfl) (by kernel_rfl) (fun _ _ _ h => h) (Or.inl ⟨by rfl, ?_⟩) (by assumption) ?_
  rotate_left
  · intro w hSw; (try dsimp only at hSw); go_simp; try with_reducible rfl
  try simp only [Act.put, List.setIfInBounds_toArray, List.set_cons_zero, List.set_cons_succ]
  refine wpAnyH_take (i := 5) (oi := ⟨_, _, _, _, _, _⟩) (v := ?_) rfl (by kernel_rfl) (by kernel_rfl) (by kernel_rfl) (fun _ _ _ h => h) (Or.inl ⟨by rfl, ?_⟩) (by assumption) ?_
  rotate_left
  · intro w hSw; (try dsimp only at hSw); go_simp; try with_reducible rfl
  try simp only [Act.put, List.setIfInBounds_toArray, List.set_cons_zero, List.set_cons_succ]
  refine wpAnyH_take (i := 7) (oi := ⟨_, _, _, _, _, _⟩) (v := ?_) rfl (by kernel_rfl) (by kernel_rfl) (by kernel_rfl) (fun _ _ _ h => h) (Or.inl ⟨by rfl, ?_⟩) (by assumption) ?_
  rotate_left
  · intro w hSw; (try dsimp only at hSw); go_simp; try with_reducible rfl
  try simp only [Act.put, List.setIfInBounds_toArray, List.set_cons_zero, List.set_cons_succ]
  refine wpAnyH_take (i := 9) (oi := ⟨_, _, _, _, _, _⟩) (v := ?_) rfl (by kernel_rfl) (by kernel_rfl) (by kernel_rfl) (fun _ _ _ h => h) (Or.inl ⟨by rfl, ?_⟩) (by assumption) ?_
  rotate_left
  · intro w hSw; (try dsimp only at hSw); go_simp; try with_reducible rfl
  try simp only [Act.put, List.setIfInBounds_toArray, List.set_cons_zero, List.set_cons_succ]
  refine wpAnyH_ready (rs := [6]) (by kernel_rfl) (by simp) ?_
  refine AllReadyH.cons (o := ⟨_, _, _, _, _, _⟩) rfl (fun K hK => ?_) AllReadyH.nil
  go_simp
  go_at_call 19
  (with_reducible refine (hNg _).out.mono ?_)
  rintro e wz ⟨rfl, hb⟩
  replace hrX2 := (hrX2.below hb).more hb.size
  replace hrY2 := (hrY2.below hb).more hb.size
  replace hb2 := Lib.hid (hb2.out.trans (hb.mono hl2))
  replace hl2 := Nat.le_trans hl2 hb.size
  go_wp2_with (fail)
  refine hK.out _ _ (by (try dsimp only); exact (vM _ hb2.out).out) (fun hHeld => ?_)
  clear hK K
  try simp only [Act.put, List.setIfInBounds_toArray, List.set_cons_zero, List.set_cons_succ]
  refine wpAnyH_ready (rs := [8]) (by kernel_rfl) (by simp) ?_
  refine AllReadyH.cons (o := ⟨_, _, _, _, _, _⟩) rfl (fun K hK => ?_) AllReadyH.nil
  go_simp
  go_at_call 18
  (with_reducible refine (hAd _ _ _ _ _ ((hrA.below hb2.out).more hl2) hrX2 hrY2).out.mono ?_)
  rintro e wz ⟨AD, cD, rfl, hrD, hb⟩
  replace hrY2 := (hrY2.below hb).more hb.size
  replace hb2 := Lib.hid (hb2.out.trans (hb.mono hl2))
  replace hl2 := Nat.le_trans hl2 hb.size
  go_wp2_with (fail)
  refine hK.out _ _ (by (try dsimp only); exact (vM _ hb2.out).out) (fun hHeld => ?_)
  clear hK K
  try simp only [Act.put, List.setIfInBounds_toArray, List.set_cons_zero, List.set_cons_succ]
  refine wpAnyH_ready (rs := [10]) (by kernel_rfl) (by simp) ?_
  refine AllReadyH.cons (o := ⟨_, _, _, _, _, _⟩) rfl (fun K hK => ?_) AllReadyH.nil
  go_simp
  go_at_call 17
  (with_reducible refine (hJo _ _ _ _ _ hrD hrY2).out.mono ?_)
  rintro e wz ⟨AJ, cJ, rfl, hrJ, hb⟩
  replace hb2 := Lib.hid (hb2.out.trans (hb.mono hl2))
  replace hl2 := Nat.le_trans hl2 hb.size
  go_wp2_with (fail)
  refine hK.out _ _ (by (try dsimp only); exact (vM _ hb2.out).out) (fun hHeld => ?_)
  clear hK K
  try simp only [Act.put, List.setIfInBounds_toArray, List.set_cons_zero, List.set_cons_succ]
  refine wpAnyH_ready (rs := [11]) (by kernel_rfl) (by simp) ?_
  refine AllReadyH.cons (o := ⟨_, _, _, _, _, _⟩) rfl (fun K hK => ?_) AllReadyH.nil
  go_simp
  go_at_call 16
  (with_reducible refine (hHs _ _ _ _ _ _ _ ((i10.pre.1.below hb2.out).more hl2) ((i10.pre.2.below hb2.out).more hl2) hrJ).out.mono ?_)
  rintro e wz ⟨rfl, hb⟩
  replace hb2 := Lib.hid (hb2.out.trans (hb.mono hl2))
  replace hl2 := Nat.le_trans hl2 hb.size
  go_wp2_with (fail)
  refine hK.out _ _ (by (try dsimp only); exact (vM _ hb2.out).out) (fun hHeld => ?_)
  clear hK K
  try simp only [Act.put, List.setIfInBounds_toArray, List.set_cons_zero, List.set_cons_succ]
  refine wpAnyH_take (i := 12) (oi := ⟨_, _, _, _, _, _⟩) (v := ?_) rfl (by kernel_rfl) (by kernel_rfl) (by kernel_rfl) (fun _ _ _ h => h) (Or.inl ⟨by rfl, ?_⟩) (by assumption) ?_
  rotate_left
  · intro w hSw; (try dsimp only at hSw); go_simp; try with_reducible rfl
  try simp only [Act.put, List.setIfInBounds_toArray, List.set_cons_zero, List.set_cons_succ]
  refine wpAnyH_take (i := 13) (oi := ⟨_, _, _, _, _, _⟩) (v := ?_) rfl (by kernel_rfl) (by kernel_rfl) (by kernel_rfl) (fun _ _ _ h => h) (Or.inl ⟨by rfl, ?_⟩) (by assumption) ?_
  rotate_left
  · intro w hSw; (try dsimp only at hSw); go_simp; try with_reducible rfl
  try simp only [Act.put, List.setIfInBounds_toArray, List.set_cons_zero, List.set_cons_succ]
  refine wpAnyH_take (i := 14) (oi := ⟨_, _, _, _, _, _⟩) (v := ?_) rfl (by kernel_rfl) (by kernel_rfl) (by kernel_rfl) (fun _ _ _ h => h) (Or.inl ⟨by rfl, ?_⟩) (by assumption) ?_
  rotate_left
  · intro w hSw; (try dsimp only at hSw); go_simp; try with_reducible rfl
  try simp only [Act.put, List.setIfInBounds_toArray, List.set_cons_zero, List.set_cons_succ]
  refine wpAnyH_take (i := 15) (oi := ⟨_, _, _, _, _, _⟩) (v := ?_) rfl (by kernel_rfl) (by kernel_rfl) (by kernel_rfl) (fun _ _ _ h => h) (Or.inl ⟨by rfl, ?_⟩) (by assumption) ?_
  rotate_left
  · intro w hSw; (try dsimp only at hSw); go_simp; try with_reducible rfl
  try simp only [Act.put, List.setIfInBounds_toArray, List.set_cons_zero, List.set_cons_succ]
  refine wpAnyH_take (i := 16) (oi := ⟨_, _, _, _, _, _⟩) (v := ?_) rfl (by kernel_rfl) (by kernel_rfl) (by kernel_rfl) (fun _ _ _ h => h) (Or.inl ⟨by rfl, ?_⟩) (by assumption) ?_
  rotate_left
  · intro w hSw; (try dsimp only at hSw); go_simp; try with_reducible rfl
  try simp only [Act.put, List.setIfInBounds_toArray, List.set_cons_zero, List.set_cons_succ]
  refine wpAnyH_done (by kernel_rfl) ?_ _
  have hBx := hBw.trans (hb2.out.mono hBw.size)
  go_wp2_with (fail)
  go_ret
  exact ⟨rfl, hBx⟩
end Go.Proofs.Ytkmhopefnfaecaa
