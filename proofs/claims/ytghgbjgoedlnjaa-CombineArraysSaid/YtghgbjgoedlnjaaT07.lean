/- CombineArrays: the walk. -/
import Derived.Test.YtghgbjgoedlnjaaT00
import Derived.Test.YtghgbjgoedlnjaaArB
namespace Go.Proofs.Ytghgbjgoedlnjaa
open Go.RowKit Cw
attribute [local go_sem] Oper.semAt_some

/-- A stretch of a block of ints. -/
theorem IB.sub {w : World} {g : Nat} {l l2 : List Int} {o : Nat} (h : IB w g l) (h2 : ∀ i, i < l2.length → o + i < l.length ∧ l[o + i]?.getD 0 = l2[i]?.getD 0) : Rd w w.heap.size (some ⟨g, o, none⟩) l2 := fun _ => ⟨g, o, rfl, h.lt, fun j hj => by
  obtain ⟨h3, h4⟩ := h2 j hj
  rw [← h4]; exact h.cell h3⟩
theorem cells_five {W : World} {x : Nat} {u0 u1 u2 u3 u4 : Value} (fa : Five W x u0 u1 u2 u3 u4) : W.cell? ⟨x, 0, none⟩ = some u0 ∧ W.cell? ⟨x, 1, none⟩ = some u1 ∧ W.cell? ⟨x, 2, none⟩ = some u2 ∧ W.cell? ⟨x, 3, none⟩ = some u3 ∧ W.cell? ⟨x, 4, none⟩ = some u4 := by
  obtain ⟨a0, a1, a2, a3, a4, -⟩ := fa
  exact ⟨a0, a1, a2, a3, a4⟩
set_option maxRecDepth 100000 in
set_option maxHeartbeats 16000000 in
theorem arraysL (Pa Ma Na : Int) (mla : List Int) (na : Nat) (rowsa : Nat → List Int) (Aa Ra : Option Addr) (ca ka : Nat) (Pb Mb Nb : Int) (mlb : List Int) (nb : Nat) (rowsb : Nat → List Int) (Ab Rb : Option Addr) (cb kb : Nat) (msg : List Int) (Am : Option Addr) (cm : Nat) (w : World) (hPa : I64 Pa) (hMa : I64 Ma) (_hNa : I64 Na) (hla : mla.length ≤ maxLen) (hna : na ≤ maxLen) (hra : Rd w w.heap.size Aa mla) (hma : RdM w w.heap.size Ra na rowsa) (hPb : I64 Pb) (hMb : I64 Mb) (_hNb : I64 Nb) (hlb : mlb.length ≤ maxLen) (hnb : nb ≤ maxLen) (hrb : Rd w w.heap.size Ab mlb) (hmb : RdM w w.heap.size Rb nb rowsb) (_hcm : msg.length ≤ cm) (_hlm : cm ≤ maxLen) (hrw : Rd w w.heap.size Am msg) :
    Calls Try.prog 7 #[.agg #[.int .i64 Pa, .int .i64 Ma, .slice Aa mla.length ca, .int .i64 Na, .slice Ra na ka], .agg #[.int .i64 Pb, .int .i64 Mb, .slice Ab mlb.length cb, .int .i64 Nb, .slice Rb nb kb], .slice Am msg.length cm] w (LawEnd w) := by
  have hLa := rdm_len hma
  have hLb := rdm_len hmb
  obtain ⟨Z, hZ⟩ : ∃ Z, Z = (w.alloc (.cells #[.int .i64 Pa, .int .i64 Ma, .slice Aa mla.length ca, .int .i64 Na, .slice Ra na ka] 27)).alloc (.cells #[.int .i64 Pb, .int .i64 Mb, .slice Ab mlb.length cb, .int .i64 Nb, .slice Rb nb kb] 27) := ⟨_, rfl⟩
  have hB : Below w.heap.size w Z := by rw [hZ]; exact ((Below.refl _ _).alloc (Nat.le_refl _) _).alloc (by simp) _
  obtain ⟨s, hs⟩ : ∃ s, s = w.heap.size := ⟨_, rfl⟩
  obtain ⟨hZe, fa, fb⟩ := two_enter2 Pa Ma Na mla na rowsa Aa Ra ca ka Pb Mb Nb mlb nb rowsb Ab Rb cb kb w hZ hs
  have hb1 : Below Z.heap.size Z (Z.alloc (.cells #[.int .i64 Pa, .int .i64 Ma, .slice Aa mla.length ca, .int .i64 Na, .slice Ra na ka, .int .i64 Pb, .int .i64 Mb, .slice Ab mlb.length cb, .int .i64 Nb, .slice Rb nb kb] 27)) := (Below.refl _ _).alloc (Nat.le_refl _) _
  have hB1 := hB.trans (hb1.mono hB.size)
  have hF := few2_any Pa Ma Na mla na rowsa Aa Ra ca ka Pb Mb Nb mlb nb rowsb Ab Rb cb kb (s + 1 + 1) _ ((hma.below hB1).more hB1.size) ((hmb.below hB1).more hB1.size) ⟨hna, hLa⟩ ⟨hnb, hLb⟩ (by rw [World.size_alloc]; omega) (by rw [← hZe]; simp [go_sem]) (by rw [← hZe]; simp [go_sem])
  replace fa := Lib.hid fa
  replace fb := Lib.hid fb
  by_cases hf : fewAll2 na rowsa nb rowsb = true
  rotate_left
  · rw [show fewAll2 na rowsa nb rowsb = false from by simpa using hf] at hF
    replace hF := Lib.hid hF
    replace hZe := Lib.hid hZe
    replace hZ := Lib.hid hZ
    replace hf := Lib.hid hf
    clear hLa hLb
    unfold LawEnd
    go_enter Try.func7, Try.ntmps7
    go_wp2_with (fail)
    rw [← hZ.out]
    simp only [← hs]
    replace hs := Lib.hid hs
    (with_reducible refine hF.out.mono ?_)
    rintro e w1 ⟨rfl, hb2⟩
    go_wp2_with (fail)
    go_ret
    exact ⟨rfl, hB1.trans (hb2.mono hB1.size)⟩
  rw [hf] at hF
  replace hF := Lib.hid hF
  obtain ⟨hfa, hfb⟩ : fewC na rowsa = true ∧ fewC nb rowsb = true := by unfold fewAll2 at hf; simpa using hf
  obtain ⟨hna2, hka⟩ := fewC_le hfa
  obtain ⟨hnb2, hkb⟩ := fewC_le hfb
  have hT := fun W (h : Pre2 mla na rowsa Aa Ra mlb nb rowsb Ab Rb W) => Two14_any Pa Ma Na mla na rowsa Aa Ra ca ka Pb Mb Nb mlb nb rowsb Ab Rb cb kb W hPa hMa hla hna2 hka h.1.1 h.1.2 hPb hMb hlb hnb2 hkb h.2.1 h.2.2
  replace hZe := Lib.hid hZe
  replace hZ := Lib.hid hZ
  replace hf := Lib.hid hf
  replace hfa := Lib.hid hfa
  replace hfb := Lib.hid hfb
  clear hLa hLb
  by_cases hE : twoE Pa Ma Na mla na rowsa Aa Ra ca ka Pb Mb Nb mlb nb rowsb Ab Rb cb kb = 0
  rotate_left
  · generalize twoE Pa Ma Na mla na rowsa Aa Ra ca ka Pb Mb Nb mlb nb rowsb Ab Rb cb kb = E at *
    have hEb : (E != 0) = true := by rw [bne_iff_ne]; exact hE
    replace hT := fun W h => Lib.hid (hT W h)
    replace hE := Lib.hid hE
    clear hka hkb
    unfold LawEnd
    go_enter Try.func7, Try.ntmps7
    go_wp2_with (fail)
    rw [← hZ.out]
    simp only [← hs]
    replace hs := Lib.hid hs
    (with_reducible refine hF.out.mono ?_)
    rintro e w1 ⟨rfl, hb2⟩
    have hbz := hb1.trans (hb2.mono hb1.size)
    have hBw := hB.trans (hbz.mono hB.size)
    have hsz : s + 1 < w1.heap.size := by have := hbz.size; have := hZe.out; omega
    have fa1 := Lib.hid (fa.out.keep hbz (by have := hZe.out; omega))
    have fb1 := Lib.hid (fb.out.keep hbz (by have := hZe.out; omega))
    replace hZe := Lib.hid hZe
    clear hF hb2 hb1 hB1 hbz
    obtain ⟨a0, a1, a2, a3, a4, -⟩ := fa1.out
    obtain ⟨c0, c1, c2, c3, c4, -⟩ := fb1.out
    have hq := hT w1 ⟨⟨(hra.below hBw).more hBw.size, (hma.below hBw).more hBw.size⟩, (hrb.below hBw).more hBw.size, (hmb.below hBw).more hBw.size⟩
    go_wp2_with (fail)
    (with_reducible refine hq.out.mono ?_)
    rintro e w2 ⟨rfl, hb⟩
    clear hq
    clear  a0 a1 a2 a3 a4 c0 c1 c2 c3 c4
    have fa2 := Lib.hid (fa1.out.keep hb (by first | omega | (simp; omega)))
    have fb2 := Lib.hid (fb1.out.keep hb (by first | omega | (simp; omega)))
    replace hBw := hBw.trans (hb.mono hBw.size)
    replace hsz : s + 1 < w2.heap.size := Nat.lt_of_lt_of_le hsz hb.size
    clear fa1 fb1
    obtain ⟨a0, a1, a2, a3, a4, -⟩ := fa2.out
    obtain ⟨c0, c1, c2, c3, c4, -⟩ := fb2.out
    go_wp2_with (fail)
    go_ret
    exact ⟨rfl, hBw⟩
  obtain ⟨F, m1, m2, M1, M2, va, vb⟩ := twoE_zero hE
  have h1 := va.m1; have h2 := va.m64; have h3 := vb.m1; have h4 := vb.m64; have h5 := va.le; have h6 := vb.le
  have eNa := va.hN; have eNb := vb.hN
  subst eNa eNb
  obtain ⟨NN, hNN⟩ : ∃ NN, NN = m1 * m2 := ⟨_, rfl⟩
  obtain ⟨KK, hKK⟩ : ∃ KK, KK = na * nb := ⟨_, rfl⟩
  have hNN4 : NN ≤ 64 * 64 := by rw [hNN]; exact Nat.mul_le_mul h2 h4
  have hKK4 : KK ≤ 64 * 64 := by rw [hKK]; exact Nat.mul_le_mul hna2 hnb2
  have hmul : IntKind.i64.wrap ((m1 : Int) * (m2 : Int)) = (NN : Int) := by
    rw [show ((m1 : Int) * (m2 : Int)) = (NN : Int) from by rw [hNN]; push_cast; rfl]
    exact IntWalk.i64_in _ (by omega)
  have hmul2 : IntKind.i64.wrap ((na : Int) * (nb : Int)) = (KK : Int) := by
    rw [show ((na : Int) * (nb : Int)) = (KK : Int) from by rw [hKK]; push_cast; rfl]
    exact IntWalk.i64_in _ (by omega)
  rw [hE] at hT
  replace hT := fun W h => Lib.hid (hT W h)
  by_cases hN : NN ≤ 24
  rotate_left
  · have hNb : decide (24 < (NN : Int)) = true := decide_eq_true (by omega)
    have hNc : (24 : Int) < (NN : Int) := by omega
    replace hE := Lib.hid hE
    replace hNN := Lib.hid hNN
    replace hKK := Lib.hid hKK
    clear hka hkb va vb
    unfold LawEnd
    go_enter Try.func7, Try.ntmps7
    go_wp2_with (fail)
    rw [← hZ.out]
    simp only [← hs]
    replace hs := Lib.hid hs
    (with_reducible refine hF.out.mono ?_)
    rintro e w1 ⟨rfl, hb2⟩
    have hbz := hb1.trans (hb2.mono hb1.size)
    have hBw := hB.trans (hbz.mono hB.size)
    have hsz : s + 1 < w1.heap.size := by have := hbz.size; have := hZe.out; omega
    have fa1 := Lib.hid (fa.out.keep hbz (by have := hZe.out; omega))
    have fb1 := Lib.hid (fb.out.keep hbz (by have := hZe.out; omega))
    replace hZe := Lib.hid hZe
    clear hF hb2 hb1 hB1 hbz
    obtain ⟨a0, a1, a2, a3, a4, -⟩ := fa1.out
    obtain ⟨c0, c1, c2, c3, c4, -⟩ := fb1.out
    have hq := hT w1 ⟨⟨(hra.below hBw).more hBw.size, (hma.below hBw).more hBw.size⟩, (hrb.below hBw).more hBw.size, (hmb.below hBw).more hBw.size⟩
    go_wp2_with (fail)
    (with_reducible refine hq.out.mono ?_)
    rintro e w2 ⟨rfl, hb⟩
    clear hq
    clear  a0 a1 a2 a3 a4 c0 c1 c2 c3 c4
    have fa2 := Lib.hid (fa1.out.keep hb (by first | omega | (simp; omega)))
    have fb2 := Lib.hid (fb1.out.keep hb (by first | omega | (simp; omega)))
    replace hBw := hBw.trans (hb.mono hBw.size)
    replace hsz : s + 1 < w2.heap.size := Nat.lt_of_lt_of_le hsz hb.size
    clear fa1 fb1
    obtain ⟨a0, a1, a2, a3, a4, -⟩ := fa2.out
    obtain ⟨c0, c1, c2, c3, c4, -⟩ := fb2.out
    go_wp2_with (fail)
    go_ret
    exact ⟨rfl, hBw⟩
  obtain ⟨rowsP, BP, vp, hPr, hsp⟩ := arrays_pack Pa Ma m1 mla na rowsa Aa Ra ca ka Pb Mb m2 mlb nb rowsb Ab Rb cb kb hPa hMa hla hna2 hka hPb hMb hlb hnb2 hkb hE va vb (by omega)
  have hEP := vc_err vp
  have h7 := vp.le
  rw [← hNN, ← hKK] at vp hPr hEP
  rw [← hKK, ← hNN] at hsp
  have hkP : ∀ i, i < KK → (rowsP i).length ≤ 4200 := fun i hi => by rw [vp.hr i hi, rowsL_length]; omega
  have hKK6 : KK ≤ 64 := by omega
  have hCk := fun A c Ar cr W g1 g2 => Check12_any Pa Ma NN mla KK rowsP A Ar c cr W hPa hMa hla hKK6 hkP g1 g2
  rw [hEP] at hCk
  have hSm := fun A c W g1 g2 => Same4_any Pa Ma Pa Ma mla mla A Aa c ca W g1 g2 hla
  rw [show eqF Pa Ma mla Pa Ma mla = true from eqF_iff.2 ⟨rfl, rfl, rfl⟩] at hSm
  have hIn : ∀ (x : Int) (W : World), Calls Try.prog 27 #[.agg #[.int .i64 Pa, .int .i64 Ma, .slice Aa mla.length ca], .int .i64 x] W fun e w' => e = .returned (.int .i64 (ci (eli F.toDesc x))) ∧ Below W.heap.size W w' := fun x W => by
    have h := In_any F.toDesc x Aa mla.length ca W
    rw [← va.hP, ← va.hM] at h
    exact h
  obtain ⟨u, hu⟩ : ∃ u : Nat → R F.toDesc, u = fun i => eli F.toDesc (msg[i]?.getD 0) := ⟨_, rfl⟩
  have hHP := fun A Ar c cr c1 A1 W g1 g2 g3 => Has12_vc vp u A Ar A1 c cr c1 W g1 g2 g3
  rw [hNN, arrays_and (by rw [← hNN]; exact hsp u), ← hNN] at hHP
  obtain ⟨fR, hfR⟩ : ∃ fR : Nat → Bool, fR = fun x => spB nb m2 M2 (fun y => u (m2 * x + y)) := ⟨_, rfl⟩
  obtain ⟨fC, hfC⟩ : ∃ fC : Nat → Bool, fC = fun y => spB na m1 M1 (fun x => u (m2 * x + y)) := ⟨_, rfl⟩
  rw [← hfR, ← hfC] at hHP
  have hHb := fun x c1 A1 W g1 g2 g3 => Has12_vc vb (fun y => u (m2 * x + y)) Ab Rb A1 cb kb c1 W g1 g2 g3
  have hHa := fun y c1 A1 W g1 g2 g3 => Has12_vc va (fun x => u (m2 * x + y)) Aa Ra A1 ca ka c1 W g1 g2 g3
  have hfR' : ∀ x, spB nb m2 M2 (fun y => u (m2 * x + y)) = fR x := fun x => by rw [hfR]
  have hfC' : ∀ y, spB na m1 M1 (fun x => u (m2 * x + y)) = fC y := fun y => by rw [hfC]
  simp only [hfR'] at hHb
  simp only [hfC'] at hHa
  have hof := fun t h => ofT_full (D := F.toDesc) (n := NN) (t := t) (msg := msg) h
  rw [← hu] at hof
  have hmk := mk_ints NN (by omega)
  unfold ResC at hPr
  have hNb : decide (24 < (NN : Int)) = false := decide_eq_false (by omega)
  have hNc : ¬ (24 : Int) < (NN : Int) := by omega
  replace hPr := fun W h => Lib.hid (hPr W h)
  replace hCk := fun A c Ar cr W g1 g2 => Lib.hid (hCk A c Ar cr W g1 g2)
  replace hSm := fun A c W g1 g2 => Lib.hid (hSm A c W g1 g2)
  replace hHP := fun A Ar c cr c1 A1 W g1 g2 g3 => Lib.hid (hHP A Ar c cr c1 A1 W g1 g2 g3)
  replace hHb := fun x c1 A1 W g1 g2 g3 => Lib.hid (hHb x c1 A1 W g1 g2 g3)
  replace hHa := fun y c1 A1 W g1 g2 g3 => Lib.hid (hHa y c1 A1 W g1 g2 g3)
  replace hof := fun t h => Lib.hid (hof t h)
  replace hIn := fun x W => Lib.hid (hIn x W)
  replace hE := Lib.hid hE
  replace hNN := Lib.hid hNN
  replace hKK := Lib.hid hKK
  clear hka hkb hEP hkP hsp hfR hfC hfR' hfC' hu va vb vp
  unfold LawEnd
  go_enter Try.func7, Try.ntmps7
  go_wp2_with (fail)
  rw [← hZ.out]
  simp only [← hs]
  replace hs := Lib.hid hs
  (with_reducible refine hF.out.mono ?_)
  rintro e w1 ⟨rfl, hb2⟩
  have hbz := hb1.trans (hb2.mono hb1.size)
  have hBw := hB.trans (hbz.mono hB.size)
  have hsz : s + 1 < w1.heap.size := by have := hbz.size; have := hZe.out; omega
  have fa1 := Lib.hid (fa.out.keep hbz (by have := hZe.out; omega))
  have fb1 := Lib.hid (fb.out.keep hbz (by have := hZe.out; omega))
  replace hZe := Lib.hid hZe
  clear hF hb2 hb1 hB1 hbz
  obtain ⟨a0, a1, a2, a3, a4, -⟩ := fa1.out
  obtain ⟨c0, c1, c2, c3, c4, -⟩ := fb1.out
  have hq := hT w1 ⟨⟨(hra.below hBw).more hBw.size, (hma.below hBw).more hBw.size⟩, (hrb.below hBw).more hBw.size, (hmb.below hBw).more hBw.size⟩
  go_wp2_with (fail)
  (with_reducible refine hq.out.mono ?_)
  rintro e w2 ⟨rfl, hb⟩
  clear hq
  clear  a0 a1 a2 a3 a4 c0 c1 c2 c3 c4
  have fa2 := Lib.hid (fa1.out.keep hb (by first | omega | (simp; omega)))
  have fb2 := Lib.hid (fb1.out.keep hb (by first | omega | (simp; omega)))
  replace hBw := hBw.trans (hb.mono hBw.size)
  replace hsz : s + 1 < w2.heap.size := Nat.lt_of_lt_of_le hsz hb.size
  clear fa1 fb1
  obtain ⟨a0, a1, a2, a3, a4, -⟩ := fa2.out
  obtain ⟨c0, c1, c2, c3, c4, -⟩ := fb2.out
  have hq := hPr w2 ⟨⟨(hra.below hBw).more hBw.size, (hma.below hBw).more hBw.size⟩, (hrb.below hBw).more hBw.size, (hmb.below hBw).more hBw.size⟩
  go_wp2_with (fail)
  (with_reducible refine hq.out.mono ?_)
  rintro e w3 ⟨A1, x1, R1, y1, rfl, hr1, -, hu1, hb⟩
  clear hq
  have hbb : Below w3.heap.size w3 (w3.alloc (.cells #[.int .i64 Pa, .int .i64 Ma, .slice A1 mla.length x1, .int .i64 NN, .slice R1 KK y1] 27)) := (Below.refl _ _).alloc (Nat.le_refl _) _
  have hbc := hb.trans (hbb.mono hb.size)
  have u1 := Lib.hid (Five.new w3 (.int .i64 Pa) (.int .i64 Ma) (.slice A1 mla.length x1) (.int .i64 NN) (.slice R1 KK y1) 27)
  have hd1 := (hu1.rdm.below hbb).more hbb.size
  replace hr1 := (hr1.below hbb).more hbb.size
  have hs1 : w3.heap.size < (w3.alloc (.cells #[.int .i64 Pa, .int .i64 Ma, .slice A1 mla.length x1, .int .i64 NN, .slice R1 KK y1] 27)).heap.size := by simp
  clear  a0 a1 a2 a3 a4 c0 c1 c2 c3 c4
  have fa3 := Lib.hid (fa2.out.keep hbc (by first | omega | (simp; omega)))
  have fb3 := Lib.hid (fb2.out.keep hbc (by first | omega | (simp; omega)))
  replace hBw := hBw.trans (hbc.mono hBw.size)
  replace hsz : s + 1 < (w3.alloc (.cells #[.int .i64 Pa, .int .i64 Ma, .slice A1 mla.length x1, .int .i64 NN, .slice R1 KK y1] 27)).heap.size := Nat.lt_of_lt_of_le hsz hbc.size
  clear fa2 fb2
  clear hbb hbc hu1 hb
  obtain ⟨a0, a1, a2, a3, a4, -⟩ := fa3.out
  obtain ⟨c0, c1, c2, c3, c4, -⟩ := fb3.out
  obtain ⟨d0, d1, d2, d3, d4, -⟩ := u1.out
  have hq := Lib.hid ((hCk A1 x1 R1 y1 _ hr1 hd1).out)
  go_wp2_with (fail)
  (with_reducible refine hq.out.mono ?_)
  rintro e w4 ⟨rfl, hb⟩
  clear hq d0 d1 d2 d3 d4
  clear  a0 a1 a2 a3 a4 c0 c1 c2 c3 c4
  replace u1 := Lib.hid (u1.out.keep hb hs1)
  replace hr1 := (hr1.below hb).more hb.size
  replace hd1 := (hd1.below hb).more hb.size
  replace hs1 := Nat.lt_of_lt_of_le hs1 hb.size
  have fa4 := Lib.hid (fa3.out.keep hb (by first | omega | (simp; omega)))
  have fb4 := Lib.hid (fb3.out.keep hb (by first | omega | (simp; omega)))
  replace hBw := hBw.trans (hb.mono hBw.size)
  replace hsz : s + 1 < w4.heap.size := Nat.lt_of_lt_of_le hsz hb.size
  clear fa3 fb3
  obtain ⟨a0, a1, a2, a3, a4, -⟩ := fa4.out
  obtain ⟨c0, c1, c2, c3, c4, -⟩ := fb4.out
  obtain ⟨d0, d1, d2, d3, d4, -⟩ := u1.out
  have hq := Lib.hid ((hSm A1 x1 _ hr1 ((hra.below hBw).more hBw.size)).out)
  go_wp2_with (fail)
  (with_reducible refine hq.out.mono ?_)
  rintro e w5 ⟨rfl, hb⟩
  clear hq d0 d1 d2 d3 d4
  clear  a0 a1 a2 a3 a4 c0 c1 c2 c3 c4
  replace u1 := Lib.hid (u1.out.keep hb hs1)
  replace hr1 := (hr1.below hb).more hb.size
  replace hd1 := (hd1.below hb).more hb.size
  replace hs1 := Nat.lt_of_lt_of_le hs1 hb.size
  have fa5 := Lib.hid (fa4.out.keep hb (by first | omega | (simp; omega)))
  have fb5 := Lib.hid (fb4.out.keep hb (by first | omega | (simp; omega)))
  replace hBw := hBw.trans (hb.mono hBw.size)
  replace hsz : s + 1 < w5.heap.size := Nat.lt_of_lt_of_le hsz hb.size
  clear fa4 fb4
  obtain ⟨a0, a1, a2, a3, a4, -⟩ := fa5.out
  obtain ⟨c0, c1, c2, c3, c4, -⟩ := fb5.out
  obtain ⟨d0, d1, d2, d3, d4, -⟩ := u1.out
  obtain ⟨g, hg⟩ : ∃ g, g = w5.heap.size := ⟨_, rfl⟩
  obtain ⟨Y, hY⟩ : ∃ Y, Y = w5.alloc (.cells (Array.replicate NN (Value.int .i64 0)) 3) := ⟨_, rfl⟩
  have hbY : Below w5.heap.size w5 Y := by rw [hY]; exact (Below.refl _ _).alloc (Nat.le_refl _) _
  have hib0 : IB Y g (ofT F.toDesc NN msg 0) := by
    rw [show ofT F.toDesc NN msg 0 = List.replicate NN 0 from by unfold ofT; rw [lst_zero]; exact lst_congr fun p hp => if_neg (by omega), hY, hg]; exact IB.newz w5 NN
  have hYs : g < Y.heap.size := by rw [hY, hg]; simp
  have hgH := Lib.hid hg
  replace hY := Lib.hid hY
  clear hg
  have hN0 : (0 : Int) ≤ (NN : Int) := by omega
  go_wp2_with (fail)
  rw [← hY.out, ← hgH.out]
  clear a0 a1 a2 a3 a4 c0 c1 c2 c3 c4 d0 d1 d2 d3 d4
  go_loopw [10] (fun iS wr => ∃ t : Nat, t ≤ NN ∧ t ≤ msg.length ∧ iS = .int .i64 t ∧ IB wr g (ofT F.toDesc NN msg t) ∧ Below w5.heap.size w5 wr ∧ g < wr.heap.size) (fun iS _ => NN - (intOf iS).toNat)
  case atStart => exact ⟨0, by omega, by omega, rfl, hib0, hbY, hYs⟩
  case round =>
    obtain ⟨t, ht, htm, rfl, hib, hB3, hgl⟩ := hrel
    obtain ⟨w6, rfl⟩ : ∃ w6 : World, w6 = wr := ⟨_, rfl⟩
    have hBw6 := hBw.trans (hB3.mono hBw.size)
    have fa6 := Lib.hid (fa5.out.keep hB3 (by omega))
    have fb6 := Lib.hid (fb5.out.keep hB3 hsz)
    have u6 := Lib.hid (u1.out.keep hB3 hs1)
    have hs56 := hB3.size
    have hsg : s + 1 < g := by have := hgH.out; omega
    obtain ⟨d0, d1, d2, d3, d4, -⟩ := u6.out
    by_cases hlt : t < NN ∧ t < msg.length
    · obtain ⟨hlt1, hlt2⟩ := hlt
      have hk0 : (0 : Int) ≤ (t : Int) := by omega
      have hk1 : (t : Int) < (NN : Int) := by omega
      have hk2 : (t : Int) < (msg.length : Int) := by omega
      obtain ⟨b1, o1, rfl, hbb1, hc1⟩ := hrw.at_ hlt2
      have hdw := (hBw6.cell (p := ⟨b1, o1 + t, none⟩) hbb1).trans hc1
      have hset := hib.set_ t (ci (eli F.toDesc (msg[t]?.getD 0)))
      rw [ofT_set] at hset
      have hfz := hib.frozen t
      have hcl := hib.cell (i := t) (by unfold ofT; rw [lst_length]; omega)
      have hI3 := hIn (msg[t]?.getD 0) w6.drew
      generalize hv9 : ci (eli F.toDesc (msg[t]?.getD 0)) = v9 at *
      generalize hy9 : msg[t]?.getD 0 = y at *
      replace hv9 := Lib.hid hv9
      replace hy9 := Lib.hid hy9
      have kk := Lib.hid (show (w6.cell? ⟨s, 0, none⟩ = some (.int .i64 Pa) ∧ w6.cell? ⟨s, 1, none⟩ = some (.int .i64 Ma) ∧ w6.cell? ⟨s, 2, none⟩ = some (.slice Aa mla.length ca)) ∧ w6.cell? ⟨b1, o1 + t, none⟩ = some (.int .i64 y) from ⟨⟨fa6.out.1, fa6.out.2.1, fa6.out.2.2.1⟩, hdw⟩)
      have x0 : s < w6.heap.size := by omega
      have x3 : b1 < w6.heap.size := Nat.lt_of_lt_of_le hbb1 hBw6.size
      have hbg : b1 ≠ g := by have := hgH.out; have := hBw.size; omega
      have hwg : s ≠ g := by omega
      clear hc1 hset
      go_wp2_with (fail)
      clear hdw hfz hcl
      refine wp_region_held_drew (S := fun w' => (w'.cell? ⟨s, 0, none⟩ = some (.int .i64 Pa) ∧ w'.cell? ⟨s, 1, none⟩ = some (.int .i64 Ma) ∧ w'.cell? ⟨s, 2, none⟩ = some (.slice Aa mla.length ca)) ∧ w'.cell? ⟨b1, o1 + t, none⟩ = some (.int .i64 y)) (by kernel_rfl) (by (try dsimp only); exact kk.out) (fun hHeld => ?_)
      refine wpAnyH_take (i := 0) (oi := ⟨_, _, _, _, _, _⟩) (v := ?_) rfl (by kernel_rfl) (by kernel_rfl) (by kernel_rfl) (fun _ _ _ h => h) (Or.inl ⟨by rfl, ?_⟩) (by assumption) ?_
      rotate_left
      · intro w hSw; (try dsimp only at hSw); go_simp; try with_reducible rfl
      try simp only [Act.put, List.setIfInBounds_toArray, List.set_cons_zero, List.set_cons_succ]
      refine wpAnyH_take (i := 1) (oi := ⟨_, _, _, _, _, _⟩) (v := ?_) rfl (by kernel_rfl) (by kernel_rfl) (by kernel_rfl) (fun _ _ _ h => h) (Or.inl ⟨by rfl, ?_⟩) (by assumption) ?_
      rotate_left
      · intro w hSw; (try dsimp only at hSw); go_simp; try with_reducible rfl
      try simp only [Act.put, List.setIfInBounds_toArray, List.set_cons_zero, List.set_cons_succ]
      refine wpAnyH_take (i := 2) (oi := ⟨_, _, _, _, _, _⟩) (v := ?_) rfl (by kernel_rfl) (by kernel_rfl) (by kernel_rfl) (fun _ _ _ h => h) (Or.inl ⟨by rfl, ?_⟩) (by assumption) ?_
      rotate_left
      · intro w hSw; (try dsimp only at hSw); go_simp; try with_reducible rfl
      try simp only [Act.put, List.setIfInBounds_toArray, List.set_cons_zero, List.set_cons_succ]
      refine wpAnyH_take (i := 3) (oi := ⟨_, _, _, _, _, _⟩) (v := ?_) rfl (by kernel_rfl) (by kernel_rfl) (by kernel_rfl) (fun _ _ _ h => h) (Or.inl ⟨by rfl, ?_⟩) (by assumption) ?_
      rotate_left
      · intro w hSw; (try dsimp only at hSw); go_simp; try with_reducible rfl
      try simp only [Act.put, List.setIfInBounds_toArray, List.set_cons_zero, List.set_cons_succ]
      refine wpAnyH_take (i := 4) (oi := ⟨_, _, _, _, _, _⟩) (v := ?_) rfl (by kernel_rfl) (by kernel_rfl) (by kernel_rfl) (fun _ _ _ h => h) (Or.inl ⟨by rfl, ?_⟩) (by assumption) ?_
      rotate_left
      · intro w hSw; (try dsimp only at hSw); go_simp; try with_reducible rfl
      try simp only [Act.put, List.setIfInBounds_toArray, List.set_cons_zero, List.set_cons_succ]
      refine wpAnyH_take (i := 5) (oi := ⟨_, _, _, _, _, _⟩) (v := ?_) rfl (by kernel_rfl) (by kernel_rfl) (by kernel_rfl) (fun _ _ _ h => h) (Or.inl ⟨by rfl, ?_⟩) (by assumption) ?_
      rotate_left
      · intro w hSw; (try dsimp only at hSw); go_simp; try with_reducible rfl
      try simp only [Act.put, List.setIfInBounds_toArray, List.set_cons_zero, List.set_cons_succ]
      refine wpAnyH_take (i := 6) (oi := ⟨_, _, _, _, _, _⟩) (v := ?_) rfl (by kernel_rfl) (by kernel_rfl) (by kernel_rfl) (fun _ _ _ h => h) (Or.inl ⟨by rfl, ?_⟩) (by assumption) ?_
      rotate_left
      · intro w hSw; (try dsimp only at hSw); go_simp; try with_reducible rfl
      try simp only [Act.put, List.setIfInBounds_toArray, List.set_cons_zero, List.set_cons_succ]
      refine wpAnyH_take (i := 7) (oi := ⟨_, _, _, _, _, _⟩) (v := ?_) rfl (by kernel_rfl) (by kernel_rfl) (by kernel_rfl) (fun _ _ _ h => h) (Or.inl ⟨by rfl, ?_⟩) (by assumption) ?_
      rotate_left
      · intro w hSw; (try dsimp only at hSw); go_simp; try with_reducible rfl
      try simp only [Act.put, List.setIfInBounds_toArray, List.set_cons_zero, List.set_cons_succ]
      refine wpAnyH_ready (rs := [8]) (by kernel_rfl) (by simp) ?_
      refine AllReadyH.cons (o := ⟨_, _, _, _, _, _⟩) rfl (fun K hK => ?_) AllReadyH.nil
      go_simp
      go_at_call 27
      (with_reducible refine (hI3).out.mono ?_)
      rintro e w7 ⟨rfl, hb4⟩
      have hib4 := (show IB w6.drew g _ from hib).below hb4 hgl
      have kk4 := Lib.hid (show (w7.cell? ⟨s, 0, none⟩ = some (.int .i64 Pa) ∧ w7.cell? ⟨s, 1, none⟩ = some (.int .i64 Ma) ∧ w7.cell? ⟨s, 2, none⟩ = some (.slice Aa mla.length ca)) ∧ w7.cell? ⟨b1, o1 + t, none⟩ = some (.int .i64 y) from ⟨keep3 hb4 x0 kk.out.1, (hb4.cell (p := ⟨b1, o1 + t, none⟩) x3).trans kk.out.2⟩)
      have hfz := hib4.frozen t
      have hcl := hib4.cell (i := t) (by unfold ofT; rw [lst_length]; omega)
      have hs4 : w6.heap.size ≤ w7.heap.size := hb4.size
      go_wp2_with (fail)
      refine hK.out _ _ (by (try dsimp only); exact kk4.out) (fun hHeld => ?_)
      clear hK K
      try simp only [Act.put, List.setIfInBounds_toArray, List.set_cons_zero, List.set_cons_succ]
      refine wpAnyH_take (i := 9) (oi := ⟨_, _, _, _, _, _⟩) (v := ?_) rfl (by kernel_rfl) (by kernel_rfl) (by kernel_rfl) (fun _ _ _ h => h) (Or.inl ⟨by rfl, ?_⟩) (by assumption) ?_
      rotate_left
      · intro w hSw; (try dsimp only at hSw); go_simp; try with_reducible rfl
      try simp only [Act.put, List.setIfInBounds_toArray, List.set_cons_zero, List.set_cons_succ]
      refine wpAnyH_ready (rs := [10]) (by kernel_rfl) (by simp) ?_
      refine AllReadyH.cons (o := ⟨_, _, _, _, _, _⟩) rfl (fun K hK => ?_) AllReadyH.nil
      go_simp
      have kk5 := Lib.hid (show ((w7.setCell ⟨g, t, none⟩ (.int .i64 v9)).cell? ⟨s, 0, none⟩ = some (.int .i64 Pa) ∧ (w7.setCell ⟨g, t, none⟩ (.int .i64 v9)).cell? ⟨s, 1, none⟩ = some (.int .i64 Ma) ∧ (w7.setCell ⟨g, t, none⟩ (.int .i64 v9)).cell? ⟨s, 2, none⟩ = some (.slice Aa mla.length ca)) ∧ (w7.setCell ⟨g, t, none⟩ (.int .i64 v9)).cell? ⟨b1, o1 + t, none⟩ = some (.int .i64 y) from ⟨⟨(World.cell?_setCell_far _ _ _ _ (Ne.symm hwg)).trans kk4.out.1.1, (World.cell?_setCell_far _ _ _ _ (Ne.symm hwg)).trans kk4.out.1.2.1, (World.cell?_setCell_far _ _ _ _ (Ne.symm hwg)).trans kk4.out.1.2.2⟩, (World.cell?_setCell_far _ _ _ _ (Ne.symm hbg)).trans kk4.out.2⟩)
      refine hK.out _ _ (by (try dsimp only); exact kk5.out) (fun hHeld => ?_)
      clear hK K
      try simp only [Act.put, List.setIfInBounds_toArray, List.set_cons_zero, List.set_cons_succ]
      refine wpAnyH_done (by kernel_rfl) ?_ _
      have hset := hib4.set_ t v9
      rw [← hv9.out, ← hy9.out, ofT_set, hy9.out, hv9.out] at hset
      have hBf := Lib.hid ((hB3.drew.trans (hb4.mono hB3.size)).setCell (p := ⟨g, t, none⟩) (Nat.le_of_eq hgH.out.symm) (.int .i64 v9))
      have hsz : Hid (g < (w7.setCell ⟨g, t, none⟩ (.int .i64 v9)).heap.size) := by unfold Hid; simp [World.setCell]; omega
      replace hset := Lib.hid hset
      clear hfz hcl
      go_wp2_with (fail)
      go_roundw
      case rel => exact ⟨t + 1, by omega, by omega, by go_num, hset.out, hBf.out, hsz.out⟩
      case measure => simp [intOf]; omega
    · have hful := (hof t (by omega)).out
      rw [hful] at hib
      replace hful := Lib.hid hful
      by_cases h1 : t < NN
      · have h2 : ¬ t < msg.length := fun h => hlt ⟨h1, h⟩
        have h1' : (t : Int) < (NN : Int) := by omega
        have h2' : ¬ (t : Int) < (msg.length : Int) := by omega
        clear hlt
        obtain ⟨a0, a1, a2, a3, a4, -⟩ := fa6.out
        obtain ⟨c0, c1, c2, c3, c4, -⟩ := fb6.out
        replace hib := Lib.hid hib
        go_wp2_with (fail)
        clear a0 a1 a2 a3 a4 c0 c1 c2 c3 c4 d0 d1 d2 d3 d4
        go_loopw [12, 11] (fun xS iS wr => ∃ (x : Nat) (b0 : Bool), x ≤ m1 ∧ xS = .int .i64 x ∧ iS = .bool b0 ∧ Hid (b0 = andB fR x) ∧ Below w6.heap.size w6 wr) (fun xS _ _ => m1 - (intOf xS).toNat)
        case atStart => exact ⟨0, true, by omega, rfl, rfl, rfl, Below.refl _ _⟩
        case round =>
          obtain ⟨x, b0, hx, rfl, rfl, hb0, hbx⟩ := hrel
          obtain ⟨w7, rfl⟩ : ∃ w7 : World, w7 = wr := ⟨_, rfl⟩
          have hBw7 := hBw6.trans (hbx.mono hBw6.size)
          have hs67 := hbx.size
          have fa7 := Lib.hid (fa6.out.keep hbx (by omega))
          have fb7 := Lib.hid (fb6.out.keep hbx (by omega))
          have u7 := Lib.hid (u6.out.keep hbx (by omega))
          have hib7 := hib.out.below hbx hgl
          obtain ⟨a0, a1, a2, a3, a4, -⟩ := fa7.out
          obtain ⟨c0, c1, c2, c3, c4, -⟩ := fb7.out
          by_cases hxm : x < m1
          · have hx0 : (0 : Int) ≤ (x : Int) := by omega
            have hx1 : (x : Int) < (m1 : Int) := by omega
            have hxN : m2 * x + m2 ≤ NN := by rw [hNN.out, ← Nat.mul_succ, Nat.mul_comm m1 m2]; exact Nat.mul_le_mul_left _ hxm
            obtain ⟨O, hO⟩ : ∃ O, O = m2 * x := ⟨_, rfl⟩
            obtain ⟨O2, hO2⟩ : ∃ O2, O2 = m2 * x + m2 := ⟨_, rfl⟩
            have hw1 : IntKind.i64.wrap ((x : Int) * (m2 : Int)) = (O : Int) := by
              rw [show ((x : Int) * (m2 : Int)) = (O : Int) from by rw [hO, Nat.mul_comm]; push_cast; rfl]
              exact IntWalk.i64_in _ (by omega)
            have hw2 : IntKind.i64.wrap ((x : Int) + 1) = (x : Int) + 1 := IntWalk.i64_in _ (by omega)
            have hw3 : IntKind.i64.wrap (((x : Int) + 1) * (m2 : Int)) = (O2 : Int) := by
              rw [show (((x : Int) + 1) * (m2 : Int)) = (O2 : Int) from by rw [hO2, ← Nat.mul_succ, Nat.mul_comm]; push_cast; rfl]
              exact IntWalk.i64_in _ (by omega)
            have hOO : O2 - O = m2 := by omega
            have hO3 : O ≤ O2 := by omega
            have hO4 : O2 ≤ NN := by omega
            have hO5 : (O : Int) ≤ (O2 : Int) := by omega
            have hO6 : (O2 : Int) ≤ (NN : Int) := by omega
            have hO0 : (0 : Int) ≤ (O : Int) := by omega
            have hNO : ¬ NN = O := by omega
            have hO7 : (0 : Int) ≤ (O2 : Int) := by omega
            have hsub : Rd w7 w7.heap.size (some ⟨g, O, none⟩) (rowL F.toDesc m2 (fun y => u (m2 * x + y))) := hib7.sub fun i hi => by
              rw [rowL_length] at hi
              exact ⟨by rw [rowL_length]; omega, by rw [rowL_get _ _ (show O + i < NN by omega), rowL_get _ _ hi, hO]⟩
            have hH3 := hHb x (NN - O) (some ⟨g, O, none⟩) w7.drew ((hrb.below hBw7).more hBw7.size).drew ((hmb.below hBw7).more hBw7.size) hsub.drew
            have kk := Lib.hid (show w7.cell? ⟨s + 1, 0, none⟩ = some (.int .i64 Pb) ∧ w7.cell? ⟨s + 1, 1, none⟩ = some (.int .i64 Mb) ∧ w7.cell? ⟨s + 1, 2, none⟩ = some (.slice Ab mlb.length cb) ∧ w7.cell? ⟨s + 1, 3, none⟩ = some (.int .i64 m2) ∧ w7.cell? ⟨s + 1, 4, none⟩ = some (.slice Rb nb kb) from ⟨c0, c1, c2, c3, c4⟩)
            have x1 : s + 1 < w7.heap.size := by omega
            replace hO := Lib.hid hO
            replace hO2 := Lib.hid hO2
            go_wp2_with (fail)
            clear a0 a1 a2 a3 a4 c0 c1 c2 c3 c4
            refine wp_region_held_drew (S := fun w' => w'.cell? ⟨s + 1, 0, none⟩ = some (.int .i64 Pb) ∧ w'.cell? ⟨s + 1, 1, none⟩ = some (.int .i64 Mb) ∧ w'.cell? ⟨s + 1, 2, none⟩ = some (.slice Ab mlb.length cb) ∧ w'.cell? ⟨s + 1, 3, none⟩ = some (.int .i64 m2) ∧ w'.cell? ⟨s + 1, 4, none⟩ = some (.slice Rb nb kb)) (by kernel_rfl) (by (try dsimp only); exact kk.out) (fun hHeld => ?_)
            refine wpAnyH_take (i := 0) (oi := ⟨_, _, _, _, _, _⟩) (v := ?_) rfl (by kernel_rfl) (by kernel_rfl) (by kernel_rfl) (fun _ _ _ h => h) (Or.inl ⟨by rfl, ?_⟩) (by assumption) ?_
            rotate_left
            · intro w hSw; (try dsimp only at hSw); go_simp; try with_reducible rfl
            try simp only [Act.put, List.setIfInBounds_toArray, List.set_cons_zero, List.set_cons_succ]
            refine wpAnyH_take (i := 1) (oi := ⟨_, _, _, _, _, _⟩) (v := ?_) rfl (by kernel_rfl) (by kernel_rfl) (by kernel_rfl) (fun _ _ _ h => h) (Or.inl ⟨by rfl, ?_⟩) (by assumption) ?_
            rotate_left
            · intro w hSw; (try dsimp only at hSw); go_simp; try with_reducible rfl
            try simp only [Act.put, List.setIfInBounds_toArray, List.set_cons_zero, List.set_cons_succ]
            refine wpAnyH_take (i := 2) (oi := ⟨_, _, _, _, _, _⟩) (v := ?_) rfl (by kernel_rfl) (by kernel_rfl) (by kernel_rfl) (fun _ _ _ h => h) (Or.inl ⟨by rfl, ?_⟩) (by assumption) ?_
            rotate_left
            · intro w hSw; (try dsimp only at hSw); go_simp; try with_reducible rfl
            try simp only [Act.put, List.setIfInBounds_toArray, List.set_cons_zero, List.set_cons_succ]
            refine wpAnyH_take (i := 3) (oi := ⟨_, _, _, _, _, _⟩) (v := ?_) rfl (by kernel_rfl) (by kernel_rfl) (by kernel_rfl) (fun _ _ _ h => h) (Or.inl ⟨by rfl, ?_⟩) (by assumption) ?_
            rotate_left
            · intro w hSw; (try dsimp only at hSw); go_simp; try with_reducible rfl
            try simp only [Act.put, List.setIfInBounds_toArray, List.set_cons_zero, List.set_cons_succ]
            refine wpAnyH_take (i := 4) (oi := ⟨_, _, _, _, _, _⟩) (v := ?_) rfl (by kernel_rfl) (by kernel_rfl) (by kernel_rfl) (fun _ _ _ h => h) (Or.inl ⟨by rfl, ?_⟩) (by assumption) ?_
            rotate_left
            · intro w hSw; (try dsimp only at hSw); go_simp; try with_reducible rfl
            try simp only [Act.put, List.setIfInBounds_toArray, List.set_cons_zero, List.set_cons_succ]
            refine wpAnyH_take (i := 5) (oi := ⟨_, _, _, _, _, _⟩) (v := ?_) rfl (by kernel_rfl) (by kernel_rfl) (by kernel_rfl) (fun _ _ _ h => h) (Or.inl ⟨by rfl, ?_⟩) (by assumption) ?_
            rotate_left
            · intro w hSw; (try dsimp only at hSw); go_simp; try with_reducible rfl
            try simp only [Act.put, List.setIfInBounds_toArray, List.set_cons_zero, List.set_cons_succ]
            refine wpAnyH_take (i := 6) (oi := ⟨_, _, _, _, _, _⟩) (v := ?_) rfl (by kernel_rfl) (by kernel_rfl) (by kernel_rfl) (fun _ _ _ h => h) (Or.inl ⟨by rfl, ?_⟩) (by assumption) ?_
            rotate_left
            · intro w hSw; (try dsimp only at hSw); go_simp; try with_reducible rfl
            try simp only [Act.put, List.setIfInBounds_toArray, List.set_cons_zero, List.set_cons_succ]
            refine wpAnyH_take (i := 7) (oi := ⟨_, _, _, _, _, _⟩) (v := ?_) rfl (by kernel_rfl) (by kernel_rfl) (by kernel_rfl) (fun _ _ _ h => h) (Or.inl ⟨by rfl, ?_⟩) (by assumption) ?_
            rotate_left
            · intro w hSw; (try dsimp only at hSw); go_simp; try with_reducible rfl
            try simp only [Act.put, List.setIfInBounds_toArray, List.set_cons_zero, List.set_cons_succ]
            refine wpAnyH_take (i := 8) (oi := ⟨_, _, _, _, _, _⟩) (v := ?_) rfl (by kernel_rfl) (by kernel_rfl) (by kernel_rfl) (fun _ _ _ h => h) (Or.inl ⟨by rfl, ?_⟩) (by assumption) ?_
            rotate_left
            · intro w hSw; (try dsimp only at hSw); go_simp; try with_reducible rfl
            try simp only [Act.put, List.setIfInBounds_toArray, List.set_cons_zero, List.set_cons_succ]
            refine wpAnyH_take (i := 9) (oi := ⟨_, _, _, _, _, _⟩) (v := ?_) rfl (by kernel_rfl) (by kernel_rfl) (by kernel_rfl) (fun _ _ _ h => h) (Or.inl ⟨by rfl, ?_⟩) (by assumption) ?_
            rotate_left
            · intro w hSw; (try dsimp only at hSw); go_simp; try with_reducible rfl
            try simp only [Act.put, List.setIfInBounds_toArray, List.set_cons_zero, List.set_cons_succ]
            refine wpAnyH_take (i := 10) (oi := ⟨_, _, _, _, _, _⟩) (v := ?_) rfl (by kernel_rfl) (by kernel_rfl) (by kernel_rfl) (fun _ _ _ h => h) (Or.inl ⟨by rfl, ?_⟩) (by assumption) ?_
            rotate_left
            · intro w hSw; (try dsimp only at hSw); go_simp; try with_reducible rfl
            try simp only [Act.put, List.setIfInBounds_toArray, List.set_cons_zero, List.set_cons_succ]
            refine wpAnyH_take (i := 11) (oi := ⟨_, _, _, _, _, _⟩) (v := ?_) rfl (by kernel_rfl) (by kernel_rfl) (by kernel_rfl) (fun _ _ _ h => h) (Or.inl ⟨by rfl, ?_⟩) (by assumption) ?_
            rotate_left
            · intro w hSw; (try dsimp only at hSw); go_simp; try with_reducible rfl
            try simp only [Act.put, List.setIfInBounds_toArray, List.set_cons_zero, List.set_cons_succ]
            refine wpAnyH_ready (rs := [12]) (by kernel_rfl) (by simp) ?_
            refine AllReadyH.cons (o := ⟨_, _, _, _, _, _⟩) rfl (fun K hK => ?_) AllReadyH.nil
            go_simp
            go_at_call 28
            (with_reducible refine (hH3).out.mono ?_)
            rintro e w8 ⟨rfl, hb8⟩
            have hb78 : Below w7.heap.size w7 w8 := (Below.refl _ w7).drew.trans hb8
            have kk8 := Lib.hid (cells_five ((show Five w7.drew (s + 1) _ _ _ _ _ from fb7.out).keep hb8 x1))
            go_wp2_with (fail)
            refine hK.out _ _ (by (try dsimp only); exact kk8.out) (fun hHeld => ?_)
            clear hK K
            try simp only [Act.put, List.setIfInBounds_toArray, List.set_cons_zero, List.set_cons_succ]
            refine wpAnyH_take (i := 13) (oi := ⟨_, _, _, _, _, _⟩) (v := ?_) rfl (by kernel_rfl) (by kernel_rfl) (by kernel_rfl) (fun _ _ _ h => h) (Or.inl ⟨by rfl, ?_⟩) (by assumption) ?_
            rotate_left
            · intro w hSw; (try dsimp only at hSw); go_simp; try with_reducible rfl
            try simp only [Act.put, List.setIfInBounds_toArray, List.set_cons_zero, List.set_cons_succ]
            refine wpAnyH_take (i := 14) (oi := ⟨_, _, _, _, _, _⟩) (v := ?_) rfl (by kernel_rfl) (by kernel_rfl) (by kernel_rfl) (fun _ _ _ h => h) (Or.inl ⟨by rfl, ?_⟩) (by assumption) ?_
            rotate_left
            · intro w hSw; (try dsimp only at hSw); go_simp; try with_reducible rfl
            try simp only [Act.put, List.setIfInBounds_toArray, List.set_cons_zero, List.set_cons_succ]
            refine wpAnyH_take (i := 15) (oi := ⟨_, _, _, _, _, _⟩) (v := ?_) rfl (by kernel_rfl) (by kernel_rfl) (by kernel_rfl) (fun _ _ _ h => h) (Or.inl ⟨by rfl, ?_⟩) (by assumption) ?_
            rotate_left
            · intro w hSw; (try dsimp only at hSw); go_simp; try with_reducible rfl
            try simp only [Act.put, List.setIfInBounds_toArray, List.set_cons_zero, List.set_cons_succ]
            refine wpAnyH_take (i := 16) (oi := ⟨_, _, _, _, _, _⟩) (v := ?_) rfl (by kernel_rfl) (by kernel_rfl) (by kernel_rfl) (fun _ _ _ h => h) (Or.inl ⟨by rfl, ?_⟩) (by assumption) ?_
            rotate_left
            · intro w hSw; (try dsimp only at hSw); go_simp; try with_reducible rfl
            try simp only [Act.put, List.setIfInBounds_toArray, List.set_cons_zero, List.set_cons_succ]
            refine wpAnyH_take (i := 17) (oi := ⟨_, _, _, _, _, _⟩) (v := ?_) rfl (by kernel_rfl) (by kernel_rfl) (by kernel_rfl) (fun _ _ _ h => h) (Or.inl ⟨by rfl, ?_⟩) (by assumption) ?_
            rotate_left
            · intro w hSw; (try dsimp only at hSw); go_simp; try with_reducible rfl
            try simp only [Act.put, List.setIfInBounds_toArray, List.set_cons_zero, List.set_cons_succ]
            refine wpAnyH_done (by kernel_rfl) ?_ _
            have hbf := Lib.hid (hbx.trans (hb78.mono hbx.size))
            generalize hfx : fR x = b1 at *
            replace hfx := Lib.hid hfx
            have hnext : Hid ((b0 && b1) = andB fR (x + 1)) := by unfold Hid; rw [hb0.out, ← hfx.out]; rfl
            clear hw1 hw2 hw3
            cases b0
            · go_wp2_with (fail)
              go_roundw
              case rel => exact ⟨x + 1, _, by omega, by go_num, rfl, hnext, hbf.out⟩
              case measure => simp [intOf]; omega
            · go_wp2_with (fail)
              go_roundw
              case rel => exact ⟨x + 1, _, by omega, by go_num, rfl, hnext, hbf.out⟩
              case measure => simp [intOf]; omega
          · obtain rfl : m1 = x := by omega
            replace hib7 := Lib.hid hib7
            go_wp2_with (fail)
            clear a0 a1 a2 a3 a4 c0 c1 c2 c3 c4
            go_loopw [15, 11] (fun yS iS wr => ∃ (y : Nat) (b9 : Bool), y ≤ m2 ∧ yS = .int .i64 y ∧ iS = .bool b9 ∧ Hid (b9 = (andB fR m1 && andB fC y)) ∧ Below w7.heap.size w7 wr) (fun yS _ _ => m2 - (intOf yS).toNat)
            case atStart => exact ⟨0, b0, by omega, rfl, rfl, by unfold Hid; rw [hb0.out]; simp [andB], Below.refl _ _⟩
            case round =>
              obtain ⟨y, b9, hy, rfl, rfl, hb9, hby⟩ := hrel
              obtain ⟨w8, rfl⟩ : ∃ w8 : World, w8 = wr := ⟨_, rfl⟩
              have hBw8 := hBw7.trans (hby.mono hBw7.size)
              have hs78 := hby.size
              have fa8 := Lib.hid (fa7.out.keep hby (by omega))
              have fb8 := Lib.hid (fb7.out.keep hby (by omega))
              have u8 := Lib.hid (u7.out.keep hby (by omega))
              have hib8 := Lib.hid (hib7.out.below hby (by omega))
              obtain ⟨a0, a1, a2, a3, a4, -⟩ := fa8.out
              obtain ⟨c0, c1, c2, c3, c4, -⟩ := fb8.out
              by_cases hym : y < m2
              · have hy0 : (0 : Int) ≤ (y : Int) := by omega
                have hy1 : (y : Int) < (m2 : Int) := by omega
                go_wp2_with (fail)
                clear a0 a1 a2 a3 a4 c0 c1 c2 c3 c4
                go_loopw [17, 16] (fun xS cS wr => ∃ x : Nat, x ≤ m1 ∧ xS = .int .i64 x ∧ Own wr w8.heap.size cS (rowL F.toDesc x (fun i => u (m2 * i + y))) ∧ Below w8.heap.size w8 wr) (fun xS _ _ => m1 - (intOf xS).toNat)
                case atStart => exact ⟨0, by omega, rfl, Own.nil _ _, Below.refl _ _⟩
                case round =>
                  obtain ⟨x, hx2, rfl, how, hbz⟩ := hrel
                  obtain ⟨w9, rfl⟩ : ∃ w9 : World, w9 = wr := ⟨_, rfl⟩
                  have hBw9 := hBw8.trans (hbz.mono hBw8.size)
                  have hs89 := hbz.size
                  have fa9 := Lib.hid (fa8.out.keep hbz (by omega))
                  have fb9 := Lib.hid (fb8.out.keep hbz (by omega))
                  have hib9 := hib8.out.below hbz (by omega)
                  obtain ⟨a0, a1, a2, a3, a4, -⟩ := fa9.out
                  obtain ⟨c0, c1, c2, c3, c4, -⟩ := fb9.out
                  by_cases hxm2 : x < m1
                  · have hx0 : (0 : Int) ≤ (x : Int) := by omega
                    have hx1 : (x : Int) < (m1 : Int) := by omega
                    have hxN : m2 * x + m2 ≤ NN := by rw [hNN.out, ← Nat.mul_succ, Nat.mul_comm m1 m2]; exact Nat.mul_le_mul_left _ hxm2
                    obtain ⟨O, hO⟩ : ∃ O, O = m2 * x := ⟨_, rfl⟩
                    obtain ⟨I, hI⟩ : ∃ I, I = m2 * x + y := ⟨_, rfl⟩
                    have hw1 : IntKind.i64.wrap ((x : Int) * (m2 : Int)) = (O : Int) := by
                      rw [show ((x : Int) * (m2 : Int)) = (O : Int) from by rw [hO, Nat.mul_comm]; push_cast; rfl]
                      exact IntWalk.i64_in _ (by omega)
                    have hw4 : IntKind.i64.wrap ((O : Int) + (y : Int)) = (I : Int) := by
                      rw [show ((O : Int) + (y : Int)) = (I : Int) from by rw [hO, hI]; push_cast; rfl]
                      exact IntWalk.i64_in _ (by omega)
                    have hw5 : (O : Int) + (y : Int) = (I : Int) := by rw [hO, hI]; push_cast; rfl
                    have hI0 : (0 : Int) ≤ (I : Int) := by omega
                    have hI1 : (I : Int) < (NN : Int) := by omega
                    have hI2 : I < NN := by omega
                    have hcl := hib9.cell (i := I) (by rw [rowL_length]; omega)
                    rw [rowL_get _ _ hI2] at hcl
                    have hsn := rowL_snoc7 F.toDesc x (fun i => u (m2 * i + y))
                    rw [show ci ((fun i => u (m2 * i + y)) x) = ci (u I) from by rw [hI]] at hsn
                    generalize ci (u I) = y3 at *
                    obtain ⟨Av, cv, rfl, -⟩ := how.form
                    have hle : (rowL F.toDesc x (fun i => u (m2 * i + y))).length ≤ 1000000 := by rw [rowL_length]; omega
                    replace hO := Lib.hid hO
                    replace hI := Lib.hid hI
                    replace hsn := Lib.hid hsn
                    clear hib9
                    go_wp2_with (at_builtin; refine wpList_app1 rfl _ _ rfl w8.heap.size _ _ _ how rfl rfl rfl hle hbz.size ?_; intro v5 w10 ho5 hb5 _ _; rw [hsn.out] at ho5)
                    have hbf := Lib.hid (hbz.trans hb5)
                    replace ho5 := Lib.hid ho5
                    go_roundw
                    case rel => exact ⟨x + 1, by omega, by go_num, ho5.out, hbf.out⟩
                    case measure => simp [intOf]; omega
                  · obtain rfl : m1 = x := by omega
                    obtain ⟨Av, cv, rfl, -, hrd, -⟩ := how.form
                    have hH3 := hHa y cv Av w9 ((hra.below hBw9).more hBw9.size) ((hma.below hBw9).more hBw9.size) hrd
                    rw [rowL_length]
                    clear how hrd
                    go_wp2_with (fail)
                    (with_reducible refine hH3.out.mono ?_)
                    rintro e w10 ⟨rfl, hb10⟩
                    have hbf := Lib.hid (hby.trans ((hbz.trans (hb10.mono hbz.size)).mono hby.size))
                    generalize hfy : fC y = b1 at *
                    replace hfy := Lib.hid hfy
                    have hnext : Hid ((b9 && b1) = (andB fR m1 && andB fC (y + 1))) := by unfold Hid; rw [hb9.out, ← hfy.out, Bool.and_assoc]; rfl
                    clear a0 a1 a2 a3 a4 c0 c1 c2 c3 c4 hH3
                    cases b9
                    · go_wp2_with (fail)
                      go_roundw
                      case rel => exact ⟨y + 1, _, by omega, by go_num, rfl, hnext, hbf.out⟩
                      case measure => simp [intOf]; omega
                    · go_wp2_with (fail)
                      go_roundw
                      case rel => exact ⟨y + 1, _, by omega, by go_num, rfl, hnext, hbf.out⟩
                      case measure => simp [intOf]; omega
              · obtain rfl : m2 = y := by omega
                obtain ⟨d0, d1, d2, d3, d4, -⟩ := u8.out
                have hb58 := hB3.trans ((hbx.mono hB3.size).trans (hby.mono (Nat.le_trans hB3.size hbx.size)))
                have hH3 := hHP A1 R1 x1 y1 NN (some ⟨g, 0, none⟩) w8 ((hr1.below hb58).more hb58.size) ((hd1.below hb58).more hb58.size) hib8.out.rd
                rw [← hb9.out] at hH3
                clear hb9
                go_wp2_with (fail)
                (with_reducible refine hH3.out.mono ?_)
                rintro e w9 ⟨rfl, hb9⟩
                go_wp2_with (fail)
                go_ret
                exact ⟨rfl, hBw8.trans (hb9.mono hBw8.size)⟩
      · have h1' : ¬ (t : Int) < (NN : Int) := by omega
        clear hlt
        obtain ⟨a0, a1, a2, a3, a4, -⟩ := fa6.out
        obtain ⟨c0, c1, c2, c3, c4, -⟩ := fb6.out
        replace hib := Lib.hid hib
        go_wp2_with (fail)
        clear a0 a1 a2 a3 a4 c0 c1 c2 c3 c4 d0 d1 d2 d3 d4
        go_loopw [12, 11] (fun xS iS wr => ∃ (x : Nat) (b0 : Bool), x ≤ m1 ∧ xS = .int .i64 x ∧ iS = .bool b0 ∧ Hid (b0 = andB fR x) ∧ Below w6.heap.size w6 wr) (fun xS _ _ => m1 - (intOf xS).toNat)
        case atStart => exact ⟨0, true, by omega, rfl, rfl, rfl, Below.refl _ _⟩
        case round =>
          obtain ⟨x, b0, hx, rfl, rfl, hb0, hbx⟩ := hrel
          obtain ⟨w7, rfl⟩ : ∃ w7 : World, w7 = wr := ⟨_, rfl⟩
          have hBw7 := hBw6.trans (hbx.mono hBw6.size)
          have hs67 := hbx.size
          have fa7 := Lib.hid (fa6.out.keep hbx (by omega))
          have fb7 := Lib.hid (fb6.out.keep hbx (by omega))
          have u7 := Lib.hid (u6.out.keep hbx (by omega))
          have hib7 := hib.out.below hbx hgl
          obtain ⟨a0, a1, a2, a3, a4, -⟩ := fa7.out
          obtain ⟨c0, c1, c2, c3, c4, -⟩ := fb7.out
          by_cases hxm : x < m1
          · have hx0 : (0 : Int) ≤ (x : Int) := by omega
            have hx1 : (x : Int) < (m1 : Int) := by omega
            have hxN : m2 * x + m2 ≤ NN := by rw [hNN.out, ← Nat.mul_succ, Nat.mul_comm m1 m2]; exact Nat.mul_le_mul_left _ hxm
            obtain ⟨O, hO⟩ : ∃ O, O = m2 * x := ⟨_, rfl⟩
            obtain ⟨O2, hO2⟩ : ∃ O2, O2 = m2 * x + m2 := ⟨_, rfl⟩
            have hw1 : IntKind.i64.wrap ((x : Int) * (m2 : Int)) = (O : Int) := by
              rw [show ((x : Int) * (m2 : Int)) = (O : Int) from by rw [hO, Nat.mul_comm]; push_cast; rfl]
              exact IntWalk.i64_in _ (by omega)
            have hw2 : IntKind.i64.wrap ((x : Int) + 1) = (x : Int) + 1 := IntWalk.i64_in _ (by omega)
            have hw3 : IntKind.i64.wrap (((x : Int) + 1) * (m2 : Int)) = (O2 : Int) := by
              rw [show (((x : Int) + 1) * (m2 : Int)) = (O2 : Int) from by rw [hO2, ← Nat.mul_succ, Nat.mul_comm]; push_cast; rfl]
              exact IntWalk.i64_in _ (by omega)
            have hOO : O2 - O = m2 := by omega
            have hO3 : O ≤ O2 := by omega
            have hO4 : O2 ≤ NN := by omega
            have hO5 : (O : Int) ≤ (O2 : Int) := by omega
            have hO6 : (O2 : Int) ≤ (NN : Int) := by omega
            have hO0 : (0 : Int) ≤ (O : Int) := by omega
            have hNO : ¬ NN = O := by omega
            have hO7 : (0 : Int) ≤ (O2 : Int) := by omega
            have hsub : Rd w7 w7.heap.size (some ⟨g, O, none⟩) (rowL F.toDesc m2 (fun y => u (m2 * x + y))) := hib7.sub fun i hi => by
              rw [rowL_length] at hi
              exact ⟨by rw [rowL_length]; omega, by rw [rowL_get _ _ (show O + i < NN by omega), rowL_get _ _ hi, hO]⟩
            have hH3 := hHb x (NN - O) (some ⟨g, O, none⟩) w7.drew ((hrb.below hBw7).more hBw7.size).drew ((hmb.below hBw7).more hBw7.size) hsub.drew
            have kk := Lib.hid (show w7.cell? ⟨s + 1, 0, none⟩ = some (.int .i64 Pb) ∧ w7.cell? ⟨s + 1, 1, none⟩ = some (.int .i64 Mb) ∧ w7.cell? ⟨s + 1, 2, none⟩ = some (.slice Ab mlb.length cb) ∧ w7.cell? ⟨s + 1, 3, none⟩ = some (.int .i64 m2) ∧ w7.cell? ⟨s + 1, 4, none⟩ = some (.slice Rb nb kb) from ⟨c0, c1, c2, c3, c4⟩)
            have x1 : s + 1 < w7.heap.size := by omega
            replace hO := Lib.hid hO
            replace hO2 := Lib.hid hO2
            go_wp2_with (fail)
            clear a0 a1 a2 a3 a4 c0 c1 c2 c3 c4
            refine wp_region_held_drew (S := fun w' => w'.cell? ⟨s + 1, 0, none⟩ = some (.int .i64 Pb) ∧ w'.cell? ⟨s + 1, 1, none⟩ = some (.int .i64 Mb) ∧ w'.cell? ⟨s + 1, 2, none⟩ = some (.slice Ab mlb.length cb) ∧ w'.cell? ⟨s + 1, 3, none⟩ = some (.int .i64 m2) ∧ w'.cell? ⟨s + 1, 4, none⟩ = some (.slice Rb nb kb)) (by kernel_rfl) (by (try dsimp only); exact kk.out) (fun hHeld => ?_)
            refine wpAnyH_take (i := 0) (oi := ⟨_, _, _, _, _, _⟩) (v := ?_) rfl (by kernel_rfl) (by kernel_rfl) (by kernel_rfl) (fun _ _ _ h => h) (Or.inl ⟨by rfl, ?_⟩) (by assumption) ?_
            rotate_left
            · intro w hSw; (try dsimp only at hSw); go_simp; try with_reducible rfl
            try simp only [Act.put, List.setIfInBounds_toArray, List.set_cons_zero, List.set_cons_succ]
            refine wpAnyH_take (i := 1) (oi := ⟨_, _, _, _, _, _⟩) (v := ?_) rfl (by kernel_rfl) (by kernel_rfl) (by kernel_rfl) (fun _ _ _ h => h) (Or.inl ⟨by rfl, ?_⟩) (by assumption) ?_
            rotate_left
            · intro w hSw; (try dsimp only at hSw); go_simp; try with_reducible rfl
            try simp only [Act.put, List.setIfInBounds_toArray, List.set_cons_zero, List.set_cons_succ]
            refine wpAnyH_take (i := 2) (oi := ⟨_, _, _, _, _, _⟩) (v := ?_) rfl (by kernel_rfl) (by kernel_rfl) (by kernel_rfl) (fun _ _ _ h => h) (Or.inl ⟨by rfl, ?_⟩) (by assumption) ?_
            rotate_left
            · intro w hSw; (try dsimp only at hSw); go_simp; try with_reducible rfl
            try simp only [Act.put, List.setIfInBounds_toArray, List.set_cons_zero, List.set_cons_succ]
            refine wpAnyH_take (i := 3) (oi := ⟨_, _, _, _, _, _⟩) (v := ?_) rfl (by kernel_rfl) (by kernel_rfl) (by kernel_rfl) (fun _ _ _ h => h) (Or.inl ⟨by rfl, ?_⟩) (by assumption) ?_
            rotate_left
            · intro w hSw; (try dsimp only at hSw); go_simp; try with_reducible rfl
            try simp only [Act.put, List.setIfInBounds_toArray, List.set_cons_zero, List.set_cons_succ]
            refine wpAnyH_take (i := 4) (oi := ⟨_, _, _, _, _, _⟩) (v := ?_) rfl (by kernel_rfl) (by kernel_rfl) (by kernel_rfl) (fun _ _ _ h => h) (Or.inl ⟨by rfl, ?_⟩) (by assumption) ?_
            rotate_left
            · intro w hSw; (try dsimp only at hSw); go_simp; try with_reducible rfl
            try simp only [Act.put, List.setIfInBounds_toArray, List.set_cons_zero, List.set_cons_succ]
            refine wpAnyH_take (i := 5) (oi := ⟨_, _, _, _, _, _⟩) (v := ?_) rfl (by kernel_rfl) (by kernel_rfl) (by kernel_rfl) (fun _ _ _ h => h) (Or.inl ⟨by rfl, ?_⟩) (by assumption) ?_
            rotate_left
            · intro w hSw; (try dsimp only at hSw); go_simp; try with_reducible rfl
            try simp only [Act.put, List.setIfInBounds_toArray, List.set_cons_zero, List.set_cons_succ]
            refine wpAnyH_take (i := 6) (oi := ⟨_, _, _, _, _, _⟩) (v := ?_) rfl (by kernel_rfl) (by kernel_rfl) (by kernel_rfl) (fun _ _ _ h => h) (Or.inl ⟨by rfl, ?_⟩) (by assumption) ?_
            rotate_left
            · intro w hSw; (try dsimp only at hSw); go_simp; try with_reducible rfl
            try simp only [Act.put, List.setIfInBounds_toArray, List.set_cons_zero, List.set_cons_succ]
            refine wpAnyH_take (i := 7) (oi := ⟨_, _, _, _, _, _⟩) (v := ?_) rfl (by kernel_rfl) (by kernel_rfl) (by kernel_rfl) (fun _ _ _ h => h) (Or.inl ⟨by rfl, ?_⟩) (by assumption) ?_
            rotate_left
            · intro w hSw; (try dsimp only at hSw); go_simp; try with_reducible rfl
            try simp only [Act.put, List.setIfInBounds_toArray, List.set_cons_zero, List.set_cons_succ]
            refine wpAnyH_take (i := 8) (oi := ⟨_, _, _, _, _, _⟩) (v := ?_) rfl (by kernel_rfl) (by kernel_rfl) (by kernel_rfl) (fun _ _ _ h => h) (Or.inl ⟨by rfl, ?_⟩) (by assumption) ?_
            rotate_left
            · intro w hSw; (try dsimp only at hSw); go_simp; try with_reducible rfl
            try simp only [Act.put, List.setIfInBounds_toArray, List.set_cons_zero, List.set_cons_succ]
            refine wpAnyH_take (i := 9) (oi := ⟨_, _, _, _, _, _⟩) (v := ?_) rfl (by kernel_rfl) (by kernel_rfl) (by kernel_rfl) (fun _ _ _ h => h) (Or.inl ⟨by rfl, ?_⟩) (by assumption) ?_
            rotate_left
            · intro w hSw; (try dsimp only at hSw); go_simp; try with_reducible rfl
            try simp only [Act.put, List.setIfInBounds_toArray, List.set_cons_zero, List.set_cons_succ]
            refine wpAnyH_take (i := 10) (oi := ⟨_, _, _, _, _, _⟩) (v := ?_) rfl (by kernel_rfl) (by kernel_rfl) (by kernel_rfl) (fun _ _ _ h => h) (Or.inl ⟨by rfl, ?_⟩) (by assumption) ?_
            rotate_left
            · intro w hSw; (try dsimp only at hSw); go_simp; try with_reducible rfl
            try simp only [Act.put, List.setIfInBounds_toArray, List.set_cons_zero, List.set_cons_succ]
            refine wpAnyH_take (i := 11) (oi := ⟨_, _, _, _, _, _⟩) (v := ?_) rfl (by kernel_rfl) (by kernel_rfl) (by kernel_rfl) (fun _ _ _ h => h) (Or.inl ⟨by rfl, ?_⟩) (by assumption) ?_
            rotate_left
            · intro w hSw; (try dsimp only at hSw); go_simp; try with_reducible rfl
            try simp only [Act.put, List.setIfInBounds_toArray, List.set_cons_zero, List.set_cons_succ]
            refine wpAnyH_ready (rs := [12]) (by kernel_rfl) (by simp) ?_
            refine AllReadyH.cons (o := ⟨_, _, _, _, _, _⟩) rfl (fun K hK => ?_) AllReadyH.nil
            go_simp
            go_at_call 28
            (with_reducible refine (hH3).out.mono ?_)
            rintro e w8 ⟨rfl, hb8⟩
            have hb78 : Below w7.heap.size w7 w8 := (Below.refl _ w7).drew.trans hb8
            have kk8 := Lib.hid (cells_five ((show Five w7.drew (s + 1) _ _ _ _ _ from fb7.out).keep hb8 x1))
            go_wp2_with (fail)
            refine hK.out _ _ (by (try dsimp only); exact kk8.out) (fun hHeld => ?_)
            clear hK K
            try simp only [Act.put, List.setIfInBounds_toArray, List.set_cons_zero, List.set_cons_succ]
            refine wpAnyH_take (i := 13) (oi := ⟨_, _, _, _, _, _⟩) (v := ?_) rfl (by kernel_rfl) (by kernel_rfl) (by kernel_rfl) (fun _ _ _ h => h) (Or.inl ⟨by rfl, ?_⟩) (by assumption) ?_
            rotate_left
            · intro w hSw; (try dsimp only at hSw); go_simp; try with_reducible rfl
            try simp only [Act.put, List.setIfInBounds_toArray, List.set_cons_zero, List.set_cons_succ]
            refine wpAnyH_take (i := 14) (oi := ⟨_, _, _, _, _, _⟩) (v := ?_) rfl (by kernel_rfl) (by kernel_rfl) (by kernel_rfl) (fun _ _ _ h => h) (Or.inl ⟨by rfl, ?_⟩) (by assumption) ?_
            rotate_left
            · intro w hSw; (try dsimp only at hSw); go_simp; try with_reducible rfl
            try simp only [Act.put, List.setIfInBounds_toArray, List.set_cons_zero, List.set_cons_succ]
            refine wpAnyH_take (i := 15) (oi := ⟨_, _, _, _, _, _⟩) (v := ?_) rfl (by kernel_rfl) (by kernel_rfl) (by kernel_rfl) (fun _ _ _ h => h) (Or.inl ⟨by rfl, ?_⟩) (by assumption) ?_
            rotate_left
            · intro w hSw; (try dsimp only at hSw); go_simp; try with_reducible rfl
            try simp only [Act.put, List.setIfInBounds_toArray, List.set_cons_zero, List.set_cons_succ]
            refine wpAnyH_take (i := 16) (oi := ⟨_, _, _, _, _, _⟩) (v := ?_) rfl (by kernel_rfl) (by kernel_rfl) (by kernel_rfl) (fun _ _ _ h => h) (Or.inl ⟨by rfl, ?_⟩) (by assumption) ?_
            rotate_left
            · intro w hSw; (try dsimp only at hSw); go_simp; try with_reducible rfl
            try simp only [Act.put, List.setIfInBounds_toArray, List.set_cons_zero, List.set_cons_succ]
            refine wpAnyH_take (i := 17) (oi := ⟨_, _, _, _, _, _⟩) (v := ?_) rfl (by kernel_rfl) (by kernel_rfl) (by kernel_rfl) (fun _ _ _ h => h) (Or.inl ⟨by rfl, ?_⟩) (by assumption) ?_
            rotate_left
            · intro w hSw; (try dsimp only at hSw); go_simp; try with_reducible rfl
            try simp only [Act.put, List.setIfInBounds_toArray, List.set_cons_zero, List.set_cons_succ]
            refine wpAnyH_done (by kernel_rfl) ?_ _
            have hbf := Lib.hid (hbx.trans (hb78.mono hbx.size))
            generalize hfx : fR x = b1 at *
            replace hfx := Lib.hid hfx
            have hnext : Hid ((b0 && b1) = andB fR (x + 1)) := by unfold Hid; rw [hb0.out, ← hfx.out]; rfl
            clear hw1 hw2 hw3
            cases b0
            · go_wp2_with (fail)
              go_roundw
              case rel => exact ⟨x + 1, _, by omega, by go_num, rfl, hnext, hbf.out⟩
              case measure => simp [intOf]; omega
            · go_wp2_with (fail)
              go_roundw
              case rel => exact ⟨x + 1, _, by omega, by go_num, rfl, hnext, hbf.out⟩
              case measure => simp [intOf]; omega
          · obtain rfl : m1 = x := by omega
            replace hib7 := Lib.hid hib7
            go_wp2_with (fail)
            clear a0 a1 a2 a3 a4 c0 c1 c2 c3 c4
            go_loopw [15, 11] (fun yS iS wr => ∃ (y : Nat) (b9 : Bool), y ≤ m2 ∧ yS = .int .i64 y ∧ iS = .bool b9 ∧ Hid (b9 = (andB fR m1 && andB fC y)) ∧ Below w7.heap.size w7 wr) (fun yS _ _ => m2 - (intOf yS).toNat)
            case atStart => exact ⟨0, b0, by omega, rfl, rfl, by unfold Hid; rw [hb0.out]; simp [andB], Below.refl _ _⟩
            case round =>
              obtain ⟨y, b9, hy, rfl, rfl, hb9, hby⟩ := hrel
              obtain ⟨w8, rfl⟩ : ∃ w8 : World, w8 = wr := ⟨_, rfl⟩
              have hBw8 := hBw7.trans (hby.mono hBw7.size)
              have hs78 := hby.size
              have fa8 := Lib.hid (fa7.out.keep hby (by omega))
              have fb8 := Lib.hid (fb7.out.keep hby (by omega))
              have u8 := Lib.hid (u7.out.keep hby (by omega))
              have hib8 := Lib.hid (hib7.out.below hby (by omega))
              obtain ⟨a0, a1, a2, a3, a4, -⟩ := fa8.out
              obtain ⟨c0, c1, c2, c3, c4, -⟩ := fb8.out
              by_cases hym : y < m2
              · have hy0 : (0 : Int) ≤ (y : Int) := by omega
                have hy1 : (y : Int) < (m2 : Int) := by omega
                go_wp2_with (fail)
                clear a0 a1 a2 a3 a4 c0 c1 c2 c3 c4
                go_loopw [17, 16] (fun xS cS wr => ∃ x : Nat, x ≤ m1 ∧ xS = .int .i64 x ∧ Own wr w8.heap.size cS (rowL F.toDesc x (fun i => u (m2 * i + y))) ∧ Below w8.heap.size w8 wr) (fun xS _ _ => m1 - (intOf xS).toNat)
                case atStart => exact ⟨0, by omega, rfl, Own.nil _ _, Below.refl _ _⟩
                case round =>
                  obtain ⟨x, hx2, rfl, how, hbz⟩ := hrel
                  obtain ⟨w9, rfl⟩ : ∃ w9 : World, w9 = wr := ⟨_, rfl⟩
                  have hBw9 := hBw8.trans (hbz.mono hBw8.size)
                  have hs89 := hbz.size
                  have fa9 := Lib.hid (fa8.out.keep hbz (by omega))
                  have fb9 := Lib.hid (fb8.out.keep hbz (by omega))
                  have hib9 := hib8.out.below hbz (by omega)
                  obtain ⟨a0, a1, a2, a3, a4, -⟩ := fa9.out
                  obtain ⟨c0, c1, c2, c3, c4, -⟩ := fb9.out
                  by_cases hxm2 : x < m1
                  · have hx0 : (0 : Int) ≤ (x : Int) := by omega
                    have hx1 : (x : Int) < (m1 : Int) := by omega
                    have hxN : m2 * x + m2 ≤ NN := by rw [hNN.out, ← Nat.mul_succ, Nat.mul_comm m1 m2]; exact Nat.mul_le_mul_left _ hxm2
                    obtain ⟨O, hO⟩ : ∃ O, O = m2 * x := ⟨_, rfl⟩
                    obtain ⟨I, hI⟩ : ∃ I, I = m2 * x + y := ⟨_, rfl⟩
                    have hw1 : IntKind.i64.wrap ((x : Int) * (m2 : Int)) = (O : Int) := by
                      rw [show ((x : Int) * (m2 : Int)) = (O : Int) from by rw [hO, Nat.mul_comm]; push_cast; rfl]
                      exact IntWalk.i64_in _ (by omega)
                    have hw4 : IntKind.i64.wrap ((O : Int) + (y : Int)) = (I : Int) := by
                      rw [show ((O : Int) + (y : Int)) = (I : Int) from by rw [hO, hI]; push_cast; rfl]
                      exact IntWalk.i64_in _ (by omega)
                    have hw5 : (O : Int) + (y : Int) = (I : Int) := by rw [hO, hI]; push_cast; rfl
                    have hI0 : (0 : Int) ≤ (I : Int) := by omega
                    have hI1 : (I : Int) < (NN : Int) := by omega
                    have hI2 : I < NN := by omega
                    have hcl := hib9.cell (i := I) (by rw [rowL_length]; omega)
                    rw [rowL_get _ _ hI2] at hcl
                    have hsn := rowL_snoc7 F.toDesc x (fun i => u (m2 * i + y))
                    rw [show ci ((fun i => u (m2 * i + y)) x) = ci (u I) from by rw [hI]] at hsn
                    generalize ci (u I) = y3 at *
                    obtain ⟨Av, cv, rfl, -⟩ := how.form
                    have hle : (rowL F.toDesc x (fun i => u (m2 * i + y))).length ≤ 1000000 := by rw [rowL_length]; omega
                    replace hO := Lib.hid hO
                    replace hI := Lib.hid hI
                    replace hsn := Lib.hid hsn
                    clear hib9
                    go_wp2_with (at_builtin; refine wpList_app1 rfl _ _ rfl w8.heap.size _ _ _ how rfl rfl rfl hle hbz.size ?_; intro v5 w10 ho5 hb5 _ _; rw [hsn.out] at ho5)
                    have hbf := Lib.hid (hbz.trans hb5)
                    replace ho5 := Lib.hid ho5
                    go_roundw
                    case rel => exact ⟨x + 1, by omega, by go_num, ho5.out, hbf.out⟩
                    case measure => simp [intOf]; omega
                  · obtain rfl : m1 = x := by omega
                    obtain ⟨Av, cv, rfl, -, hrd, -⟩ := how.form
                    have hH3 := hHa y cv Av w9 ((hra.below hBw9).more hBw9.size) ((hma.below hBw9).more hBw9.size) hrd
                    rw [rowL_length]
                    clear how hrd
                    go_wp2_with (fail)
                    (with_reducible refine hH3.out.mono ?_)
                    rintro e w10 ⟨rfl, hb10⟩
                    have hbf := Lib.hid (hby.trans ((hbz.trans (hb10.mono hbz.size)).mono hby.size))
                    generalize hfy : fC y = b1 at *
                    replace hfy := Lib.hid hfy
                    have hnext : Hid ((b9 && b1) = (andB fR m1 && andB fC (y + 1))) := by unfold Hid; rw [hb9.out, ← hfy.out, Bool.and_assoc]; rfl
                    clear a0 a1 a2 a3 a4 c0 c1 c2 c3 c4 hH3
                    cases b9
                    · go_wp2_with (fail)
                      go_roundw
                      case rel => exact ⟨y + 1, _, by omega, by go_num, rfl, hnext, hbf.out⟩
                      case measure => simp [intOf]; omega
                    · go_wp2_with (fail)
                      go_roundw
                      case rel => exact ⟨y + 1, _, by omega, by go_num, rfl, hnext, hbf.out⟩
                      case measure => simp [intOf]; omega
              · obtain rfl : m2 = y := by omega
                obtain ⟨d0, d1, d2, d3, d4, -⟩ := u8.out
                have hb58 := hB3.trans ((hbx.mono hB3.size).trans (hby.mono (Nat.le_trans hB3.size hbx.size)))
                have hH3 := hHP A1 R1 x1 y1 NN (some ⟨g, 0, none⟩) w8 ((hr1.below hb58).more hb58.size) ((hd1.below hb58).more hb58.size) hib8.out.rd
                rw [← hb9.out] at hH3
                clear hb9
                go_wp2_with (fail)
                (with_reducible refine hH3.out.mono ?_)
                rintro e w9 ⟨rfl, hb9⟩
                go_wp2_with (fail)
                go_ret
                exact ⟨rfl, hBw8.trans (hb9.mono hBw8.size)⟩
end Go.Proofs.Ytghgbjgoedlnjaa
