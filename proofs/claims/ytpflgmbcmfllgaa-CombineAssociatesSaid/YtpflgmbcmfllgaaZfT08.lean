/- CombineAssociates: the walk. -/
import Derived.Test.YtpflgmbcmfllgaaZfT00
import Derived.Test.YtpflgmbcmfllgaaZfAsE
namespace Go.Proofs.Ytpflgmbcmfllgaa
open Go.RowKit Cw
attribute [local go_sem] Oper.semAt_some

theorem three_enter (Pa Ma Na : Int) (mla : List Int) (na : Nat) (rowsa : Nat → List Int) (Aa Ra : Option Addr) (ca ka : Nat) (Pb Mb Nb : Int) (mlb : List Int) (nb : Nat) (rowsb : Nat → List Int) (Ab Rb : Option Addr) (cb kb : Nat) (Ph Mh Nh : Int) (mlh : List Int) (nh : Nat) (_rowsh : Nat → List Int) (Ah Rh : Option Addr) (ch kh : Nat) (w : World) {Z : World} (hZ : Z = ((w.alloc (.cells #[.int .i64 Pa, .int .i64 Ma, .slice Aa mla.length ca, .int .i64 Na, .slice Ra na ka] 27)).alloc (.cells #[.int .i64 Pb, .int .i64 Mb, .slice Ab mlb.length cb, .int .i64 Nb, .slice Rb nb kb] 27)).alloc (.cells #[.int .i64 Ph, .int .i64 Mh, .slice Ah mlh.length ch, .int .i64 Nh, .slice Rh nh kh] 27)) {s : Nat} (hs : s = w.heap.size) : Z.heap.size = s + 1 + 1 + 1 ∧ Five Z s (.int .i64 Pa) (.int .i64 Ma) (.slice Aa mla.length ca) (.int .i64 Na) (.slice Ra na ka) ∧ Five Z (s + 1) (.int .i64 Pb) (.int .i64 Mb) (.slice Ab mlb.length cb) (.int .i64 Nb) (.slice Rb nb kb) ∧ Five Z (s + 1 + 1) (.int .i64 Ph) (.int .i64 Mh) (.slice Ah mlh.length ch) (.int .i64 Nh) (.slice Rh nh kh) := by
  obtain ⟨Y, hY⟩ : ∃ Y, Y = (w.alloc (.cells #[.int .i64 Pa, .int .i64 Ma, .slice Aa mla.length ca, .int .i64 Na, .slice Ra na ka] 27)).alloc (.cells #[.int .i64 Pb, .int .i64 Mb, .slice Ab mlb.length cb, .int .i64 Nb, .slice Rb nb kb] 27) := ⟨_, rfl⟩
  obtain ⟨e1, f1, f2⟩ := two_enter2 Pa Ma Na mla na rowsa Aa Ra ca ka Pb Mb Nb mlb nb rowsb Ab Rb cb kb w hY hs
  rw [← hY] at hZ
  have k := Five.new Y (.int .i64 Ph) (.int .i64 Mh) (.slice Ah mlh.length ch) (.int .i64 Nh) (.slice Rh nh kh) 27
  rw [← hZ, e1] at k
  have hb : Below Y.heap.size Y Z := by rw [hZ]; exact (Below.refl _ _).alloc (Nat.le_refl _) _
  exact ⟨by rw [hZ]; simp [e1], f1.keep hb (by omega), f2.keep hb (by omega), k⟩

theorem below_set5 {B : Nat} {a w : World} (h : Below B a w) {b : Nat} (hb : B ≤ b) (u0 u1 u2 u3 u4 : Value) : Below B a (((((w.setCell ⟨b, 0, none⟩ u0).setCell ⟨b, 1, none⟩ u1).setCell ⟨b, 2, none⟩ u2).setCell ⟨b, 3, none⟩ u3).setCell ⟨b, 4, none⟩ u4) :=
  ((((h.setCell (p := ⟨b, 0, none⟩) hb u0).setCell (p := ⟨b, 1, none⟩) hb u1).setCell (p := ⟨b, 2, none⟩) hb u2).setCell (p := ⟨b, 3, none⟩) hb u3).setCell (p := ⟨b, 4, none⟩) hb u4
set_option maxRecDepth 100000 in
set_option maxHeartbeats 16000000 in
theorem associatesL (Pa Ma Na : Int) (mla : List Int) (na : Nat) (rowsa : Nat → List Int) (Aa Ra : Option Addr) (ca ka : Nat) (Pb Mb Nb : Int) (mlb : List Int) (nb : Nat) (rowsb : Nat → List Int) (Ab Rb : Option Addr) (cb kb : Nat) (Ph Mh Nh : Int) (mlh : List Int) (nh : Nat) (rowsh : Nat → List Int) (Ah Rh : Option Addr) (ch kh : Nat) (w : World) (hPa : I64 Pa) (hMa : I64 Ma) (_hNa : I64 Na) (hla : mla.length ≤ maxLen) (hna : na ≤ maxLen) (hra : Rd w w.heap.size Aa mla) (hma : RdM w w.heap.size Ra na rowsa) (hPb : I64 Pb) (hMb : I64 Mb) (_hNb : I64 Nb) (hlb : mlb.length ≤ maxLen) (hnb : nb ≤ maxLen) (hrb : Rd w w.heap.size Ab mlb) (hmb : RdM w w.heap.size Rb nb rowsb) (hPh : I64 Ph) (hMh : I64 Mh) (_hNh : I64 Nh) (hlh : mlh.length ≤ maxLen) (hnh : nh ≤ maxLen) (hrh : Rd w w.heap.size Ah mlh) (hmh : RdM w w.heap.size Rh nh rowsh) :
    Calls Try.prog 3 #[.agg #[.int .i64 Pa, .int .i64 Ma, .slice Aa mla.length ca, .int .i64 Na, .slice Ra na ka], .agg #[.int .i64 Pb, .int .i64 Mb, .slice Ab mlb.length cb, .int .i64 Nb, .slice Rb nb kb], .agg #[.int .i64 Ph, .int .i64 Mh, .slice Ah mlh.length ch, .int .i64 Nh, .slice Rh nh kh]] w (LawEnd w) := by
  have hLa := rdm_len hma
  have hLb := rdm_len hmb
  have hLh := rdm_len hmh
  obtain ⟨Z, hZ⟩ : ∃ Z, Z = ((w.alloc (.cells #[.int .i64 Pa, .int .i64 Ma, .slice Aa mla.length ca, .int .i64 Na, .slice Ra na ka] 27)).alloc (.cells #[.int .i64 Pb, .int .i64 Mb, .slice Ab mlb.length cb, .int .i64 Nb, .slice Rb nb kb] 27)).alloc (.cells #[.int .i64 Ph, .int .i64 Mh, .slice Ah mlh.length ch, .int .i64 Nh, .slice Rh nh kh] 27) := ⟨_, rfl⟩
  have hB : Below w.heap.size w Z := by rw [hZ]; exact (((Below.refl _ _).alloc (Nat.le_refl _) _).alloc (by simp) _).alloc (by simp; omega) _
  obtain ⟨s, hs⟩ : ∃ s, s = w.heap.size := ⟨_, rfl⟩
  obtain ⟨hZe, fa, fb, fh⟩ := three_enter Pa Ma Na mla na rowsa Aa Ra ca ka Pb Mb Nb mlb nb rowsb Ab Rb cb kb Ph Mh Nh mlh nh rowsh Ah Rh ch kh w hZ hs
  have hb1 : Below Z.heap.size Z (Z.alloc (.cells #[.int .i64 Pa, .int .i64 Ma, .slice Aa mla.length ca, .int .i64 Na, .slice Ra na ka, .int .i64 Pb, .int .i64 Mb, .slice Ab mlb.length cb, .int .i64 Nb, .slice Rb nb kb, .int .i64 Ph, .int .i64 Mh, .slice Ah mlh.length ch, .int .i64 Nh, .slice Rh nh kh] 27)) := (Below.refl _ _).alloc (Nat.le_refl _) _
  have hB1 := hB.trans (hb1.mono hB.size)
  have hF := few3_any Pa Ma Na mla na rowsa Aa Ra ca ka Pb Mb Nb mlb nb rowsb Ab Rb cb kb Ph Mh Nh mlh nh rowsh Ah Rh ch kh (s + 1 + 1 + 1) _ ((hma.below hB1).more hB1.size) ((hmb.below hB1).more hB1.size) ((hmh.below hB1).more hB1.size) ⟨hna, hLa⟩ ⟨hnb, hLb⟩ ⟨hnh, hLh⟩ (by rw [World.size_alloc]; omega) (by rw [← hZe]; simp [go_sem]) (by rw [← hZe]; simp [go_sem]) (by rw [← hZe]; simp [go_sem])
  replace fa := Lib.hid fa
  replace fb := Lib.hid fb
  replace fh := Lib.hid fh
  by_cases hf : fewAll3 na rowsa nb rowsb nh rowsh = true
  rotate_left
  · rw [show fewAll3 na rowsa nb rowsb nh rowsh = false from by simpa using hf] at hF
    replace hF := Lib.hid hF
    replace hZe := Lib.hid hZe
    replace hZ := Lib.hid hZ
    replace hf := Lib.hid hf
    clear hLa hLb hLh
    unfold LawEnd
    go_enter Try.func3, Try.ntmps3
    go_wp2_with (fail)
    rw [← hZ.out]
    simp only [← hs]
    replace hs := Lib.hid hs
    (with_reducible refine hF.out.mono ?_)
    rintro e w1 ⟨rfl, hb2⟩
    go_wp2_with (fail)
    go_ret
    exact ⟨rfl, hB1.trans (hb2.mono hB1.size)⟩
  rw [hf] at hF
  replace hF := Lib.hid hF
  obtain ⟨⟨hfa, hfb⟩, hfh⟩ : (fewC na rowsa = true ∧ fewC nb rowsb = true) ∧ fewC nh rowsh = true := by unfold fewAll3 at hf; simpa using hf
  obtain ⟨hna2, hka⟩ := fewC_le hfa
  obtain ⟨hnb2, hkb⟩ := fewC_le hfb
  obtain ⟨hnh2, hkh⟩ := fewC_le hfh
  have hT := fun W (g : Pre2 mla na rowsa Aa Ra mlb nb rowsb Ab Rb W) => Two14_any Pa Ma Na mla na rowsa Aa Ra ca ka Pb Mb Nb mlb nb rowsb Ab Rb cb kb W hPa hMa hla hna2 hka g.1.1 g.1.2 hPb hMb hlb hnb2 hkb g.2.1 g.2.2
  have hT2 := fun W (g : Pre2 mlb nb rowsb Ab Rb mlh nh rowsh Ah Rh W) => Two14_any Pb Mb Nb mlb nb rowsb Ab Rb cb kb Ph Mh Nh mlh nh rowsh Ah Rh ch kh W hPb hMb hlb hnb2 hkb g.1.1 g.1.2 hPh hMh hlh hnh2 hkh g.2.1 g.2.2
  replace hZe := Lib.hid hZe
  replace hZ := Lib.hid hZ
  replace hf := Lib.hid hf
  replace hfa := Lib.hid hfa
  replace hfb := Lib.hid hfb
  replace hfh := Lib.hid hfh
  clear hLa hLb hLh
  by_cases hE : twoE Pa Ma Na mla na rowsa Aa Ra ca ka Pb Mb Nb mlb nb rowsb Ab Rb cb kb = 0
  rotate_left
  · generalize twoE Pa Ma Na mla na rowsa Aa Ra ca ka Pb Mb Nb mlb nb rowsb Ab Rb cb kb = E at *
    have hEb : (E != 0) = true := by rw [bne_iff_ne]; exact hE
    replace hT := fun W h => Lib.hid (hT W h)
    replace hE := Lib.hid hE
    clear hka hkb hkh hT2
    unfold LawEnd
    go_enter Try.func3, Try.ntmps3
    go_wp2_with (fail)
    rw [← hZ.out]
    simp only [← hs]
    replace hs := Lib.hid hs
    (with_reducible refine hF.out.mono ?_)
    rintro e w1 ⟨rfl, hb2⟩
    have hbz := hb1.trans (hb2.mono hb1.size)
    have hBw := hB.trans (hbz.mono hB.size)
    have hsz : s + 1 + 1 < w1.heap.size := by have := hbz.size; have := hZe.out; omega
    have fa1 := Lib.hid (fa.out.keep hbz (by have := hZe.out; omega))
    have fb1 := Lib.hid (fb.out.keep hbz (by have := hZe.out; omega))
    have fh1 := Lib.hid (fh.out.keep hbz (by have := hZe.out; omega))
    replace hZe := Lib.hid hZe
    clear hF hb2 hb1 hB1 hbz
    obtain ⟨a0, a1, a2, a3, a4, -⟩ := fa1.out
    obtain ⟨c0, c1, c2, c3, c4, -⟩ := fb1.out
    obtain ⟨e0, e1, e2, e3, e4, -⟩ := fh1.out
    have hq := hT w1 ⟨⟨(hra.below hBw).more hBw.size, (hma.below hBw).more hBw.size⟩, ⟨(hrb.below hBw).more hBw.size, (hmb.below hBw).more hBw.size⟩⟩
    go_wp2_with (fail)
    (with_reducible refine hq.out.mono ?_)
    rintro e w2 ⟨rfl, hb⟩
    clear hq
    clear a0 a1 a2 a3 a4 c0 c1 c2 c3 c4 e0 e1 e2 e3 e4
    have fa2 := Lib.hid (fa1.out.keep hb (by first | omega | (simp; omega)))
    have fb2 := Lib.hid (fb1.out.keep hb (by first | omega | (simp; omega)))
    have fh2 := Lib.hid (fh1.out.keep hb (by first | omega | (simp; omega)))
    replace hBw := hBw.trans (hb.mono hBw.size)
    replace hsz : s + 1 + 1 < w2.heap.size := Nat.lt_of_lt_of_le hsz hb.size
    clear fa1 fb1 fh1
    obtain ⟨a0, a1, a2, a3, a4, -⟩ := fa2.out
    obtain ⟨c0, c1, c2, c3, c4, -⟩ := fb2.out
    obtain ⟨e0, e1, e2, e3, e4, -⟩ := fh2.out
    go_wp2_with (fail)
    go_ret
    exact ⟨rfl, hBw⟩
  by_cases hE2 : twoE Pb Mb Nb mlb nb rowsb Ab Rb cb kb Ph Mh Nh mlh nh rowsh Ah Rh ch kh = 0
  rotate_left
  · rw [hE] at hT
    generalize twoE Pb Mb Nb mlb nb rowsb Ab Rb cb kb Ph Mh Nh mlh nh rowsh Ah Rh ch kh = E at *
    have hEb : (E != 0) = true := by rw [bne_iff_ne]; exact hE2
    replace hT := fun W h => Lib.hid (hT W h)
    replace hT2 := fun W h => Lib.hid (hT2 W h)
    replace hE := Lib.hid hE
    replace hE2 := Lib.hid hE2
    clear hka hkb hkh
    unfold LawEnd
    go_enter Try.func3, Try.ntmps3
    go_wp2_with (fail)
    rw [← hZ.out]
    simp only [← hs]
    replace hs := Lib.hid hs
    (with_reducible refine hF.out.mono ?_)
    rintro e w1 ⟨rfl, hb2⟩
    have hbz := hb1.trans (hb2.mono hb1.size)
    have hBw := hB.trans (hbz.mono hB.size)
    have hsz : s + 1 + 1 < w1.heap.size := by have := hbz.size; have := hZe.out; omega
    have fa1 := Lib.hid (fa.out.keep hbz (by have := hZe.out; omega))
    have fb1 := Lib.hid (fb.out.keep hbz (by have := hZe.out; omega))
    have fh1 := Lib.hid (fh.out.keep hbz (by have := hZe.out; omega))
    replace hZe := Lib.hid hZe
    clear hF hb2 hb1 hB1 hbz
    obtain ⟨a0, a1, a2, a3, a4, -⟩ := fa1.out
    obtain ⟨c0, c1, c2, c3, c4, -⟩ := fb1.out
    obtain ⟨e0, e1, e2, e3, e4, -⟩ := fh1.out
    have hq := hT w1 ⟨⟨(hra.below hBw).more hBw.size, (hma.below hBw).more hBw.size⟩, ⟨(hrb.below hBw).more hBw.size, (hmb.below hBw).more hBw.size⟩⟩
    go_wp2_with (fail)
    (with_reducible refine hq.out.mono ?_)
    rintro e w2 ⟨rfl, hb⟩
    clear hq
    clear a0 a1 a2 a3 a4 c0 c1 c2 c3 c4 e0 e1 e2 e3 e4
    have fa2 := Lib.hid (fa1.out.keep hb (by first | omega | (simp; omega)))
    have fb2 := Lib.hid (fb1.out.keep hb (by first | omega | (simp; omega)))
    have fh2 := Lib.hid (fh1.out.keep hb (by first | omega | (simp; omega)))
    replace hBw := hBw.trans (hb.mono hBw.size)
    replace hsz : s + 1 + 1 < w2.heap.size := Nat.lt_of_lt_of_le hsz hb.size
    clear fa1 fb1 fh1
    obtain ⟨a0, a1, a2, a3, a4, -⟩ := fa2.out
    obtain ⟨c0, c1, c2, c3, c4, -⟩ := fb2.out
    obtain ⟨e0, e1, e2, e3, e4, -⟩ := fh2.out
    have hq := hT2 w2 ⟨⟨(hrb.below hBw).more hBw.size, (hmb.below hBw).more hBw.size⟩, ⟨(hrh.below hBw).more hBw.size, (hmh.below hBw).more hBw.size⟩⟩
    go_wp2_with (fail)
    (with_reducible refine hq.out.mono ?_)
    rintro e w3 ⟨rfl, hb⟩
    clear hq
    clear a0 a1 a2 a3 a4 c0 c1 c2 c3 c4 e0 e1 e2 e3 e4
    have fa3 := Lib.hid (fa2.out.keep hb (by first | omega | (simp; omega)))
    have fb3 := Lib.hid (fb2.out.keep hb (by first | omega | (simp; omega)))
    have fh3 := Lib.hid (fh2.out.keep hb (by first | omega | (simp; omega)))
    replace hBw := hBw.trans (hb.mono hBw.size)
    replace hsz : s + 1 + 1 < w3.heap.size := Nat.lt_of_lt_of_le hsz hb.size
    clear fa2 fb2 fh2
    obtain ⟨a0, a1, a2, a3, a4, -⟩ := fa3.out
    obtain ⟨c0, c1, c2, c3, c4, -⟩ := fb3.out
    obtain ⟨e0, e1, e2, e3, e4, -⟩ := fh3.out
    go_wp2_with (fail)
    go_ret
    exact ⟨rfl, hBw⟩
  obtain ⟨F, m1, m2, M1, M2, va, vb⟩ := twoE_zero hE
  obtain ⟨F', m2', m3, M2', M3', vb', vh'⟩ := twoE_zero hE2
  obtain ⟨M3, vh⟩ := vh'.to (F1 := F) (desc_eq (vb'.hP.symm.trans vb.hP ▸ rfl) (vb'.hM.symm.trans vb.hM ▸ rfl) (vb'.hl.symm.trans vb.hl ▸ rfl) rfl rfl rfl)
  have h1 := va.m1; have h2 := va.m64; have h3 := vb.m1; have h4 := vb.m64; have h5 := va.le; have h6 := vb.le
  have h7 := vh.m1; have h8 := vh.m64; have h9 := vh.le
  clear vb' vh'
  have eNa := va.hN; have eNb := vb.hN; have eNh := vh.hN
  subst eNa eNb eNh
  rw [hE] at hT
  rw [hE2] at hT2
  replace hT := fun W h => Lib.hid (hT W h)
  replace hT2 := fun W h => Lib.hid (hT2 W h)
  replace hE := Lib.hid hE
  replace hE2 := Lib.hid hE2
  obtain ⟨N2, hN2⟩ : ∃ N2, N2 = m1 + m2 := ⟨_, rfl⟩
  obtain ⟨N3, hN3⟩ : ∃ N3, N3 = m1 + m2 + m3 := ⟨_, rfl⟩
  obtain ⟨N23, hN23⟩ : ∃ N23, N23 = m2 + m3 := ⟨_, rfl⟩
  have hw2 : IntKind.i64.wrap ((m1 : Int) + (m2 : Int)) = (N2 : Int) := by
    rw [show ((m1 : Int) + (m2 : Int)) = (N2 : Int) from by rw [hN2]; push_cast; rfl]
    exact IntWalk.i64_in _ (by omega)
  have hv2 : ((m1 : Int) + (m2 : Int)) = (N2 : Int) := by rw [hN2]; push_cast; rfl
  have hw3 : IntKind.i64.wrap ((N2 : Int) + (m3 : Int)) = (N3 : Int) := by
    rw [show ((N2 : Int) + (m3 : Int)) = (N3 : Int) from by rw [hN2, hN3]; push_cast; rfl]
    exact IntWalk.i64_in _ (by omega)
  have hv3 : ((N2 : Int) + (m3 : Int)) = (N3 : Int) := by rw [hN2, hN3]; push_cast; rfl
  by_cases hN : N3 ≤ 64
  rotate_left
  · have hNb : decide (64 < (N3 : Int)) = true := decide_eq_true (by omega)
    have hNc : (64 : Int) < (N3 : Int) := by omega
    replace hN2 := Lib.hid hN2
    replace hN3 := Lib.hid hN3
    replace hN23 := Lib.hid hN23
    clear hka hkb hkh va vb vh
    unfold LawEnd
    go_enter Try.func3, Try.ntmps3
    go_wp2_with (fail)
    rw [← hZ.out]
    simp only [← hs]
    replace hs := Lib.hid hs
    (with_reducible refine hF.out.mono ?_)
    rintro e w1 ⟨rfl, hb2⟩
    have hbz := hb1.trans (hb2.mono hb1.size)
    have hBw := hB.trans (hbz.mono hB.size)
    have hsz : s + 1 + 1 < w1.heap.size := by have := hbz.size; have := hZe.out; omega
    have fa1 := Lib.hid (fa.out.keep hbz (by have := hZe.out; omega))
    have fb1 := Lib.hid (fb.out.keep hbz (by have := hZe.out; omega))
    have fh1 := Lib.hid (fh.out.keep hbz (by have := hZe.out; omega))
    replace hZe := Lib.hid hZe
    clear hF hb2 hb1 hB1 hbz
    obtain ⟨a0, a1, a2, a3, a4, -⟩ := fa1.out
    obtain ⟨c0, c1, c2, c3, c4, -⟩ := fb1.out
    obtain ⟨e0, e1, e2, e3, e4, -⟩ := fh1.out
    have hq := hT w1 ⟨⟨(hra.below hBw).more hBw.size, (hma.below hBw).more hBw.size⟩, ⟨(hrb.below hBw).more hBw.size, (hmb.below hBw).more hBw.size⟩⟩
    go_wp2_with (fail)
    (with_reducible refine hq.out.mono ?_)
    rintro e w2 ⟨rfl, hb⟩
    clear hq
    clear a0 a1 a2 a3 a4 c0 c1 c2 c3 c4 e0 e1 e2 e3 e4
    have fa2 := Lib.hid (fa1.out.keep hb (by first | omega | (simp; omega)))
    have fb2 := Lib.hid (fb1.out.keep hb (by first | omega | (simp; omega)))
    have fh2 := Lib.hid (fh1.out.keep hb (by first | omega | (simp; omega)))
    replace hBw := hBw.trans (hb.mono hBw.size)
    replace hsz : s + 1 + 1 < w2.heap.size := Nat.lt_of_lt_of_le hsz hb.size
    clear fa1 fb1 fh1
    obtain ⟨a0, a1, a2, a3, a4, -⟩ := fa2.out
    obtain ⟨c0, c1, c2, c3, c4, -⟩ := fb2.out
    obtain ⟨e0, e1, e2, e3, e4, -⟩ := fh2.out
    have hq := hT2 w2 ⟨⟨(hrb.below hBw).more hBw.size, (hmb.below hBw).more hBw.size⟩, ⟨(hrh.below hBw).more hBw.size, (hmh.below hBw).more hBw.size⟩⟩
    go_wp2_with (fail)
    (with_reducible refine hq.out.mono ?_)
    rintro e w3 ⟨rfl, hb⟩
    clear hq
    clear a0 a1 a2 a3 a4 c0 c1 c2 c3 c4 e0 e1 e2 e3 e4
    have fa3 := Lib.hid (fa2.out.keep hb (by first | omega | (simp; omega)))
    have fb3 := Lib.hid (fb2.out.keep hb (by first | omega | (simp; omega)))
    have fh3 := Lib.hid (fh2.out.keep hb (by first | omega | (simp; omega)))
    replace hBw := hBw.trans (hb.mono hBw.size)
    replace hsz : s + 1 + 1 < w3.heap.size := Nat.lt_of_lt_of_le hsz hb.size
    clear fa2 fb2 fh2
    obtain ⟨a0, a1, a2, a3, a4, -⟩ := fa3.out
    obtain ⟨c0, c1, c2, c3, c4, -⟩ := fb3.out
    obtain ⟨e0, e1, e2, e3, e4, -⟩ := fh3.out
    go_wp2_with (fail)
    go_ret
    exact ⟨rfl, hBw⟩
  obtain ⟨r1, r2, r3, q1, q2, q3, q4, hrl⟩ := sums_pack va vb vh (by omega)
  rw [← hN3, ← hN2] at q2
  rw [← hN2] at q1
  rw [← hN23] at q3
  rw [← hN23, ← hN3] at q4
  obtain ⟨K2, hK2⟩ : ∃ K2, K2 = na + nb := ⟨_, rfl⟩
  obtain ⟨K3, hK3⟩ : ∃ K3, K3 = na + nb + nh := ⟨_, rfl⟩
  obtain ⟨K23, hK23⟩ : ∃ K23, K23 = nb + nh := ⟨_, rfl⟩
  rw [← hK3, ← hK2] at q2
  rw [← hK2] at q1
  rw [← hK23] at q3
  rw [← hK23, ← hK3] at q4
  rw [← hK3] at hrl
  have hNb : decide (64 < (N3 : Int)) = false := decide_eq_false (by omega)
  have hNc : ¬ (64 : Int) < (N3 : Int) := by omega
  unfold SumC at q1 q2 q3 q4
  replace q1 := fun Aa Ra ca ka Ab Rb cb kb W h => Lib.hid ((q1 Aa Ra ca ka Ab Rb cb kb W h).mono fun _ _ hr => resC_in hr)
  replace q2 := fun Aa Ra ca ka Ab Rb cb kb W h => Lib.hid ((q2 Aa Ra ca ka Ab Rb cb kb W h).mono fun _ _ hr => resC_in hr)
  replace q3 := fun Aa Ra ca ka Ab Rb cb kb W h => Lib.hid ((q3 Aa Ra ca ka Ab Rb cb kb W h).mono fun _ _ hr => resC_in hr)
  replace q4 := fun Aa Ra ca ka Ab Rb cb kb W h => Lib.hid ((q4 Aa Ra ca ka Ab Rb cb kb W h).mono fun _ _ hr => resC_in hr)
  have hK6 : K3 ≤ 1000000 := by omega
  obtain ⟨N2p, hN2p⟩ : ∃ N2p, N2p = m1 * m2 := ⟨_, rfl⟩
  obtain ⟨N3p, hN3p⟩ : ∃ N3p, N3p = m1 * m2 * m3 := ⟨_, rfl⟩
  have hN2p4 : N2p ≤ 64 * 64 := by rw [hN2p]; exact Nat.mul_le_mul h2 h4
  have hN3p4 : N3p ≤ 64 * 64 * 64 := by rw [hN3p, ← hN2p]; exact Nat.mul_le_mul hN2p4 h8
  have hx2 : IntKind.i64.wrap ((m1 : Int) * (m2 : Int)) = (N2p : Int) := by
    rw [show ((m1 : Int) * (m2 : Int)) = (N2p : Int) from by rw [hN2p]; push_cast; rfl]
    exact IntWalk.i64_in _ (by omega)
  have hx3 : IntKind.i64.wrap ((N2p : Int) * (m3 : Int)) = (N3p : Int) := by
    rw [show ((N2p : Int) * (m3 : Int)) = (N3p : Int) from by rw [hN3p, hN2p]; push_cast; rfl]
    exact IntWalk.i64_in _ (by omega)
  have hSm := fun (P Q N : Int) (ml : List Int) (n : Nat) (rows : Nat → List Int) A A' Ar Ar' c c' cr cr' W g1 g2 hl g3 g4 hn hrl => Lib.hid (Same12_eq P Q N ml n rows A A' Ar Ar' c c' cr cr' W g1 g2 hl g3 g4 hn hrl)
  replace hN2p := Lib.hid hN2p
  replace hN3p := Lib.hid hN3p
  replace hN2 := Lib.hid hN2
  replace hN3 := Lib.hid hN3
  replace hN23 := Lib.hid hN23
  replace hK2 := Lib.hid hK2
  replace hK3 := Lib.hid hK3
  replace hK23 := Lib.hid hK23
  clear hka hkb hkh
  unfold LawEnd
  go_enter Try.func3, Try.ntmps3
  go_wp2_with (fail)
  rw [← hZ.out]
  simp only [← hs]
  replace hs := Lib.hid hs
  (with_reducible refine hF.out.mono ?_)
  rintro e w1 ⟨rfl, hb2⟩
  have hbz := hb1.trans (hb2.mono hb1.size)
  have hBw := hB.trans (hbz.mono hB.size)
  have hsz : s + 1 + 1 < w1.heap.size := by have := hbz.size; have := hZe.out; omega
  have fa1 := Lib.hid (fa.out.keep hbz (by have := hZe.out; omega))
  have fb1 := Lib.hid (fb.out.keep hbz (by have := hZe.out; omega))
  have fh1 := Lib.hid (fh.out.keep hbz (by have := hZe.out; omega))
  replace hZe := Lib.hid hZe
  clear hF hb2 hb1 hB1 hbz
  obtain ⟨a0, a1, a2, a3, a4, -⟩ := fa1.out
  obtain ⟨c0, c1, c2, c3, c4, -⟩ := fb1.out
  obtain ⟨e0, e1, e2, e3, e4, -⟩ := fh1.out
  have hq := hT w1 ⟨⟨(hra.below hBw).more hBw.size, (hma.below hBw).more hBw.size⟩, ⟨(hrb.below hBw).more hBw.size, (hmb.below hBw).more hBw.size⟩⟩
  go_wp2_with (fail)
  (with_reducible refine hq.out.mono ?_)
  rintro e w2 ⟨rfl, hb⟩
  clear hq
  clear a0 a1 a2 a3 a4 c0 c1 c2 c3 c4 e0 e1 e2 e3 e4
  have fa2 := Lib.hid (fa1.out.keep hb (by first | omega | (simp; omega)))
  have fb2 := Lib.hid (fb1.out.keep hb (by first | omega | (simp; omega)))
  have fh2 := Lib.hid (fh1.out.keep hb (by first | omega | (simp; omega)))
  replace hBw := hBw.trans (hb.mono hBw.size)
  replace hsz : s + 1 + 1 < w2.heap.size := Nat.lt_of_lt_of_le hsz hb.size
  clear fa1 fb1 fh1
  obtain ⟨a0, a1, a2, a3, a4, -⟩ := fa2.out
  obtain ⟨c0, c1, c2, c3, c4, -⟩ := fb2.out
  obtain ⟨e0, e1, e2, e3, e4, -⟩ := fh2.out
  have hq := hT2 w2 ⟨⟨(hrb.below hBw).more hBw.size, (hmb.below hBw).more hBw.size⟩, ⟨(hrh.below hBw).more hBw.size, (hmh.below hBw).more hBw.size⟩⟩
  go_wp2_with (fail)
  (with_reducible refine hq.out.mono ?_)
  rintro e w3 ⟨rfl, hb⟩
  clear hq
  clear a0 a1 a2 a3 a4 c0 c1 c2 c3 c4 e0 e1 e2 e3 e4
  have fa3 := Lib.hid (fa2.out.keep hb (by first | omega | (simp; omega)))
  have fb3 := Lib.hid (fb2.out.keep hb (by first | omega | (simp; omega)))
  have fh3 := Lib.hid (fh2.out.keep hb (by first | omega | (simp; omega)))
  replace hBw := hBw.trans (hb.mono hBw.size)
  replace hsz : s + 1 + 1 < w3.heap.size := Nat.lt_of_lt_of_le hsz hb.size
  clear fa2 fb2 fh2
  obtain ⟨a0, a1, a2, a3, a4, -⟩ := fa3.out
  obtain ⟨c0, c1, c2, c3, c4, -⟩ := fb3.out
  obtain ⟨e0, e1, e2, e3, e4, -⟩ := fh3.out
  have hq := q1 Aa Ra ca ka Ab Rb cb kb w3 ⟨⟨(hra.below hBw).more hBw.size, (hma.below hBw).more hBw.size⟩, ⟨(hrb.below hBw).more hBw.size, (hmb.below hBw).more hBw.size⟩⟩
  go_wp2_with (fail)
  (with_reducible refine hq.out.mono ?_)
  rintro e w4 ⟨A1, x1, R1, y1, rfl, i1, hb⟩
  clear hq
  clear a0 a1 a2 a3 a4 c0 c1 c2 c3 c4 e0 e1 e2 e3 e4
  have o01 := Nat.lt_of_lt_of_le hsz hb.size
  have hbb : Below w4.heap.size w4 (w4.alloc (.cells #[.int .i64 Pa, .int .i64 Ma, .slice A1 mla.length x1, .int .i64 N2, .slice R1 K2 y1] 27)) := (Below.refl _ _).alloc (Nat.le_refl _) _
  have hbc := hb.trans (hbb.mono hb.size)
  have u1 := Lib.hid (Five.new w4 (.int .i64 Pa) (.int .i64 Ma) (.slice A1 mla.length x1) (.int .i64 N2) (.slice R1 K2 y1) 27)
  replace i1 := i1.below hbb
  have hs1 : w4.heap.size < (w4.alloc (.cells #[.int .i64 Pa, .int .i64 Ma, .slice A1 mla.length x1, .int .i64 N2, .slice R1 K2 y1] 27)).heap.size := by simp
  have fa4 := Lib.hid (fa3.out.keep hbc (by first | omega | (simp; omega)))
  have fb4 := Lib.hid (fb3.out.keep hbc (by first | omega | (simp; omega)))
  have fh4 := Lib.hid (fh3.out.keep hbc (by first | omega | (simp; omega)))
  replace hBw := hBw.trans (hbc.mono hBw.size)
  replace hsz : s + 1 + 1 < (w4.alloc (.cells #[.int .i64 Pa, .int .i64 Ma, .slice A1 mla.length x1, .int .i64 N2, .slice R1 K2 y1] 27)).heap.size := Nat.lt_of_lt_of_le hsz hbc.size
  clear fa3 fb3 fh3
  clear hbb hbc hb
  obtain ⟨a0, a1, a2, a3, a4, -⟩ := fa4.out
  obtain ⟨c0, c1, c2, c3, c4, -⟩ := fb4.out
  obtain ⟨e0, e1, e2, e3, e4, -⟩ := fh4.out
  obtain ⟨d0, d1, d2, d3, d4, -⟩ := u1.out
  have hq := q2 A1 R1 x1 y1 Ah Rh ch kh (w4.alloc (.cells #[.int .i64 Pa, .int .i64 Ma, .slice A1 mla.length x1, .int .i64 N2, .slice R1 K2 y1] 27)) ⟨i1.pre, ⟨(hrh.below hBw).more hBw.size, (hmh.below hBw).more hBw.size⟩⟩
  go_wp2_with (fail)
  (with_reducible refine hq.out.mono ?_)
  rintro e w5 ⟨A2, x2, R2, y2, rfl, i2, hb⟩
  clear hq
  clear a0 a1 a2 a3 a4 c0 c1 c2 c3 c4 e0 e1 e2 e3 e4
  clear d0 d1 d2 d3 d4
  have o12 := Nat.lt_of_lt_of_le hs1 hb.size
  have hbb : Below w5.heap.size w5 (w5.alloc (.cells #[.int .i64 Pa, .int .i64 Ma, .slice A2 mla.length x2, .int .i64 N3, .slice R2 K3 y2] 27)) := (Below.refl _ _).alloc (Nat.le_refl _) _
  have hbc := hb.trans (hbb.mono hb.size)
  have u2 := Lib.hid (Five.new w5 (.int .i64 Pa) (.int .i64 Ma) (.slice A2 mla.length x2) (.int .i64 N3) (.slice R2 K3 y2) 27)
  replace i2 := i2.below hbb
  have hs2 : w5.heap.size < (w5.alloc (.cells #[.int .i64 Pa, .int .i64 Ma, .slice A2 mla.length x2, .int .i64 N3, .slice R2 K3 y2] 27)).heap.size := by simp
  replace u1 := Lib.hid (u1.out.keep hbc (by first | omega | (simp; omega)))
  replace i1 := i1.below hbc
  replace hs1 := Nat.lt_of_lt_of_le hs1 hbc.size
  have fa5 := Lib.hid (fa4.out.keep hbc (by first | omega | (simp; omega)))
  have fb5 := Lib.hid (fb4.out.keep hbc (by first | omega | (simp; omega)))
  have fh5 := Lib.hid (fh4.out.keep hbc (by first | omega | (simp; omega)))
  replace hBw := hBw.trans (hbc.mono hBw.size)
  replace hsz : s + 1 + 1 < (w5.alloc (.cells #[.int .i64 Pa, .int .i64 Ma, .slice A2 mla.length x2, .int .i64 N3, .slice R2 K3 y2] 27)).heap.size := Nat.lt_of_lt_of_le hsz hbc.size
  clear fa4 fb4 fh4
  clear hbb hbc hb
  obtain ⟨a0, a1, a2, a3, a4, -⟩ := fa5.out
  obtain ⟨c0, c1, c2, c3, c4, -⟩ := fb5.out
  obtain ⟨e0, e1, e2, e3, e4, -⟩ := fh5.out
  have hq := q3 Ab Rb cb kb Ah Rh ch kh (w5.alloc (.cells #[.int .i64 Pa, .int .i64 Ma, .slice A2 mla.length x2, .int .i64 N3, .slice R2 K3 y2] 27)) ⟨⟨(hrb.below hBw).more hBw.size, (hmb.below hBw).more hBw.size⟩, ⟨(hrh.below hBw).more hBw.size, (hmh.below hBw).more hBw.size⟩⟩
  go_wp2_with (fail)
  (with_reducible refine hq.out.mono ?_)
  rintro e w6 ⟨A3, x3, R3, y3, rfl, i3, hb⟩
  clear hq
  clear a0 a1 a2 a3 a4 c0 c1 c2 c3 c4 e0 e1 e2 e3 e4
  have o13 := Nat.lt_of_lt_of_le hs1 hb.size
  have o23 := Nat.lt_of_lt_of_le hs2 hb.size
  have hbb : Below w6.heap.size w6 (w6.alloc (.cells #[.int .i64 Pb, .int .i64 Mb, .slice A3 mlb.length x3, .int .i64 N23, .slice R3 K23 y3] 27)) := (Below.refl _ _).alloc (Nat.le_refl _) _
  have hbc := hb.trans (hbb.mono hb.size)
  have u3 := Lib.hid (Five.new w6 (.int .i64 Pb) (.int .i64 Mb) (.slice A3 mlb.length x3) (.int .i64 N23) (.slice R3 K23 y3) 27)
  replace i3 := i3.below hbb
  have hs3 : w6.heap.size < (w6.alloc (.cells #[.int .i64 Pb, .int .i64 Mb, .slice A3 mlb.length x3, .int .i64 N23, .slice R3 K23 y3] 27)).heap.size := by simp
  replace u1 := Lib.hid (u1.out.keep hbc (by first | omega | (simp; omega)))
  replace i1 := i1.below hbc
  replace hs1 := Nat.lt_of_lt_of_le hs1 hbc.size
  replace u2 := Lib.hid (u2.out.keep hbc (by first | omega | (simp; omega)))
  replace i2 := i2.below hbc
  replace hs2 := Nat.lt_of_lt_of_le hs2 hbc.size
  have fa6 := Lib.hid (fa5.out.keep hbc (by first | omega | (simp; omega)))
  have fb6 := Lib.hid (fb5.out.keep hbc (by first | omega | (simp; omega)))
  have fh6 := Lib.hid (fh5.out.keep hbc (by first | omega | (simp; omega)))
  replace hBw := hBw.trans (hbc.mono hBw.size)
  replace hsz : s + 1 + 1 < (w6.alloc (.cells #[.int .i64 Pb, .int .i64 Mb, .slice A3 mlb.length x3, .int .i64 N23, .slice R3 K23 y3] 27)).heap.size := Nat.lt_of_lt_of_le hsz hbc.size
  clear fa5 fb5 fh5
  clear hbb hbc hb
  obtain ⟨a0, a1, a2, a3, a4, -⟩ := fa6.out
  obtain ⟨c0, c1, c2, c3, c4, -⟩ := fb6.out
  obtain ⟨e0, e1, e2, e3, e4, -⟩ := fh6.out
  obtain ⟨d0, d1, d2, d3, d4, -⟩ := u3.out
  have hq := q4 Aa Ra ca ka A3 R3 x3 y3 (w6.alloc (.cells #[.int .i64 Pb, .int .i64 Mb, .slice A3 mlb.length x3, .int .i64 N23, .slice R3 K23 y3] 27)) ⟨⟨(hra.below hBw).more hBw.size, (hma.below hBw).more hBw.size⟩, i3.pre⟩
  go_wp2_with (fail)
  (with_reducible refine hq.out.mono ?_)
  rintro e w7 ⟨A4, x4, R4, y4, rfl, i4, hb⟩
  clear hq
  clear a0 a1 a2 a3 a4 c0 c1 c2 c3 c4 e0 e1 e2 e3 e4
  clear d0 d1 d2 d3 d4
  have o14 := Nat.lt_of_lt_of_le hs1 hb.size
  have o24 := Nat.lt_of_lt_of_le hs2 hb.size
  have o34 := Nat.lt_of_lt_of_le hs3 hb.size
  have hbb : Below w7.heap.size w7 (w7.alloc (.cells #[.int .i64 Pa, .int .i64 Ma, .slice A4 mla.length x4, .int .i64 N3, .slice R4 K3 y4] 27)) := (Below.refl _ _).alloc (Nat.le_refl _) _
  have hbc := hb.trans (hbb.mono hb.size)
  have u4 := Lib.hid (Five.new w7 (.int .i64 Pa) (.int .i64 Ma) (.slice A4 mla.length x4) (.int .i64 N3) (.slice R4 K3 y4) 27)
  replace i4 := i4.below hbb
  have hs4 : w7.heap.size < (w7.alloc (.cells #[.int .i64 Pa, .int .i64 Ma, .slice A4 mla.length x4, .int .i64 N3, .slice R4 K3 y4] 27)).heap.size := by simp
  replace u1 := Lib.hid (u1.out.keep hbc (by first | omega | (simp; omega)))
  replace i1 := i1.below hbc
  replace hs1 := Nat.lt_of_lt_of_le hs1 hbc.size
  replace u2 := Lib.hid (u2.out.keep hbc (by first | omega | (simp; omega)))
  replace i2 := i2.below hbc
  replace hs2 := Nat.lt_of_lt_of_le hs2 hbc.size
  replace u3 := Lib.hid (u3.out.keep hbc (by first | omega | (simp; omega)))
  replace i3 := i3.below hbc
  replace hs3 := Nat.lt_of_lt_of_le hs3 hbc.size
  have fa7 := Lib.hid (fa6.out.keep hbc (by first | omega | (simp; omega)))
  have fb7 := Lib.hid (fb6.out.keep hbc (by first | omega | (simp; omega)))
  have fh7 := Lib.hid (fh6.out.keep hbc (by first | omega | (simp; omega)))
  replace hBw := hBw.trans (hbc.mono hBw.size)
  replace hsz : s + 1 + 1 < (w7.alloc (.cells #[.int .i64 Pa, .int .i64 Ma, .slice A4 mla.length x4, .int .i64 N3, .slice R4 K3 y4] 27)).heap.size := Nat.lt_of_lt_of_le hsz hbc.size
  clear fa6 fb6 fh6
  clear hbb hbc hb
  obtain ⟨a0, a1, a2, a3, a4, -⟩ := fa7.out
  obtain ⟨c0, c1, c2, c3, c4, -⟩ := fb7.out
  obtain ⟨e0, e1, e2, e3, e4, -⟩ := fh7.out
  obtain ⟨d0, d1, d2, d3, d4, -⟩ := u2.out
  obtain ⟨g0, g1, g2, g3, g4, -⟩ := u4.out
  have hq := hSm Pa Ma N3 mla K3 r2 A2 A4 R2 R4 x2 x4 y2 y4 (w7.alloc (.cells #[.int .i64 Pa, .int .i64 Ma, .slice A4 mla.length x4, .int .i64 N3, .slice R4 K3 y4] 27)) i2.pre.1 i4.pre.1 hla i2.pre.2 i4.pre.2 hK6 (fun i hi => Nat.le_trans (hrl i hi) (by omega))
  go_wp2_with (fail)
  (with_reducible refine hq.out.mono ?_)
  rintro e w8 ⟨rfl, hb⟩
  clear hq d0 d1 d2 d3 d4 g0 g1 g2 g3 g4
  clear a0 a1 a2 a3 a4 c0 c1 c2 c3 c4 e0 e1 e2 e3 e4
  replace u1 := Lib.hid (u1.out.keep hb (by first | omega | (simp; omega)))
  replace i1 := i1.below hb
  replace hs1 := Nat.lt_of_lt_of_le hs1 hb.size
  replace u2 := Lib.hid (u2.out.keep hb (by first | omega | (simp; omega)))
  replace i2 := i2.below hb
  replace hs2 := Nat.lt_of_lt_of_le hs2 hb.size
  replace u3 := Lib.hid (u3.out.keep hb (by first | omega | (simp; omega)))
  replace i3 := i3.below hb
  replace hs3 := Nat.lt_of_lt_of_le hs3 hb.size
  replace u4 := Lib.hid (u4.out.keep hb (by first | omega | (simp; omega)))
  replace i4 := i4.below hb
  replace hs4 := Nat.lt_of_lt_of_le hs4 hb.size
  have fa8 := Lib.hid (fa7.out.keep hb (by first | omega | (simp; omega)))
  have fb8 := Lib.hid (fb7.out.keep hb (by first | omega | (simp; omega)))
  have fh8 := Lib.hid (fh7.out.keep hb (by first | omega | (simp; omega)))
  replace hBw := hBw.trans (hb.mono hBw.size)
  replace hsz : s + 1 + 1 < w8.heap.size := Nat.lt_of_lt_of_le hsz hb.size
  clear fa7 fb7 fh7
  clear hb q1 q2 q3 q4
  by_cases hM : N3p ≤ 40
  rotate_left
  · have hMb : decide (40 < (N3p : Int)) = true := decide_eq_true (by omega)
    have hMc : (40 : Int) < (N3p : Int) := by omega
    obtain ⟨a0, a1, a2, a3, a4, -⟩ := fa8.out
    obtain ⟨c0, c1, c2, c3, c4, -⟩ := fb8.out
    obtain ⟨e0, e1, e2, e3, e4, -⟩ := fh8.out
    obtain ⟨d0, d1, d2, d3, d4, -⟩ := u2.out
    go_wp2_with (fail)
    go_ret
    exact ⟨rfl, hBw⟩
  clear i1 i2 i3 i4 hSm hrl hT hT2 hf hfa hfb hfh hE hE2
  obtain ⟨L0, hL0⟩ : ∃ L0, L0 = w8.heap.size := ⟨_, rfl⟩
  have gl1 : w4.heap.size < L0 := by rw [hL0]; exact hs1
  have gl2 : w5.heap.size < L0 := by rw [hL0]; exact hs2
  have gl3 : w6.heap.size < L0 := by rw [hL0]; exact hs3
  have gl4 : w7.heap.size < L0 := by rw [hL0]; exact hs4
  have hLc : L0 ≤ w8.heap.size := Nat.le_of_eq hL0
  have hws : w.heap.size ≤ s := Nat.le_of_eq hs.out.symm
  clear hs1 hs2 hs3 hs4
  replace hL0 := Lib.hid hL0
  generalize w4.heap.size = b1 at *
  generalize w5.heap.size = b2 at *
  generalize w6.heap.size = b3 at *
  generalize w7.heap.size = b4 at *
  obtain ⟨t1, t2, t3, t5, B1, B5, q1, q2, q3, q4, hrl, q5, v1, hr5, hss⟩ := prods_pack va vb vh (by rw [← hN3p.out]; omega)
  obtain ⟨N23p, hN23p⟩ : ∃ N23p, N23p = m2 * m3 := ⟨_, rfl⟩
  obtain ⟨K2p, hK2p⟩ : ∃ K2p, K2p = na * nb := ⟨_, rfl⟩
  obtain ⟨K3p, hK3p⟩ : ∃ K3p, K3p = na * nb * nh := ⟨_, rfl⟩
  obtain ⟨K23p, hK23p⟩ : ∃ K23p, K23p = nb * nh := ⟨_, rfl⟩
  have e2 := hN2p.out
  have e3 := hN3p.out
  rw [← e2, ← hK2p] at q1 q5 v1 hr5 hss
  rw [← e3, ← e2, ← hK3p, ← hK2p] at q2
  rw [← hN23p, ← hK23p] at q3
  rw [← e3, ← hN23p, ← hK23p, ← hK3p] at q4
  rw [← hK3p] at hrl
  have hK2l : K2p ≤ N2p := by rw [e2, hK2p]; exact Nat.mul_le_mul h5 h6
  have hK3l : K3p ≤ N3p := by rw [e3, hK3p]; exact Nat.mul_le_mul (Nat.mul_le_mul h5 h6) h9
  have hN2l : N2p ≤ N3p := by rw [e3, ← e2]; exact Nat.le_mul_of_pos_right _ h7
  have hwk : IntKind.i64.wrap ((na : Int) * (nb : Int)) = (K2p : Int) := by
    rw [show ((na : Int) * (nb : Int)) = (K2p : Int) from by rw [hK2p]; push_cast; rfl]
    exact IntWalk.i64_in _ (by omega)
  unfold SumC at q1 q2 q3 q4 q5
  replace q1 := fun Aa Ra ca ka Ab Rb cb kb W h => Lib.hid ((q1 Aa Ra ca ka Ab Rb cb kb W h).mono fun _ _ hr => resC_in hr)
  replace q2 := fun Aa Ra ca ka Ab Rb cb kb W h => Lib.hid ((q2 Aa Ra ca ka Ab Rb cb kb W h).mono fun _ _ hr => resC_in hr)
  replace q3 := fun Aa Ra ca ka Ab Rb cb kb W h => Lib.hid ((q3 Aa Ra ca ka Ab Rb cb kb W h).mono fun _ _ hr => resC_in hr)
  replace q4 := fun Aa Ra ca ka Ab Rb cb kb W h => Lib.hid ((q4 Aa Ra ca ka Ab Rb cb kb W h).mono fun _ _ hr => resC_in hr)
  replace q5 := fun Aa Ra ca ka Ab Rb cb kb W h => Lib.hid ((q5 Aa Ra ca ka Ab Rb cb kb W h).mono fun _ _ hr => resC_in hr)
  have hSm := fun (P Q N : Int) (ml : List Int) (n : Nat) (rows : Nat → List Int) A A' Ar Ar' c c' cr cr' W g1 g2 hl g3 g4 hn hrl => Lib.hid (Same12_eq P Q N ml n rows A A' Ar Ar' c c' cr cr' W g1 g2 hl g3 g4 hn hrl)
  replace hN23p := Lib.hid hN23p
  replace hK2p := Lib.hid hK2p
  replace hK3p := Lib.hid hK3p
  replace hK23p := Lib.hid hK23p
  clear e2 e3
  have fa := fa8
  clear fa8
  have fb := fb8
  clear fb8
  have fh := fh8
  clear fh8
  have hMb : decide (40 < (N3p : Int)) = false := decide_eq_false (by omega)
  have hMc : ¬ (40 : Int) < (N3p : Int) := by omega
  obtain ⟨a0, a1, a2, a3, a4, -⟩ := fa.out
  obtain ⟨c0, c1, c2, c3, c4, -⟩ := fb.out
  obtain ⟨e0, e1, e2, e3, e4, -⟩ := fh.out
  obtain ⟨d00, d01, d02, d03, d04, -⟩ := u2.out
  have hq := q1 Aa Ra ca ka Ab Rb cb kb _ ⟨⟨(hra.below hBw).more hBw.size, (hma.below hBw).more hBw.size⟩, ⟨(hrb.below hBw).more hBw.size, (hmb.below hBw).more hBw.size⟩⟩
  go_wp2_with (fail)
  (with_reducible refine hq.out.mono ?_)
  rintro e w9 ⟨A1p, x1p, R1p, y1p, rfl, i1, hb⟩
  clear hq
  clear a0 a1 a2 a3 a4 c0 c1 c2 c3 c4 e0 e1 e2 e3 e4
  clear d00 d01 d02 d03 d04
  replace i1 := i1.low hLc
  replace fa := Lib.hid (fa.out.keep hb (by omega))
  replace fb := Lib.hid (fb.out.keep hb (by omega))
  replace fh := Lib.hid (fh.out.keep hb (by omega))
  replace u1 := Lib.hid (u1.out.keep hb (by omega))
  replace u2 := Lib.hid (u2.out.keep hb (by omega))
  replace u3 := Lib.hid (u3.out.keep hb (by omega))
  replace u4 := Lib.hid (u4.out.keep hb (by omega))
  replace hBw := hBw.trans (hb.mono hBw.size)
  replace hLc := Nat.le_trans hLc hb.size
  clear hb
  have pend := u1
  replace u1 := Lib.hid (u1.out.set_ (.int .i64 Pa) (.int .i64 Ma) (.slice A1p mla.length x1p) (.int .i64 N2p) (.slice R1p K2p y1p))
  replace fa := Lib.hid (fa.out.farS (b := b1) (by omega) (.int .i64 Pa) (.int .i64 Ma) (.slice A1p mla.length x1p) (.int .i64 N2p) (.slice R1p K2p y1p))
  replace fb := Lib.hid (fb.out.farS (b := b1) (by omega) (.int .i64 Pa) (.int .i64 Ma) (.slice A1p mla.length x1p) (.int .i64 N2p) (.slice R1p K2p y1p))
  replace fh := Lib.hid (fh.out.farS (b := b1) (by omega) (.int .i64 Pa) (.int .i64 Ma) (.slice A1p mla.length x1p) (.int .i64 N2p) (.slice R1p K2p y1p))
  replace u2 := Lib.hid (u2.out.farS (b := b1) (by omega) (.int .i64 Pa) (.int .i64 Ma) (.slice A1p mla.length x1p) (.int .i64 N2p) (.slice R1p K2p y1p))
  replace u3 := Lib.hid (u3.out.farS (b := b1) (by omega) (.int .i64 Pa) (.int .i64 Ma) (.slice A1p mla.length x1p) (.int .i64 N2p) (.slice R1p K2p y1p))
  replace u4 := Lib.hid (u4.out.farS (b := b1) (by omega) (.int .i64 Pa) (.int .i64 Ma) (.slice A1p mla.length x1p) (.int .i64 N2p) (.slice R1p K2p y1p))
  replace i1 := i1.store (b := b1) (by omega) (.int .i64 Pa) (.int .i64 Ma) (.slice A1p mla.length x1p) (.int .i64 N2p) (.slice R1p K2p y1p)
  replace hBw := below_set5 hBw (b := b1) (by omega) (.int .i64 Pa) (.int .i64 Ma) (.slice A1p mla.length x1p) (.int .i64 N2p) (.slice R1p K2p y1p)
  replace hLc : L0 ≤ (((((w9.setCell ⟨b1, 0, none⟩ (.int .i64 Pa)).setCell ⟨b1, 1, none⟩ (.int .i64 Ma)).setCell ⟨b1, 2, none⟩ (.slice A1p mla.length x1p)).setCell ⟨b1, 3, none⟩ (.int .i64 N2p)).setCell ⟨b1, 4, none⟩ (.slice R1p K2p y1p)).heap.size := by rw [size5]; exact hLc
  obtain ⟨a0, a1, a2, a3, a4, -⟩ := fa.out
  obtain ⟨c0, c1, c2, c3, c4, -⟩ := fb.out
  obtain ⟨e0, e1, e2, e3, e4, -⟩ := fh.out
  obtain ⟨d00, d01, d02, d03, d04, -⟩ := u1.out
  obtain ⟨y0, y1, y2, y3, y4, z0, z1, z2, z3, z4⟩ := pend.out
  have hq := q2 A1p R1p x1p y1p Ah Rh ch kh _ ⟨i1.pre, ⟨(hrh.below hBw).more hBw.size, (hmh.below hBw).more hBw.size⟩⟩
  go_wp2_with (fail)
  (with_reducible refine hq.out.mono ?_)
  rintro e w10 ⟨A2p, x2p, R2p, y2p, rfl, i2, hb⟩
  clear hq
  clear a0 a1 a2 a3 a4 c0 c1 c2 c3 c4 e0 e1 e2 e3 e4
  clear d00 d01 d02 d03 d04
  clear y0 y1 y2 y3 y4 z0 z1 z2 z3 z4 pend
  replace i2 := i2.low hLc
  replace fa := Lib.hid (fa.out.keep hb (by omega))
  replace fb := Lib.hid (fb.out.keep hb (by omega))
  replace fh := Lib.hid (fh.out.keep hb (by omega))
  replace u1 := Lib.hid (u1.out.keep hb (by omega))
  replace u2 := Lib.hid (u2.out.keep hb (by omega))
  replace u3 := Lib.hid (u3.out.keep hb (by omega))
  replace u4 := Lib.hid (u4.out.keep hb (by omega))
  replace i1 := i1.below hb
  replace hBw := hBw.trans (hb.mono hBw.size)
  replace hLc := Nat.le_trans hLc hb.size
  clear hb
  have pend := u2
  replace u2 := Lib.hid (u2.out.set_ (.int .i64 Pa) (.int .i64 Ma) (.slice A2p mla.length x2p) (.int .i64 N3p) (.slice R2p K3p y2p))
  replace fa := Lib.hid (fa.out.farS (b := b2) (by omega) (.int .i64 Pa) (.int .i64 Ma) (.slice A2p mla.length x2p) (.int .i64 N3p) (.slice R2p K3p y2p))
  replace fb := Lib.hid (fb.out.farS (b := b2) (by omega) (.int .i64 Pa) (.int .i64 Ma) (.slice A2p mla.length x2p) (.int .i64 N3p) (.slice R2p K3p y2p))
  replace fh := Lib.hid (fh.out.farS (b := b2) (by omega) (.int .i64 Pa) (.int .i64 Ma) (.slice A2p mla.length x2p) (.int .i64 N3p) (.slice R2p K3p y2p))
  replace u1 := Lib.hid (u1.out.farS (b := b2) (by omega) (.int .i64 Pa) (.int .i64 Ma) (.slice A2p mla.length x2p) (.int .i64 N3p) (.slice R2p K3p y2p))
  replace u3 := Lib.hid (u3.out.farS (b := b2) (by omega) (.int .i64 Pa) (.int .i64 Ma) (.slice A2p mla.length x2p) (.int .i64 N3p) (.slice R2p K3p y2p))
  replace u4 := Lib.hid (u4.out.farS (b := b2) (by omega) (.int .i64 Pa) (.int .i64 Ma) (.slice A2p mla.length x2p) (.int .i64 N3p) (.slice R2p K3p y2p))
  replace i1 := i1.store (b := b2) (by omega) (.int .i64 Pa) (.int .i64 Ma) (.slice A2p mla.length x2p) (.int .i64 N3p) (.slice R2p K3p y2p)
  replace i2 := i2.store (b := b2) (by omega) (.int .i64 Pa) (.int .i64 Ma) (.slice A2p mla.length x2p) (.int .i64 N3p) (.slice R2p K3p y2p)
  replace hBw := below_set5 hBw (b := b2) (by omega) (.int .i64 Pa) (.int .i64 Ma) (.slice A2p mla.length x2p) (.int .i64 N3p) (.slice R2p K3p y2p)
  replace hLc : L0 ≤ (((((w10.setCell ⟨b2, 0, none⟩ (.int .i64 Pa)).setCell ⟨b2, 1, none⟩ (.int .i64 Ma)).setCell ⟨b2, 2, none⟩ (.slice A2p mla.length x2p)).setCell ⟨b2, 3, none⟩ (.int .i64 N3p)).setCell ⟨b2, 4, none⟩ (.slice R2p K3p y2p)).heap.size := by rw [size5]; exact hLc
  obtain ⟨a0, a1, a2, a3, a4, -⟩ := fa.out
  obtain ⟨c0, c1, c2, c3, c4, -⟩ := fb.out
  obtain ⟨e0, e1, e2, e3, e4, -⟩ := fh.out
  obtain ⟨y0, y1, y2, y3, y4, z0, z1, z2, z3, z4⟩ := pend.out
  have hq := q3 Ab Rb cb kb Ah Rh ch kh _ ⟨⟨(hrb.below hBw).more hBw.size, (hmb.below hBw).more hBw.size⟩, ⟨(hrh.below hBw).more hBw.size, (hmh.below hBw).more hBw.size⟩⟩
  go_wp2_with (fail)
  (with_reducible refine hq.out.mono ?_)
  rintro e w11 ⟨A3p, x3p, R3p, y3p, rfl, i3, hb⟩
  clear hq
  clear a0 a1 a2 a3 a4 c0 c1 c2 c3 c4 e0 e1 e2 e3 e4
  clear y0 y1 y2 y3 y4 z0 z1 z2 z3 z4 pend
  replace i3 := i3.low hLc
  replace fa := Lib.hid (fa.out.keep hb (by omega))
  replace fb := Lib.hid (fb.out.keep hb (by omega))
  replace fh := Lib.hid (fh.out.keep hb (by omega))
  replace u1 := Lib.hid (u1.out.keep hb (by omega))
  replace u2 := Lib.hid (u2.out.keep hb (by omega))
  replace u3 := Lib.hid (u3.out.keep hb (by omega))
  replace u4 := Lib.hid (u4.out.keep hb (by omega))
  replace i1 := i1.below hb
  replace i2 := i2.below hb
  replace hBw := hBw.trans (hb.mono hBw.size)
  replace hLc := Nat.le_trans hLc hb.size
  clear hb
  have pend := u3
  replace u3 := Lib.hid (u3.out.set_ (.int .i64 Pb) (.int .i64 Mb) (.slice A3p mlb.length x3p) (.int .i64 N23p) (.slice R3p K23p y3p))
  replace fa := Lib.hid (fa.out.farS (b := b3) (by omega) (.int .i64 Pb) (.int .i64 Mb) (.slice A3p mlb.length x3p) (.int .i64 N23p) (.slice R3p K23p y3p))
  replace fb := Lib.hid (fb.out.farS (b := b3) (by omega) (.int .i64 Pb) (.int .i64 Mb) (.slice A3p mlb.length x3p) (.int .i64 N23p) (.slice R3p K23p y3p))
  replace fh := Lib.hid (fh.out.farS (b := b3) (by omega) (.int .i64 Pb) (.int .i64 Mb) (.slice A3p mlb.length x3p) (.int .i64 N23p) (.slice R3p K23p y3p))
  replace u1 := Lib.hid (u1.out.farS (b := b3) (by omega) (.int .i64 Pb) (.int .i64 Mb) (.slice A3p mlb.length x3p) (.int .i64 N23p) (.slice R3p K23p y3p))
  replace u2 := Lib.hid (u2.out.farS (b := b3) (by omega) (.int .i64 Pb) (.int .i64 Mb) (.slice A3p mlb.length x3p) (.int .i64 N23p) (.slice R3p K23p y3p))
  replace u4 := Lib.hid (u4.out.farS (b := b3) (by omega) (.int .i64 Pb) (.int .i64 Mb) (.slice A3p mlb.length x3p) (.int .i64 N23p) (.slice R3p K23p y3p))
  replace i1 := i1.store (b := b3) (by omega) (.int .i64 Pb) (.int .i64 Mb) (.slice A3p mlb.length x3p) (.int .i64 N23p) (.slice R3p K23p y3p)
  replace i2 := i2.store (b := b3) (by omega) (.int .i64 Pb) (.int .i64 Mb) (.slice A3p mlb.length x3p) (.int .i64 N23p) (.slice R3p K23p y3p)
  replace i3 := i3.store (b := b3) (by omega) (.int .i64 Pb) (.int .i64 Mb) (.slice A3p mlb.length x3p) (.int .i64 N23p) (.slice R3p K23p y3p)
  replace hBw := below_set5 hBw (b := b3) (by omega) (.int .i64 Pb) (.int .i64 Mb) (.slice A3p mlb.length x3p) (.int .i64 N23p) (.slice R3p K23p y3p)
  replace hLc : L0 ≤ (((((w11.setCell ⟨b3, 0, none⟩ (.int .i64 Pb)).setCell ⟨b3, 1, none⟩ (.int .i64 Mb)).setCell ⟨b3, 2, none⟩ (.slice A3p mlb.length x3p)).setCell ⟨b3, 3, none⟩ (.int .i64 N23p)).setCell ⟨b3, 4, none⟩ (.slice R3p K23p y3p)).heap.size := by rw [size5]; exact hLc
  obtain ⟨a0, a1, a2, a3, a4, -⟩ := fa.out
  obtain ⟨c0, c1, c2, c3, c4, -⟩ := fb.out
  obtain ⟨e0, e1, e2, e3, e4, -⟩ := fh.out
  obtain ⟨d00, d01, d02, d03, d04, -⟩ := u3.out
  obtain ⟨y0, y1, y2, y3, y4, z0, z1, z2, z3, z4⟩ := pend.out
  have hq := q4 Aa Ra ca ka A3p R3p x3p y3p _ ⟨⟨(hra.below hBw).more hBw.size, (hma.below hBw).more hBw.size⟩, i3.pre⟩
  go_wp2_with (fail)
  (with_reducible refine hq.out.mono ?_)
  rintro e w12 ⟨A4p, x4p, R4p, y4p, rfl, i4, hb⟩
  clear hq
  clear a0 a1 a2 a3 a4 c0 c1 c2 c3 c4 e0 e1 e2 e3 e4
  clear d00 d01 d02 d03 d04
  clear y0 y1 y2 y3 y4 z0 z1 z2 z3 z4 pend
  replace i4 := i4.low hLc
  replace fa := Lib.hid (fa.out.keep hb (by omega))
  replace fb := Lib.hid (fb.out.keep hb (by omega))
  replace fh := Lib.hid (fh.out.keep hb (by omega))
  replace u1 := Lib.hid (u1.out.keep hb (by omega))
  replace u2 := Lib.hid (u2.out.keep hb (by omega))
  replace u3 := Lib.hid (u3.out.keep hb (by omega))
  replace u4 := Lib.hid (u4.out.keep hb (by omega))
  replace i1 := i1.below hb
  replace i2 := i2.below hb
  replace i3 := i3.below hb
  replace hBw := hBw.trans (hb.mono hBw.size)
  replace hLc := Nat.le_trans hLc hb.size
  clear hb
  have pend := u4
  replace u4 := Lib.hid (u4.out.set_ (.int .i64 Pa) (.int .i64 Ma) (.slice A4p mla.length x4p) (.int .i64 N3p) (.slice R4p K3p y4p))
  replace fa := Lib.hid (fa.out.farS (b := b4) (by omega) (.int .i64 Pa) (.int .i64 Ma) (.slice A4p mla.length x4p) (.int .i64 N3p) (.slice R4p K3p y4p))
  replace fb := Lib.hid (fb.out.farS (b := b4) (by omega) (.int .i64 Pa) (.int .i64 Ma) (.slice A4p mla.length x4p) (.int .i64 N3p) (.slice R4p K3p y4p))
  replace fh := Lib.hid (fh.out.farS (b := b4) (by omega) (.int .i64 Pa) (.int .i64 Ma) (.slice A4p mla.length x4p) (.int .i64 N3p) (.slice R4p K3p y4p))
  replace u1 := Lib.hid (u1.out.farS (b := b4) (by omega) (.int .i64 Pa) (.int .i64 Ma) (.slice A4p mla.length x4p) (.int .i64 N3p) (.slice R4p K3p y4p))
  replace u2 := Lib.hid (u2.out.farS (b := b4) (by omega) (.int .i64 Pa) (.int .i64 Ma) (.slice A4p mla.length x4p) (.int .i64 N3p) (.slice R4p K3p y4p))
  replace u3 := Lib.hid (u3.out.farS (b := b4) (by omega) (.int .i64 Pa) (.int .i64 Ma) (.slice A4p mla.length x4p) (.int .i64 N3p) (.slice R4p K3p y4p))
  replace i1 := i1.store (b := b4) (by omega) (.int .i64 Pa) (.int .i64 Ma) (.slice A4p mla.length x4p) (.int .i64 N3p) (.slice R4p K3p y4p)
  replace i2 := i2.store (b := b4) (by omega) (.int .i64 Pa) (.int .i64 Ma) (.slice A4p mla.length x4p) (.int .i64 N3p) (.slice R4p K3p y4p)
  replace i3 := i3.store (b := b4) (by omega) (.int .i64 Pa) (.int .i64 Ma) (.slice A4p mla.length x4p) (.int .i64 N3p) (.slice R4p K3p y4p)
  replace i4 := i4.store (b := b4) (by omega) (.int .i64 Pa) (.int .i64 Ma) (.slice A4p mla.length x4p) (.int .i64 N3p) (.slice R4p K3p y4p)
  replace hBw := below_set5 hBw (b := b4) (by omega) (.int .i64 Pa) (.int .i64 Ma) (.slice A4p mla.length x4p) (.int .i64 N3p) (.slice R4p K3p y4p)
  replace hLc : L0 ≤ (((((w12.setCell ⟨b4, 0, none⟩ (.int .i64 Pa)).setCell ⟨b4, 1, none⟩ (.int .i64 Ma)).setCell ⟨b4, 2, none⟩ (.slice A4p mla.length x4p)).setCell ⟨b4, 3, none⟩ (.int .i64 N3p)).setCell ⟨b4, 4, none⟩ (.slice R4p K3p y4p)).heap.size := by rw [size5]; exact hLc
  obtain ⟨a0, a1, a2, a3, a4, -⟩ := fa.out
  obtain ⟨c0, c1, c2, c3, c4, -⟩ := fb.out
  obtain ⟨e0, e1, e2, e3, e4, -⟩ := fh.out
  obtain ⟨d00, d01, d02, d03, d04, -⟩ := u2.out
  obtain ⟨d10, d11, d12, d13, d14, -⟩ := u4.out
  obtain ⟨d20, d21, d22, d23, d24, -⟩ := u1.out
  obtain ⟨y0, y1, y2, y3, y4, z0, z1, z2, z3, z4⟩ := pend.out
  have hq := hSm Pa Ma N3p mla K3p t2 A2p A4p R2p R4p x2p x4p y2p y4p _ i2.pre.1 i4.pre.1 hla i2.pre.2 i4.pre.2 (by omega) (fun i hi => Nat.le_trans (hrl i hi) (by omega))
  go_wp2_with (fail)
  (with_reducible refine hq.out.mono ?_)
  rintro e w13 ⟨rfl, hb⟩
  clear hq
  clear a0 a1 a2 a3 a4 c0 c1 c2 c3 c4 e0 e1 e2 e3 e4
  clear d00 d01 d02 d03 d04
  clear d10 d11 d12 d13 d14
  clear d20 d21 d22 d23 d24
  clear y0 y1 y2 y3 y4 z0 z1 z2 z3 z4 pend
  replace fa := Lib.hid (fa.out.keep hb (by omega))
  replace fb := Lib.hid (fb.out.keep hb (by omega))
  replace fh := Lib.hid (fh.out.keep hb (by omega))
  replace u1 := Lib.hid (u1.out.keep hb (by omega))
  replace u2 := Lib.hid (u2.out.keep hb (by omega))
  replace u3 := Lib.hid (u3.out.keep hb (by omega))
  replace u4 := Lib.hid (u4.out.keep hb (by omega))
  replace i1 := i1.below hb
  replace i2 := i2.below hb
  replace i3 := i3.below hb
  replace i4 := i4.below hb
  replace hBw := hBw.trans (hb.mono hBw.size)
  replace hLc := Nat.le_trans hLc hb.size
  clear hb i2 i3 i4 u2 u3 u4
  obtain ⟨a0, a1, a2, a3, a4, -⟩ := fa.out
  obtain ⟨c0, c1, c2, c3, c4, -⟩ := fb.out
  obtain ⟨e0, e1, e2, e3, e4, -⟩ := fh.out
  obtain ⟨d00, d01, d02, d03, d04, -⟩ := u1.out
  have hq := q5 Ab Rb cb kb Aa Ra ca ka _ ⟨⟨(hrb.below hBw).more hBw.size, (hmb.below hBw).more hBw.size⟩, ⟨(hra.below hBw).more hBw.size, (hma.below hBw).more hBw.size⟩⟩
  go_wp2_with (fail)
  (with_reducible refine hq.out.mono ?_)
  rintro e w14 ⟨A5p, x5p, R5p, y5p, rfl, i5, hb⟩
  clear hq
  clear a0 a1 a2 a3 a4 c0 c1 c2 c3 c4 e0 e1 e2 e3 e4
  clear d00 d01 d02 d03 d04
  replace i5 := i5.low hLc
  replace fa := Lib.hid (fa.out.keep hb (by omega))
  replace fb := Lib.hid (fb.out.keep hb (by omega))
  replace fh := Lib.hid (fh.out.keep hb (by omega))
  replace u1 := Lib.hid (u1.out.keep hb (by omega))
  replace i1 := i1.below hb
  replace hBw := hBw.trans (hb.mono hBw.size)
  replace hLc := Nat.le_trans hLc hb.size
  clear hb q1 q2 q3 q4 q5
  obtain ⟨V, hV⟩ : ∃ V, V = w14.alloc (.cells #[.int .i64 Pb, .int .i64 Mb, .slice A5p mlb.length x5p, .int .i64 N2p, .slice R5p K2p y5p] 27) := ⟨_, rfl⟩
  obtain ⟨b5, hb5⟩ : ∃ b, b = w14.heap.size := ⟨_, rfl⟩
  have hbV : Below w14.heap.size w14 V := by rw [hV]; exact (Below.refl _ _).alloc (Nat.le_refl _) _
  have u5 : Hid (Five V b5 (.int .i64 Pb) (.int .i64 Mb) (.slice A5p mlb.length x5p) (.int .i64 N2p) (.slice R5p K2p y5p)) := by rw [hV, hb5]; exact Lib.hid (Five.new w14 (.int .i64 Pb) (.int .i64 Mb) (.slice A5p mlb.length x5p) (.int .i64 N2p) (.slice R5p K2p y5p) 27)
  have gl5 : L0 ≤ b5 := by rw [hb5]; exact hLc
  have b5l : b5 < V.heap.size := by rw [hV, hb5]; simp
  replace fa := Lib.hid (fa.out.keep hbV (by omega))
  replace fb := Lib.hid (fb.out.keep hbV (by omega))
  replace fh := Lib.hid (fh.out.keep hbV (by omega))
  replace u1 := Lib.hid (u1.out.keep hbV (by omega))
  replace i1 := i1.below hbV
  replace i5 := i5.below hbV
  replace hBw := hBw.trans (hbV.mono hBw.size)
  replace hLc := Nat.le_trans hLc hbV.size
  obtain ⟨a0, a1, a2, a3, a4, -⟩ := hV ▸ fa.out
  obtain ⟨c0, c1, c2, c3, c4, -⟩ := hV ▸ fb.out
  obtain ⟨e0, e1, e2, e3, e4, -⟩ := hV ▸ fh.out
  obtain ⟨d00, d01, d02, d03, d04, -⟩ := hV ▸ u1.out
  obtain ⟨d10, d11, d12, d13, d14, -⟩ := hV ▸ hb5 ▸ u5.out
  clear hbV
  replace hV := Lib.hid hV
  go_wp2_with (fail)
  rw [← hV.out]
  simp only [← hb5]
  replace hb5 := Lib.hid hb5
  clear a0 a1 a2 a3 a4 c0 c1 c2 c3 c4 e0 e1 e2 e3 e4
  clear d00 d01 d02 d03 d04 d10 d11 d12 d13 d14
  have hm2 := i5.pre.2
  obtain ⟨tR, htR⟩ : ∃ f : Nat → List Int, f = rowsL F.toDesc N2p (fun i => trW m1 m2 (B5 i)) := ⟨_, rfl⟩
  have hMk := fun Ar cr W a b => make_same va v1 hss (by omega) Aa Ar ca cr W a b
  rw [← htR] at hMk
  replace hMk := fun Ar cr W a b => Lib.hid (hMk Ar cr W a b)
  have hr5l : Hid (∀ i, i < K2p → (t5 i).length = N2p) := fun i hi => by rw [hr5 i hi, rowsL_length]
  have htl : Hid (∀ i, (tR i).length = N2p) := fun i => by rw [htR, rowsL_length]
  have hrl1 : Hid (∀ i, i < K2p → (t1 i).length ≤ 1000000) := fun i hi => by rw [v1.hr i hi, rowsL_length]; omega
  have hpr1 := i1.pre
  replace hr5 := Lib.hid hr5
  replace htR := Lib.hid htR
  have vV := fun W (h : Below V.heap.size V W) => Lib.hid (show W.cell? ⟨s, 3, none⟩ = some (.int .i64 (m1 : Int)) ∧ W.cell? ⟨s + 1, 3, none⟩ = some (.int .i64 (m2 : Int)) ∧ W.cell? ⟨b1, 3, none⟩ = some (.int .i64 (N2p : Int)) ∧ W.cell? ⟨b5, 4, none⟩ = some (.slice R5p K2p y5p) from ⟨(fa.out.keep h (by omega)).2.2.2.1, (fb.out.keep h (by omega)).2.2.2.1, (u1.out.keep h (by omega)).2.2.2.1, (u5.out.keep h (by omega)).2.2.2.2.1⟩)
  have vE := fun W (h : Below V.heap.size V W) => Lib.hid (show (W.cell? ⟨s, 0, none⟩ = some (.int .i64 Pa) ∧ W.cell? ⟨s, 1, none⟩ = some (.int .i64 Ma) ∧ W.cell? ⟨s, 2, none⟩ = some (.slice Aa mla.length ca)) ∧ W.cell? ⟨b1, 0, none⟩ = some (.int .i64 Pa) ∧ W.cell? ⟨b1, 1, none⟩ = some (.int .i64 Ma) ∧ W.cell? ⟨b1, 2, none⟩ = some (.slice A1p mla.length x1p) ∧ W.cell? ⟨b1, 3, none⟩ = some (.int .i64 (N2p : Int)) ∧ W.cell? ⟨b1, 4, none⟩ = some (.slice R1p K2p y1p) from ⟨⟨(fa.out.keep h (by omega)).1, (fa.out.keep h (by omega)).2.1, (fa.out.keep h (by omega)).2.2.1⟩, (u1.out.keep h (by omega)).1, (u1.out.keep h (by omega)).2.1, (u1.out.keep h (by omega)).2.2.1, (u1.out.keep h (by omega)).2.2.2.1, (u1.out.keep h (by omega)).2.2.2.2.1⟩)
  replace hss := Lib.hid hss
  have hrA := (hra.below hBw).more hBw.size
  clear u1 u5 fa fb fh i1 i5
  go_loopw [18, 17, 19, 20, 21] (fun i v _ _ _ wr => ∃ k : Nat, k ≤ K2p ∧ i = .int .i64 k ∧ Hid (OwnM wr V.heap.size v k tR) ∧ Below V.heap.size V wr) (fun i _ _ _ _ _ => K2p - (intOf i).toNat)
  case atStart => exact ⟨0, by omega, rfl, Lib.hid (OwnM.nil _ _ _), Below.refl _ _⟩
  case round =>
    obtain ⟨wv, rfl⟩ : ∃ wv : World, wv = wr := ⟨_, rfl⟩
    obtain ⟨k, hk, rfl, hown, hbl⟩ := hrel
    obtain ⟨p0, p1, p2', p3⟩ := (vV _ hbl).out
    obtain ⟨Av, cv, rfl⟩ := hown.out.size
    by_cases hkm : k < K2p
    · obtain ⟨br, orr, Ai, ci', rfl, hbr, hcr, hri, -, -⟩ := hm2.at_ hkm
      rw [hr5l.out k hkm] at hcr
      have hri2 : Rd V V.heap.size Ai (lst N2p fun c => ci (B5 k c)) := by have h := hri; rw [hr5.out k hkm] at h; exact h
      obtain ⟨T, hT⟩ : ∃ T : Nat → Int, T = fun c => ci (trW m1 m2 (B5 k) c) := ⟨_, rfl⟩
      have hrow : Hid (lst N2p T = tR k) := by rw [Hid, hT, htR.out]; rfl
      have hmk := mk_ints N2p (by omega)
      obtain ⟨X, hX⟩ : ∃ X, X = wv.alloc (.cells (Array.replicate N2p (Value.int .i64 0)) 3) := ⟨_, rfl⟩
      obtain ⟨gR, hgR⟩ : ∃ g, g = wv.heap.size := ⟨_, rfl⟩
      have hib : Hid (IB X gR (trL N2p m2 T 0 0)) := by rw [trL_zero, upd_zero, hX, hgR]; exact Lib.hid (IB.newz wv N2p)
      have hbX : Below gR wv X := by rw [hX, hgR]; exact (Below.refl _ _).alloc (Nat.le_refl _) _
      have hgV : V.heap.size ≤ gR := by rw [hgR]; exact hbl.size
      have hbVX : Below V.heap.size V X := hbl.trans (hbX.mono hgV)
      have k0 : (0 : Int) ≤ (k : Int) := by omega
      have k1 : (k : Int) < (K2p : Int) := by omega
      replace hX := Lib.hid hX
      replace hT := Lib.hid hT
      clear hri
      go_wp2_with (fail)
      rw [← hX.out]
      simp only [← hgR]
      replace hgR := Lib.hid hgR
      clear hmk p0 p1 p2' p3
      go_loopw [20, 21] (fun j _ wr => ∃ jn : Nat, jn ≤ m2 ∧ j = .int .i64 jn ∧ Hid (IB wr gR (trL N2p m2 T jn 0)) ∧ Below gR X wr) (fun j _ _ => m2 - (intOf j).toNat)
      case atStart => exact ⟨0, by omega, rfl, hib, Below.refl _ _⟩
      case round =>
        clear hib
        obtain ⟨wi, rfl⟩ : ∃ wi : World, wi = wr := ⟨_, rfl⟩
        obtain ⟨jn, hj, rfl, hib, hbi⟩ := hrel
        have hbVi := hbVX.trans (hbi.mono hgV)
        obtain ⟨p0, p1, p2', p3⟩ := (vV _ hbVi).out
        by_cases hjm : jn < m2
        · go_wp2_with (fail)
          clear p0 p1 p2' p3
          go_loopw [21] (fun l wr => ∃ ln : Nat, ln ≤ m1 ∧ l = .int .i64 ln ∧ Hid (IB wr gR (trL N2p m2 T jn ln)) ∧ Below gR X wr) (fun l _ => m1 - (intOf l).toNat)
          case atStart => exact ⟨0, by omega, rfl, hib, hbi⟩
          case round =>
            clear hib hbi hbVi
            obtain ⟨wl, rfl⟩ : ∃ wl : World, wl = wr := ⟨_, rfl⟩
            obtain ⟨ln, hl, rfl, hib, hbi⟩ := hrel
            have hbVi := hbVX.trans (hbi.mono hgV)
            by_cases hlm : ln < m1
            · have hp2 : m2 * ln + jn < N2p := by rw [hN2p.out]; exact idx_lt hlm hjm
              have hq2 : m1 * jn + ln < N2p := by rw [hN2p.out, Nat.mul_comm m1 m2]; exact idx_lt hjm hlm
              have hval : Hid (T (m2 * ln + jn) = ci (B5 k (m1 * jn + ln))) := by rw [Hid, hT.out]; exact congrArg ci (trW_at (B5 k) hjm)
              obtain ⟨be, oe, rfl, hbe, hce⟩ := hri2.at_ (k := m1 * jn + ln) (by rw [lst_length]; exact hq2)
              rw [lst_get _ hq2, ← hval.out] at hce
              have hset := fun W (h : IB W gR _) => (trL_set (n := N2p) (l := ln) T hjm) ▸ h.set_ (m2 * ln + jn) (T (m2 * ln + jn))
              obtain ⟨y, hy⟩ : ∃ y, y = T (m2 * ln + jn) := ⟨_, rfl⟩
              rw [← hy] at hce hset
              obtain ⟨pl, hpl⟩ : ∃ n, n = m2 * ln := ⟨_, rfl⟩
              obtain ⟨ql, hql⟩ : ∃ n, n = m1 * jn := ⟨_, rfl⟩
              have r1 : (ln : Int) * (m2 : Int) = (pl : Int) := by rw [hpl, Nat.mul_comm]; push_cast; rfl
              have r2 : (jn : Int) * (m1 : Int) = (ql : Int) := by rw [hql, Nat.mul_comm]; push_cast; rfl
              rw [← hpl] at hp2 hset
              rw [← hql] at hq2 hce
              obtain ⟨p2, hp2e⟩ : ∃ n, n = pl + jn := ⟨_, rfl⟩
              obtain ⟨q2, hq2e⟩ : ∃ n, n = ql + ln := ⟨_, rfl⟩
              have r3 : (pl : Int) + (jn : Int) = (p2 : Int) := by rw [hp2e]; push_cast; rfl
              have r4 : (ql : Int) + (ln : Int) = (q2 : Int) := by rw [hq2e]; push_cast; rfl
              rw [← hp2e] at hp2 hset
              rw [← hq2e] at hq2 hce
              have z1 : IntKind.i64.wrap (pl : Int) = (pl : Int) := IntWalk.i64_in _ (by omega)
              have z2 : IntKind.i64.wrap (ql : Int) = (ql : Int) := IntWalk.i64_in _ (by omega)
              have z3 : IntKind.i64.wrap (p2 : Int) = (p2 : Int) := IntWalk.i64_in _ (by omega)
              have z4 : IntKind.i64.wrap (q2 : Int) = (q2 : Int) := IntWalk.i64_in _ (by omega)
              have g0 : (0 : Int) ≤ (p2 : Int) := by omega
              have g1 : (p2 : Int) < (N2p : Int) := by omega
              have g2 : (0 : Int) ≤ (q2 : Int) := by omega
              have g3 : (q2 : Int) < (N2p : Int) := by omega
              have vL := fun W (h : Below V.heap.size V W) => Lib.hid (show W.cell? ⟨s, 3, none⟩ = some (.int .i64 (m1 : Int)) ∧ W.cell? ⟨s + 1, 3, none⟩ = some (.int .i64 (m2 : Int)) ∧ W.cell? ⟨b1, 3, none⟩ = some (.int .i64 (N2p : Int)) ∧ W.cell? ⟨b5, 4, none⟩ = some (.slice (some ⟨br, orr, none⟩) K2p y5p) ∧ W.cell? ⟨br, orr + k, none⟩ = some (.slice (some ⟨be, oe, none⟩) N2p ci') ∧ W.cell? ⟨be, oe + q2, none⟩ = some (.int .i64 y) from ⟨(vV W h).out.1, (vV W h).out.2.1, (vV W h).out.2.2.1, (vV W h).out.2.2.2, (h.cell (p := ⟨br, orr + k, none⟩) hbr).trans hcr, (h.cell (p := ⟨be, oe + q2, none⟩) hbe).trans hce⟩)
              have hgl := hib.out.lt
              have hbd : Below gR X wl.drew := hbi.drew
              have hibd : IB wl.drew gR (trL N2p m2 T jn ln) := hib.out.below (Below.refl _ wl).drew hgl
              have hcW := hibd.cell (i := p2) (by rw [trL_length]; exact hp2)
              have hfW := hibd.frozen p2
              have hstep := hset _ hibd
              have hbs : Below gR X (wl.drew.setCell ⟨gR, p2, none⟩ (.int .i64 y)) := hbd.setCell (p := ⟨gR, p2, none⟩) (Nat.le_refl _) _
              have hbVd := hbVX.trans (hbd.mono hgV)
              have hbVs := hbVX.trans (hbs.mono hgV)
              obtain ⟨p0', p1', p2'', p3'⟩ := (vV _ hbVi).out
              replace hstep := Lib.hid hstep
              replace hy := Lib.hid hy
              replace hpl := Lib.hid hpl
              replace hql := Lib.hid hql
              replace hp2e := Lib.hid hp2e
              replace hq2e := Lib.hid hq2e
              replace hset := Lib.hid hset
              clear hce
              go_wp2_with (fail)
              clear p0' p1' p2'' p3'
              refine wp_region_held_drew (S := fun w' => w'.cell? ⟨s, 3, none⟩ = some (.int .i64 (m1 : Int)) ∧ w'.cell? ⟨s + 1, 3, none⟩ = some (.int .i64 (m2 : Int)) ∧ w'.cell? ⟨b1, 3, none⟩ = some (.int .i64 (N2p : Int)) ∧ w'.cell? ⟨b5, 4, none⟩ = some (.slice (some ⟨br, orr, none⟩) K2p y5p) ∧ w'.cell? ⟨br, orr + k, none⟩ = some (.slice (some ⟨be, oe, none⟩) N2p ci') ∧ w'.cell? ⟨be, oe + q2, none⟩ = some (.int .i64 y)) (by kernel_rfl) (by (try dsimp only); exact (vL _ hbVd).out) (fun hHeld => ?_)
              refine wpAnyH_take (i := 0) (oi := ⟨_, _, _, _, _, _⟩) (v := ?_) rfl (by kernel_rfl) (by kernel_rfl) (by kernel_rfl) (fun _ _ _ h => h) (Or.inl ⟨by rfl, ?_⟩) (by assumption) ?_
              rotate_left
              · intro w hSw; (try dsimp only at hSw); go_simp; try with_reducible rfl
              try simp only [Act.put, List.setIfInBounds_toArray, List.set_cons_zero, List.set_cons_succ]
              refine wpAnyH_take (i := 1) (oi := ⟨_, _, _, _, _, _⟩) (v := ?_) rfl (by kernel_rfl) (by kernel_rfl) (by kernel_rfl) (fun _ _ _ h => h) (Or.inl ⟨by rfl, ?_⟩) (by assumption) ?_
              rotate_left
              · intro w hSw; (try dsimp only at hSw); go_simp; try with_reducible rfl
              try simp only [Act.put, List.setIfInBounds_toArray, List.set_cons_zero, List.set_cons_succ]
              refine wpAnyH_take (i := 2) (oi := ⟨_, _, _, _, _, _⟩) (v := ?_) rfl (by kernel_rfl) (by kernel_rfl) (by kernel_rfl) (fun _ _ _ h => h) (Or.inl ⟨by rfl, ?_⟩) (by assumption) ?_
              rotate_left
              · intro w hSw; (try dsimp only at hSw); go_simp; try with_reducible rfl
              try simp only [Act.put, List.setIfInBounds_toArray, List.set_cons_zero, List.set_cons_succ]
              refine wpAnyH_take (i := 3) (oi := ⟨_, _, _, _, _, _⟩) (v := ?_) rfl (by kernel_rfl) (by kernel_rfl) (by kernel_rfl) (fun _ _ _ h => h) (Or.inl ⟨by rfl, ?_⟩) (by assumption) ?_
              rotate_left
              · intro w hSw; (try dsimp only at hSw); go_simp; try with_reducible rfl
              try simp only [Act.put, List.setIfInBounds_toArray, List.set_cons_zero, List.set_cons_succ]
              refine wpAnyH_take (i := 4) (oi := ⟨_, _, _, _, _, _⟩) (v := ?_) rfl (by kernel_rfl) (by kernel_rfl) (by kernel_rfl) (fun _ _ _ h => h) (Or.inl ⟨by rfl, ?_⟩) (by assumption) ?_
              rotate_left
              · intro w hSw; (try dsimp only at hSw); go_simp; try with_reducible rfl
              try simp only [Act.put, List.setIfInBounds_toArray, List.set_cons_zero, List.set_cons_succ]
              refine wpAnyH_take (i := 5) (oi := ⟨_, _, _, _, _, _⟩) (v := ?_) rfl (by kernel_rfl) (by kernel_rfl) (by kernel_rfl) (fun _ _ _ h => h) (Or.inl ⟨by rfl, ?_⟩) (by assumption) ?_
              rotate_left
              · intro w hSw; (try dsimp only at hSw); go_simp; try with_reducible rfl
              try simp only [Act.put, List.setIfInBounds_toArray, List.set_cons_zero, List.set_cons_succ]
              refine wpAnyH_take (i := 6) (oi := ⟨_, _, _, _, _, _⟩) (v := ?_) rfl (by kernel_rfl) (by kernel_rfl) (by kernel_rfl) (fun _ _ _ h => h) (Or.inl ⟨by rfl, ?_⟩) (by assumption) ?_
              rotate_left
              · intro w hSw; (try dsimp only at hSw); go_simp; try with_reducible rfl
              try simp only [Act.put, List.setIfInBounds_toArray, List.set_cons_zero, List.set_cons_succ]
              refine wpAnyH_take (i := 7) (oi := ⟨_, _, _, _, _, _⟩) (v := ?_) rfl (by kernel_rfl) (by kernel_rfl) (by kernel_rfl) (fun _ _ _ h => h) (Or.inl ⟨by rfl, ?_⟩) (by assumption) ?_
              rotate_left
              · intro w hSw; (try dsimp only at hSw); go_simp; try with_reducible rfl
              try simp only [Act.put, List.setIfInBounds_toArray, List.set_cons_zero, List.set_cons_succ]
              refine wpAnyH_take (i := 8) (oi := ⟨_, _, _, _, _, _⟩) (v := ?_) rfl (by kernel_rfl) (by kernel_rfl) (by kernel_rfl) (fun _ _ _ h => h) (Or.inl ⟨by rfl, ?_⟩) (by assumption) ?_
              rotate_left
              · intro w hSw; (try dsimp only at hSw); go_simp; try with_reducible rfl
              try simp only [Act.put, List.setIfInBounds_toArray, List.set_cons_zero, List.set_cons_succ]
              refine wpAnyH_take (i := 9) (oi := ⟨_, _, _, _, _, _⟩) (v := ?_) rfl (by kernel_rfl) (by kernel_rfl) (by kernel_rfl) (fun _ _ _ h => h) (Or.inl ⟨by rfl, ?_⟩) (by assumption) ?_
              rotate_left
              · intro w hSw; (try dsimp only at hSw); go_simp; try with_reducible rfl
              try simp only [Act.put, List.setIfInBounds_toArray, List.set_cons_zero, List.set_cons_succ]
              refine wpAnyH_take (i := 10) (oi := ⟨_, _, _, _, _, _⟩) (v := ?_) rfl (by kernel_rfl) (by kernel_rfl) (by kernel_rfl) (fun _ _ _ h => h) (Or.inl ⟨by rfl, ?_⟩) (by assumption) ?_
              rotate_left
              · intro w hSw; (try dsimp only at hSw); go_simp; try with_reducible rfl
              try simp only [Act.put, List.setIfInBounds_toArray, List.set_cons_zero, List.set_cons_succ]
              refine wpAnyH_take (i := 11) (oi := ⟨_, _, _, _, _, _⟩) (v := ?_) rfl (by kernel_rfl) (by kernel_rfl) (by kernel_rfl) (fun _ _ _ h => h) (Or.inl ⟨by rfl, ?_⟩) (by assumption) ?_
              rotate_left
              · intro w hSw; (try dsimp only at hSw); go_simp; try with_reducible rfl
              try simp only [Act.put, List.setIfInBounds_toArray, List.set_cons_zero, List.set_cons_succ]
              refine wpAnyH_take (i := 12) (oi := ⟨_, _, _, _, _, _⟩) (v := ?_) rfl (by kernel_rfl) (by kernel_rfl) (by kernel_rfl) (fun _ _ _ h => h) (Or.inl ⟨by rfl, ?_⟩) (by assumption) ?_
              rotate_left
              · intro w hSw; (try dsimp only at hSw); go_simp; try with_reducible rfl
              try simp only [Act.put, List.setIfInBounds_toArray, List.set_cons_zero, List.set_cons_succ]
              refine wpAnyH_take (i := 13) (oi := ⟨_, _, _, _, _, _⟩) (v := ?_) rfl (by kernel_rfl) (by kernel_rfl) (by kernel_rfl) (fun _ _ _ h => h) (Or.inl ⟨by rfl, ?_⟩) (by assumption) ?_
              rotate_left
              · intro w hSw; (try dsimp only at hSw); go_simp; try with_reducible rfl
              try simp only [Act.put, List.setIfInBounds_toArray, List.set_cons_zero, List.set_cons_succ]
              refine wpAnyH_take (i := 14) (oi := ⟨_, _, _, _, _, _⟩) (v := ?_) rfl (by kernel_rfl) (by kernel_rfl) (by kernel_rfl) (fun _ _ _ h => h) (Or.inl ⟨by rfl, ?_⟩) (by assumption) ?_
              rotate_left
              · intro w hSw; (try dsimp only at hSw); go_simp; try with_reducible rfl
              try simp only [Act.put, List.setIfInBounds_toArray, List.set_cons_zero, List.set_cons_succ]
              refine wpAnyH_take (i := 15) (oi := ⟨_, _, _, _, _, _⟩) (v := ?_) rfl (by kernel_rfl) (by kernel_rfl) (by kernel_rfl) (fun _ _ _ h => h) (Or.inl ⟨by rfl, ?_⟩) (by assumption) ?_
              rotate_left
              · intro w hSw; (try dsimp only at hSw); go_simp; try with_reducible rfl
              try simp only [Act.put, List.setIfInBounds_toArray, List.set_cons_zero, List.set_cons_succ]
              refine wpAnyH_take (i := 16) (oi := ⟨_, _, _, _, _, _⟩) (v := ?_) rfl (by kernel_rfl) (by kernel_rfl) (by kernel_rfl) (fun _ _ _ h => h) (Or.inl ⟨by rfl, ?_⟩) (by assumption) ?_
              rotate_left
              · intro w hSw; (try dsimp only at hSw); go_simp; try with_reducible rfl
              try simp only [Act.put, List.setIfInBounds_toArray, List.set_cons_zero, List.set_cons_succ]
              refine wpAnyH_take (i := 17) (oi := ⟨_, _, _, _, _, _⟩) (v := ?_) rfl (by kernel_rfl) (by kernel_rfl) (by kernel_rfl) (fun _ _ _ h => h) (Or.inl ⟨by rfl, ?_⟩) (by assumption) ?_
              rotate_left
              · intro w hSw; (try dsimp only at hSw); go_simp; try with_reducible rfl
              try simp only [Act.put, List.setIfInBounds_toArray, List.set_cons_zero, List.set_cons_succ]
              refine wpAnyH_take (i := 18) (oi := ⟨_, _, _, _, _, _⟩) (v := ?_) rfl (by kernel_rfl) (by kernel_rfl) (by kernel_rfl) (fun _ _ _ h => h) (Or.inl ⟨by rfl, ?_⟩) (by assumption) ?_
              rotate_left
              · intro w hSw; (try dsimp only at hSw); go_simp; try with_reducible rfl
              try simp only [Act.put, List.setIfInBounds_toArray, List.set_cons_zero, List.set_cons_succ]
              refine wpAnyH_take (i := 19) (oi := ⟨_, _, _, _, _, _⟩) (v := ?_) rfl (by kernel_rfl) (by kernel_rfl) (by kernel_rfl) (fun _ _ _ h => h) (Or.inl ⟨by rfl, ?_⟩) (by assumption) ?_
              rotate_left
              · intro w hSw; (try dsimp only at hSw); go_simp; try with_reducible rfl
              try simp only [Act.put, List.setIfInBounds_toArray, List.set_cons_zero, List.set_cons_succ]
              refine wpAnyH_take (i := 20) (oi := ⟨_, _, _, _, _, _⟩) (v := ?_) rfl (by kernel_rfl) (by kernel_rfl) (by kernel_rfl) (fun _ _ _ h => h) (Or.inl ⟨by rfl, ?_⟩) (by assumption) ?_
              rotate_left
              · intro w hSw; (try dsimp only at hSw); go_simp; try with_reducible rfl
              try simp only [Act.put, List.setIfInBounds_toArray, List.set_cons_zero, List.set_cons_succ]
              refine wpAnyH_ready (rs := [21]) (by kernel_rfl) (by simp) ?_
              refine AllReadyH.cons (o := ⟨_, _, _, _, _, _⟩) rfl (fun K hK => ?_) AllReadyH.nil
              go_simp
              refine hK.out _ _ (by (try dsimp only); exact (vL _ hbVs).out) (fun hHeld => ?_)
              clear hK K
              try simp only [Act.put, List.setIfInBounds_toArray, List.set_cons_zero, List.set_cons_succ]
              refine wpAnyH_done (by kernel_rfl) ?_ _
              clear hcW hfW r1 r2 r3 r4 z1 z2 z3 z4
              go_wp2_with (fail)
              go_roundw
              case rel => exact ⟨ln + 1, by omega, by go_num, hstep, hbs⟩
              case measure => simp [intOf]; omega
            · have hlm2 : ln = m1 := by omega
              rw [hlm2, trL_next T hN2p.out] at hib
              obtain ⟨p0', p1', p2'', p3'⟩ := (vV _ hbVi).out
              go_wp2_with (fail)
              go_roundw
              case rel => exact ⟨jn + 1, by omega, by go_num, hib, hbi⟩
              case measure => simp [intOf]; omega
        · have hjm2 : jn = m2 := by omega
          rw [hjm2, trL_full T (by omega), hrow.out] at hib
          have hgl := hib.out.lt
          have hbvi : Below gR wv wi := hbX.trans hbi
          have hown2 : OwnM wi V.heap.size (.slice Av k cv) k tR := hown.out.below (W := gR) hbvi (Nat.le_of_eq hgR.out.symm)
          have hlt0 := hown.out.lt0
          rw [← hgR.out] at hlt0
          have hsI : V.heap.size ≤ wi.heap.size := by omega
          replace hlt0 := Lib.hid hlt0
          go_wp2_with (at_builtin; refine wpList_appRow rfl (.tmp 232) (.tmp 234) rfl V.heap.size _ k tR hown2 (some ⟨gR, 0, none⟩) N2p N2p hib.out.rd (htl.out k) (Nat.le_refl _) (by unfold maxLen; omega) gR hlt0.out (fun a e => by cases e; exact Nat.le_refl _) hgV rfl rfl rfl (by omega) hsI ?_; intro v' w' ho' hb')
          replace ho' := Lib.hid ho'
          go_roundw
          case rel => exact ⟨k + 1, by omega, by go_num, ho', hbVi.trans hb'⟩
          case measure => simp [intOf]; omega
    · have hkK : k = K2p := by omega
      rw [hkK] at hown ⊢
      obtain ⟨A9, c9, e9, hrm9⟩ := OwnM.rdm hown.out
      have e9' : A9 = Av ∧ c9 = cv := by injection e9 with g1 g2 g3; exact ⟨g1.symm, g3.symm⟩
      obtain ⟨rfl, rfl⟩ := e9'
      clear e9
      have hBv := hBw.trans (hbl.mono hBw.size)
      have hsV : V.heap.size ≤ wv.heap.size := hbl.size
      have hpv : Hid (Rd wv wv.heap.size A1p mla ∧ RdM wv wv.heap.size R1p K2p t1) := ⟨(hpr1.1.below hbl).more hsV, (hpr1.2.below hbl).more hsV⟩
      have hrv : Rd wv wv.heap.size Aa mla := (hrA.below hbl).more hsV
      have vW := fun W (h : Below wv.heap.size wv W) => vE W (hbl.trans (h.mono hsV))
      obtain ⟨hb0, hl0⟩ : Below wv.heap.size wv wv.drew ∧ wv.heap.size ≤ wv.drew.heap.size := ⟨(Below.refl _ _).drew, Nat.le_refl _⟩
      replace hb0 := Lib.hid hb0
      replace hkK := Lib.hid hkK
      clear hown vV vE hm2 hr5l hr5 htl htR hbl
      go_wp2_with (fail)
      clear p0 p1 p2' p3
      refine wp_region_held_drew (S := fun w' => (w'.cell? ⟨s, 0, none⟩ = some (.int .i64 Pa) ∧ w'.cell? ⟨s, 1, none⟩ = some (.int .i64 Ma) ∧ w'.cell? ⟨s, 2, none⟩ = some (.slice Aa mla.length ca)) ∧ w'.cell? ⟨b1, 0, none⟩ = some (.int .i64 Pa) ∧ w'.cell? ⟨b1, 1, none⟩ = some (.int .i64 Ma) ∧ w'.cell? ⟨b1, 2, none⟩ = some (.slice A1p mla.length x1p) ∧ w'.cell? ⟨b1, 3, none⟩ = some (.int .i64 (N2p : Int)) ∧ w'.cell? ⟨b1, 4, none⟩ = some (.slice R1p K2p y1p)) (by kernel_rfl) (by (try dsimp only); exact (vW _ hb0.out).out) (fun hHeld => ?_)
      revert hb0 hl0 hHeld
      generalize wv.drew = wq
      intro hl0 hb0 hHeld
      refine wpAnyH_take (i := 0) (oi := ⟨_, _, _, _, _, _⟩) (v := ?_) rfl (by kernel_rfl) (by kernel_rfl) (by kernel_rfl) (fun _ _ _ h => h) (Or.inl ⟨by rfl, ?_⟩) (by assumption) ?_
      rotate_left
      · intro w hSw; (try dsimp only at hSw); go_simp; try with_reducible rfl
      try simp only [Act.put, List.setIfInBounds_toArray, List.set_cons_zero, List.set_cons_succ]
      refine wpAnyH_take (i := 1) (oi := ⟨_, _, _, _, _, _⟩) (v := ?_) rfl (by kernel_rfl) (by kernel_rfl) (by kernel_rfl) (fun _ _ _ h => h) (Or.inl ⟨by rfl, ?_⟩) (by assumption) ?_
      rotate_left
      · intro w hSw; (try dsimp only at hSw); go_simp; try with_reducible rfl
      try simp only [Act.put, List.setIfInBounds_toArray, List.set_cons_zero, List.set_cons_succ]
      refine wpAnyH_take (i := 2) (oi := ⟨_, _, _, _, _, _⟩) (v := ?_) rfl (by kernel_rfl) (by kernel_rfl) (by kernel_rfl) (fun _ _ _ h => h) (Or.inl ⟨by rfl, ?_⟩) (by assumption) ?_
      rotate_left
      · intro w hSw; (try dsimp only at hSw); go_simp; try with_reducible rfl
      try simp only [Act.put, List.setIfInBounds_toArray, List.set_cons_zero, List.set_cons_succ]
      refine wpAnyH_take (i := 3) (oi := ⟨_, _, _, _, _, _⟩) (v := ?_) rfl (by kernel_rfl) (by kernel_rfl) (by kernel_rfl) (fun _ _ _ h => h) (Or.inl ⟨by rfl, ?_⟩) (by assumption) ?_
      rotate_left
      · intro w hSw; (try dsimp only at hSw); go_simp; try with_reducible rfl
      try simp only [Act.put, List.setIfInBounds_toArray, List.set_cons_zero, List.set_cons_succ]
      refine wpAnyH_take (i := 4) (oi := ⟨_, _, _, _, _, _⟩) (v := ?_) rfl (by kernel_rfl) (by kernel_rfl) (by kernel_rfl) (fun _ _ _ h => h) (Or.inl ⟨by rfl, ?_⟩) (by assumption) ?_
      rotate_left
      · intro w hSw; (try dsimp only at hSw); go_simp; try with_reducible rfl
      try simp only [Act.put, List.setIfInBounds_toArray, List.set_cons_zero, List.set_cons_succ]
      refine wpAnyH_take (i := 5) (oi := ⟨_, _, _, _, _, _⟩) (v := ?_) rfl (by kernel_rfl) (by kernel_rfl) (by kernel_rfl) (fun _ _ _ h => h) (Or.inl ⟨by rfl, ?_⟩) (by assumption) ?_
      rotate_left
      · intro w hSw; (try dsimp only at hSw); go_simp; try with_reducible rfl
      try simp only [Act.put, List.setIfInBounds_toArray, List.set_cons_zero, List.set_cons_succ]
      refine wpAnyH_ready (rs := [6]) (by kernel_rfl) (by simp) ?_
      refine AllReadyH.cons (o := ⟨_, _, _, _, _, _⟩) rfl (fun K hK => ?_) AllReadyH.nil
      go_simp
      go_at_call 18
      (with_reducible refine (hMk _ _ _ ((hrv.below hb0.out).more hl0) ((hrm9.below hb0.out).more hl0)).out.mono ?_)
      rintro e wq ⟨A6, x6, Al, cl, rfl, h61, h62, hb⟩
      replace hb0 := Lib.hid (hb0.out.trans (hb.mono hl0))
      replace hl0 := Nat.le_trans hl0 hb.size
      go_wp2_with (fail)
      refine hK.out _ _ (by (try dsimp only); exact (vW _ hb0.out).out) (fun hHeld => ?_)
      clear hK K
      try simp only [Act.put, List.setIfInBounds_toArray, List.set_cons_zero, List.set_cons_succ]
      refine wpAnyH_ready (rs := [7]) (by kernel_rfl) (by simp) ?_
      refine AllReadyH.cons (o := ⟨_, _, _, _, _, _⟩) rfl (fun K hK => ?_) AllReadyH.nil
      go_simp
      go_at_call 16
      (with_reducible refine (hSm Pa Ma N2p mla K2p t1 A1p A6 R1p Al x1p x6 y1p cl _ ((hpv.out.1.below hb0.out).more hl0) h61 hla ((hpv.out.2.below hb0.out).more hl0) h62 (by omega) hrl1.out).out.mono ?_)
      rintro e wq ⟨rfl, hb⟩
      replace hb0 := Lib.hid (hb0.out.trans (hb.mono hl0))
      replace hl0 := Nat.le_trans hl0 hb.size
      go_wp2_with (fail)
      refine hK.out _ _ (by (try dsimp only); exact (vW _ hb0.out).out) (fun hHeld => ?_)
      clear hK K
      try simp only [Act.put, List.setIfInBounds_toArray, List.set_cons_zero, List.set_cons_succ]
      refine wpAnyH_take (i := 8) (oi := ⟨_, _, _, _, _, _⟩) (v := ?_) rfl (by kernel_rfl) (by kernel_rfl) (by kernel_rfl) (fun _ _ _ h => h) (Or.inl ⟨by rfl, ?_⟩) (by assumption) ?_
      rotate_left
      · intro w hSw; (try dsimp only at hSw); go_simp; try with_reducible rfl
      try simp only [Act.put, List.setIfInBounds_toArray, List.set_cons_zero, List.set_cons_succ]
      refine wpAnyH_done (by kernel_rfl) ?_ _
      have hBx := hBv.trans (hb0.out.mono hBv.size)
      go_wp2_with (fail)
      go_ret
      exact ⟨rfl, hBx⟩
end Go.Proofs.Ytpflgmbcmfllgaa
