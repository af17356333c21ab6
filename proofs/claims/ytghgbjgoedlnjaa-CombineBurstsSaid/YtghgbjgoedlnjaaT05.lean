/- CombineBursts: the walk. -/
import Derived.Test.YtghgbjgoedlnjaaT00
import Derived.Test.YtghgbjgoedlnjaaDsE
namespace Go.Proofs.Ytghgbjgoedlnjaa
open Go.RowKit Cw
attribute [local go_sem] Oper.semAt_some

/-- Where the nonzero entries of the first t lie. -/
def Brs (u : Nat → Bool) (t : Nat) (p b : Int) : Prop :=
  (p = -1 ∧ b = -1 ∧ ∀ i, i < t → u i = false) ∨ (∃ x y : Nat, p = x ∧ b = y ∧ x ≤ y ∧ y < t ∧ u x = true ∧ ∀ i, i < t → u i = true → x ≤ i ∧ i ≤ y)
theorem Brs.zero (u : Nat → Bool) : Brs u 0 (-1) (-1) := .inl ⟨rfl, rfl, fun _ h => absurd h (Nat.not_lt_zero _)⟩
theorem Brs.skip {u : Nat → Bool} {t : Nat} {p b : Int} (h : Brs u t p b) (hu : u t = false) : Brs u (t + 1) p b := by
  rcases h with ⟨h1, h2, h3⟩ | ⟨x, y, h1, h2, h3, h4, h5, h6⟩
  · exact .inl ⟨h1, h2, fun i hi => by
      by_cases e : i = t
      · rw [e]; exact hu
      · exact h3 i (by omega)⟩
  · exact .inr ⟨x, y, h1, h2, h3, by omega, h5, fun i hi hh => by
      by_cases e : i = t
      · rw [e, hu] at hh; cases hh
      · exact h6 i (by omega) hh⟩
theorem Brs.first {u : Nat → Bool} {t : Nat} {p b : Int} (h : Brs u t p b) (hp : p < 0) (hu : u t = true) : Brs u (t + 1) t t := by
  rcases h with ⟨h1, h2, h3⟩ | ⟨x, y, h1, h2, h3, h4, h5, h6⟩
  · exact .inr ⟨t, t, rfl, rfl, Nat.le_refl _, by omega, hu, fun i hi hh => by
      by_cases e : i = t
      · omega
      · rw [h3 i (by omega)] at hh; cases hh⟩
  · omega
theorem Brs.next {u : Nat → Bool} {t : Nat} {p b : Int} (h : Brs u t p b) (hp : ¬ p < 0) (_hu : u t = true) : Brs u (t + 1) p t := by
  rcases h with ⟨h1, h2, h3⟩ | ⟨x, y, h1, h2, h3, h4, h5, h6⟩
  · omega
  · exact .inr ⟨x, t, h1, rfl, by omega, by omega, h5, fun i hi hh => by
      by_cases e : i = t
      · omega
      · have := h6 i (by omega) hh; omega⟩
theorem Brs.bd {u : Nat → Bool} {t : Nat} {p b : Int} (h : Brs u t p b) : -1 ≤ p ∧ p ≤ t ∧ -1 ≤ b ∧ b ≤ t := by
  rcases h with ⟨h1, h2, h3⟩ | ⟨x, y, h1, h2, h3, h4, h5, h6⟩ <;> omega

set_option maxRecDepth 100000 in
set_option maxHeartbeats 8000000 in
theorem burstsL (Pa Ma Na : Int) (mla : List Int) (na : Nat) (rowsa : Nat → List Int) (Aa Ra : Option Addr) (ca ka : Nat) (x : Int) (msg : List Int) (Am : Option Addr) (cm : Nat) (w : World) (hPa : I64 Pa) (hMa : I64 Ma) (_hNa : I64 Na) (hla : mla.length ≤ maxLen) (hna : na ≤ maxLen) (hra : Rd w w.heap.size Aa mla) (hma : RdM w w.heap.size Ra na rowsa) (hx : I64 x) (hcm : msg.length ≤ cm) (hlm : cm ≤ maxLen) (hrm : Rd w w.heap.size Am msg) :
    Calls Try.prog 4 #[.agg #[.int .i64 Pa, .int .i64 Ma, .slice Aa mla.length ca, .int .i64 Na, .slice Ra na ka], .int .i64 x, .slice Am msg.length cm] w (LawEnd w) := by
  obtain ⟨hx1, hx2⟩ := hx
  have hLa := rdm_len hma
  obtain ⟨Z, hZ⟩ : ∃ Z, Z = w.alloc (.cells #[.int .i64 Pa, .int .i64 Ma, .slice Aa mla.length ca, .int .i64 Na, .slice Ra na ka] 27) := ⟨_, rfl⟩
  have hB : Below w.heap.size w Z := by rw [hZ]; exact (Below.refl _ _).alloc (Nat.le_refl _) _
  obtain ⟨s, hs⟩ : ∃ s, s = w.heap.size := ⟨_, rfl⟩
  have hZe : Z.heap.size = s + 1 := by rw [hZ, hs]; simp
  have fa : Five Z s (.int .i64 Pa) (.int .i64 Ma) (.slice Aa mla.length ca) (.int .i64 Na) (.slice Ra na ka) := by rw [hZ, hs]; exact Five.new w _ _ _ _ _ 27
  have hb1 : Below Z.heap.size Z (Z.alloc (.cells #[.int .i64 Pa, .int .i64 Ma, .slice Aa mla.length ca, .int .i64 Na, .slice Ra na ka] 27)) := (Below.refl _ _).alloc (Nat.le_refl _) _
  have hB1 := hB.trans (hb1.mono hB.size)
  have hF0 := fun (W : World) (h : Below w.heap.size w W) X h1 h2 => few1_any Pa Ma Na mla na rowsa Aa Ra ca ka X W ((hma.below h).more h.size) ⟨hna, hLa⟩ h1 h2
  have hF := hF0 _ hB1 (s + 1) (by rw [World.size_alloc]; omega) (by rw [← hZe]; simp [go_sem])
  replace fa := Lib.hid fa
  by_cases hf : fewAll1 na rowsa = true
  rotate_left
  · rw [show fewAll1 na rowsa = false from by simpa using hf] at hF
    replace hF := Lib.hid hF
    replace hZe := Lib.hid hZe
    replace hZ := Lib.hid hZ
    replace hf := Lib.hid hf
    clear hLa hF0
    unfold LawEnd
    go_enter Try.func4, Try.ntmps4
    go_wp2_with (fail)
    rw [← hZ.out]
    simp only [← hs]
    replace hs := Lib.hid hs
    (with_reducible refine hF.out.mono ?_)
    rintro e w1 ⟨rfl, hb2⟩
    go_wp2_with (fail)
    go_ret
    exact ⟨rfl, hB1.trans (hb2.mono hB1.size)⟩
  rw [hf] at hF hF0
  have hfa : fewC na rowsa = true := by unfold fewAll1 at hf; exact hf
  obtain ⟨hna2, hka⟩ := fewC_le hfa
  obtain ⟨V, ⟨hV1, hV2⟩, hD, hVC⟩ := dist_any Pa Ma Na mla na rowsa Aa Ra ca ka 4096 hPa hMa hla hna2 hka ⟨by omega, by omega⟩
  replace hF := Lib.hid hF
  replace hD := fun W h => Lib.hid (hD W h)
  replace hZe := Lib.hid hZe
  replace hZ := Lib.hid hZ
  replace hf := Lib.hid hf
  replace hfa := Lib.hid hfa
  clear hLa
  by_cases hbad : V < 1 ∨ x < 1 ∨ 64 / Na < x
  · have hNz : 1 ≤ V → ¬ Na = 0 ∧ 1 ≤ Na ∧ Na ≤ 64 := fun h => by
      obtain ⟨F, m, M, va, -⟩ := hVC (by omega)
      have := va.hN; have := va.m1; have := va.m64
      omega
    clear hVC hka
    unfold LawEnd
    go_enter Try.func4, Try.ntmps4
    go_wp2_with (fail)
    rw [← hZ.out]
    simp only [← hs]
    (with_reducible refine hF.out.mono ?_)
    rintro e w1 ⟨rfl, hb2⟩
    have hbz := hb1.trans (hb2.mono hb1.size)
    have hBw := hB.trans (hbz.mono hB.size)
    have hs1 : s < w1.heap.size := by have := hbz.size; have := hZe.out; omega
    have fa1 := fa.out.keep hbz (by have := hZe.out; omega)
    have fa1H := Lib.hid fa1
    obtain ⟨a0, a1, a2, a3, a4, -⟩ := fa1
    have hD1 := hD w1 ⟨(hra.below hBw).more hBw.size, (hma.below hBw).more hBw.size⟩
    clear hF
    replace hs := Lib.hid hs
    go_wp2_with (fail)
    (with_reducible refine hD1.out.mono ?_)
    rintro e w2 ⟨rfl, hb3⟩
    have hBw2 := hBw.trans (hb3.mono hBw.size)
    clear a0 a1 a2 a3 a4
    have fa2 := fa1H.out.keep hb3 hs1
    have fa2H := Lib.hid fa2
    have hs2 : s < w2.heap.size := Nat.lt_of_lt_of_le hs1 hb3.size
    have hbA : Below w2.heap.size w2 (w2.alloc (.cells #[.int .i64 Pa, .int .i64 Ma, .slice Aa mla.length ca, .int .i64 Na, .slice Ra na ka] 27)) := (Below.refl _ _).alloc (Nat.le_refl _) _
    have hBA := hBw2.trans (hbA.mono hBw2.size)
    have hF2 := Lib.hid (hF0 _ hBA w2.heap.size (by simp) (by simp [go_sem]))
    obtain ⟨a0, a1, a2, a3, a4, -⟩ := fa2
    clear hF0 hD1 hD
    go_wp2_with (fail)
    (with_reducible refine hF2.out.mono ?_)
    rintro e w4 ⟨rfl, hb4⟩
    have hBf := hBA.trans (hb4.mono hBA.size)
    clear a0 a1 a2 a3 a4
    obtain ⟨a0, a1, a2, a3, a4, -⟩ := (fa2H.out.keep hbA hs2).keep hb4 (Nat.lt_of_lt_of_le hs2 hbA.size)
    by_cases hv : V < 1
    · have hvb : decide (V < 1) = true := decide_eq_true hv
      clear hbad hNz
      go_wp2_with (fail)
      go_ret
      exact ⟨rfl, hBf⟩
    · obtain ⟨hn0, hn1, hn2⟩ := hNz (by omega)
      have hvb : decide (V < 1) = false := decide_eq_false hv
      by_cases hx3 : x < 1
      · have hxb : decide (x < 1) = true := decide_eq_true hx3
        clear hbad hNz
        go_wp2_with (fail)
        go_ret
        exact ⟨rfl, hBf⟩
      · have hxb : decide (x < 1) = false := decide_eq_false hx3
        have hx4 : 64 / Na < x := by omega
        have hxc : decide (64 / Na < x) = true := decide_eq_true hx4
        clear hbad hNz
        go_wp2_with (fail)
        go_ret
        exact ⟨rfl, hBf⟩
  · have hv : ¬ V < 1 := by omega
    have hx3 : ¬ x < 1 := by omega
    have hx4 : ¬ 64 / Na < x := by omega
    clear hbad
    obtain ⟨F, m1, M1, va, -, -, hiff, hLA⟩ := hVC (by omega)
    obtain ⟨hLow, -⟩ := hLA (by omega)
    have hn1 : 1 ≤ na := hiff.1 (by omega)
    have hgood := va.good
    have h1 := va.m1; have h2 := va.m64; have h5 := va.le
    have eNa := va.hN
    obtain ⟨d, rfl⟩ : ∃ d : Nat, x = d := ⟨x.toNat, by omega⟩
    have hd : d ≤ 64 / m1 := by
      rw [eNa] at hx4
      have h4 : ((64 / m1 : Nat) : Int) = (64 : Int) / (m1 : Int) := Int.natCast_ediv 64 m1
      omega
    have hmd : m1 * d ≤ 64 := by rw [Nat.mul_comm]; exact (Nat.le_div_iff_mul_le (by omega)).1 hd
    have hnd : na * d ≤ m1 * d := Nat.mul_le_mul_right d h5
    obtain ⟨NN, hNN⟩ : ∃ NN, NN = m1 * d := ⟨_, rfl⟩
    obtain ⟨KK, hKK⟩ : ∃ KK, KK = na * d := ⟨_, rfl⟩
    have hN64 : NN ≤ 64 := by omega
    have hN1 : 1 ≤ NN := by rw [hNN]; exact Nat.mul_pos h1 (by omega)
    obtain ⟨p, hRR⟩ := canl_RR va.can
    have hind : Indep KK NN (ivP d M1) := by rw [hKK, hNN]; exact iv_indep (RR.indep hRR)
    have hrk : rkS F KK NN (ivP d M1) = KK := rk_full hind
    have eP := va.hP; have eM := va.hM; have eL := va.hl
    have hE0 : cErr Pa Ma Na mla na rowsa = 0 := by
      have hs0 : ShpOk Na na rowsa := ⟨by omega, by omega, by omega, fun i hi => by rw [va.hr i hi, rowsL_length, eNa]⟩
      exact cErr_ok (D := F.toDesc) (by rw [eP, eM, eL]; exact hgood) eP eM eL (by omega) hs0 (fun i hi => by rw [va.hr i hi]; exact elB_rowL _ _ _) ⟨F, m1, M1, eP, eM, eL, eNa, va.hr, va.can⟩
    have hI : ∀ W, Pre1 mla na rowsa Aa Ra W → Calls Try.prog 15 #[.agg #[.int .i64 Pa, .int .i64 Ma, .slice Aa mla.length ca, .int .i64 Na, .slice Ra na ka], .int .i64 (d : Int)] W (ResCode F KK NN (ivP d M1) W) := fun W h => by
      refine cInter_code Pa Ma Na mla na rowsa Aa Ra ca ka d W hPa hMa hla hna2 hka h.1 h.2 F m1 M1 va hE0 (by omega) NN hNN hN64 fun W2 Al cl g1 g2 => ?_
      clear hVC
      subst eP eM eL
      rw [Nat.mul_comm d na, ← hKK] at g2 ⊢
      exact gen_codeN F hgood _ NN _ Aa Al ca cl W2 g1 g2 (by omega) hN1 hN64
    unfold ResCode ResC at hI
    rw [hrk] at hI
    have hvr := vc_res F hgood KK NN (ivP d M1) hN1 hN64
    rw [hrk] at hvr
    have hOf := fun A Ar c cr W g1 g2 g3 => of_vc hvr msg A Ar Am c cr cm W g1 g2 g3 (Nat.le_trans hcm hlm)
    obtain ⟨u, hu⟩ : ∃ u, u = ofF KK (elS KK (ivP d M1) NN).1 msg := ⟨_, rfl⟩
    have hspan : Span (na * d) (m1 * d) (ivP d M1) u := by
      have h6 : Span KK NN (elS KK (ivP d M1) NN).1 u := by rw [hu]; exact ofF_span msg
      have h7 := elS_span KK NN (ivP d M1)
      have h8 : (elS KK (ivP d M1) NN).2.length = KK := hrk
      rw [h8] at h7
      rw [← hKK, ← hNN]
      exact h6.trans h7.1
    rw [← hu] at hOf
    have hbur : ∀ X Y : Nat, X < NN → u X ≠ 0 → (∀ i, i < NN → u i ≠ 0 → X ≤ i ∧ i ≤ Y) → d * (V.toNat - 1) < Y + 1 - X := fun X Y hX hne hab => iv_spread hspan (d := V.toNat) hLow (p := X) (a := X) (b := Y) (by omega) hne (by rw [← hNN]; exact hab)
    have hmul : IntKind.i64.wrap (Na * (d : Int)) = (NN : Int) := by
      rw [eNa, show ((m1 : Int) * (d : Int)) = (NN : Int) from by rw [hNN]; push_cast; rfl]
      exact IntWalk.i64_in _ (by omega)
    have hmul2 : IntKind.i64.wrap ((na : Int) * (d : Int)) = (KK : Int) := by
      rw [show ((na : Int) * (d : Int)) = (KK : Int) from by rw [hKK]; push_cast; rfl]
      exact IntWalk.i64_in _ (by omega)
    have hn0 : ¬ Na = 0 := by omega
    have hna1 : 1 ≤ Na := by omega
    have hna64 : Na ≤ 64 := by omega
    have hd64 : d ≤ 64 := by
      have : d ≤ m1 * d := Nat.le_mul_of_pos_left d (by omega)
      omega
    have hvb : decide (V < 1) = false := decide_eq_false hv
    have hxb : decide ((d : Int) < 1) = false := decide_eq_false hx3
    have hxc : decide (64 / Na < (d : Int)) = false := decide_eq_false hx4
    obtain ⟨T, hT⟩ : ∃ T : Nat, T = d * (V.toNat - 1) := ⟨_, rfl⟩
    have hT64 : T ≤ 64 * 64 := by rw [hT]; exact Nat.mul_le_mul hd64 (by omega)
    have hwT : IntKind.i64.wrap ((d : Int) * (V - 1)) = (T : Int) := by
      rw [show ((d : Int) * (V - 1)) = (T : Int) from by rw [hT]; push_cast; rw [show ((V.toNat - 1 : Nat) : Int) = V - 1 by omega]]
      exact IntWalk.i64_in _ (by omega)
    rw [← hT] at hbur
    have hlT : (modL F.toDesc).length ≤ maxLen := by rw [← eL]; exact hla
    obtain ⟨lst0, hl0⟩ : ∃ l, l = rowL F.toDesc NN u := ⟨_, rfl⟩
    have hl0l : Hid (lst0.length = NN) := by unfold Hid; rw [hl0, rowL_length]
    have hget : ∀ i, i < NN → Hid (lst0[i]?.getD 0 = ci (u i)) := fun i hi => by unfold Hid; rw [hl0, rowL_get _ _ hi]
    rw [← hl0] at hOf
    replace hOf := fun A Ar c cr W g1 g2 g3 => Lib.hid (hOf A Ar c cr W g1 g2 g3)
    replace hI := fun W h => Lib.hid (hI W h)
    obtain ⟨U, hU⟩ : ∃ U : Nat → Bool, U = fun i => decide (u i ≠ 0) := ⟨_, rfl⟩
    have hUt : ∀ i, U i = true ↔ u i ≠ 0 := fun i => by rw [hU]; exact decide_eq_true_iff
    have hbur2 : ∀ X Y : Nat, X < NN → U X = true → (∀ i, i < NN → U i = true → X ≤ i ∧ i ≤ Y) → Hid (T < Y + 1 - X) := fun X Y a b c => hbur X Y a ((hUt X).1 b) fun i hi hne => c i hi ((hUt i).2 hne)
    have hUz : ∀ i, i < NN → lst0[i]?.getD 0 = 0 → Hid (U i = false) := fun i hi h => by
      unfold Hid
      have h9 := (hget i hi).out
      rw [h] at h9
      have h10 : u i = 0 := by rw [← eli_ci (u i), ← h9, eli_zero]
      cases hc : U i with
      | false => rfl
      | true => exact absurd h10 ((hUt i).1 hc)
    have hUn : ∀ i, i < NN → ¬ lst0[i]?.getD 0 = 0 → Hid (U i = true) := fun i hi h => by
      refine (hUt i).2 fun h10 => h ?_
      rw [(hget i hi).out, h10, ci_zero]
    have eP2 := Lib.hid eP
    have eM2 := Lib.hid eM
    have eL2 := Lib.hid eL
    clear hVC hka hLow hLA hiff hRR hind hrk hvr hspan hbur hu hl0 hget hUt hU va eP eM eL hE0 hmd hnd hd hT hNN hKK eNa
    unfold LawEnd
    go_enter Try.func4, Try.ntmps4
    go_wp2_with (fail)
    rw [← hZ.out]
    simp only [← hs]
    (with_reducible refine hF.out.mono ?_)
    rintro e w1 ⟨rfl, hb2⟩
    have hbz := hb1.trans (hb2.mono hb1.size)
    have hBw := hB.trans (hbz.mono hB.size)
    have hs1 : s < w1.heap.size := by have := hbz.size; have := hZe.out; omega
    have fa1 := fa.out.keep hbz (by have := hZe.out; omega)
    have fa1H := Lib.hid fa1
    obtain ⟨a0, a1, a2, a3, a4, -⟩ := fa1
    have hD1 := hD w1 ⟨(hra.below hBw).more hBw.size, (hma.below hBw).more hBw.size⟩
    clear hF
    replace hs := Lib.hid hs
    go_wp2_with (fail)
    (with_reducible refine hD1.out.mono ?_)
    rintro e w2 ⟨rfl, hb3⟩
    have hBw2 := hBw.trans (hb3.mono hBw.size)
    clear a0 a1 a2 a3 a4
    have fa2 := fa1H.out.keep hb3 hs1
    have fa2H := Lib.hid fa2
    have hs2 : s < w2.heap.size := Nat.lt_of_lt_of_le hs1 hb3.size
    have hbA : Below w2.heap.size w2 (w2.alloc (.cells #[.int .i64 Pa, .int .i64 Ma, .slice Aa mla.length ca, .int .i64 Na, .slice Ra na ka] 27)) := (Below.refl _ _).alloc (Nat.le_refl _) _
    have hBA := hBw2.trans (hbA.mono hBw2.size)
    have hF2 := Lib.hid (hF0 _ hBA w2.heap.size (by simp) (by simp [go_sem]))
    obtain ⟨a0, a1, a2, a3, a4, -⟩ := fa2
    clear hF0 hD1 hD
    go_wp2_with (fail)
    (with_reducible refine hF2.out.mono ?_)
    rintro e w4 ⟨rfl, hb4⟩
    have hB4 := hBA.trans (hb4.mono hBA.size)
    clear a0 a1 a2 a3 a4
    have fa4 := (fa2H.out.keep hbA hs2).keep hb4 (Nat.lt_of_lt_of_le hs2 hbA.size)
    have fa4H := Lib.hid fa4
    have hs4 : s < w4.heap.size := Nat.lt_of_lt_of_le hs2 (Nat.le_trans hbA.size hb4.size)
    obtain ⟨a0, a1, a2, a3, a4, -⟩ := fa4
    have hI4 := hI w4 ⟨(hra.below hB4).more hB4.size, (hma.below hB4).more hB4.size⟩
    clear hF2 hI hbA hb4 hb3 hb2 hb1
    go_wp2_with (fail)
    (with_reducible refine hI4.out.mono ?_)
    rintro e w5 ⟨A5, x5, R5, y5, rfl, hr5, -, hu5, hb5⟩
    have hbB : Below w5.heap.size w5 (w5.alloc (.cells #[.int .i64 F.p, .int .i64 F.m, .slice A5 (modL F.toDesc).length x5, .int .i64 NN, .slice R5 KK y5] 27)) := (Below.refl _ _).alloc (Nat.le_refl _) _
    have hbc := hb5.trans (hbB.mono hb5.size)
    have hB5 := hB4.trans (hbc.mono hB4.size)
    clear a0 a1 a2 a3 a4
    obtain ⟨a0, a1, a2, a3, a4, -⟩ := fa4H.out.keep hbc hs4
    obtain ⟨c0, c1, c2, c3, c4, -⟩ := Five.new w5 (.int .i64 F.p) (.int .i64 F.m) (.slice A5 (modL F.toDesc).length x5) (.int .i64 NN) (.slice R5 KK y5) 27
    have hO5 := hOf A5 R5 x5 y5 (w5.alloc (.cells #[.int .i64 F.p, .int .i64 F.m, .slice A5 (modL F.toDesc).length x5, .int .i64 NN, .slice R5 KK y5] 27)) ((hr5.below hbB).more hbB.size) ((hu5.rdm.below hbB).more hbB.size) ((hrm.below hB5).more hB5.size)
    have hq1 : ((NN : Int) != (NN : Int)) = false := by simp
    have hq2 : ((KK : Int) != (KK : Int)) = false := by simp
    have hq3 : (NN != NN) = false := by simp
    have hq4 : (KK != KK) = false := by simp
    clear hI4 hOf hb5 hbB hbc hu5 hr5
    go_wp2_with (fail)
    (with_reducible refine hO5.out.mono ?_)
    rintro e w6 ⟨A6, c6, rfl, hr6, -, -, -, hb6⟩
    have hB6 := hB5.trans (hb6.mono hB5.size)
    clear a0 a1 a2 a3 a4 c0 c1 c2 c3 c4 hO5
    go_wp2_with (fail)
    go_loop [13, 11, 12] (fun iS pS bS => ∃ (t : Nat) (p b : Int), t ≤ NN ∧ iS = .int .i64 t ∧ pS = .int .i64 p ∧ bS = .int .i64 b ∧ Hid (Brs U t p b)) (fun iS _ _ => NN - (intOf iS).toNat)
    case atStart => exact ⟨0, -1, -1, by omega, rfl, rfl, rfl, Brs.zero _⟩
    case round =>
      obtain ⟨t, p, b, ht, rfl, rfl, rfl, hbr⟩ := hrel
      obtain ⟨hp1, hp2, hbb1, hbb2⟩ := hbr.out.bd
      by_cases hlt : t < NN
      · obtain ⟨br, or, rfl, -, hcr⟩ := hr6.at_ (by rw [hl0l.out]; exact hlt)
        by_cases hz : lst0[t]?.getD 0 = 0
        · have hzb : (lst0[t]?.getD 0 != 0) = false := by rw [bne_eq_false_iff_eq]; exact hz
          have hnx : Hid (Brs U (t + 1) p b) := hbr.out.skip (hUz t hlt hz).out
          generalize lst0[t]?.getD 0 = y at *
          clear hz
          go_wp2_with (fail)
          go_round
          case rel => exact ⟨t + 1, p, b, by omega, by go_num, rfl, rfl, hnx⟩
          case measure => simp [intOf]; omega
        · have hzb : (lst0[t]?.getD 0 != 0) = true := by rw [bne_iff_ne]; exact hz
          have hut := (hUn t hlt hz).out
          by_cases hp0 : p < 0
          · have hnx : Hid (Brs U (t + 1) t t) := hbr.out.first hp0 hut
            have hpb : decide (p < 0) = true := decide_eq_true hp0
            replace hut := Lib.hid hut
            generalize lst0[t]?.getD 0 = y at *
            clear hz
            go_wp2_with (fail)
            go_round
            case rel => exact ⟨t + 1, t, t, by omega, by go_num, rfl, rfl, hnx⟩
            case measure => simp [intOf]; omega
          · have hnx : Hid (Brs U (t + 1) p t) := hbr.out.next hp0 hut
            replace hut := Lib.hid hut
            generalize lst0[t]?.getD 0 = y at *
            clear hz
            go_wp2_with (fail)
            go_round
            case rel => exact ⟨t + 1, p, t, by omega, by go_num, rfl, rfl, hnx⟩
            case measure => simp [intOf]; omega
      · obtain rfl : NN = t := by omega
        rcases hbr.out with ⟨e1, e2, -⟩ | ⟨X, Y, e1, e2, e3, e4, e5, e6⟩
        · have hpb : decide (p < 0) = true := decide_eq_true (by omega)
          have hp0 : p < 0 := by omega
          replace e1 := Lib.hid e1
          replace e2 := Lib.hid e2
          go_wp2_with (fail)
          go_ret
          exact ⟨rfl, hB6⟩
        · have hfin := (hbur2 X Y (by omega) e5 e6).out
          have hp0 : ¬ p < 0 := by omega
          have hgt : (T : Int) < b - p + 1 := by omega
          have hp3 : 0 ≤ p := by omega
          have hb3 : 0 ≤ b := by omega
          clear e6 hbur2
          replace e1 := Lib.hid e1
          replace e2 := Lib.hid e2
          replace e5 := Lib.hid e5
          go_wp2_with (fail)
          go_ret
          exact ⟨rfl, hB6⟩
end Go.Proofs.Ytghgbjgoedlnjaa
