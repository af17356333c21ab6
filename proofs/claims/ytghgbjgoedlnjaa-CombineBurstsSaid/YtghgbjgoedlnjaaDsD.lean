/- The reference's Distance. -/
import Derived.Test.YtghgbjgoedlnjaaDsC
namespace Go.Proofs.Ytghgbjgoedlnjaa
open Go.RowKit Cw
attribute [local go_sem] Oper.semAt_some

theorem at_vc {P M N : Int} {ml : List Int} {n : Nat} {rows : Nat → List Int} {F : FD} {m : Nat} {B : Nat → Nat → R F.toDesc} (hv : VC P M N ml n rows F m B) (A Ar : Option Addr) (c cr v : Nat) (w : World) (hr : Rd w w.heap.size A ml) (hrm : RdM w w.heap.size Ar n rows) (hv6 : v ≤ 1000000) :
    Calls Try.prog 55 #[.agg #[.int .i64 P, .int .i64 M, .slice A ml.length c, .int .i64 N, .slice Ar n cr], .int .i64 v] w fun e w' => ∃ A2 c2, e = .returned (.slice A2 m c2) ∧ Rd w' w'.heap.size A2 (rowL F.toDesc m (atF n B v)) ∧ Below w.heap.size w w' := by
  have eP := hv.hP; have eM := hv.hM; have eL := hv.hl; have eN := hv.hN
  have h1 := hv.le; have h2 := hv.m64
  have hrm2 := hrm.congr hv.hr
  clear hv hrm
  subst eP eM eL eN
  rw [modL_length]
  refine (At12_any F.toDesc n m v B A Ar c cr w hr hrm2 (by omega) (by omega) hv6).mono ?_
  rintro e w' ⟨A2, c2, rfl, h3, -, -, -, h4⟩
  exact ⟨A2, c2, rfl, h3, h4⟩
theorem of_vc {P M N : Int} {ml : List Int} {n : Nat} {rows : Nat → List Int} {F : FD} {m : Nat} {B : Nat → Nat → R F.toDesc} (hv : VC P M N ml n rows F m B) (msg : List Int) (A Ar A1 : Option Addr) (c cr c1 : Nat) (w : World) (hr : Rd w w.heap.size A ml) (hrm : RdM w w.heap.size Ar n rows) (hr1 : Rd w w.heap.size A1 msg) (hl1 : msg.length ≤ maxLen) :
    Calls Try.prog 19 #[.agg #[.int .i64 P, .int .i64 M, .slice A ml.length c, .int .i64 N, .slice Ar n cr], .slice A1 msg.length c1] w fun e w' => ∃ A2 c2, e = .returned (.slice A2 m c2) ∧ Rd w' w'.heap.size A2 (rowL F.toDesc m (ofF n B msg)) ∧ (∀ a, A2 = some a → w.heap.size ≤ a.block) ∧ m ≤ c2 ∧ c2 ≤ maxLen ∧ Below w.heap.size w w' := by
  have eP := hv.hP; have eM := hv.hM; have eL := hv.hl; have eN := hv.hN
  have h1 := hv.le; have h2 := hv.m64
  have hrm2 := hrm.congr hv.hr
  clear hv hrm
  subst eP eM eL eN
  rw [modL_length]
  exact Of14_any F.toDesc n m B msg A Ar A1 c cr c1 w hr hrm2 hr1 hl1 (by omega) (by omega)

/-- The least of the values f 1 .. f k, 0 for none. -/
def dmin (f : Nat → Nat) : Nat → Nat
  | 0 => 0
  | k + 1 => if dmin f k = 0 ∨ f (k + 1) < dmin f k then f (k + 1) else dmin f k
theorem dmin_le {f : Nat → Nat} {B : Nat} (h : ∀ i, f i ≤ B) : ∀ k, dmin f k ≤ B
  | 0 => Nat.zero_le _
  | k + 1 => by
    show (if dmin f k = 0 ∨ f (k + 1) < dmin f k then f (k + 1) else dmin f k) ≤ B
    split
    · exact h _
    · exact dmin_le h k
/-- The weight of the word with the index i. -/
def wtAt {D : Desc} (n m : Nat) (M : Nat → Nat → R D) (i : Nat) : Nat := wtI (rowL D m (atF n M i))
theorem wtAt_le {D : Desc} (n m : Nat) (M : Nat → Nat → R D) (i : Nat) : wtAt n m M i ≤ m := by
  unfold wtAt wtI
  have := wtN_le (rowL D m (atF n M i)) (rowL D m (atF n M i)).length
  rw [rowL_length] at this ⊢
  exact this
/-- Distance's answer. -/
noncomputable def dsV (E : Int) (q n : Nat) (most : Int) (f : Nat → Nat) : Int := if cnV E q n most = 0 then -1 else (dmin f (q ^ n - 1) : Nat)
theorem cnV_pos {E : Int} {q n : Nat} {most : Int} (h : cnV E q n most ≠ 0) : E = 0 ∧ q ^ n ≤ 65536 ∧ ((q ^ n : Nat) : Int) ≤ most ∧ cnV E q n most = ((q ^ n : Nat) : Int) := by
  unfold cnV at h ⊢
  by_cases hc : E = 0 ∧ q ^ n ≤ 65536 ∧ ((q ^ n : Nat) : Int) ≤ most
  · rw [if_pos hc]; exact ⟨hc.1, hc.2.1, hc.2.2, rfl⟩
  · rw [if_neg hc] at h; exact absurd rfl h
set_option maxHeartbeats 1000000 in
theorem Dist_no (Pa Ma Na : Int) (mla : List Int) (na : Nat) (rowsa : Nat → List Int) (Aa Ra : Option Addr) (ca ka : Nat) (most : Int) (w : World) (hPa : I64 Pa) (hMa : I64 Ma) (hla : mla.length ≤ maxLen) (hna : na ≤ 64) (hka : ∀ i, i < na → (rowsa i).length ≤ 4200) (hra : Rd w w.heap.size Aa mla) (hma : RdM w w.heap.size Ra na rowsa) (hmo : I64 most) (h0 : cnV (cErr Pa Ma Na mla na rowsa) (qOf Pa Ma) na most = 0) :
    Calls Try.prog 18 #[.agg #[.int .i64 Pa, .int .i64 Ma, .slice Aa mla.length ca, .int .i64 Na, .slice Ra na ka], .int .i64 most] w fun e w' => e = .returned (.int .i64 (-1)) ∧ Below w.heap.size w w' := by
  obtain ⟨Z, hZ⟩ : ∃ Z, Z = w.alloc (.cells #[.int .i64 Pa, .int .i64 Ma, .slice Aa mla.length ca, .int .i64 Na, .slice Ra na ka] 27) := ⟨_, rfl⟩
  have hB : Below w.heap.size w Z := by rw [hZ]; exact (Below.refl _ _).alloc (Nat.le_refl _) _
  have hC := Count12_any Pa Ma Na mla na rowsa Aa Ra ca ka most Z hPa hMa hla hna hka ((hra.below hB).more hB.size) ((hma.below hB).more hB.size) hmo
  rw [h0] at hC
  replace hC := Lib.hid hC
  replace hZ := Lib.hid hZ
  replace h0 := Lib.hid h0
  clear hka
  go_enter Try.func18, Try.ntmps18
  go_wp2_with (fail)
  rw [← hZ.out]
  (with_reducible refine hC.out.mono ?_)
  rintro e w1 ⟨rfl, hb1⟩
  go_wp2_with (fail)
  go_ret
  exact ⟨rfl, hB.trans (hb1.mono hB.size)⟩
set_option maxHeartbeats 2000000 in
theorem Dist_ok (Pa Ma Na : Int) (mla : List Int) (na : Nat) (rowsa : Nat → List Int) (Aa Ra : Option Addr) (ca ka : Nat) (most : Int) (w : World) (hPa : I64 Pa) (hMa : I64 Ma) (hla : mla.length ≤ maxLen) (hna : na ≤ 64) (hka : ∀ i, i < na → (rowsa i).length ≤ 4200) (hra : Rd w w.heap.size Aa mla) (hma : RdM w w.heap.size Ra na rowsa) (hmo : I64 most) {F : FD} {m : Nat} {M1 : Nat → Nat → R F.toDesc} (va : VC Pa Ma Na mla na rowsa F m M1) (NN : Nat) (hNN : NN = F.q ^ na) (h0 : cnV (cErr Pa Ma Na mla na rowsa) (qOf Pa Ma) na most = (NN : Int)) (hN6 : NN ≤ 65536) :
    Calls Try.prog 18 #[.agg #[.int .i64 Pa, .int .i64 Ma, .slice Aa mla.length ca, .int .i64 Na, .slice Ra na ka], .int .i64 most] w fun e w' => e = .returned (.int .i64 (dmin (wtAt na m M1) (NN - 1) : Nat)) ∧ Below w.heap.size w w' := by
  have hm64 := va.m64
  obtain ⟨f, hf⟩ : ∃ f, f = wtAt na m M1 := ⟨_, rfl⟩
  have hfB : ∀ i, f i ≤ 64 := fun i => by rw [hf]; exact Nat.le_trans (wtAt_le na m M1 i) hm64
  have hdB := fun k => Lib.hid (dmin_le hfB k)
  replace hfB := fun i => Lib.hid (hfB i)
  have hNp : 1 ≤ NN := by rw [hNN]; exact Nat.pow_pos (by have := F.q2; omega)
  have hAt := fun v W g1 g2 h6 => Lib.hid (at_vc va Aa Ra ca ka v W g1 g2 h6)
  have hWt := fun v A c W g => Weight14_any (rowL F.toDesc m (atF na M1 v)) A c W g (by rw [rowL_length]; omega)
  simp only [rowL_length] at hWt
  have hWf : ∀ v, wtI (rowL F.toDesc m (atF na M1 v)) = f v := fun v => by rw [hf]; rfl
  simp only [hWf] at hWt
  replace hWt := fun v A c W g => Lib.hid (hWt v A c W g)
  rw [← hf]
  replace hf := Lib.hid hf
  replace hWf := fun v => Lib.hid (hWf v)
  obtain ⟨Z, hZ⟩ : ∃ Z, Z = w.alloc (.cells #[.int .i64 Pa, .int .i64 Ma, .slice Aa mla.length ca, .int .i64 Na, .slice Ra na ka] 27) := ⟨_, rfl⟩
  have hB : Below w.heap.size w Z := by rw [hZ]; exact (Below.refl _ _).alloc (Nat.le_refl _) _
  have hZs : w.heap.size < Z.heap.size := by rw [hZ]; simp
  have f5 := Five.new w (.int .i64 Pa) (.int .i64 Ma) (.slice Aa mla.length ca) (.int .i64 Na) (.slice Ra na ka) 27
  have f5H : Hid (Five Z w.heap.size (.int .i64 Pa) (.int .i64 Ma) (.slice Aa mla.length ca) (.int .i64 Na) (.slice Ra na ka)) := by rw [hZ]; exact f5
  have hC := Count12_any Pa Ma Na mla na rowsa Aa Ra ca ka most Z hPa hMa hla hna hka ((hra.below hB).more hB.size) ((hma.below hB).more hB.size) hmo
  rw [h0] at hC
  replace hC := Lib.hid hC
  replace hZ := Lib.hid hZ
  replace h0 := Lib.hid h0
  replace hNN := Lib.hid hNN
  have hNz : ((NN : Int) == 0) = false := by rw [beq_eq_false_iff_ne]; omega
  clear hka va f5
  go_enter Try.func18, Try.ntmps18
  go_wp2_with (fail)
  rw [← hZ.out]
  (with_reducible refine hC.out.mono ?_)
  rintro e w1 ⟨rfl, hb1⟩
  go_wp2_with (fail)
  go_loopw [7, 6, 8] (fun iS oS _ wr => ∃ t o : Nat, t < NN ∧ iS = .int .i64 ((t + 1 : Nat) : Int) ∧ oS = .int .i64 o ∧ Hid (o = dmin f t) ∧ Below Z.heap.size Z wr) (fun iS _ _ _ => NN - (intOf iS).toNat)
  case atStart => exact ⟨0, 0, by omega, rfl, rfl, by unfold Hid; rfl, hb1⟩
  case round =>
    obtain ⟨t, o, ht, rfl, rfl, ho, hbw⟩ := hrel
    obtain ⟨w3, rfl⟩ : ∃ w3 : World, w3 = wr := ⟨_, rfl⟩
    have hB3 := hB.trans (hbw.mono hB.size)
    have ho64 : o ≤ 64 := by rw [ho.out]; exact (hdB t).out
    by_cases hlt : t + 1 < NN
    · have hk1 : ((t + 1 : Nat) : Int) < (NN : Int) := by omega
      obtain ⟨a0, a1, a2, a3, a4, -⟩ := f5H.out.keep hbw hZs
      have hA3 := hAt (t + 1) w3 ((hra.below hB3).more hB3.size) ((hma.below hB3).more hB3.size) (by omega)
      generalize hv9 : ((t + 1 : Nat) : Int) = v9 at *
      go_wp2_with (fail)
      (with_reducible refine hA3.out.mono ?_)
      rintro e w4 ⟨A2, c2, rfl, hr4, hb4⟩
      have hW4 := (hWt (t + 1) A2 c2 w4 hr4).out
      have hfx := (hfB (t + 1)).out
      obtain ⟨x, hx⟩ : ∃ x, x = f (t + 1) := ⟨_, rfl⟩
      rw [← hx] at hW4 hfx
      replace hW4 := Lib.hid hW4
      have hbF := Lib.hid (hbw.trans (hb4.mono hbw.size))
      have hv10 : v9 ≤ 65536 := by omega
      have hv11 : 0 ≤ v9 := by omega
      have hnext : Hid (v9 + 1 = ((t + 1 + 1 : Nat) : Int)) := by unfold Hid; omega
      have hst : Hid (dmin f (t + 1) = if o = 0 ∨ x < o then x else o) := by unfold Hid; rw [ho.out, hx]; rfl
      replace hx := Lib.hid hx
      clear hA3 hr4
      by_cases ho0 : o = 0
      · have hob : ((o : Int) == 0) = true := by rw [beq_iff_eq]; omega
        have hn2 : Hid (x = dmin f (t + 1)) := by unfold Hid; rw [hst.out, if_pos (.inl ho0)]
        replace ho0 := Lib.hid ho0
        replace hv9 := Lib.hid hv9
        go_wp2_with (fail)
        (with_reducible refine hW4.out.mono ?_)
        rintro e w5 ⟨rfl, rfl⟩
        go_wp2_with (fail)
        go_roundw
        case rel => exact ⟨t + 1, x, hlt, by rw [← hnext.out], rfl, hn2, hbF.out⟩
        case measure => simp [intOf]; have := hv9.out; omega
      · have hob : ((o : Int) == 0) = false := by rw [beq_eq_false_iff_ne]; omega
        by_cases hxo : x < o
        · have hxo2 : (x : Int) < (o : Int) := by omega
          have hn2 : Hid (x = dmin f (t + 1)) := by unfold Hid; rw [hst.out, if_pos (.inr hxo)]
          replace hv9 := Lib.hid hv9
          go_wp2_with (fail)
          (with_reducible refine hW4.out.mono ?_)
          rintro e w5 ⟨rfl, rfl⟩
          go_wp2_with (fail)
          go_roundw
          case rel => exact ⟨t + 1, x, hlt, by rw [← hnext.out], rfl, hn2, hbF.out⟩
          case measure => simp [intOf]; have := hv9.out; omega
        · have hxo2 : ¬ (x : Int) < (o : Int) := by omega
          have hn2 : Hid (o = dmin f (t + 1)) := by unfold Hid; rw [hst.out, if_neg (by omega)]
          replace hv9 := Lib.hid hv9
          go_wp2_with (fail)
          (with_reducible refine hW4.out.mono ?_)
          rintro e w5 ⟨rfl, rfl⟩
          go_wp2_with (fail)
          go_roundw
          case rel => exact ⟨t + 1, o, hlt, by rw [← hnext.out], rfl, hn2, hbF.out⟩
          case measure => simp [intOf]; have := hv9.out; omega
    · have hk1 : ¬ ((t + 1 : Nat) : Int) < (NN : Int) := by omega
      have hfin : Hid ((o : Int) = ((dmin f (NN - 1) : Nat) : Int)) := by unfold Hid; rw [ho.out, show NN - 1 = t by omega]
      generalize hv9 : ((t + 1 : Nat) : Int) = v9 at *
      replace hv9 := Lib.hid hv9
      go_wp2_with (fail)
      go_ret
      exact ⟨by rw [← hfin.out]; rfl, hB3⟩
end Go.Proofs.Ytghgbjgoedlnjaa
