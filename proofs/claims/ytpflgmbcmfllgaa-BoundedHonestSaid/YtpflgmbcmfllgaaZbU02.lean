/- BoundedHonest: the walk. -/
import Derived.Test.YtpflgmbcmfllgaaZbB39B
namespace Go.Proofs.Ytpflgmbcmfllgaa
open Go.RowKit Cw
attribute [local go_sem] Oper.semAt_some

set_option maxRecDepth 100000 in
set_option maxHeartbeats 4000000 in
theorem honestL_bad (P M K : Int) (ml pts mul : List Int) (A A1 A2 : Option Addr) (c c1 c2 : Nat) (wl er : List Int) (Aw Ae : Option Addr) (cw ce : Nat) (w : World) (hP : I64 P) (hM : I64 M) (hl : ml.length ≤ maxLen) (hr : Rd w w.heap.size A ml) (hb : ¬ Good P M ml) :
    Calls Try.prog 6 #[.agg #[.int .i64 P, .int .i64 M, .slice A ml.length c, .int .i64 K, .slice A1 pts.length c1, .slice A2 mul.length c2], .agg #[.slice Aw wl.length cw, .slice Ae er.length ce]] w (LawEnd w) := by
  have hAl := fun W => Lib.hid (alive39_any W)
  have hFw := fun W => Lib.hid (few39_any pts.length er.length A1 Ae c1 ce W)
  have hG := fun W h => Lib.hid (gGRS_bad P M K ml pts mul A A1 A2 c c1 c2 wl er Aw Ae cw ce W hP hM hl h hb)
  have hC := fun W h => Lib.hid (Chk18_bad P M K ml pts mul A A1 A2 c c1 c2 W hP hM hl h hb)
  obtain ⟨s, hs⟩ : ∃ s, s = w.heap.size := ⟨_, rfl⟩
  obtain ⟨Z, hZ⟩ : ∃ Z, Z = ((w.alloc (.cells #[.int .i64 P, .int .i64 M, .slice A ml.length c, .int .i64 K, .slice A1 pts.length c1, .slice A2 mul.length c2] 49)).alloc (.cells #[.slice Aw wl.length cw, .slice Ae er.length ce] 51)) := ⟨_, rfl⟩
  have hB : Below w.heap.size w Z := by rw [hZ]; exact ((Below.refl _ _).alloc (Nat.le_refl _) _).alloc (by simp) _
  have k0 : Hid (Box8 Z s (.int .i64 P) (.int .i64 M) (.slice A ml.length c) (.int .i64 K) (.slice A1 pts.length c1) (.slice A2 mul.length c2) (.slice Aw wl.length cw) (.slice Ae er.length ce)) := by rw [hZ, hs]; exact Box8.new w _ _ _ _ _ _ _ _ _ _
  have hZs : s + 1 < Z.heap.size := by rw [hZ, hs]; simp
  replace hZ := Lib.hid hZ
  clear hP hM hl hb
  unfold LawEnd
  go_enter Try.func6, Try.ntmps6
  go_wp2_with (fail)
  rw [← hZ.out]
  simp only [← hs]
  replace hs := Lib.hid hs
  go_wp2_with (fail)
  (with_reducible refine (hAl _).out.mono ?_)
  rintro e w1 ⟨rfl, hb1⟩
  have hB1 := hB.trans (hb1.mono hB.size)
  have hs1 := Nat.lt_of_lt_of_le hZs hb1.size
  have k1 := Lib.hid (k0.out.keep hb1 hZs)
  obtain ⟨⟨q0, q1, q2, q3, q4, q5⟩, p0, p1⟩ := k1.out
  go_wp2_with (fail)
  (with_reducible refine (hFw _).out.mono ?_)
  rintro e w2 ⟨rfl, rfl⟩
  cases hfw : fewB pts.length er.length with
  | false =>
    go_wp2_with (fail)
    go_ret
    exact ⟨rfl, hB1⟩
  | true =>
    have hG1 := hG w1 ((hr.below hB1).more hB1.size)
    clear hfw
    go_wp2_with (fail)
    (with_reducible refine hG1.out.mono ?_)
    rintro e w3 ⟨rfl, hb3⟩
    have hB3 := hB1.trans (hb3.mono hB1.size)
    have hs3 := Nat.lt_of_lt_of_le hs1 hb3.size
    obtain ⟨Y, hY⟩ : ∃ Y, Y = w3.alloc (.cells #[.slice none 0 0, .slice none 0 0] 54) := ⟨_, rfl⟩
    have hbY : Below w3.heap.size w3 Y := by rw [hY]; exact (Below.refl _ _).alloc (Nat.le_refl _) _
    have hBY := hB3.trans (hbY.mono hB3.size)
    have kY := Lib.hid ((k1.out.keep hb3 hs1).keep hbY hs3)
    obtain ⟨bd, hbd⟩ : ∃ bd, bd = w3.heap.size := ⟨_, rfl⟩
    have dY := Lib.hid (show Duo Y bd (.slice none 0 0) (.slice none 0 0) from by rw [hY, hbd]; exact Duo.new w3 _ _ _)
    have hsY : s + 1 < Y.heap.size := Nat.lt_of_lt_of_le hs3 hbY.size
    have hbdY : bd < Y.heap.size := by rw [hY, hbd]; simp
    clear q0 q1 q2 q3 q4 q5 p0 p1
    have hC1 := hC Y ((hr.below hBY).more hBY.size)
    obtain ⟨⟨q0, q1, q2, q3, q4, q5⟩, p0, p1⟩ := hY ▸ kY.out
    replace hY := Lib.hid hY
    go_wp2_with (fail)
    rw [← hY.out]
    simp only [← hbd]
    replace hbd := Lib.hid hbd
    (with_reducible refine hC1.out.mono ?_)
    rintro e w4 ⟨rfl, hb4⟩
    obtain ⟨a0, a1, -, -⟩ := dY.out.keep hb4 hbdY
    clear q0 q1 q2 q3 q4 q5 p0 p1
    go_wp2_with (fail)
    go_ret
    exact ⟨rfl, hBY.trans (hb4.mono hBY.size)⟩

theorem fewB_true {n m : Nat} (h : fewB n m = true) : n ≤ 20 ∧ m ≤ 30 := by
  unfold fewB at h
  simpa using h
theorem decErr_zero {D : Desc} {K : Int} {pts mul wl er : List Int} (h : decErr D K pts mul wl er = 0) : gchkD D K pts mul = 0 ∧ recErr D wl pts.length er = 0 := by
  by_cases h1 : gchkD D K pts mul = 0
  · exact ⟨h1, (if_neg (fun e => e h1) : decErr D K pts mul wl er = _).symm.trans h⟩
  · exact absurd ((if_pos h1 : decErr D K pts mul wl er = _).symm.trans h) h1

theorem box10 {w w1 : World} {s bd B : Nat} {v0 v1 v2 v3 v4 v5 u0 u1 y0 y1 : Value} (h : Box8 w s v0 v1 v2 v3 v4 v5 u0 u1 ∧ w.cell? ⟨bd, 0, none⟩ = some y0 ∧ w.cell? ⟨bd, 1, none⟩ = some y1) (hb : Below B w w1) (hlt : s + 1 < B) (hbd : bd < B) : Box8 w1 s v0 v1 v2 v3 v4 v5 u0 u1 ∧ w1.cell? ⟨bd, 0, none⟩ = some y0 ∧ w1.cell? ⟨bd, 1, none⟩ = some y1 :=
  ⟨h.1.keep hb hlt, ((bcell hb).1 bd 0 hbd).trans h.2.1, ((bcell hb).1 bd 1 hbd).trans h.2.2⟩
set_option maxRecDepth 100000 in
set_option maxHeartbeats 16000000 in
theorem honestL_good (F : FD) (K : Int) (pts mul : List Int) (A A1 A2 : Option Addr) (c c1 c2 : Nat) (wl er : List Int) (Aw Ae : Option Addr) (cw ce : Nat) (w : World) (hr : Rd w w.heap.size A (modL F.toDesc)) (hb : Good F.p F.m (modL F.toDesc)) (h1 : pts.length ≤ c1 ∧ c1 ≤ maxLen) (h2 : mul.length ≤ c2 ∧ c2 ≤ maxLen) (hr1 : Rd w w.heap.size A1 pts) (hr2 : Rd w w.heap.size A2 mul) (hwl : wl.length ≤ maxLen) (hrw : Rd w w.heap.size Aw wl) (hre : Rd w w.heap.size Ae er) :
    Calls Try.prog 6 #[.agg #[.int .i64 F.p, .int .i64 F.m, .slice A F.mod.length c, .int .i64 K, .slice A1 pts.length c1, .slice A2 mul.length c2], .agg #[.slice Aw wl.length cw, .slice Ae er.length ce]] w (LawEnd w) := by
  have hAl := fun W => Lib.hid (alive39_any W)
  have hFw := fun W => Lib.hid (few39_any pts.length er.length A1 Ae c1 ce W)
  have hG := fun W a b d e f g => Lib.hid (gGRS_D F.toDesc K pts mul A A1 A2 c c1 c2 wl er Aw Ae cw ce W a hb b d h1.1 h1.2 (Nat.le_trans h2.1 h2.2) e f hwl g)
  have hC := fun W a b d => Lib.hid (Chk18_D F.toDesc K pts mul A A1 A2 c c1 c2 W a hb b d (Nat.le_trans h2.1 h2.2))
  have hRv := fun W a b d => Lib.hid (Received39_any F.toDesc wl er pts.length A Aw Ae c cw ce W a b hwl d)
  obtain ⟨s, hs⟩ : ∃ s, s = w.heap.size := ⟨_, rfl⟩
  obtain ⟨Z, hZ⟩ : ∃ Z, Z = ((w.alloc (.cells #[.int .i64 F.p, .int .i64 F.m, .slice A F.mod.length c, .int .i64 K, .slice A1 pts.length c1, .slice A2 mul.length c2] 49)).alloc (.cells #[.slice Aw wl.length cw, .slice Ae er.length ce] 51)) := ⟨_, rfl⟩
  have hB : Below w.heap.size w Z := by rw [hZ]; exact ((Below.refl _ _).alloc (Nat.le_refl _) _).alloc (by simp) _
  have k0 : Hid (Box8 Z s (.int .i64 F.p) (.int .i64 F.m) (.slice A F.mod.length c) (.int .i64 K) (.slice A1 pts.length c1) (.slice A2 mul.length c2) (.slice Aw wl.length cw) (.slice Ae er.length ce)) := by rw [hZ, hs]; exact Box8.new w _ _ _ _ _ _ _ _ _ _
  have hZs : s + 1 < Z.heap.size := by rw [hZ, hs]; simp
  replace hZ := Lib.hid hZ
  replace h1 := Lib.hid h1
  replace h2 := Lib.hid h2
  replace hb := Lib.hid hb
  unfold LawEnd
  go_enter Try.func6, Try.ntmps6
  go_wp2_with (fail)
  rw [← hZ.out]
  simp only [← hs]
  replace hs := Lib.hid hs
  go_wp2_with (fail)
  (with_reducible refine (hAl _).out.mono ?_)
  rintro e w1 ⟨rfl, hb1⟩
  have hB1 := hB.trans (hb1.mono hB.size)
  have hs1 := Nat.lt_of_lt_of_le hZs hb1.size
  have k1 := Lib.hid (k0.out.keep hb1 hZs)
  obtain ⟨⟨q0, q1, q2, q3, q4, q5⟩, p0, p1⟩ := k1.out
  go_wp2_with (fail)
  (with_reducible refine (hFw _).out.mono ?_)
  rintro e w2 ⟨rfl, rfl⟩
  cases hfw : fewB pts.length er.length with
  | false =>
    go_wp2_with (fail)
    go_ret
    exact ⟨rfl, hB1⟩
  | true =>
    obtain ⟨hf1, hf2⟩ := fewB_true hfw
    have hG1 := hG w1 ((hr.below hB1).more hB1.size) ((hr1.below hB1).more hB1.size) ((hr2.below hB1).more hB1.size) ((hrw.below hB1).more hB1.size) ((hre.below hB1).more hB1.size) (by omega)
    have hCr := fun W a b d => hC W a b d
    clear hfw hG
    go_wp2_with (fail)
    (with_reducible refine hG1.out.mono ?_)
    rintro e w3 ⟨hb3, ⟨hne, rfl⟩ | ⟨h0, hno, rfl⟩ | ⟨h0, msg, Ac, cc, Ax, cx, hdec, rfl, hrc, hrx⟩⟩
    · have hB3 := hB1.trans (hb3.mono hB1.size)
      have hs3 := Nat.lt_of_lt_of_le hs1 hb3.size
      obtain ⟨E, hE⟩ : ∃ E, E = decErr F.toDesc K pts mul wl er := ⟨_, rfl⟩
      rw [← hE] at hne ⊢
      obtain ⟨Y, hY⟩ : ∃ Y, Y = w3.alloc (.cells #[.slice none 0 0, .slice none 0 0] 54) := ⟨_, rfl⟩
      have hbY : Below w3.heap.size w3 Y := by rw [hY]; exact (Below.refl _ _).alloc (Nat.le_refl _) _
      have hBY := hB3.trans (hbY.mono hB3.size)
      have kY := Lib.hid ((k1.out.keep hb3 hs1).keep hbY hs3)
      obtain ⟨bd, hbd⟩ : ∃ bd, bd = w3.heap.size := ⟨_, rfl⟩
      have dY := Lib.hid (show Duo Y bd (.slice none 0 0) (.slice none 0 0) from by rw [hY, hbd]; exact Duo.new w3 _ _ _)
      have hsY : s + 1 < Y.heap.size := Nat.lt_of_lt_of_le hs3 hbY.size
      have hbdY : bd < Y.heap.size := by rw [hY, hbd]; simp
      clear q0 q1 q2 q3 q4 q5 p0 p1
      have hC1 := hC Y ((hr.below hBY).more hBY.size) ((hr1.below hBY).more hBY.size) ((hr2.below hBY).more hBY.size)
      obtain ⟨⟨q0, q1, q2, q3, q4, q5⟩, p0, p1⟩ := hY ▸ kY.out
      replace hY := Lib.hid hY
      have hEb : (E != 0) = true := by rw [bne_iff_ne]; exact hne
      replace hE := Lib.hid hE
      replace hne := Lib.hid hne
      go_wp2_with (fail)
      rw [← hY.out]
      simp only [← hbd]
      replace hbd := Lib.hid hbd
      (with_reducible refine hC1.out.mono ?_)
      rintro e w4 ⟨rfl, hb4⟩
      have hB4 := hBY.trans (hb4.mono hBY.size)
      have k4 := Lib.hid (kY.out.keep hb4 hsY)
      have d4 := Lib.hid (dY.out.keep hb4 hbdY)
      have hs4 := Nat.lt_of_lt_of_le hsY hb4.size
      have hbd4 := Nat.lt_of_lt_of_le hbdY hb4.size
      clear q0 q1 q2 q3 q4 q5 p0 p1
      by_cases hz : gchkD F.toDesc K pts mul = 0
      · have hEr : Hid (recErr F.toDesc wl pts.length er = E) := by unfold Hid; rw [hE.out]; exact (if_neg (fun h => h hz)).symm
        rw [hz]
        have hR4 := hRv w4 ((hrw.below hB4).more hB4.size) ((hre.below hB4).more hB4.size) (by omega)
        rw [hEr.out] at hR4
        clear hz hEr
        obtain ⟨⟨q0, q1, q2, q3, q4, q5⟩, p0, p1⟩ := k4.out
        go_wp2_with (fail)
        (with_reducible refine hR4.out.mono ?_)
        rintro e w5 ⟨rfl, hb5⟩
        obtain ⟨a0, a1, -, -⟩ := d4.out.keep hb5 hbd4
        clear q0 q1 q2 q3 q4 q5 p0 p1
        go_wp2_with (fail)
        go_ret
        exact ⟨by simp, hB4.trans (hb5.mono hB4.size)⟩
      · have hEr : Hid (gchkD F.toDesc K pts mul = E) := by unfold Hid; rw [hE.out]; exact (if_pos hz).symm
        rw [hEr.out]
        have hE0 : (E == 0) = false := by rw [beq_eq_false_iff_ne]; exact hne.out
        clear hz hEr
        obtain ⟨a0, a1, -, -⟩ := d4.out
        go_wp2_with (fail)
        go_ret
        exact ⟨by simp, hB4⟩
    · have hB3 := hB1.trans (hb3.mono hB1.size)
      have hs3 := Nat.lt_of_lt_of_le hs1 hb3.size
      obtain ⟨hz, hzr⟩ := decErr_zero h0
      obtain ⟨Y, hY⟩ : ∃ Y, Y = w3.alloc (.cells #[.slice none 0 0, .slice none 0 0] 54) := ⟨_, rfl⟩
      have hbY : Below w3.heap.size w3 Y := by rw [hY]; exact (Below.refl _ _).alloc (Nat.le_refl _) _
      have hBY := hB3.trans (hbY.mono hB3.size)
      have kY := Lib.hid ((k1.out.keep hb3 hs1).keep hbY hs3)
      obtain ⟨bd, hbd⟩ : ∃ bd, bd = w3.heap.size := ⟨_, rfl⟩
      have dY := Lib.hid (show Duo Y bd (.slice none 0 0) (.slice none 0 0) from by rw [hY, hbd]; exact Duo.new w3 _ _ _)
      have hsY : s + 1 < Y.heap.size := Nat.lt_of_lt_of_le hs3 hbY.size
      have hbdY : bd < Y.heap.size := by rw [hY, hbd]; simp
      clear q0 q1 q2 q3 q4 q5 p0 p1
      have hC1 := hC Y ((hr.below hBY).more hBY.size) ((hr1.below hBY).more hBY.size) ((hr2.below hBY).more hBY.size)
      rw [hz] at hC1
      obtain ⟨⟨q0, q1, q2, q3, q4, q5⟩, p0, p1⟩ := hY ▸ kY.out
      replace hY := Lib.hid hY
      replace h0 := Lib.hid h0
      replace hz := Lib.hid hz
      go_wp2_with (fail)
      rw [← hY.out]
      simp only [← hbd]
      replace hbd := Lib.hid hbd
      (with_reducible refine hC1.out.mono ?_)
      rintro e w4 ⟨rfl, hb4⟩
      have hB4 := hBY.trans (hb4.mono hBY.size)
      have k4 := Lib.hid (kY.out.keep hb4 hsY)
      have d4 := Lib.hid (dY.out.keep hb4 hbdY)
      have hs4 := Nat.lt_of_lt_of_le hsY hb4.size
      have hbd4 := Nat.lt_of_lt_of_le hbdY hb4.size
      clear q0 q1 q2 q3 q4 q5 p0 p1
      have hR4 := hRv w4 ((hrw.below hB4).more hB4.size) ((hre.below hB4).more hB4.size) (by omega)
      rw [hzr] at hR4
      replace hzr := Lib.hid hzr
      obtain ⟨⟨q0, q1, q2, q3, q4, q5⟩, p0, p1⟩ := k4.out
      go_wp2_with (fail)
      (with_reducible refine hR4.out.mono ?_)
      rintro e w5 ⟨rfl, hb5⟩
      obtain ⟨a0, a1, -, -⟩ := d4.out.keep hb5 hbd4
      clear q0 q1 q2 q3 q4 q5 p0 p1
      go_wp2_with (fail)
      go_ret
      exact ⟨by simp, hB4.trans (hb5.mono hB4.size)⟩
    · have hB3 := hB1.trans (hb3.mono hB1.size)
      have hs3 := Nat.lt_of_lt_of_le hs1 hb3.size
      obtain ⟨hz, hzr⟩ := decErr_zero h0
      obtain ⟨hp1, hp64, hlen, -, -, -, -, hK0, hKn⟩ := gchkD_zero hz
      obtain ⟨hwn, helw, hrg, hnd⟩ := recErr_zero hzr
      obtain ⟨kn, rfl⟩ : ∃ kn : Nat, K = kn := ⟨K.toNat, by omega⟩
      rw [Int.toNat_natCast] at hdec
      have hw1 : IntKind.i64.wrap ((pts.length : Int) - (kn : Int)) = (pts.length : Int) - (kn : Int) := IntWalk.i64_in _ (by omega)
      have hw2 : IntKind.i64.wrap ((pts.length : Int) - (kn : Int) + 1) = (pts.length : Int) - (kn : Int) + 1 := IntWalk.i64_in _ (by omega)
      have hRd := fun W => Radius39_any ((pts.length : Int) - (kn : Int) + 1) (er.length : Int) W (by unfold I64; omega) (by unfold I64; omega)
      have hle : ((errL (wordL F.toDesc pts mul msg) wl er pts.length).length : Int) ≤ radI ((pts.length : Int) - (kn : Int) + 1) (er.length : Int) := by
        have h3 := hdec.2.2
        rw [radI_yes (by omega) (by omega) (by omega)]
        omega
      have hRt := fun W a b d e => right39_ok pts.length (wordL F.toDesc pts mul msg) wl er (radI ((pts.length : Int) - (kn : Int) + 1) (er.length : Int)) hp64 (wordL_length _ _ _ _) hwn (by omega) hle Ac Ax Aw Ae cc cx cw ce W a b d e
      have hEl := fun W a => Elems18_any F.toDesc (wordL F.toDesc pts mul msg) pts.length 4 A Ac c cc W a (by rw [wordL_length]; unfold maxLen; omega)
      rw [elErr_ok (wordL_length _ _ _ _) (wordL_elB _ _ _ _), wordL_length] at hEl
      have hHs := fun W a b d e => has39 F hb.out kn pts mul msg hdec.1 hdec.2.1 A A1 A2 Ac c c1 c2 cc W hz a b d e
      obtain ⟨rd, hrd⟩ : ∃ rd, rd = radI ((pts.length : Int) - (kn : Int) + 1) (er.length : Int) := ⟨_, rfl⟩
      rw [← hrd] at hRd hRt
      replace hrd := Lib.hid hrd
      replace hlen := Lib.hid hlen
      replace hwn := Lib.hid hwn
      replace hRd := fun W => Lib.hid (hRd W)
      replace hRt := fun W a b d e => Lib.hid (hRt W a b d e)
      replace hEl := fun W a => Lib.hid (hEl W a)
      replace hHs := fun W a b d e => Lib.hid (hHs W a b d e)
      clear hle helw hrg hnd
      obtain ⟨Y, hY⟩ : ∃ Y, Y = w3.alloc (.cells #[.slice Ac pts.length cc, .slice Ax (errL (wordL F.toDesc pts mul msg) wl er pts.length).length cx] 54) := ⟨_, rfl⟩
      have hbY : Below w3.heap.size w3 Y := by rw [hY]; exact (Below.refl _ _).alloc (Nat.le_refl _) _
      have hBY := hB3.trans (hbY.mono hB3.size)
      have kY := Lib.hid ((k1.out.keep hb3 hs1).keep hbY hs3)
      obtain ⟨bd, hbd⟩ : ∃ bd, bd = w3.heap.size := ⟨_, rfl⟩
      have dY := Lib.hid (show Duo Y bd (.slice Ac pts.length cc) (.slice Ax (errL (wordL F.toDesc pts mul msg) wl er pts.length).length cx) from by rw [hY, hbd]; exact Duo.new w3 _ _ _)
      have hsY : s + 1 < Y.heap.size := Nat.lt_of_lt_of_le hs3 hbY.size
      have hbdY : bd < Y.heap.size := by rw [hY, hbd]; simp
      clear q0 q1 q2 q3 q4 q5 p0 p1
      have hC1 := hC Y ((hr.below hBY).more hBY.size) ((hr1.below hBY).more hBY.size) ((hr2.below hBY).more hBY.size)
      rw [hz] at hC1
      obtain ⟨ex, hex⟩ : ∃ ex, ex = (errL (wordL F.toDesc pts mul msg) wl er pts.length).length := ⟨_, rfl⟩
      rw [← hex] at hY dY ⊢
      replace hex := Lib.hid hex
      obtain ⟨⟨q0, q1, q2, q3, q4, q5⟩, p0, p1⟩ := hY ▸ kY.out
      replace hY := Lib.hid hY
      replace h0 := Lib.hid h0
      replace hz := Lib.hid hz
      go_wp2_with (fail)
      rw [← hY.out]
      simp only [← hbd]
      replace hbd := Lib.hid hbd
      (with_reducible refine hC1.out.mono ?_)
      rintro e w4 ⟨rfl, hb4⟩
      have hB4 := hBY.trans (hb4.mono hBY.size)
      have k4 := Lib.hid (kY.out.keep hb4 hsY)
      have d4 := Lib.hid (dY.out.keep hb4 hbdY)
      have hs4 := Nat.lt_of_lt_of_le hsY hb4.size
      have hbd4 := Nat.lt_of_lt_of_le hbdY hb4.size
      clear q0 q1 q2 q3 q4 q5 p0 p1
      have hR4 := hRv w4 ((hrw.below hB4).more hB4.size) ((hre.below hB4).more hB4.size) (by omega)
      rw [hzr] at hR4
      replace hzr := Lib.hid hzr
      obtain ⟨⟨q0, q1, q2, q3, q4, q5⟩, p0, p1⟩ := k4.out
      go_wp2_with (fail)
      (with_reducible refine hR4.out.mono ?_)
      rintro e w5 ⟨rfl, hb5⟩
      have hB5 := hB4.trans (hb5.mono hB4.size)
      have k5 := Lib.hid (k4.out.keep hb5 hs4)
      have d5 := Lib.hid (d4.out.keep hb5 hbd4)
      have hs5 := Nat.lt_of_lt_of_le hs4 hb5.size
      have hbd5 := Nat.lt_of_lt_of_le hbd4 hb5.size
      clear q0 q1 q2 q3 q4 q5 p0 p1
      have hrw5 := (hrw.below hB5).more hB5.size
      have hre5 := (hre.below hB5).more hB5.size
      have hr5 := (hr.below hB5).more hB5.size
      have hr15 := (hr1.below hB5).more hB5.size
      have hr25 := (hr2.below hB5).more hB5.size
      have hb35 := hbY.trans ((hb4.trans (hb5.mono hb4.size)).mono hbY.size)
      have hrc5 := (hrc.below hb35).more hb35.size
      have hrx5 := (hrx.below hb35).more hb35.size
      have hRt5 := hRt w5.drew hrc5.drew hrx5.drew hrw5.drew hre5.drew
      rw [← hex.out] at hRt5
      rw [hwn.out] at k5 ⊢
      have kk5 := Lib.hid (show _ ∧ _ ∧ _ from ⟨k5.out, d5.out.1, d5.out.2.1⟩)
      have hRd5 := hRd w5.drew
      obtain ⟨⟨q0, q1, q2, q3, q4, q5⟩, p0, p1⟩ := k5.out
      obtain ⟨a0, a1, -, -⟩ := d5.out
      clear hb4 hb5 hb35 hbY hRt hRd k4 d4 k1 kY dY hR4 hC1 hG1
      go_wp2_with (fail)
      clear q0 q1 q2 q3 q4 q5 p0 p1 a0 a1
      refine wp_region_held_drew (S := fun w' => ((w'.cell? ⟨s, 0, none⟩ = some (.int .i64 F.p) ∧ w'.cell? ⟨s, 1, none⟩ = some (.int .i64 F.m) ∧ w'.cell? ⟨s, 2, none⟩ = some (.slice A F.mod.length c) ∧ w'.cell? ⟨s, 3, none⟩ = some (.int .i64 (kn : Int)) ∧ w'.cell? ⟨s, 4, none⟩ = some (.slice A1 pts.length c1) ∧ w'.cell? ⟨s, 5, none⟩ = some (.slice A2 mul.length c2)) ∧ w'.cell? ⟨s + 1, 0, none⟩ = some (.slice Aw pts.length cw) ∧ w'.cell? ⟨s + 1, 1, none⟩ = some (.slice Ae er.length ce)) ∧ w'.cell? ⟨bd, 0, none⟩ = some (.slice Ac pts.length cc) ∧ w'.cell? ⟨bd, 1, none⟩ = some (.slice Ax ex cx)) (by kernel_rfl) (by (try dsimp only); exact kk5.out) (fun hHeld => ?_)
      refine wpAnyH_take (i := 0) (oi := ⟨_, _, _, _, _, _⟩) (v := ?_) rfl (by kernel_rfl) (by kernel_rfl) (by kernel_rfl) (fun _ _ _ h => h) (Or.inl ⟨by rfl, ?_⟩) (by assumption) ?_
      rotate_left
      · intro w hSw; (try dsimp only at hSw); go_simp; try with_reducible rfl
      try simp only [Act.put, List.setIfInBounds_toArray, List.set_cons_zero, List.set_cons_succ]
      refine wpAnyH_take (i := 1) (oi := ⟨_, _, _, _, _, _⟩) (v := ?_) rfl (by kernel_rfl) (by kernel_rfl) (by kernel_rfl) (fun _ _ _ h => h) (Or.inl ⟨by rfl, ?_⟩) (by assumption) ?_
      rotate_left
      · intro w hSw; (try dsimp only at hSw); go_simp; try with_reducible rfl
      try simp only [Act.put, List.setIfInBounds_toArray, List.set_cons_zero, List.set_cons_succ]
      refine wpAnyH_take (i := 2) (oi := ⟨_, _, _, _, _, _⟩) (v := ?_) rfl (by kernel_rfl) (by kernel_rfl) (by kernel_rfl) (fun _ _ _ h => h) (Or.inl ⟨by rfl, ?_⟩) (by assumption) ?_
      rotate_left
      · intro w hSw; (try dsimp only at hSw); go_simp; try with_reducible rfl
      try simp only [Act.put, List.setIfInBounds_toArray, List.set_cons_zero, List.set_cons_succ]
      refine wpAnyH_take (i := 3) (oi := ⟨_, _, _, _, _, _⟩) (v := ?_) rfl (by kernel_rfl) (by kernel_rfl) (by kernel_rfl) (fun _ _ _ h => h) (Or.inl ⟨by rfl, ?_⟩) (by assumption) ?_
      rotate_left
      · intro w hSw; (try dsimp only at hSw); go_simp; try with_reducible rfl
      try simp only [Act.put, List.setIfInBounds_toArray, List.set_cons_zero, List.set_cons_succ]
      refine wpAnyH_take (i := 4) (oi := ⟨_, _, _, _, _, _⟩) (v := ?_) rfl (by kernel_rfl) (by kernel_rfl) (by kernel_rfl) (fun _ _ _ h => h) (Or.inl ⟨by rfl, ?_⟩) (by assumption) ?_
      rotate_left
      · intro w hSw; (try dsimp only at hSw); go_simp; try with_reducible rfl
      try simp only [Act.put, List.setIfInBounds_toArray, List.set_cons_zero, List.set_cons_succ]
      refine wpAnyH_take (i := 5) (oi := ⟨_, _, _, _, _, _⟩) (v := ?_) rfl (by kernel_rfl) (by kernel_rfl) (by kernel_rfl) (fun _ _ _ h => h) (Or.inl ⟨by rfl, ?_⟩) (by assumption) ?_
      rotate_left
      · intro w hSw; (try dsimp only at hSw); go_simp; try with_reducible rfl
      try simp only [Act.put, List.setIfInBounds_toArray, List.set_cons_zero, List.set_cons_succ]
      refine wpAnyH_take (i := 6) (oi := ⟨_, _, _, _, _, _⟩) (v := ?_) rfl (by kernel_rfl) (by kernel_rfl) (by kernel_rfl) (fun _ _ _ h => h) (Or.inl ⟨by rfl, ?_⟩) (by assumption) ?_
      rotate_left
      · intro w hSw; (try dsimp only at hSw); go_simp; try with_reducible rfl
      try simp only [Act.put, List.setIfInBounds_toArray, List.set_cons_zero, List.set_cons_succ]
      refine wpAnyH_take (i := 7) (oi := ⟨_, _, _, _, _, _⟩) (v := ?_) rfl (by kernel_rfl) (by kernel_rfl) (by kernel_rfl) (fun _ _ _ h => h) (Or.inl ⟨by rfl, ?_⟩) (by assumption) ?_
      rotate_left
      · intro w hSw; (try dsimp only at hSw); go_simp; try with_reducible rfl
      try simp only [Act.put, List.setIfInBounds_toArray, List.set_cons_zero, List.set_cons_succ]
      refine wpAnyH_take (i := 8) (oi := ⟨_, _, _, _, _, _⟩) (v := ?_) rfl (by kernel_rfl) (by kernel_rfl) (by kernel_rfl) (fun _ _ _ h => h) (Or.inl ⟨by rfl, ?_⟩) (by assumption) ?_
      rotate_left
      · intro w hSw; (try dsimp only at hSw); go_simp; try with_reducible rfl
      try simp only [Act.put, List.setIfInBounds_toArray, List.set_cons_zero, List.set_cons_succ]
      refine wpAnyH_take (i := 9) (oi := ⟨_, _, _, _, _, _⟩) (v := ?_) rfl (by kernel_rfl) (by kernel_rfl) (by kernel_rfl) (fun _ _ _ h => h) (Or.inl ⟨by rfl, ?_⟩) (by assumption) ?_
      rotate_left
      · intro w hSw; (try dsimp only at hSw); go_simp; try with_reducible rfl
      try simp only [Act.put, List.setIfInBounds_toArray, List.set_cons_zero, List.set_cons_succ]
      refine wpAnyH_take (i := 10) (oi := ⟨_, _, _, _, _, _⟩) (v := ?_) rfl (by kernel_rfl) (by kernel_rfl) (by kernel_rfl) (fun _ _ _ h => h) (Or.inl ⟨by rfl, ?_⟩) (by assumption) ?_
      rotate_left
      · intro w hSw; (try dsimp only at hSw); go_simp; try with_reducible rfl
      try simp only [Act.put, List.setIfInBounds_toArray, List.set_cons_zero, List.set_cons_succ]
      refine wpAnyH_take (i := 11) (oi := ⟨_, _, _, _, _, _⟩) (v := ?_) rfl (by kernel_rfl) (by kernel_rfl) (by kernel_rfl) (fun _ _ _ h => h) (Or.inl ⟨by rfl, ?_⟩) (by assumption) ?_
      rotate_left
      · intro w hSw; (try dsimp only at hSw); go_simp; try with_reducible rfl
      try simp only [Act.put, List.setIfInBounds_toArray, List.set_cons_zero, List.set_cons_succ]
      refine wpAnyH_ready (rs := [12]) (by kernel_rfl) (by simp) ?_
      refine AllReadyH.cons (o := ⟨_, _, _, _, _, _⟩) rfl (fun K hK => ?_) AllReadyH.nil
      go_simp
      go_at_call 29
      (with_reducible refine (hRd5).out.mono ?_)
      rintro e w6 ⟨rfl, rfl⟩
      go_wp2_with (fail)
      refine hK.out _ _ (by (try dsimp only); exact kk5.out) (fun hHeld => ?_)
      clear hK K
      try simp only [Act.put, List.setIfInBounds_toArray, List.set_cons_zero, List.set_cons_succ]
      refine wpAnyH_ready (rs := [13]) (by kernel_rfl) (by simp) ?_
      refine AllReadyH.cons (o := ⟨_, _, _, _, _, _⟩) rfl (fun K hK => ?_) AllReadyH.nil
      go_simp
      go_at_call 34
      (with_reducible refine (hRt5).out.mono ?_)
      rintro e w7 ⟨rfl, hx7⟩
      have hb7 : Below w5.heap.size w5 w7 := (Below.refl _ w5).drew.trans hx7
      have kk7 := Lib.hid (box10 kk5.out hb7 hs5 hbd5)
      have hEl7 := hEl w7 ((hrc5.below hb7).more hb7.size)
      go_wp2_with (fail)
      refine hK.out _ _ (by (try dsimp only); exact kk7.out) (fun hHeld => ?_)
      clear hK K
      try simp only [Act.put, List.setIfInBounds_toArray, List.set_cons_zero, List.set_cons_succ]
      refine wpAnyH_take (i := 14) (oi := ⟨_, _, _, _, _, _⟩) (v := ?_) rfl (by kernel_rfl) (by kernel_rfl) (by kernel_rfl) (fun _ _ _ h => h) (Or.inl ⟨by rfl, ?_⟩) (by assumption) ?_
      rotate_left
      · intro w hSw; (try dsimp only at hSw); go_simp; try with_reducible rfl
      try simp only [Act.put, List.setIfInBounds_toArray, List.set_cons_zero, List.set_cons_succ]
      refine wpAnyH_take (i := 15) (oi := ⟨_, _, _, _, _, _⟩) (v := ?_) rfl (by kernel_rfl) (by kernel_rfl) (by kernel_rfl) (fun _ _ _ h => h) (Or.inl ⟨by rfl, ?_⟩) (by assumption) ?_
      rotate_left
      · intro w hSw; (try dsimp only at hSw); go_simp; try with_reducible rfl
      try simp only [Act.put, List.setIfInBounds_toArray, List.set_cons_zero, List.set_cons_succ]
      refine wpAnyH_take (i := 16) (oi := ⟨_, _, _, _, _, _⟩) (v := ?_) rfl (by kernel_rfl) (by kernel_rfl) (by kernel_rfl) (fun _ _ _ h => h) (Or.inl ⟨by rfl, ?_⟩) (by assumption) ?_
      rotate_left
      · intro w hSw; (try dsimp only at hSw); go_simp; try with_reducible rfl
      try simp only [Act.put, List.setIfInBounds_toArray, List.set_cons_zero, List.set_cons_succ]
      refine wpAnyH_take (i := 17) (oi := ⟨_, _, _, _, _, _⟩) (v := ?_) rfl (by kernel_rfl) (by kernel_rfl) (by kernel_rfl) (fun _ _ _ h => h) (Or.inl ⟨by rfl, ?_⟩) (by assumption) ?_
      rotate_left
      · intro w hSw; (try dsimp only at hSw); go_simp; try with_reducible rfl
      try simp only [Act.put, List.setIfInBounds_toArray, List.set_cons_zero, List.set_cons_succ]
      refine wpAnyH_take (i := 18) (oi := ⟨_, _, _, _, _, _⟩) (v := ?_) rfl (by kernel_rfl) (by kernel_rfl) (by kernel_rfl) (fun _ _ _ h => h) (Or.inl ⟨by rfl, ?_⟩) (by assumption) ?_
      rotate_left
      · intro w hSw; (try dsimp only at hSw); go_simp; try with_reducible rfl
      try simp only [Act.put, List.setIfInBounds_toArray, List.set_cons_zero, List.set_cons_succ]
      refine wpAnyH_take (i := 19) (oi := ⟨_, _, _, _, _, _⟩) (v := ?_) rfl (by kernel_rfl) (by kernel_rfl) (by kernel_rfl) (fun _ _ _ h => h) (Or.inl ⟨by rfl, ?_⟩) (by assumption) ?_
      rotate_left
      · intro w hSw; (try dsimp only at hSw); go_simp; try with_reducible rfl
      try simp only [Act.put, List.setIfInBounds_toArray, List.set_cons_zero, List.set_cons_succ]
      refine wpAnyH_take (i := 20) (oi := ⟨_, _, _, _, _, _⟩) (v := ?_) rfl (by kernel_rfl) (by kernel_rfl) (by kernel_rfl) (fun _ _ _ h => h) (Or.inl ⟨by rfl, ?_⟩) (by assumption) ?_
      rotate_left
      · intro w hSw; (try dsimp only at hSw); go_simp; try with_reducible rfl
      try simp only [Act.put, List.setIfInBounds_toArray, List.set_cons_zero, List.set_cons_succ]
      refine wpAnyH_take (i := 21) (oi := ⟨_, _, _, _, _, _⟩) (v := ?_) rfl (by kernel_rfl) (by kernel_rfl) (by kernel_rfl) (fun _ _ _ h => h) (Or.inl ⟨by rfl, ?_⟩) (by assumption) ?_
      rotate_left
      · intro w hSw; (try dsimp only at hSw); go_simp; try with_reducible rfl
      try simp only [Act.put, List.setIfInBounds_toArray, List.set_cons_zero, List.set_cons_succ]
      refine wpAnyH_ready (rs := [22]) (by kernel_rfl) (by simp) ?_
      refine AllReadyH.cons (o := ⟨_, _, _, _, _, _⟩) rfl (fun K hK => ?_) AllReadyH.nil
      go_simp
      go_at_call 35
      (with_reducible refine (hEl7).out.mono ?_)
      rintro e w8 ⟨rfl, hx8⟩
      have hb8 := hb7.trans (hx8.mono hb7.size)
      have kk8 := Lib.hid (box10 kk5.out hb8 hs5 hbd5)
      have hHs8 := hHs w8 ((hr5.below hb8).more hb8.size) ((hr15.below hb8).more hb8.size) ((hr25.below hb8).more hb8.size) ((hrc5.below hb8).more hb8.size)
      go_wp2_with (fail)
      refine hK.out _ _ (by (try dsimp only); exact kk8.out) (fun hHeld => ?_)
      clear hK K
      try simp only [Act.put, List.setIfInBounds_toArray, List.set_cons_zero, List.set_cons_succ]
      refine wpAnyH_take (i := 23) (oi := ⟨_, _, _, _, _, _⟩) (v := ?_) rfl (by kernel_rfl) (by kernel_rfl) (by kernel_rfl) (fun _ _ _ h => h) (Or.inl ⟨by rfl, ?_⟩) (by assumption) ?_
      rotate_left
      · intro w hSw; (try dsimp only at hSw); go_simp; try with_reducible rfl
      try simp only [Act.put, List.setIfInBounds_toArray, List.set_cons_zero, List.set_cons_succ]
      refine wpAnyH_take (i := 24) (oi := ⟨_, _, _, _, _, _⟩) (v := ?_) rfl (by kernel_rfl) (by kernel_rfl) (by kernel_rfl) (fun _ _ _ h => h) (Or.inl ⟨by rfl, ?_⟩) (by assumption) ?_
      rotate_left
      · intro w hSw; (try dsimp only at hSw); go_simp; try with_reducible rfl
      try simp only [Act.put, List.setIfInBounds_toArray, List.set_cons_zero, List.set_cons_succ]
      refine wpAnyH_take (i := 25) (oi := ⟨_, _, _, _, _, _⟩) (v := ?_) rfl (by kernel_rfl) (by kernel_rfl) (by kernel_rfl) (fun _ _ _ h => h) (Or.inl ⟨by rfl, ?_⟩) (by assumption) ?_
      rotate_left
      · intro w hSw; (try dsimp only at hSw); go_simp; try with_reducible rfl
      try simp only [Act.put, List.setIfInBounds_toArray, List.set_cons_zero, List.set_cons_succ]
      refine wpAnyH_take (i := 26) (oi := ⟨_, _, _, _, _, _⟩) (v := ?_) rfl (by kernel_rfl) (by kernel_rfl) (by kernel_rfl) (fun _ _ _ h => h) (Or.inl ⟨by rfl, ?_⟩) (by assumption) ?_
      rotate_left
      · intro w hSw; (try dsimp only at hSw); go_simp; try with_reducible rfl
      try simp only [Act.put, List.setIfInBounds_toArray, List.set_cons_zero, List.set_cons_succ]
      refine wpAnyH_take (i := 27) (oi := ⟨_, _, _, _, _, _⟩) (v := ?_) rfl (by kernel_rfl) (by kernel_rfl) (by kernel_rfl) (fun _ _ _ h => h) (Or.inl ⟨by rfl, ?_⟩) (by assumption) ?_
      rotate_left
      · intro w hSw; (try dsimp only at hSw); go_simp; try with_reducible rfl
      try simp only [Act.put, List.setIfInBounds_toArray, List.set_cons_zero, List.set_cons_succ]
      refine wpAnyH_take (i := 28) (oi := ⟨_, _, _, _, _, _⟩) (v := ?_) rfl (by kernel_rfl) (by kernel_rfl) (by kernel_rfl) (fun _ _ _ h => h) (Or.inl ⟨by rfl, ?_⟩) (by assumption) ?_
      rotate_left
      · intro w hSw; (try dsimp only at hSw); go_simp; try with_reducible rfl
      try simp only [Act.put, List.setIfInBounds_toArray, List.set_cons_zero, List.set_cons_succ]
      refine wpAnyH_ready (rs := [29]) (by kernel_rfl) (by simp) ?_
      refine AllReadyH.cons (o := ⟨_, _, _, _, _, _⟩) rfl (fun K hK => ?_) AllReadyH.nil
      go_simp
      go_at_call 36
      (with_reducible refine (hHs8).out.mono ?_)
      rintro e w9 ⟨rfl, hx9⟩
      have hb9 := hb8.trans (hx9.mono hb8.size)
      have kk9 := Lib.hid (box10 kk5.out hb9 hs5 hbd5)
      go_wp2_with (fail)
      refine hK.out _ _ (by (try dsimp only); exact kk9.out) (fun hHeld => ?_)
      clear hK K
      try simp only [Act.put, List.setIfInBounds_toArray, List.set_cons_zero, List.set_cons_succ]
      refine wpAnyH_take (i := 30) (oi := ⟨_, _, _, _, _, _⟩) (v := ?_) rfl (by kernel_rfl) (by kernel_rfl) (by kernel_rfl) (fun _ _ _ h => h) (Or.inl ⟨by rfl, ?_⟩) (by assumption) ?_
      rotate_left
      · intro w hSw; (try dsimp only at hSw); go_simp; try with_reducible rfl
      try simp only [Act.put, List.setIfInBounds_toArray, List.set_cons_zero, List.set_cons_succ]
      refine wpAnyH_take (i := 31) (oi := ⟨_, _, _, _, _, _⟩) (v := ?_) rfl (by kernel_rfl) (by kernel_rfl) (by kernel_rfl) (fun _ _ _ h => h) (Or.inl ⟨by rfl, ?_⟩) (by assumption) ?_
      rotate_left
      · intro w hSw; (try dsimp only at hSw); go_simp; try with_reducible rfl
      try simp only [Act.put, List.setIfInBounds_toArray, List.set_cons_zero, List.set_cons_succ]
      refine wpAnyH_done (by kernel_rfl) ?_ _
      go_wp2_with (fail)
      go_ret
      exact ⟨rfl, hB5.trans (hb9.mono hB5.size)⟩

theorem honestL (P M K : Int) (ml pts mul : List Int) (A A1 A2 : Option Addr) (c c1 c2 : Nat) (wl er : List Int) (Aw Ae : Option Addr) (cw ce : Nat) (w : World) (hP : I64 P) (hM : I64 M) (_hK : I64 K) (hl : ml.length ≤ maxLen) (h1 : pts.length ≤ c1 ∧ c1 ≤ maxLen) (h2 : mul.length ≤ c2 ∧ c2 ≤ maxLen) (_hi : ∀ x ∈ pts, I64 x) (_hj : ∀ x ∈ mul, I64 x) (hr : Rd w w.heap.size A ml) (hr1 : Rd w w.heap.size A1 pts) (hr2 : Rd w w.heap.size A2 mul)
    (hwl : wl.length ≤ maxLen) (_hel : er.length ≤ maxLen) (hrw : Rd w w.heap.size Aw wl) (hre : Rd w w.heap.size Ae er) :
    Calls Try.prog 6 #[.agg #[.int .i64 P, .int .i64 M, .slice A ml.length c, .int .i64 K, .slice A1 pts.length c1, .slice A2 mul.length c2], .agg #[.slice Aw wl.length cw, .slice Ae er.length ce]] w (LawEnd w) := by
  by_cases hb : Good P M ml
  · have hb' := hb
    obtain ⟨D, rfl, rfl, rfl, -⟩ := hb
    rw [modL_length]
    obtain ⟨F, rfl⟩ := goodF hb'
    exact honestL_good F K pts mul A A1 A2 c c1 c2 wl er Aw Ae cw ce w hr hb' h1 h2 hr1 hr2 hwl hrw hre
  · exact honestL_bad P M K ml pts mul A A1 A2 c c1 c2 wl er Aw Ae cw ce w hP hM hl hr hb
end Go.Proofs.Ytpflgmbcmfllgaa
