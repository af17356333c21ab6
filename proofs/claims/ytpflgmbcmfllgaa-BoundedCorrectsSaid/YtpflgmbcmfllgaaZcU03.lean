/- BoundedCorrects: the walk. -/
import Derived.Test.YtpflgmbcmfllgaaZcGrsD
import Derived.Test.YtpflgmbcmfllgaaZcU02
namespace Go.Proofs.Ytpflgmbcmfllgaa
open Go.RowKit Cw
attribute [local go_sem] Oper.semAt_some

set_option maxRecDepth 100000 in
set_option maxHeartbeats 4000000 in
theorem correctsL_bad (P M K : Int) (ml pts mul : List Int) (A A1 A2 : Option Addr) (c c1 c2 : Nat) (xl : List Int) (Ax : Option Addr) (cx : Nat) (wl er : List Int) (Aw Ae : Option Addr) (cw ce : Nat) (w : World) (hP : I64 P) (hM : I64 M) (hl : ml.length ≤ maxLen) (hr : Rd w w.heap.size A ml) (hb : ¬ Good P M ml) :
    Calls Try.prog 7 #[.agg #[.int .i64 P, .int .i64 M, .slice A ml.length c, .int .i64 K, .slice A1 pts.length c1, .slice A2 mul.length c2], .slice Ax xl.length cx, .agg #[.slice Aw wl.length cw, .slice Ae er.length ce]] w (LawEnd w) := by
  have hAl := fun W => Lib.hid (alive39_any W)
  have hFw := fun W => Lib.hid (few39_any pts.length er.length A1 Ae c1 ce W)
  have hC := fun W h => Lib.hid (Chk18_bad P M K ml pts mul A A1 A2 c c1 c2 W hP hM hl h hb)
  clear hP hM hl hb
  obtain ⟨s, hs⟩ : ∃ s, s = w.heap.size := ⟨_, rfl⟩
  obtain ⟨Z, hZ⟩ : ∃ Z, Z = ((w.alloc (.cells #[.int .i64 P, .int .i64 M, .slice A ml.length c, .int .i64 K, .slice A1 pts.length c1, .slice A2 mul.length c2] 49)).alloc (.cells #[.slice Aw wl.length cw, .slice Ae er.length ce] 51)) := ⟨_, rfl⟩
  have hB : Below w.heap.size w Z := by rw [hZ]; exact ((Below.refl _ _).alloc (Nat.le_refl _) _).alloc (by simp) _
  have kB : Hid (Box8 Z s (.int .i64 P) (.int .i64 M) (.slice A ml.length c) (.int .i64 K) (.slice A1 pts.length c1) (.slice A2 mul.length c2) (.slice Aw wl.length cw) (.slice Ae er.length ce)) := by rw [hZ, hs]; exact Box8.new w _ _ _ _ _ _ _ _ _ _
  have hsW : s + 1 < Z.heap.size := by rw [hZ, hs]; simp
  replace hZ := Lib.hid hZ
  unfold LawEnd
  go_enter Try.func7, Try.ntmps7
  go_wp2_with (fail)
  rw [← hZ.out]
  simp only [← hs]
  replace hs := Lib.hid hs
  go_wp2_with (fail)
  (with_reducible refine (hAl _).out.mono ?_)
  rintro e w0 ⟨rfl, hb⟩
  replace hB := hB.trans (hb.mono hB.size)
  replace kB := Lib.hid (kB.out.keep hb hsW)
  replace hsW := Nat.lt_of_lt_of_le hsW hb.size
  obtain ⟨⟨q0, q1, q2, q3, q4, q5⟩, p0, p1⟩ := kB.out
  go_wp2_with (fail)
  (with_reducible refine (hFw _).out.mono ?_)
  rintro e w0' ⟨rfl, rfl⟩
  clear q0 q1 q2 q3 q4 q5 p0 p1
  cases hfw : fewB pts.length er.length with
  | false =>
    obtain ⟨⟨q0, q1, q2, q3, q4, q5⟩, p0, p1⟩ := kB.out
    go_wp2_with (fail)
    go_ret
    exact ⟨rfl, hB⟩
  | true =>
    obtain ⟨hf1, hf2⟩ := fewB_true hfw
    clear hfw
    obtain ⟨⟨q0, q1, q2, q3, q4, q5⟩, p0, p1⟩ := kB.out
    have hq := hC _ ((hr.below hB).more hB.size)
    go_wp2_with (fail)
    (with_reducible refine hq.out.mono ?_)
    rintro e w1 ⟨rfl, hb⟩
    clear hq
    clear q0 q1 q2 q3 q4 q5 p0 p1
    replace hB := hB.trans (hb.mono hB.size)
    replace kB := Lib.hid (kB.out.keep hb hsW)
    replace hsW := Nat.lt_of_lt_of_le hsW hb.size
    obtain ⟨⟨q0, q1, q2, q3, q4, q5⟩, p0, p1⟩ := kB.out
    go_wp2_with (fail)
    go_ret
    exact ⟨rfl, hB⟩

set_option maxRecDepth 100000 in
set_option maxHeartbeats 16000000 in
theorem correctsL_good (F : FD) (K : Int) (pts mul : List Int) (A A1 A2 : Option Addr) (c c1 c2 : Nat) (xl : List Int) (Ax : Option Addr) (cx : Nat) (wl er : List Int) (Aw Ae : Option Addr) (cw ce : Nat) (w : World) (hr : Rd w w.heap.size A (modL F.toDesc)) (hb : Good F.p F.m (modL F.toDesc)) (h1 : pts.length ≤ c1 ∧ c1 ≤ maxLen) (h2 : mul.length ≤ c2 ∧ c2 ≤ maxLen) (hr1 : Rd w w.heap.size A1 pts) (hr2 : Rd w w.heap.size A2 mul) (_hxc : xl.length ≤ cx) (hxm : cx ≤ maxLen) (hrx : Rd w w.heap.size Ax xl) (hwl : wl.length ≤ maxLen) (_hel : er.length ≤ maxLen) (hrw : Rd w w.heap.size Aw wl) (hre : Rd w w.heap.size Ae er) :
    Calls Try.prog 7 #[.agg #[.int .i64 F.p, .int .i64 F.m, .slice A F.mod.length c, .int .i64 K, .slice A1 pts.length c1, .slice A2 mul.length c2], .slice Ax xl.length cx, .agg #[.slice Aw wl.length cw, .slice Ae er.length ce]] w (LawEnd w) := by
  have hAl := fun W => Lib.hid (alive39_any W)
  have hFw := fun W => Lib.hid (few39_any pts.length er.length A1 Ae c1 ce W)
  have hC := fun W a b d => Lib.hid (Chk18_D F.toDesc K pts mul A A1 A2 c c1 c2 W a hb b d (Nat.le_trans h2.1 h2.2))
  have hRv := fun W a b d => Lib.hid (Received39_any F.toDesc wl er pts.length A Aw Ae c cw ce W a b hwl d)
  have hGr := fun W a b d e f g => gGRS_D F.toDesc K pts mul A A1 A2 c c1 c2 wl er Aw Ae cw ce W a hb b d h1.1 h1.2 (Nat.le_trans h2.1 h2.2) e f hwl g
  replace h1 := Lib.hid h1
  replace h2 := Lib.hid h2
  have hgd := Lib.hid hb
  clear hb
  obtain ⟨s, hs⟩ : ∃ s, s = w.heap.size := ⟨_, rfl⟩
  obtain ⟨Z, hZ⟩ : ∃ Z, Z = ((w.alloc (.cells #[.int .i64 F.p, .int .i64 F.m, .slice A F.mod.length c, .int .i64 K, .slice A1 pts.length c1, .slice A2 mul.length c2] 49)).alloc (.cells #[.slice Aw wl.length cw, .slice Ae er.length ce] 51)) := ⟨_, rfl⟩
  have hB : Below w.heap.size w Z := by rw [hZ]; exact ((Below.refl _ _).alloc (Nat.le_refl _) _).alloc (by simp) _
  have kB : Hid (Box8 Z s (.int .i64 F.p) (.int .i64 F.m) (.slice A F.mod.length c) (.int .i64 K) (.slice A1 pts.length c1) (.slice A2 mul.length c2) (.slice Aw wl.length cw) (.slice Ae er.length ce)) := by rw [hZ, hs]; exact Box8.new w _ _ _ _ _ _ _ _ _ _
  have hsW : s + 1 < Z.heap.size := by rw [hZ, hs]; simp
  replace hZ := Lib.hid hZ
  unfold LawEnd
  go_enter Try.func7, Try.ntmps7
  go_wp2_with (fail)
  rw [← hZ.out]
  simp only [← hs]
  replace hs := Lib.hid hs
  go_wp2_with (fail)
  (with_reducible refine (hAl _).out.mono ?_)
  rintro e w0 ⟨rfl, hb⟩
  replace hB := hB.trans (hb.mono hB.size)
  replace kB := Lib.hid (kB.out.keep hb hsW)
  replace hsW := Nat.lt_of_lt_of_le hsW hb.size
  obtain ⟨⟨q0, q1, q2, q3, q4, q5⟩, p0, p1⟩ := kB.out
  go_wp2_with (fail)
  (with_reducible refine (hFw _).out.mono ?_)
  rintro e w0' ⟨rfl, rfl⟩
  clear q0 q1 q2 q3 q4 q5 p0 p1
  cases hfw : fewB pts.length er.length with
  | false =>
    obtain ⟨⟨q0, q1, q2, q3, q4, q5⟩, p0, p1⟩ := kB.out
    go_wp2_with (fail)
    go_ret
    exact ⟨rfl, hB⟩
  | true =>
    obtain ⟨hf1, hf2⟩ := fewB_true hfw
    clear hfw
    obtain ⟨⟨q0, q1, q2, q3, q4, q5⟩, p0, p1⟩ := kB.out
    have hq := hC _ ((hr.below hB).more hB.size) ((hr1.below hB).more hB.size) ((hr2.below hB).more hB.size)
    go_wp2_with (fail)
    (with_reducible refine hq.out.mono ?_)
    rintro e w1 ⟨rfl, hb⟩
    clear hq
    clear q0 q1 q2 q3 q4 q5 p0 p1
    replace hB := hB.trans (hb.mono hB.size)
    replace kB := Lib.hid (kB.out.keep hb hsW)
    replace hsW := Nat.lt_of_lt_of_le hsW hb.size
    by_cases hz : gchkD F.toDesc K pts mul = 0
    rotate_left
    · have hzb : (gchkD F.toDesc K pts mul != 0) = true := by rw [bne_iff_ne]; exact hz
      clear hz
      obtain ⟨⟨q0, q1, q2, q3, q4, q5⟩, p0, p1⟩ := kB.out
      go_wp2_with (fail)
      go_ret
      exact ⟨rfl, hB⟩
    rw [hz]
    replace hz := Lib.hid hz
    have hzG := hz
    clear hz
    have hEl := fun W a => Lib.hid (Elems18_any F.toDesc xl K 3 A Ax c cx W a (Nat.le_trans _hxc hxm))
    obtain ⟨⟨q0, q1, q2, q3, q4, q5⟩, p0, p1⟩ := kB.out
    have hq := hEl _ ((hrx.below hB).more hB.size)
    go_wp2_with (fail)
    (with_reducible refine hq.out.mono ?_)
    rintro e w2 ⟨rfl, hb⟩
    clear hq
    clear q0 q1 q2 q3 q4 q5 p0 p1
    replace hB := hB.trans (hb.mono hB.size)
    replace kB := Lib.hid (kB.out.keep hb hsW)
    replace hsW := Nat.lt_of_lt_of_le hsW hb.size
    by_cases hz : elErr F.toDesc xl K 3 = 0
    rotate_left
    · have hzb : (elErr F.toDesc xl K 3 != 0) = true := by rw [bne_iff_ne]; exact hz
      clear hz
      obtain ⟨⟨q0, q1, q2, q3, q4, q5⟩, p0, p1⟩ := kB.out
      go_wp2_with (fail)
      go_ret
      exact ⟨rfl, hB⟩
    rw [hz]
    have hxe : (xl.length : Int) = K ∧ elB F.toDesc xl = true := by
      unfold elErr at hz
      by_cases g1 : (xl.length : Int) ≠ K
      · rw [if_pos g1] at hz; cases hz
      rw [if_neg g1] at hz
      cases h : elB F.toDesc xl with
      | true => exact ⟨by omega, rfl⟩
      | false => rw [if_pos h] at hz; cases hz
    clear hz
    obtain ⟨⟨q0, q1, q2, q3, q4, q5⟩, p0, p1⟩ := kB.out
    have hq := hRv _ ((hrw.below hB).more hB.size) ((hre.below hB).more hB.size) (by omega)
    go_wp2_with (fail)
    (with_reducible refine hq.out.mono ?_)
    rintro e w3 ⟨rfl, hb⟩
    clear hq
    clear q0 q1 q2 q3 q4 q5 p0 p1
    replace hB := hB.trans (hb.mono hB.size)
    replace kB := Lib.hid (kB.out.keep hb hsW)
    replace hsW := Nat.lt_of_lt_of_le hsW hb.size
    by_cases hz : recErr F.toDesc wl pts.length er = 0
    rotate_left
    · have hzb : (recErr F.toDesc wl pts.length er != 0) = true := by rw [bne_iff_ne]; exact hz
      clear hz
      obtain ⟨⟨q0, q1, q2, q3, q4, q5⟩, p0, p1⟩ := kB.out
      go_wp2_with (fail)
      go_ret
      exact ⟨rfl, hB⟩
    rw [hz]
    have hzr := Lib.hid hz
    clear hz
    have hE0 : Hid (decErr F.toDesc K pts mul wl er = 0) := (if_neg (fun h => h hzG.out) : decErr F.toDesc K pts mul wl er = _).trans hzr.out
    obtain ⟨hp1, hp64, hlen, -, -, -, -, hK0, hKn⟩ := gchkD_zero hzG.out
    obtain ⟨hwn, helw, hrg, hnd⟩ := recErr_zero hzr.out
    obtain ⟨kn, rfl⟩ : ∃ kn : Nat, K = kn := ⟨K.toNat, by omega⟩
    have hxl : xl.length = kn := by have := hxe.1; omega
    have hWd := fun W a b d e => Word18_any F.toDesc kn pts mul xl A A1 A2 Ax c c1 c2 cx W a b d e hlen hp64 (Nat.le_trans _hxc hxm)
    unfold Gives at hWd
    rw [wordL_length] at hWd
    have hDf := fun A' c' W a b d => Differ39_any pts.length (wordL F.toDesc pts mul xl) wl er hp64 (wordL_length _ _ _ _) hwn (by omega) A' Aw Ae c' cw ce W a b d
    have huq := fun msg (h : DecOK F.toDesc kn pts mul wl er msg) (h2 : 2 * (errL (wordL F.toDesc pts mul xl) wl er pts.length).length + er.length + kn ≤ pts.length) => dec_uniq hzG.out hwn helw hrg hnd (Nat.le_of_eq h.1) (Nat.le_of_eq hxl) h.2.2 h2
    have hel2 := errL_le (wordL F.toDesc pts mul xl) wl er pts.length
    have hGr2 := fun W a b d e f g => hGr W a b d e f g
    rw [hwn] at hGr2 kB ⊢
    replace hGr2 := fun W a b d e f g => Lib.hid (hGr2 W a b d e f g)
    replace hWd := fun W a b d e => Lib.hid (hWd W a b d e)
    replace hDf := fun A' c' W a b d => Lib.hid (hDf A' c' W a b d)
    replace huq := Lib.hid huq
    replace hlen := Lib.hid hlen
    replace hwn := Lib.hid hwn
    replace hxl := Lib.hid hxl
    have hxe2 := Lib.hid hxe
    clear hGr hC hRv hAl hFw hxe hrg hnd helw
    obtain ⟨⟨q0, q1, q2, q3, q4, q5⟩, p0, p1⟩ := kB.out
    have hq := hWd _ ((hr.below hB).more hB.size) ((hr1.below hB).more hB.size) ((hr2.below hB).more hB.size) ((hrx.below hB).more hB.size)
    go_wp2_with (fail)
    (with_reducible refine hq.out.mono ?_)
    rintro e w4 ⟨gc, rfl, -, hib, hb⟩
    clear hq
    clear q0 q1 q2 q3 q4 q5 p0 p1
    replace hB := hB.trans (hb.mono hB.size)
    replace kB := Lib.hid (kB.out.keep hb hsW)
    replace hsW := Nat.lt_of_lt_of_le hsW hb.size
    have hrc := hib.rd
    clear hib
    obtain ⟨⟨q0, q1, q2, q3, q4, q5⟩, p0, p1⟩ := kB.out
    have hq := hDf (some ⟨gc, 0, none⟩) pts.length _ hrc ((hrw.below hB).more hB.size) ((hre.below hB).more hB.size)
    go_wp2_with (fail)
    (with_reducible refine hq.out.mono ?_)
    rintro e w5 ⟨Ad, cd, rfl, hrd, hb⟩
    clear hq
    clear q0 q1 q2 q3 q4 q5 p0 p1
    replace hB := hB.trans (hb.mono hB.size)
    replace kB := Lib.hid (kB.out.keep hb hsW)
    replace hsW := Nat.lt_of_lt_of_le hsW hb.size
    replace hrc := (hrc.below hb).more hb.size
    obtain ⟨el, hel⟩ : ∃ el, el = errL (wordL F.toDesc pts mul xl) wl er pts.length := ⟨_, rfl⟩
    rw [← hel] at hrd hel2 huq ⊢
    have hw1 : IntKind.i64.wrap (2 * (el.length : Int)) = 2 * (el.length : Int) := IntWalk.i64_in _ (by omega)
    have hw2 : IntKind.i64.wrap (2 * (el.length : Int) + (er.length : Int)) = 2 * (el.length : Int) + (er.length : Int) := IntWalk.i64_in _ (by omega)
    have hw3 : IntKind.i64.wrap ((pts.length : Int) - (kn : Int)) = (pts.length : Int) - (kn : Int) := IntWalk.i64_in _ (by omega)
    replace hel := Lib.hid hel
    by_cases hbig : (pts.length : Int) - (kn : Int) < 2 * (el.length : Int) + (er.length : Int)
    · obtain ⟨⟨q0, q1, q2, q3, q4, q5⟩, p0, p1⟩ := kB.out
      go_wp2_with (fail)
      go_ret
      exact ⟨rfl, hB⟩
    have hsm : 2 * el.length + er.length + kn ≤ pts.length := by omega
    obtain ⟨⟨q0, q1, q2, q3, q4, q5⟩, p0, p1⟩ := kB.out
    have hq := hGr2 _ ((hr.below hB).more hB.size) ((hr1.below hB).more hB.size) ((hr2.below hB).more hB.size) ((hrw.below hB).more hB.size) ((hre.below hB).more hB.size) (by omega)
    go_wp2_with (fail)
    (with_reducible refine hq.out.mono ?_)
    rintro e w6 ⟨hb, ⟨hne, rfl⟩ | ⟨-, hno, rfl⟩ | ⟨-, msg, Ac, cc, Ay, cy, hdec, rfl, hrc2, hrd2, -, -⟩⟩
    · exact absurd hE0.out hne
    · exact absurd (hno xl (Nat.le_of_eq hxl.out)) (by rw [Int.toNat_natCast, ← hel.out]; omega)
    clear hq
    clear q0 q1 q2 q3 q4 q5 p0 p1
    replace hB := hB.trans (hb.mono hB.size)
    replace kB := Lib.hid (kB.out.keep hb hsW)
    replace hsW := Nat.lt_of_lt_of_le hsW hb.size
    replace hrc := (hrc.below hb).more hb.size
    replace hrd := (hrd.below hb).more hb.size
    rw [Int.toNat_natCast] at hdec
    have heq := huq.out msg hdec hsm
    rw [heq] at hrc2 hrd2 ⊢
    rw [← hel.out] at hrd2 ⊢
    clear heq hdec hsm hbig
    obtain ⟨Y, hY⟩ : ∃ Y, Y = w6.alloc (.cells #[.slice Ac pts.length cc, .slice Ay el.length cy] 54) := ⟨_, rfl⟩
    have hbY : Below w6.heap.size w6 Y := by rw [hY]; exact (Below.refl _ _).alloc (Nat.le_refl _) _
    obtain ⟨bd, hbd⟩ : ∃ bd, bd = w6.heap.size := ⟨_, rfl⟩
    have dY := Lib.hid (show Duo Y bd (.slice Ac pts.length cc) (.slice Ay el.length cy) from by rw [hY, hbd]; exact Duo.new w6 _ _ _)
    have dYl : bd < Y.heap.size := by rw [hY, hbd]; simp
    replace hB := hB.trans (hbY.mono hB.size)
    replace kB := Lib.hid (kB.out.keep hbY hsW)
    replace hsW := Nat.lt_of_lt_of_le hsW hbY.size
    replace hrc := (hrc.below hbY).more hbY.size
    replace hrd := (hrd.below hbY).more hbY.size
    replace hrc2 := (hrc2.below hbY).more hbY.size
    replace hrd2 := (hrd2.below hbY).more hbY.size
    obtain ⟨⟨q0, q1, q2, q3, q4, q5⟩, p0, p1⟩ := hY ▸ kB.out
    obtain ⟨a00, a01, -, -⟩ := hY ▸ hbd ▸ dY.out
    have hS1 := same39_refl (wordL F.toDesc pts mul xl) Ac (some ⟨gc, 0, none⟩) cc pts.length Y hrc2 hrc (by rw [wordL_length]; omega)
    rw [wordL_length] at hS1
    replace hS1 := Lib.hid hS1
    have hS2 := fun W a b => Lib.hid (same39_refl el Ay Ad cy cd W a b (by omega))
    replace hY := Lib.hid hY
    go_wp2_with (fail)
    rw [← hY.out]
    simp only [← hbd]
    replace hbd := Lib.hid hbd
    (with_reducible refine hS1.out.mono ?_)
    rintro e w9 ⟨rfl, hb⟩
    clear q0 q1 q2 q3 q4 q5 p0 p1 a00 a01
    replace hB := hB.trans (hb.mono hB.size)
    replace kB := Lib.hid (kB.out.keep hb hsW)
    replace hsW := Nat.lt_of_lt_of_le hsW hb.size
    replace dY := Lib.hid (dY.out.keep hb dYl)
    replace dYl := Nat.lt_of_lt_of_le dYl hb.size
    replace hrc := (hrc.below hb).more hb.size
    replace hrd := (hrd.below hb).more hb.size
    replace hrc2 := (hrc2.below hb).more hb.size
    replace hrd2 := (hrd2.below hb).more hb.size
    obtain ⟨⟨q0, q1, q2, q3, q4, q5⟩, p0, p1⟩ := kB.out
    obtain ⟨a00, a01, -, -⟩ := dY.out
    have hq := hS2 _ hrd2 hrd
    go_wp2_with (fail)
    (with_reducible refine hq.out.mono ?_)
    rintro e w7 ⟨rfl, hb⟩
    clear hq
    clear q0 q1 q2 q3 q4 q5 p0 p1 a00 a01
    replace hB := hB.trans (hb.mono hB.size)
    replace kB := Lib.hid (kB.out.keep hb hsW)
    replace hsW := Nat.lt_of_lt_of_le hsW hb.size
    replace dY := Lib.hid (dY.out.keep hb dYl)
    replace dYl := Nat.lt_of_lt_of_le dYl hb.size
    replace hrc := (hrc.below hb).more hb.size
    replace hrd := (hrd.below hb).more hb.size
    replace hrc2 := (hrc2.below hb).more hb.size
    replace hrd2 := (hrd2.below hb).more hb.size
    obtain ⟨⟨q0, q1, q2, q3, q4, q5⟩, p0, p1⟩ := kB.out
    obtain ⟨a00, a01, -, -⟩ := dY.out
    go_wp2_with (fail)
    go_ret
    exact ⟨rfl, hB⟩

theorem correctsL (P M K : Int) (ml pts mul : List Int) (A A1 A2 : Option Addr) (c c1 c2 : Nat) (xl : List Int) (Ax : Option Addr) (cx : Nat) (wl er : List Int) (Aw Ae : Option Addr) (cw ce : Nat) (w : World) (hP : I64 P) (hM : I64 M) (_hK : I64 K) (hl : ml.length ≤ maxLen) (h1 : pts.length ≤ c1 ∧ c1 ≤ maxLen) (h2 : mul.length ≤ c2 ∧ c2 ≤ maxLen) (_hi : ∀ x ∈ pts, I64 x) (_hj : ∀ x ∈ mul, I64 x) (hr : Rd w w.heap.size A ml) (hr1 : Rd w w.heap.size A1 pts) (hr2 : Rd w w.heap.size A2 mul) (hxc : xl.length ≤ cx) (hxm : cx ≤ maxLen) (hrx : Rd w w.heap.size Ax xl) (hwl : wl.length ≤ maxLen) (hel : er.length ≤ maxLen) (hrw : Rd w w.heap.size Aw wl) (hre : Rd w w.heap.size Ae er) :
    Calls Try.prog 7 #[.agg #[.int .i64 P, .int .i64 M, .slice A ml.length c, .int .i64 K, .slice A1 pts.length c1, .slice A2 mul.length c2], .slice Ax xl.length cx, .agg #[.slice Aw wl.length cw, .slice Ae er.length ce]] w (LawEnd w) := by
  by_cases hb : Good P M ml
  · have hb' := hb
    obtain ⟨D, rfl, rfl, rfl, -⟩ := hb
    rw [modL_length]
    obtain ⟨F, rfl⟩ := goodF hb'
    exact correctsL_good F K pts mul A A1 A2 c c1 c2 xl Ax cx wl er Aw Ae cw ce w hr hb' h1 h2 hr1 hr2 hxc hxm hrx hwl hel hrw hre
  · exact correctsL_bad P M K ml pts mul A A1 A2 c c1 c2 xl Ax cx wl er Aw Ae cw ce w hP hM hl hr hb
end Go.Proofs.Ytpflgmbcmfllgaa
