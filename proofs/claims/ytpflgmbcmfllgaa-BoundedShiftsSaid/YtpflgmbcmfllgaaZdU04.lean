/- BoundedShifts: the walk. -/
import Derived.Test.YtpflgmbcmfllgaaZdRG
import Derived.Test.YtpflgmbcmfllgaaZdGrsD
import Derived.Test.YtpflgmbcmfllgaaZdB39C
namespace Go.Proofs.Ytpflgmbcmfllgaa
open Go.RowKit Cw
attribute [local go_sem] Oper.semAt_some

set_option maxRecDepth 100000 in
set_option maxHeartbeats 4000000 in
theorem shiftsL_bad (P M K : Int) (ml pts mul : List Int) (A A1 A2 : Option Addr) (c c1 c2 : Nat) (xl : List Int) (Ax : Option Addr) (cx : Nat) (wl er : List Int) (Aw Ae : Option Addr) (cw ce : Nat) (w : World) (hP : I64 P) (hM : I64 M) (hl : ml.length ≤ maxLen) (hr : Rd w w.heap.size A ml) (hb : ¬ Good P M ml) :
    Calls Try.prog 8 #[.agg #[.int .i64 P, .int .i64 M, .slice A ml.length c, .int .i64 K, .slice A1 pts.length c1, .slice A2 mul.length c2], .slice Ax xl.length cx, .agg #[.slice Aw wl.length cw, .slice Ae er.length ce]] w (LawEnd w) := by
  have hAl := fun W => Lib.hid (alive39_any W)
  have hFw := fun W => Lib.hid (few39_any pts.length er.length A1 Ae c1 ce W)
  have hC := fun W h => Lib.hid (Chk18_bad P M K ml pts mul A A1 A2 c c1 c2 W hP hM hl h hb)
  clear hP hM hl hb
  obtain ⟨s, hs⟩ : ∃ s, s = w.heap.size := ⟨_, rfl⟩
  obtain ⟨Z, hZ⟩ : ∃ Z, Z = ((w.alloc (.cells #[.int .i64 P, .int .i64 M, .slice A ml.length c, .int .i64 K, .slice A1 pts.length c1, .slice A2 mul.length c2] 49)).alloc (.cells #[.slice Aw wl.length cw, .slice Ae er.length ce] 51)) := ⟨_, rfl⟩
  have hB : Below w.heap.size w Z := by rw [hZ]; exact ((Below.refl _ _).alloc (Nat.le_refl _) _).alloc (by simp) _
  have kB : Hid (Box8 Z s (.int .i64 P) (.int .i64 M) (.slice A ml.length c) (.int .i64 K) (.slice A1 pts.length c1) (.slice A2 mul.length c2) (.slice Aw wl.length cw) (.slice Ae er.length ce)) := by rw [hZ, hs]; exact Box8.new w _ _ _ _ _ _ _ _ _ _
  have hsW : s + 1 < Z.heap.size := by rw [hZ, hs]; simp
  replace hZ := Lib.hid hZ
  unfold LawEnd
  go_enter Try.func8, Try.ntmps8
  go_wp2_with (fail)
  rw [← hZ.out]
  simp only [← hs]
  replace hs := Lib.hid hs
  go_wp2_with (fail)
  (with_reducible refine (hAl _).out.mono ?_)
  rintro e w0 ⟨rfl, hb⟩
  replace hB := hB.trans (hb.mono hB.size)
  replace kB := Lib.hid (kB.out.keep hb hsW)
  replace hsW := Nat.lt_of_lt_of_le hsW hb.size
  obtain ⟨⟨q0, q1, q2, q3, q4, q5⟩, p0, p1⟩ := kB.out
  go_wp2_with (fail)
  (with_reducible refine (hFw _).out.mono ?_)
  rintro e w0' ⟨rfl, rfl⟩
  clear q0 q1 q2 q3 q4 q5 p0 p1
  cases hfw : fewB pts.length er.length with
  | false =>
    obtain ⟨⟨q0, q1, q2, q3, q4, q5⟩, p0, p1⟩ := kB.out
    go_wp2_with (fail)
    go_ret
    exact ⟨rfl, hB⟩
  | true =>
    obtain ⟨hf1, hf2⟩ := fewB_true hfw
    clear hfw
    obtain ⟨⟨q0, q1, q2, q3, q4, q5⟩, p0, p1⟩ := kB.out
    have hq := hC _ ((hr.below hB).more hB.size)
    go_wp2_with (fail)
    (with_reducible refine hq.out.mono ?_)
    rintro e w1 ⟨rfl, hb⟩
    clear hq
    clear q0 q1 q2 q3 q4 q5 p0 p1
    replace hB := hB.trans (hb.mono hB.size)
    replace kB := Lib.hid (kB.out.keep hb hsW)
    replace hsW := Nat.lt_of_lt_of_le hsW hb.size
    obtain ⟨⟨q0, q1, q2, q3, q4, q5⟩, p0, p1⟩ := kB.out
    go_wp2_with (fail)
    go_ret
    exact ⟨rfl, hB⟩

set_option maxRecDepth 100000 in
set_option maxHeartbeats 16000000 in
theorem shiftsL_good (F : FD) (K : Int) (pts mul : List Int) (A A1 A2 : Option Addr) (c c1 c2 : Nat) (xl : List Int) (Ax : Option Addr) (cx : Nat) (wl er : List Int) (Aw Ae : Option Addr) (cw ce : Nat) (w : World) (hr : Rd w w.heap.size A (modL F.toDesc)) (hb : Good F.p F.m (modL F.toDesc)) (h1 : pts.length ≤ c1 ∧ c1 ≤ maxLen) (h2 : mul.length ≤ c2 ∧ c2 ≤ maxLen) (hr1 : Rd w w.heap.size A1 pts) (hr2 : Rd w w.heap.size A2 mul) (_hxc : xl.length ≤ cx) (hxm : cx ≤ maxLen) (hrx : Rd w w.heap.size Ax xl) (hwl : wl.length ≤ maxLen) (_hel : er.length ≤ maxLen) (hrw : Rd w w.heap.size Aw wl) (hre : Rd w w.heap.size Ae er) :
    Calls Try.prog 8 #[.agg #[.int .i64 F.p, .int .i64 F.m, .slice A F.mod.length c, .int .i64 K, .slice A1 pts.length c1, .slice A2 mul.length c2], .slice Ax xl.length cx, .agg #[.slice Aw wl.length cw, .slice Ae er.length ce]] w (LawEnd w) := by
  have hAl := fun W => Lib.hid (alive39_any W)
  have hFw := fun W => Lib.hid (few39_any pts.length er.length A1 Ae c1 ce W)
  have hC := fun W a b d => Lib.hid (Chk18_D F.toDesc K pts mul A A1 A2 c c1 c2 W a hb b d (Nat.le_trans h2.1 h2.2))
  have hRv := fun W a b d => Lib.hid (Received39_any F.toDesc wl er pts.length A Aw Ae c cw ce W a b hwl d)
  have hGr := fun W a b d e f g => gGRS_D F.toDesc K pts mul A A1 A2 c c1 c2 wl er Aw Ae cw ce W a hb b d h1.1 h1.2 (Nat.le_trans h2.1 h2.2) e f hwl g
  replace h1 := Lib.hid h1
  replace h2 := Lib.hid h2
  have hgd := Lib.hid hb
  clear hb
  obtain ⟨s, hs⟩ : ∃ s, s = w.heap.size := ⟨_, rfl⟩
  obtain ⟨Z, hZ⟩ : ∃ Z, Z = ((w.alloc (.cells #[.int .i64 F.p, .int .i64 F.m, .slice A F.mod.length c, .int .i64 K, .slice A1 pts.length c1, .slice A2 mul.length c2] 49)).alloc (.cells #[.slice Aw wl.length cw, .slice Ae er.length ce] 51)) := ⟨_, rfl⟩
  have hB : Below w.heap.size w Z := by rw [hZ]; exact ((Below.refl _ _).alloc (Nat.le_refl _) _).alloc (by simp) _
  have kB : Hid (Box8 Z s (.int .i64 F.p) (.int .i64 F.m) (.slice A F.mod.length c) (.int .i64 K) (.slice A1 pts.length c1) (.slice A2 mul.length c2) (.slice Aw wl.length cw) (.slice Ae er.length ce)) := by rw [hZ, hs]; exact Box8.new w _ _ _ _ _ _ _ _ _ _
  have hsW : s + 1 < Z.heap.size := by rw [hZ, hs]; simp
  replace hZ := Lib.hid hZ
  unfold LawEnd
  go_enter Try.func8, Try.ntmps8
  go_wp2_with (fail)
  rw [← hZ.out]
  simp only [← hs]
  replace hs := Lib.hid hs
  go_wp2_with (fail)
  (with_reducible refine (hAl _).out.mono ?_)
  rintro e w0 ⟨rfl, hb⟩
  replace hB := hB.trans (hb.mono hB.size)
  replace kB := Lib.hid (kB.out.keep hb hsW)
  replace hsW := Nat.lt_of_lt_of_le hsW hb.size
  obtain ⟨⟨q0, q1, q2, q3, q4, q5⟩, p0, p1⟩ := kB.out
  go_wp2_with (fail)
  (with_reducible refine (hFw _).out.mono ?_)
  rintro e w0' ⟨rfl, rfl⟩
  clear q0 q1 q2 q3 q4 q5 p0 p1
  cases hfw : fewB pts.length er.length with
  | false =>
    obtain ⟨⟨q0, q1, q2, q3, q4, q5⟩, p0, p1⟩ := kB.out
    go_wp2_with (fail)
    go_ret
    exact ⟨rfl, hB⟩
  | true =>
    obtain ⟨hf1, hf2⟩ := fewB_true hfw
    clear hfw
    obtain ⟨⟨q0, q1, q2, q3, q4, q5⟩, p0, p1⟩ := kB.out
    have hq := hC _ ((hr.below hB).more hB.size) ((hr1.below hB).more hB.size) ((hr2.below hB).more hB.size)
    go_wp2_with (fail)
    (with_reducible refine hq.out.mono ?_)
    rintro e w1 ⟨rfl, hb⟩
    clear hq
    clear q0 q1 q2 q3 q4 q5 p0 p1
    replace hB := hB.trans (hb.mono hB.size)
    replace kB := Lib.hid (kB.out.keep hb hsW)
    replace hsW := Nat.lt_of_lt_of_le hsW hb.size
    by_cases hz : gchkD F.toDesc K pts mul = 0
    rotate_left
    · have hzb : (gchkD F.toDesc K pts mul != 0) = true := by rw [bne_iff_ne]; exact hz
      clear hz
      obtain ⟨⟨q0, q1, q2, q3, q4, q5⟩, p0, p1⟩ := kB.out
      go_wp2_with (fail)
      go_ret
      exact ⟨rfl, hB⟩
    rw [hz]
    replace hz := Lib.hid hz
    have hzG := hz
    clear hz
    have hEl := fun W a => Lib.hid (Elems18_any F.toDesc xl K 3 A Ax c cx W a (Nat.le_trans _hxc hxm))
    obtain ⟨⟨q0, q1, q2, q3, q4, q5⟩, p0, p1⟩ := kB.out
    have hq := hEl _ ((hrx.below hB).more hB.size)
    go_wp2_with (fail)
    (with_reducible refine hq.out.mono ?_)
    rintro e w2 ⟨rfl, hb⟩
    clear hq
    clear q0 q1 q2 q3 q4 q5 p0 p1
    replace hB := hB.trans (hb.mono hB.size)
    replace kB := Lib.hid (kB.out.keep hb hsW)
    replace hsW := Nat.lt_of_lt_of_le hsW hb.size
    by_cases hz : elErr F.toDesc xl K 3 = 0
    rotate_left
    · have hzb : (elErr F.toDesc xl K 3 != 0) = true := by rw [bne_iff_ne]; exact hz
      clear hz
      obtain ⟨⟨q0, q1, q2, q3, q4, q5⟩, p0, p1⟩ := kB.out
      go_wp2_with (fail)
      go_ret
      exact ⟨rfl, hB⟩
    rw [hz]
    have hxe : (xl.length : Int) = K ∧ elB F.toDesc xl = true := by
      unfold elErr at hz
      by_cases g1 : (xl.length : Int) ≠ K
      · rw [if_pos g1] at hz; cases hz
      rw [if_neg g1] at hz
      cases h : elB F.toDesc xl with
      | true => exact ⟨by omega, rfl⟩
      | false => rw [if_pos h] at hz; cases hz
    clear hz
    obtain ⟨⟨q0, q1, q2, q3, q4, q5⟩, p0, p1⟩ := kB.out
    have hq := hRv _ ((hrw.below hB).more hB.size) ((hre.below hB).more hB.size) (by omega)
    go_wp2_with (fail)
    (with_reducible refine hq.out.mono ?_)
    rintro e w3 ⟨rfl, hb⟩
    clear hq
    clear q0 q1 q2 q3 q4 q5 p0 p1
    replace hB := hB.trans (hb.mono hB.size)
    replace kB := Lib.hid (kB.out.keep hb hsW)
    replace hsW := Nat.lt_of_lt_of_le hsW hb.size
    by_cases hz : recErr F.toDesc wl pts.length er = 0
    rotate_left
    · have hzb : (recErr F.toDesc wl pts.length er != 0) = true := by rw [bne_iff_ne]; exact hz
      clear hz
      obtain ⟨⟨q0, q1, q2, q3, q4, q5⟩, p0, p1⟩ := kB.out
      go_wp2_with (fail)
      go_ret
      exact ⟨rfl, hB⟩
    rw [hz]
    have hzr := Lib.hid hz
    clear hz
    have hE0 : Hid (decErr F.toDesc K pts mul wl er = 0) := (if_neg (fun h => h hzG.out) : decErr F.toDesc K pts mul wl er = _).trans hzr.out
    obtain ⟨hp1, hp64, hlen, -, -, -, -, hK0, hKn⟩ := gchkD_zero hzG.out
    obtain ⟨hwn, helw, hrg, hnd⟩ := recErr_zero hzr.out
    obtain ⟨kn, rfl⟩ : ∃ kn : Nat, K = kn := ⟨K.toNat, by omega⟩
    have hxl : xl.length = kn := by have := hxe.1; omega
    obtain ⟨cl, hcl⟩ : ∃ cl, cl = wordL F.toDesc pts mul xl := ⟨_, rfl⟩
    have hclL : cl.length = pts.length := by rw [hcl, wordL_length]
    obtain ⟨ps, hps⟩ : ∃ ps, ps = plusL F.toDesc pts.length wl cl := ⟨_, rfl⟩
    have hpsl : ps.length = pts.length := by rw [hps, plusL_length]
    have hWd := fun W a b d e => Word18_any F.toDesc kn pts mul xl A A1 A2 Ax c c1 c2 cx W a b d e hlen hp64 (Nat.le_trans _hxc hxm)
    unfold Gives at hWd
    rw [wordL_length, ← hcl] at hWd
    have hE1 : decErr F.toDesc (kn : Int) pts mul ps er = 0 := (if_neg (fun h => h hzG.out) : decErr F.toDesc (kn : Int) pts mul ps er = _).trans (recErr_ok hpsl (by rw [hps]; exact plusL_elB _ _ _ _) hrg hnd)
    have hPl := fun A' W a b => Plus39_any F.toDesc pts.length wl cl hp64 hwn hclL A Aw A' c cw pts.length W a b
    unfold Gives at hPl
    rw [plusL_length, ← hps] at hPl
    have hPl2 := fun la A' A2' c' h W a b => Plus39_any F.toDesc pts.length la cl hp64 h hclL A A' A2' c c' pts.length W a b
    unfold Gives at hPl2
    simp only [plusL_length] at hPl2
    have hres := fun ec ec' la lb la' lb' h h' => decres_shift (F := F) (kn := kn) (mul := mul) (ec := ec) (ec' := ec') (la := la) (lb := lb) (la' := la') (lb' := lb') hzG.out hwn helw hrg hnd (m0 := xl) (Nat.le_of_eq hxl) h h'
    rw [← hcl, ← hps] at hres
    have hG1 := fun W a b d e f g => (hGr W a b d e f g).mono fun _ _ hp => hp.form2 hE0.out
    have hG2 := fun A' c' W a b d e f g => (gGRS_D F.toDesc kn pts mul A A1 A2 c c1 c2 ps er A' Ae c' ce W a hgd.out b d h1.out.1 h1.out.2 (Nat.le_trans h2.out.1 h2.out.2) e f (by rw [hpsl]; unfold maxLen; omega) g).mono fun _ _ hp => hp.form2 hE1
    rw [hwn] at hG1 kB ⊢
    rw [hpsl] at hG2
    replace hWd := fun W a b d e => Lib.hid (hWd W a b d e)
    replace hPl := fun A' W a b => Lib.hid (hPl A' W a b)
    replace hPl2 := Lib.hid hPl2
    replace hG1 := fun W a b d e f g => Lib.hid (hG1 W a b d e f g)
    replace hG2 := fun A' c' W a b d e f g => Lib.hid (hG2 A' c' W a b d e f g)
    replace hres := Lib.hid hres
    replace hlen := Lib.hid hlen
    replace hwn := Lib.hid hwn
    replace hxl := Lib.hid hxl
    replace hcl := Lib.hid hcl
    replace hclL := Lib.hid hclL
    replace hps := Lib.hid hps
    replace hpsl := Lib.hid hpsl
    clear hGr hC hRv hAl hFw hxe hrg hnd helw hEl
    obtain ⟨⟨q0, q1, q2, q3, q4, q5⟩, p0, p1⟩ := kB.out
    have hq := hWd _ ((hr.below hB).more hB.size) ((hr1.below hB).more hB.size) ((hr2.below hB).more hB.size) ((hrx.below hB).more hB.size)
    go_wp2_with (fail)
    (with_reducible refine hq.out.mono ?_)
    rintro e w4 ⟨gc, rfl, -, hib, hb⟩
    clear hq
    clear q0 q1 q2 q3 q4 q5 p0 p1
    replace hB := hB.trans (hb.mono hB.size)
    replace kB := Lib.hid (kB.out.keep hb hsW)
    replace hsW := Nat.lt_of_lt_of_le hsW hb.size
    have hrc := hib.rd
    clear hib
    obtain ⟨⟨q0, q1, q2, q3, q4, q5⟩, p0, p1⟩ := kB.out
    have hq := hG1 _ ((hr.below hB).more hB.size) ((hr1.below hB).more hB.size) ((hr2.below hB).more hB.size) ((hrw.below hB).more hB.size) ((hre.below hB).more hB.size) (by omega)
    go_wp2_with (fail)
    (with_reducible refine hq.out.mono ?_)
    rintro e w5 ⟨hb, Aa1, ca1, Ab1, cb1, ec1, la1, lb1, rfl, hres1, hra1, hrb1, -, -⟩
    clear hq
    clear q0 q1 q2 q3 q4 q5 p0 p1
    replace hB := hB.trans (hb.mono hB.size)
    replace kB := Lib.hid (kB.out.keep hb hsW)
    replace hsW := Nat.lt_of_lt_of_le hsW hb.size
    replace hrc := (hrc.below hb).more hb.size
    replace hres1 := Lib.hid hres1
    obtain ⟨na1, hna1⟩ : ∃ na1, na1 = la1.length := ⟨_, rfl⟩
    obtain ⟨nb1, hnb1⟩ : ∃ nb1, nb1 = lb1.length := ⟨_, rfl⟩
    rw [← hna1, ← hnb1]
    replace hna1 := Lib.hid hna1
    replace hnb1 := Lib.hid hnb1
    obtain ⟨Y1, hY1⟩ : ∃ Y, Y = w5.alloc (.cells #[.slice Aa1 na1 ca1, .slice Ab1 nb1 cb1] 54) := ⟨_, rfl⟩
    have hbY : Below w5.heap.size w5 Y1 := by rw [hY1]; exact (Below.refl _ _).alloc (Nat.le_refl _) _
    obtain ⟨bd1, hbd1⟩ : ∃ bd, bd = w5.heap.size := ⟨_, rfl⟩
    have d1 := Lib.hid (show Duo Y1 bd1 (.slice Aa1 na1 ca1) (.slice Ab1 nb1 cb1) from by rw [hY1, hbd1]; exact Duo.new w5 _ _ _)
    have d1l : bd1 < Y1.heap.size := by rw [hY1, hbd1]; simp
    replace hB := hB.trans (hbY.mono hB.size)
    replace kB := Lib.hid (kB.out.keep hbY hsW)
    replace hsW := Nat.lt_of_lt_of_le hsW hbY.size
    replace hrc := (hrc.below hbY).more hbY.size
    replace hra1 := (hra1.below hbY).more hbY.size
    replace hrb1 := (hrb1.below hbY).more hbY.size
    obtain ⟨L, hL⟩ : ∃ L, L = Y1.heap.size := ⟨_, rfl⟩
    have hsL : s + 1 < L := by rw [hL]; exact hsW
    have d1L : bd1 < L := by rw [hL]; exact d1l
    have hrY : Hid (∀ (A' : Option Addr) (l' : List Int), Rd w w.heap.size A' l' → Rd Y1 L A' l') := fun A' l' h => by rw [hL]; exact (h.below hB).more hB.size
    have hrcL : Rd Y1 L (some ⟨gc, 0, none⟩) cl := by rw [hL]; exact hrc
    have hra1L : Rd Y1 L Aa1 la1 := by rw [hL]; exact hra1
    have hrb1L : Rd Y1 L Ab1 lb1 := by rw [hL]; exact hrb1
    have hbL := Lib.hid (show Below L Y1 Y1.drew from (Below.refl _ _).drew)
    have hLe : L ≤ Y1.drew.heap.size := by rw [hL]; exact Nat.le_refl _
    have hwL : w.heap.size ≤ L := by rw [hL]; exact hB.size
    clear hrc hra1 hrb1
    replace hL := Lib.hid hL
    replace hY1 := Lib.hid hY1
    go_wp2_with (fail)
    rw [← hY1.out]
    simp only [← hbd1]
    replace hbd1 := Lib.hid hbd1
    have cB := fun W (h : Below L Y1 W) => Lib.hid (kB.out.keep h hsL)
    refine wp_region_held_drew (S := fun w' => (w'.cell? ⟨s, 0, none⟩ = some (.int .i64 F.p) ∧ w'.cell? ⟨s, 1, none⟩ = some (.int .i64 F.m) ∧ w'.cell? ⟨s, 2, none⟩ = some (.slice A F.mod.length c) ∧ w'.cell? ⟨s, 3, none⟩ = some (.int .i64 (kn : Int)) ∧ w'.cell? ⟨s, 4, none⟩ = some (.slice A1 pts.length c1) ∧ w'.cell? ⟨s, 5, none⟩ = some (.slice A2 mul.length c2)) ∧ w'.cell? ⟨s + 1, 0, none⟩ = some (.slice Aw pts.length cw) ∧ w'.cell? ⟨s + 1, 1, none⟩ = some (.slice Ae er.length ce)) (by kernel_rfl) (by (try dsimp only); exact (cB _ hbL.out).out) (fun hHeld => ?_)
    revert hbL hLe hHeld
    generalize Y1.drew = wq
    intro hbL hLe hHeld
    refine wpAnyH_take (i := 0) (oi := ⟨_, _, _, _, _, _⟩) (v := ?_) rfl (by kernel_rfl) (by kernel_rfl) (by kernel_rfl) (fun _ _ _ h => h) (Or.inl ⟨by rfl, ?_⟩) (by assumption) ?_
    rotate_left
    · intro w hSw; (try dsimp only at hSw); go_simp; try with_reducible rfl
    try simp only [Act.put, List.setIfInBounds_toArray, List.set_cons_zero, List.set_cons_succ]
    refine wpAnyH_take (i := 1) (oi := ⟨_, _, _, _, _, _⟩) (v := ?_) rfl (by kernel_rfl) (by kernel_rfl) (by kernel_rfl) (fun _ _ _ h => h) (Or.inl ⟨by rfl, ?_⟩) (by assumption) ?_
    rotate_left
    · intro w hSw; (try dsimp only at hSw); go_simp; try with_reducible rfl
    try simp only [Act.put, List.setIfInBounds_toArray, List.set_cons_zero, List.set_cons_succ]
    refine wpAnyH_take (i := 2) (oi := ⟨_, _, _, _, _, _⟩) (v := ?_) rfl (by kernel_rfl) (by kernel_rfl) (by kernel_rfl) (fun _ _ _ h => h) (Or.inl ⟨by rfl, ?_⟩) (by assumption) ?_
    rotate_left
    · intro w hSw; (try dsimp only at hSw); go_simp; try with_reducible rfl
    try simp only [Act.put, List.setIfInBounds_toArray, List.set_cons_zero, List.set_cons_succ]
    refine wpAnyH_take (i := 3) (oi := ⟨_, _, _, _, _, _⟩) (v := ?_) rfl (by kernel_rfl) (by kernel_rfl) (by kernel_rfl) (fun _ _ _ h => h) (Or.inl ⟨by rfl, ?_⟩) (by assumption) ?_
    rotate_left
    · intro w hSw; (try dsimp only at hSw); go_simp; try with_reducible rfl
    try simp only [Act.put, List.setIfInBounds_toArray, List.set_cons_zero, List.set_cons_succ]
    refine wpAnyH_take (i := 4) (oi := ⟨_, _, _, _, _, _⟩) (v := ?_) rfl (by kernel_rfl) (by kernel_rfl) (by kernel_rfl) (fun _ _ _ h => h) (Or.inl ⟨by rfl, ?_⟩) (by assumption) ?_
    rotate_left
    · intro w hSw; (try dsimp only at hSw); go_simp; try with_reducible rfl
    try simp only [Act.put, List.setIfInBounds_toArray, List.set_cons_zero, List.set_cons_succ]
    refine wpAnyH_take (i := 5) (oi := ⟨_, _, _, _, _, _⟩) (v := ?_) rfl (by kernel_rfl) (by kernel_rfl) (by kernel_rfl) (fun _ _ _ h => h) (Or.inl ⟨by rfl, ?_⟩) (by assumption) ?_
    rotate_left
    · intro w hSw; (try dsimp only at hSw); go_simp; try with_reducible rfl
    try simp only [Act.put, List.setIfInBounds_toArray, List.set_cons_zero, List.set_cons_succ]
    refine wpAnyH_take (i := 7) (oi := ⟨_, _, _, _, _, _⟩) (v := ?_) rfl (by kernel_rfl) (by kernel_rfl) (by kernel_rfl) (fun _ _ _ h => h) (Or.inl ⟨by rfl, ?_⟩) (by assumption) ?_
    rotate_left
    · intro w hSw; (try dsimp only at hSw); go_simp; try with_reducible rfl
    try simp only [Act.put, List.setIfInBounds_toArray, List.set_cons_zero, List.set_cons_succ]
    refine wpAnyH_take (i := 8) (oi := ⟨_, _, _, _, _, _⟩) (v := ?_) rfl (by kernel_rfl) (by kernel_rfl) (by kernel_rfl) (fun _ _ _ h => h) (Or.inl ⟨by rfl, ?_⟩) (by assumption) ?_
    rotate_left
    · intro w hSw; (try dsimp only at hSw); go_simp; try with_reducible rfl
    try simp only [Act.put, List.setIfInBounds_toArray, List.set_cons_zero, List.set_cons_succ]
    refine wpAnyH_ready (rs := [6, 13]) (by kernel_rfl) (by simp) ?_
    refine AllReadyH.cons (o := ⟨_, _, _, _, _, _⟩) rfl (fun K hK => ?_) ?_
    · go_simp
      go_at_call 40
      (with_reducible refine (hPl _ _ (((hrY.out _ _ hrw).below hbL.out).more hLe) ((hrcL.below hbL.out).more hLe)).out.mono ?_)
      rintro e wq ⟨gp, rfl, -, hib, hb⟩
      have hrp := hib.rd
      clear hib
      try replace d2 := Lib.hid (d2.out.keep hb d2l)
      try replace d2l := Nat.lt_of_lt_of_le d2l hb.size
      replace hbL := Lib.hid (hbL.out.trans (hb.mono hLe))
      replace hLe := Nat.le_trans hLe hb.size
      go_wp2_with (fail)
      refine hK.out _ _ (by (try dsimp only); exact (cB _ hbL.out).out) (fun hHeld => ?_)
      clear hK K
      try simp only [Act.put, List.setIfInBounds_toArray, List.set_cons_zero, List.set_cons_succ]
      refine wpAnyH_ready (rs := [9, 13]) (by kernel_rfl) (by simp) ?_
      refine AllReadyH.cons (o := ⟨_, _, _, _, _, _⟩) rfl (fun K hK => ?_) ?_
      · go_simp
        go_at_call 31
        (with_reducible refine (hG2 _ _ _ (((hrY.out _ _ hr).below hbL.out).more hLe) (((hrY.out _ _ hr1).below hbL.out).more hLe) (((hrY.out _ _ hr2).below hbL.out).more hLe) hrp (((hrY.out _ _ hre).below hbL.out).more hLe) (by omega)).out.mono ?_)
        rintro e wq ⟨hb, Aa2, ca2, Ab2, cb2, ec2, la2, lb2, rfl, hres2, hra2, hrb2, hga2, hgb2⟩
        clear hrp
        replace hres2 := Lib.hid hres2
        obtain ⟨na2, hna2⟩ : ∃ na2, na2 = la2.length := ⟨_, rfl⟩
        obtain ⟨nb2, hnb2⟩ : ∃ nb2, nb2 = lb2.length := ⟨_, rfl⟩
        rw [← hna2, ← hnb2]
        replace hna2 := Lib.hid hna2
        replace hnb2 := Lib.hid hnb2
        try have hqa2 : Hid (∀ a, Aa2 = some a → bd2 < a.block) := fun a e => Nat.lt_of_lt_of_le d2l (hga2 a e)
        try have hqb2 : Hid (∀ a, Ab2 = some a → bd2 < a.block) := fun a e => Nat.lt_of_lt_of_le d2l (hgb2 a e)
        clear hga2 hgb2
        try replace d2 := Lib.hid (d2.out.keep hb d2l)
        try replace d2l := Nat.lt_of_lt_of_le d2l hb.size
        replace hbL := Lib.hid (hbL.out.trans (hb.mono hLe))
        replace hLe := Nat.le_trans hLe hb.size
        go_wp2_with (fail)
        refine hK.out _ _ (by (try dsimp only); exact (cB _ hbL.out).out) (fun hHeld => ?_)
        clear hK K
        try simp only [Act.put, List.setIfInBounds_toArray, List.set_cons_zero, List.set_cons_succ]
        refine wpAnyH_take (i := 10) (oi := ⟨_, _, _, _, _, _⟩) (v := ?_) rfl (by kernel_rfl) (by kernel_rfl) (by kernel_rfl) (fun _ _ _ h => h) (Or.inl ⟨by rfl, ?_⟩) (by assumption) ?_
        rotate_left
        · intro w hSw; (try dsimp only at hSw); go_simp; try with_reducible rfl
        try simp only [Act.put, List.setIfInBounds_toArray, List.set_cons_zero, List.set_cons_succ]
        refine wpAnyH_take (i := 11) (oi := ⟨_, _, _, _, _, _⟩) (v := ?_) rfl (by kernel_rfl) (by kernel_rfl) (by kernel_rfl) (fun _ _ _ h => h) (Or.inl ⟨by rfl, ?_⟩) (by assumption) ?_
        rotate_left
        · intro w hSw; (try dsimp only at hSw); go_simp; try with_reducible rfl
        try simp only [Act.put, List.setIfInBounds_toArray, List.set_cons_zero, List.set_cons_succ]
        refine wpAnyH_take (i := 12) (oi := ⟨_, _, _, _, _, _⟩) (v := ?_) rfl (by kernel_rfl) (by kernel_rfl) (by kernel_rfl) (fun _ _ _ h => h) (Or.inl ⟨by rfl, ?_⟩) (by assumption) ?_
        rotate_left
        · intro w hSw; (try dsimp only at hSw); go_simp; try with_reducible rfl
        try simp only [Act.put, List.setIfInBounds_toArray, List.set_cons_zero, List.set_cons_succ]
        refine wpAnyH_ready (rs := [13]) (by kernel_rfl) (by simp) ?_
        refine AllReadyH.cons (o := ⟨_, _, _, _, _, _⟩) rfl (fun K hK => ?_) AllReadyH.nil
        go_simp
        obtain ⟨wq, bd2, hV, hbd2, hbV, hbW, hLb, d2, d2l⟩ := allocStep hbL.out hLe (.slice none 0 0) (.slice none 0 0) 54
        rw [← hV]
        simp only [← hbd2]
        try replace hrp := (hrp.below hbW).more hbW.size
        try replace hra2 := (show Rd wq bd2 Aa2 la2 from by rw [hbd2]; exact hra2.below hbW)
        try replace hrb2 := (show Rd wq bd2 Ab2 lb2 from by rw [hbd2]; exact hrb2.below hbW)
        replace hbL := Lib.hid hbV
        replace hLe := Nat.le_trans hLb (Nat.le_of_lt d2l)
        replace d2 := Lib.hid d2
        replace hV := Lib.hid hV
        replace hbd2 := Lib.hid hbd2
        clear hbV hbW
        refine hK.out _ _ (by (try dsimp only); exact (cB _ hbL.out).out) (fun hHeld => ?_)
        clear hK K
        try simp only [Act.put, List.setIfInBounds_toArray, List.set_cons_zero, List.set_cons_succ]
        refine wpAnyH_ready (rs := [14]) (by kernel_rfl) (by simp) ?_
        refine AllReadyH.cons (o := ⟨_, _, _, _, _, _⟩) rfl (fun K hK => ?_) AllReadyH.nil
        obtain ⟨f0, f1, f2, f3⟩ := d2.out
        go_simp
        clear f0 f1 f2 f3
        have d3 := Lib.hid (Duo.put d2.out (.slice Aa2 na2 ca2) (.slice Ab2 nb2 cb2))
        have hbS : Below bd2 wq ((wq.setCell ⟨bd2, 0, none⟩ (.slice Aa2 na2 ca2)).setCell ⟨bd2, 1, none⟩ (.slice Ab2 nb2 cb2)) := setTwo _ _
        have hra3 : Rd ((wq.setCell ⟨bd2, 0, none⟩ (.slice Aa2 na2 ca2)).setCell ⟨bd2, 1, none⟩ (.slice Ab2 nb2 cb2)) ((wq.setCell ⟨bd2, 0, none⟩ (.slice Aa2 na2 ca2)).setCell ⟨bd2, 1, none⟩ (.slice Ab2 nb2 cb2)).heap.size Aa2 la2 := by first | exact ((hra2.apart hqa2.out _ _).more (Nat.le_of_eq (size_put _ _ _ _).symm)) | exact (hra2.below (setTwo _ _)).more (by rw [size_put]; exact Nat.le_of_lt d2l)
        have hrb3 : Rd ((wq.setCell ⟨bd2, 0, none⟩ (.slice Aa2 na2 ca2)).setCell ⟨bd2, 1, none⟩ (.slice Ab2 nb2 cb2)) ((wq.setCell ⟨bd2, 0, none⟩ (.slice Aa2 na2 ca2)).setCell ⟨bd2, 1, none⟩ (.slice Ab2 nb2 cb2)).heap.size Ab2 lb2 := by first | exact ((hrb2.apart hqb2.out _ _).more (Nat.le_of_eq (size_put _ _ _ _).symm)) | exact (hrb2.below (setTwo _ _)).more (by rw [size_put]; exact Nat.le_of_lt d2l)
        have d3l : bd2 < ((wq.setCell ⟨bd2, 0, none⟩ (.slice Aa2 na2 ca2)).setCell ⟨bd2, 1, none⟩ (.slice Ab2 nb2 cb2)).heap.size := by rw [size_put]; exact d2l
        replace hLe : L ≤ ((wq.setCell ⟨bd2, 0, none⟩ (.slice Aa2 na2 ca2)).setCell ⟨bd2, 1, none⟩ (.slice Ab2 nb2 cb2)).heap.size := by rw [size_put]; exact hLe
        obtain ⟨wx, hwx⟩ : ∃ x, x = (wq.setCell ⟨bd2, 0, none⟩ (.slice Aa2 na2 ca2)).setCell ⟨bd2, 1, none⟩ (.slice Ab2 nb2 cb2) := ⟨_, rfl⟩
        rw [← hwx] at d3 hbS hra3 hrb3 d3l hLe ⊢
        replace hwx := Lib.hid hwx
        replace hbL := Lib.hid (hbL.out.trans (hbS.mono hLb))
        clear hbS hra2 hrb2 d2 d2l
        refine hK.out _ _ (by (try dsimp only); exact (cB _ hbL.out).out) (fun hHeld => ?_)
        clear hK K
        try simp only [Act.put, List.setIfInBounds_toArray, List.set_cons_zero, List.set_cons_succ]
        refine wpAnyH_take (i := 15) (oi := ⟨_, _, _, _, _, _⟩) (v := ?_) rfl (by kernel_rfl) (by kernel_rfl) (by kernel_rfl) (fun _ _ _ h => h) (Or.inl ⟨by rfl, ?_⟩) (by assumption) ?_
        rotate_left
        · intro w hSw; (try dsimp only at hSw); go_simp; try with_reducible rfl
        try simp only [Act.put, List.setIfInBounds_toArray, List.set_cons_zero, List.set_cons_succ]
        refine wpAnyH_done (by kernel_rfl) ?_ _
        obtain ⟨e1, e2⟩ := hres.out _ _ _ _ _ _ hres1.out hres2.out
        subst e1
        obtain ⟨g1, g2, g3⟩ := decres_len hres1.out
        have hBx : Below w.heap.size w wx := hB.trans (hbL.out.mono hwL)
        clear hG1 hG2 hPl hWd
        rcases g3 with g3 | ⟨g3, g4⟩
        · subst g3
          go_wp2_with (fail)
          go_ret
          exact ⟨rfl, hBx⟩
        · subst g3
          obtain ⟨e3, e4, e5⟩ := e2 rfl
          have n1 : na1 = pts.length := hna1.out.trans e3
          have n2 : na2 = pts.length := by rw [hna2.out, e4, plusL_length]
          have n3 : nb2 = nb1 := by rw [hnb2.out, e5, hnb1.out]
          rw [e4] at hra3
          rw [e5] at hrb3
          have hS1 := fun Ap W a b => same39_refl (plusL F.toDesc pts.length la1 cl) Aa2 Ap ca2 pts.length W a b (by rw [plusL_length]; omega)
          simp only [plusL_length] at hS1
          have hS2 := fun W a b => same39_refl lb1 Ab1 Ab2 cb1 cb2 W a b (by omega)
          rw [← hnb1.out] at hS2
          have hP2 := fun W a b => hPl2.out la1 Aa1 (some ⟨gc, 0, none⟩) ca1 e3 W a b
          replace hP2 := fun W a b => Lib.hid (hP2 W a b)
          replace hS1 := fun Ap W a b => Lib.hid (hS1 Ap W a b)
          replace hS2 := fun W a b => Lib.hid (hS2 W a b)
          subst n1 n2 n3
          have cX := fun W (h : Below wx.heap.size wx W) => Lib.hid (show ((W.cell? ⟨s, 0, none⟩ = some (.int .i64 F.p) ∧ W.cell? ⟨s, 1, none⟩ = some (.int .i64 F.m) ∧ W.cell? ⟨s, 2, none⟩ = some (.slice A F.mod.length c) ∧ W.cell? ⟨s, 3, none⟩ = some (.int .i64 (kn : Int)) ∧ W.cell? ⟨s, 4, none⟩ = some (.slice A1 pts.length c1) ∧ W.cell? ⟨s, 5, none⟩ = some (.slice A2 mul.length c2)) ∧ W.cell? ⟨s + 1, 0, none⟩ = some (.slice Aw pts.length cw) ∧ W.cell? ⟨s + 1, 1, none⟩ = some (.slice Ae er.length ce)) ∧ W.cell? ⟨bd1, 0, none⟩ = some (.slice Aa1 pts.length ca1) ∧ W.cell? ⟨bd1, 1, none⟩ = some (.slice Ab1 nb2 cb1) ∧ W.cell? ⟨bd2, 0, none⟩ = some (.slice Aa2 pts.length ca2) ∧ W.cell? ⟨bd2, 1, none⟩ = some (.slice Ab2 nb2 cb2) from ⟨((cB wx hbL.out).out.keep h (Nat.lt_of_lt_of_le hsL hLe)), (d1.out.keep (hbL.out.trans (h.mono hLe)) d1L).1, (d1.out.keep (hbL.out.trans (h.mono hLe)) d1L).2.1, (d3.out.keep h d3l).1, (d3.out.keep h d3l).2.1⟩)
          have hra1x := (hra1L.below hbL.out).more hLe
          have hrb1x := (hrb1L.below hbL.out).more hLe
          have hrcx := (hrcL.below hbL.out).more hLe
          obtain ⟨hb0, hl0⟩ : Below wx.heap.size wx wx.drew ∧ wx.heap.size ≤ wx.drew.heap.size := ⟨(Below.refl _ _).drew, Nat.le_refl _⟩
          replace hb0 := Lib.hid hb0
          clear e2 e3 e4 e5 hres1 hres2 hres cB kB d1 d3 hrY hrcL hra1L hrb1L hbL hPl2 hna1 hna2 hnb1 hnb2 g1 g2 hB
          go_wp2_with (fail)
          refine wp_region_held_drew (S := fun w' => ((w'.cell? ⟨s, 0, none⟩ = some (.int .i64 F.p) ∧ w'.cell? ⟨s, 1, none⟩ = some (.int .i64 F.m) ∧ w'.cell? ⟨s, 2, none⟩ = some (.slice A F.mod.length c) ∧ w'.cell? ⟨s, 3, none⟩ = some (.int .i64 (kn : Int)) ∧ w'.cell? ⟨s, 4, none⟩ = some (.slice A1 pts.length c1) ∧ w'.cell? ⟨s, 5, none⟩ = some (.slice A2 mul.length c2)) ∧ w'.cell? ⟨s + 1, 0, none⟩ = some (.slice Aw pts.length cw) ∧ w'.cell? ⟨s + 1, 1, none⟩ = some (.slice Ae er.length ce)) ∧ w'.cell? ⟨bd1, 0, none⟩ = some (.slice Aa1 pts.length ca1) ∧ w'.cell? ⟨bd1, 1, none⟩ = some (.slice Ab1 nb2 cb1) ∧ w'.cell? ⟨bd2, 0, none⟩ = some (.slice Aa2 pts.length ca2) ∧ w'.cell? ⟨bd2, 1, none⟩ = some (.slice Ab2 nb2 cb2)) (by kernel_rfl) (by (try dsimp only); exact (cX _ hb0.out).out) (fun hHeld => ?_)
          revert hb0 hl0 hHeld
          generalize wx.drew = wq
          intro hl0 hb0 hHeld
          refine wpAnyH_take (i := 0) (oi := ⟨_, _, _, _, _, _⟩) (v := ?_) rfl (by kernel_rfl) (by kernel_rfl) (by kernel_rfl) (fun _ _ _ h => h) (Or.inl ⟨by rfl, ?_⟩) (by assumption) ?_
          rotate_left
          · intro w hSw; (try dsimp only at hSw); go_simp; try with_reducible rfl
          try simp only [Act.put, List.setIfInBounds_toArray, List.set_cons_zero, List.set_cons_succ]
          refine wpAnyH_take (i := 1) (oi := ⟨_, _, _, _, _, _⟩) (v := ?_) rfl (by kernel_rfl) (by kernel_rfl) (by kernel_rfl) (fun _ _ _ h => h) (Or.inl ⟨by rfl, ?_⟩) (by assumption) ?_
          rotate_left
          · intro w hSw; (try dsimp only at hSw); go_simp; try with_reducible rfl
          try simp only [Act.put, List.setIfInBounds_toArray, List.set_cons_zero, List.set_cons_succ]
          refine wpAnyH_take (i := 2) (oi := ⟨_, _, _, _, _, _⟩) (v := ?_) rfl (by kernel_rfl) (by kernel_rfl) (by kernel_rfl) (fun _ _ _ h => h) (Or.inl ⟨by rfl, ?_⟩) (by assumption) ?_
          rotate_left
          · intro w hSw; (try dsimp only at hSw); go_simp; try with_reducible rfl
          try simp only [Act.put, List.setIfInBounds_toArray, List.set_cons_zero, List.set_cons_succ]
          refine wpAnyH_take (i := 3) (oi := ⟨_, _, _, _, _, _⟩) (v := ?_) rfl (by kernel_rfl) (by kernel_rfl) (by kernel_rfl) (fun _ _ _ h => h) (Or.inl ⟨by rfl, ?_⟩) (by assumption) ?_
          rotate_left
          · intro w hSw; (try dsimp only at hSw); go_simp; try with_reducible rfl
          try simp only [Act.put, List.setIfInBounds_toArray, List.set_cons_zero, List.set_cons_succ]
          refine wpAnyH_take (i := 4) (oi := ⟨_, _, _, _, _, _⟩) (v := ?_) rfl (by kernel_rfl) (by kernel_rfl) (by kernel_rfl) (fun _ _ _ h => h) (Or.inl ⟨by rfl, ?_⟩) (by assumption) ?_
          rotate_left
          · intro w hSw; (try dsimp only at hSw); go_simp; try with_reducible rfl
          try simp only [Act.put, List.setIfInBounds_toArray, List.set_cons_zero, List.set_cons_succ]
          refine wpAnyH_take (i := 5) (oi := ⟨_, _, _, _, _, _⟩) (v := ?_) rfl (by kernel_rfl) (by kernel_rfl) (by kernel_rfl) (fun _ _ _ h => h) (Or.inl ⟨by rfl, ?_⟩) (by assumption) ?_
          rotate_left
          · intro w hSw; (try dsimp only at hSw); go_simp; try with_reducible rfl
          try simp only [Act.put, List.setIfInBounds_toArray, List.set_cons_zero, List.set_cons_succ]
          refine wpAnyH_take (i := 6) (oi := ⟨_, _, _, _, _, _⟩) (v := ?_) rfl (by kernel_rfl) (by kernel_rfl) (by kernel_rfl) (fun _ _ _ h => h) (Or.inl ⟨by rfl, ?_⟩) (by assumption) ?_
          rotate_left
          · intro w hSw; (try dsimp only at hSw); go_simp; try with_reducible rfl
          try simp only [Act.put, List.setIfInBounds_toArray, List.set_cons_zero, List.set_cons_succ]
          refine wpAnyH_take (i := 7) (oi := ⟨_, _, _, _, _, _⟩) (v := ?_) rfl (by kernel_rfl) (by kernel_rfl) (by kernel_rfl) (fun _ _ _ h => h) (Or.inl ⟨by rfl, ?_⟩) (by assumption) ?_
          rotate_left
          · intro w hSw; (try dsimp only at hSw); go_simp; try with_reducible rfl
          try simp only [Act.put, List.setIfInBounds_toArray, List.set_cons_zero, List.set_cons_succ]
          refine wpAnyH_take (i := 8) (oi := ⟨_, _, _, _, _, _⟩) (v := ?_) rfl (by kernel_rfl) (by kernel_rfl) (by kernel_rfl) (fun _ _ _ h => h) (Or.inl ⟨by rfl, ?_⟩) (by assumption) ?_
          rotate_left
          · intro w hSw; (try dsimp only at hSw); go_simp; try with_reducible rfl
          try simp only [Act.put, List.setIfInBounds_toArray, List.set_cons_zero, List.set_cons_succ]
          refine wpAnyH_take (i := 9) (oi := ⟨_, _, _, _, _, _⟩) (v := ?_) rfl (by kernel_rfl) (by kernel_rfl) (by kernel_rfl) (fun _ _ _ h => h) (Or.inl ⟨by rfl, ?_⟩) (by assumption) ?_
          rotate_left
          · intro w hSw; (try dsimp only at hSw); go_simp; try with_reducible rfl
          try simp only [Act.put, List.setIfInBounds_toArray, List.set_cons_zero, List.set_cons_succ]
          refine wpAnyH_take (i := 10) (oi := ⟨_, _, _, _, _, _⟩) (v := ?_) rfl (by kernel_rfl) (by kernel_rfl) (by kernel_rfl) (fun _ _ _ h => h) (Or.inl ⟨by rfl, ?_⟩) (by assumption) ?_
          rotate_left
          · intro w hSw; (try dsimp only at hSw); go_simp; try with_reducible rfl
          try simp only [Act.put, List.setIfInBounds_toArray, List.set_cons_zero, List.set_cons_succ]
          refine wpAnyH_take (i := 11) (oi := ⟨_, _, _, _, _, _⟩) (v := ?_) rfl (by kernel_rfl) (by kernel_rfl) (by kernel_rfl) (fun _ _ _ h => h) (Or.inl ⟨by rfl, ?_⟩) (by assumption) ?_
          rotate_left
          · intro w hSw; (try dsimp only at hSw); go_simp; try with_reducible rfl
          try simp only [Act.put, List.setIfInBounds_toArray, List.set_cons_zero, List.set_cons_succ]
          refine wpAnyH_take (i := 12) (oi := ⟨_, _, _, _, _, _⟩) (v := ?_) rfl (by kernel_rfl) (by kernel_rfl) (by kernel_rfl) (fun _ _ _ h => h) (Or.inl ⟨by rfl, ?_⟩) (by assumption) ?_
          rotate_left
          · intro w hSw; (try dsimp only at hSw); go_simp; try with_reducible rfl
          try simp only [Act.put, List.setIfInBounds_toArray, List.set_cons_zero, List.set_cons_succ]
          refine wpAnyH_take (i := 13) (oi := ⟨_, _, _, _, _, _⟩) (v := ?_) rfl (by kernel_rfl) (by kernel_rfl) (by kernel_rfl) (fun _ _ _ h => h) (Or.inl ⟨by rfl, ?_⟩) (by assumption) ?_
          rotate_left
          · intro w hSw; (try dsimp only at hSw); go_simp; try with_reducible rfl
          try simp only [Act.put, List.setIfInBounds_toArray, List.set_cons_zero, List.set_cons_succ]
          refine wpAnyH_take (i := 14) (oi := ⟨_, _, _, _, _, _⟩) (v := ?_) rfl (by kernel_rfl) (by kernel_rfl) (by kernel_rfl) (fun _ _ _ h => h) (Or.inl ⟨by rfl, ?_⟩) (by assumption) ?_
          rotate_left
          · intro w hSw; (try dsimp only at hSw); go_simp; try with_reducible rfl
          try simp only [Act.put, List.setIfInBounds_toArray, List.set_cons_zero, List.set_cons_succ]
          refine wpAnyH_take (i := 15) (oi := ⟨_, _, _, _, _, _⟩) (v := ?_) rfl (by kernel_rfl) (by kernel_rfl) (by kernel_rfl) (fun _ _ _ h => h) (Or.inl ⟨by rfl, ?_⟩) (by assumption) ?_
          rotate_left
          · intro w hSw; (try dsimp only at hSw); go_simp; try with_reducible rfl
          try simp only [Act.put, List.setIfInBounds_toArray, List.set_cons_zero, List.set_cons_succ]
          refine wpAnyH_take (i := 16) (oi := ⟨_, _, _, _, _, _⟩) (v := ?_) rfl (by kernel_rfl) (by kernel_rfl) (by kernel_rfl) (fun _ _ _ h => h) (Or.inl ⟨by rfl, ?_⟩) (by assumption) ?_
          rotate_left
          · intro w hSw; (try dsimp only at hSw); go_simp; try with_reducible rfl
          try simp only [Act.put, List.setIfInBounds_toArray, List.set_cons_zero, List.set_cons_succ]
          refine wpAnyH_take (i := 17) (oi := ⟨_, _, _, _, _, _⟩) (v := ?_) rfl (by kernel_rfl) (by kernel_rfl) (by kernel_rfl) (fun _ _ _ h => h) (Or.inl ⟨by rfl, ?_⟩) (by assumption) ?_
          rotate_left
          · intro w hSw; (try dsimp only at hSw); go_simp; try with_reducible rfl
          try simp only [Act.put, List.setIfInBounds_toArray, List.set_cons_zero, List.set_cons_succ]
          refine wpAnyH_ready (rs := [18]) (by kernel_rfl) (by simp) ?_
          refine AllReadyH.cons (o := ⟨_, _, _, _, _, _⟩) rfl (fun K hK => ?_) AllReadyH.nil
          go_simp
          go_at_call 40
          (with_reducible refine (hP2 _ ((hra1x.below hb0.out).more hl0) ((hrcx.below hb0.out).more hl0)).out.mono ?_)
          rintro e wq ⟨gp2, rfl, -, hib, hb⟩
          have hrp := hib.rd
          clear hib
          replace hb0 := Lib.hid (hb0.out.trans (hb.mono hl0))
          replace hl0 := Nat.le_trans hl0 hb.size
          go_wp2_with (fail)
          refine hK.out _ _ (by (try dsimp only); exact (cX _ hb0.out).out) (fun hHeld => ?_)
          clear hK K
          try simp only [Act.put, List.setIfInBounds_toArray, List.set_cons_zero, List.set_cons_succ]
          refine wpAnyH_ready (rs := [19]) (by kernel_rfl) (by simp) ?_
          refine AllReadyH.cons (o := ⟨_, _, _, _, _, _⟩) rfl (fun K hK => ?_) AllReadyH.nil
          go_simp
          go_at_call 39
          (with_reducible refine (hS1 _ _ ((hra3.below hb0.out).more hl0) hrp).out.mono ?_)
          rintro e wq ⟨rfl, hb⟩
          replace hb0 := Lib.hid (hb0.out.trans (hb.mono hl0))
          replace hl0 := Nat.le_trans hl0 hb.size
          go_wp2_with (fail)
          refine hK.out _ _ (by (try dsimp only); exact (cX _ hb0.out).out) (fun hHeld => ?_)
          clear hK K
          try simp only [Act.put, List.setIfInBounds_toArray, List.set_cons_zero, List.set_cons_succ]
          refine wpAnyH_take (i := 20) (oi := ⟨_, _, _, _, _, _⟩) (v := ?_) rfl (by kernel_rfl) (by kernel_rfl) (by kernel_rfl) (fun _ _ _ h => h) (Or.inl ⟨by rfl, ?_⟩) (by assumption) ?_
          rotate_left
          · intro w hSw; (try dsimp only at hSw); go_simp; try with_reducible rfl
          try simp only [Act.put, List.setIfInBounds_toArray, List.set_cons_zero, List.set_cons_succ]
          refine wpAnyH_take (i := 21) (oi := ⟨_, _, _, _, _, _⟩) (v := ?_) rfl (by kernel_rfl) (by kernel_rfl) (by kernel_rfl) (fun _ _ _ h => h) (Or.inl ⟨by rfl, ?_⟩) (by assumption) ?_
          rotate_left
          · intro w hSw; (try dsimp only at hSw); go_simp; try with_reducible rfl
          try simp only [Act.put, List.setIfInBounds_toArray, List.set_cons_zero, List.set_cons_succ]
          refine wpAnyH_take (i := 22) (oi := ⟨_, _, _, _, _, _⟩) (v := ?_) rfl (by kernel_rfl) (by kernel_rfl) (by kernel_rfl) (fun _ _ _ h => h) (Or.inl ⟨by rfl, ?_⟩) (by assumption) ?_
          rotate_left
          · intro w hSw; (try dsimp only at hSw); go_simp; try with_reducible rfl
          try simp only [Act.put, List.setIfInBounds_toArray, List.set_cons_zero, List.set_cons_succ]
          refine wpAnyH_take (i := 23) (oi := ⟨_, _, _, _, _, _⟩) (v := ?_) rfl (by kernel_rfl) (by kernel_rfl) (by kernel_rfl) (fun _ _ _ h => h) (Or.inl ⟨by rfl, ?_⟩) (by assumption) ?_
          rotate_left
          · intro w hSw; (try dsimp only at hSw); go_simp; try with_reducible rfl
          try simp only [Act.put, List.setIfInBounds_toArray, List.set_cons_zero, List.set_cons_succ]
          refine wpAnyH_take (i := 24) (oi := ⟨_, _, _, _, _, _⟩) (v := ?_) rfl (by kernel_rfl) (by kernel_rfl) (by kernel_rfl) (fun _ _ _ h => h) (Or.inl ⟨by rfl, ?_⟩) (by assumption) ?_
          rotate_left
          · intro w hSw; (try dsimp only at hSw); go_simp; try with_reducible rfl
          try simp only [Act.put, List.setIfInBounds_toArray, List.set_cons_zero, List.set_cons_succ]
          refine wpAnyH_take (i := 25) (oi := ⟨_, _, _, _, _, _⟩) (v := ?_) rfl (by kernel_rfl) (by kernel_rfl) (by kernel_rfl) (fun _ _ _ h => h) (Or.inl ⟨by rfl, ?_⟩) (by assumption) ?_
          rotate_left
          · intro w hSw; (try dsimp only at hSw); go_simp; try with_reducible rfl
          try simp only [Act.put, List.setIfInBounds_toArray, List.set_cons_zero, List.set_cons_succ]
          refine wpAnyH_ready (rs := [26]) (by kernel_rfl) (by simp) ?_
          refine AllReadyH.cons (o := ⟨_, _, _, _, _, _⟩) rfl (fun K hK => ?_) AllReadyH.nil
          go_simp
          go_at_call 39
          (with_reducible refine (hS2 _ ((hrb1x.below hb0.out).more hl0) ((hrb3.below hb0.out).more hl0)).out.mono ?_)
          rintro e wq ⟨rfl, hb⟩
          replace hb0 := Lib.hid (hb0.out.trans (hb.mono hl0))
          replace hl0 := Nat.le_trans hl0 hb.size
          go_wp2_with (fail)
          refine hK.out _ _ (by (try dsimp only); exact (cX _ hb0.out).out) (fun hHeld => ?_)
          clear hK K
          try simp only [Act.put, List.setIfInBounds_toArray, List.set_cons_zero, List.set_cons_succ]
          refine wpAnyH_take (i := 27) (oi := ⟨_, _, _, _, _, _⟩) (v := ?_) rfl (by kernel_rfl) (by kernel_rfl) (by kernel_rfl) (fun _ _ _ h => h) (Or.inl ⟨by rfl, ?_⟩) (by assumption) ?_
          rotate_left
          · intro w hSw; (try dsimp only at hSw); go_simp; try with_reducible rfl
          try simp only [Act.put, List.setIfInBounds_toArray, List.set_cons_zero, List.set_cons_succ]
          refine wpAnyH_take (i := 28) (oi := ⟨_, _, _, _, _, _⟩) (v := ?_) rfl (by kernel_rfl) (by kernel_rfl) (by kernel_rfl) (fun _ _ _ h => h) (Or.inl ⟨by rfl, ?_⟩) (by assumption) ?_
          rotate_left
          · intro w hSw; (try dsimp only at hSw); go_simp; try with_reducible rfl
          try simp only [Act.put, List.setIfInBounds_toArray, List.set_cons_zero, List.set_cons_succ]
          refine wpAnyH_done (by kernel_rfl) ?_ _
          go_wp2_with (fail)
          go_ret
          exact ⟨rfl, hBx.trans (hb0.out.mono hBx.size)⟩
      refine AllReadyH.cons (o := ⟨_, _, _, _, _, _⟩) rfl (fun K hK => ?_) AllReadyH.nil
      go_simp
      obtain ⟨wq, bd2, hV, hbd2, hbV, hbW, hLb, d2, d2l⟩ := allocStep hbL.out hLe (.slice none 0 0) (.slice none 0 0) 54
      rw [← hV]
      simp only [← hbd2]
      try replace hrp := (hrp.below hbW).more hbW.size
      try replace hra2 := (show Rd wq bd2 Aa2 la2 from by rw [hbd2]; exact hra2.below hbW)
      try replace hrb2 := (show Rd wq bd2 Ab2 lb2 from by rw [hbd2]; exact hrb2.below hbW)
      replace hbL := Lib.hid hbV
      replace hLe := Nat.le_trans hLb (Nat.le_of_lt d2l)
      replace d2 := Lib.hid d2
      replace hV := Lib.hid hV
      replace hbd2 := Lib.hid hbd2
      clear hbV hbW
      refine hK.out _ _ (by (try dsimp only); exact (cB _ hbL.out).out) (fun hHeld => ?_)
      clear hK K
      try simp only [Act.put, List.setIfInBounds_toArray, List.set_cons_zero, List.set_cons_succ]
      refine wpAnyH_ready (rs := [9]) (by kernel_rfl) (by simp) ?_
      refine AllReadyH.cons (o := ⟨_, _, _, _, _, _⟩) rfl (fun K hK => ?_) AllReadyH.nil
      go_simp
      go_at_call 31
      (with_reducible refine (hG2 _ _ _ (((hrY.out _ _ hr).below hbL.out).more hLe) (((hrY.out _ _ hr1).below hbL.out).more hLe) (((hrY.out _ _ hr2).below hbL.out).more hLe) hrp (((hrY.out _ _ hre).below hbL.out).more hLe) (by omega)).out.mono ?_)
      rintro e wq ⟨hb, Aa2, ca2, Ab2, cb2, ec2, la2, lb2, rfl, hres2, hra2, hrb2, hga2, hgb2⟩
      clear hrp
      replace hres2 := Lib.hid hres2
      obtain ⟨na2, hna2⟩ : ∃ na2, na2 = la2.length := ⟨_, rfl⟩
      obtain ⟨nb2, hnb2⟩ : ∃ nb2, nb2 = lb2.length := ⟨_, rfl⟩
      rw [← hna2, ← hnb2]
      replace hna2 := Lib.hid hna2
      replace hnb2 := Lib.hid hnb2
      try have hqa2 : Hid (∀ a, Aa2 = some a → bd2 < a.block) := fun a e => Nat.lt_of_lt_of_le d2l (hga2 a e)
      try have hqb2 : Hid (∀ a, Ab2 = some a → bd2 < a.block) := fun a e => Nat.lt_of_lt_of_le d2l (hgb2 a e)
      clear hga2 hgb2
      try replace d2 := Lib.hid (d2.out.keep hb d2l)
      try replace d2l := Nat.lt_of_lt_of_le d2l hb.size
      replace hbL := Lib.hid (hbL.out.trans (hb.mono hLe))
      replace hLe := Nat.le_trans hLe hb.size
      go_wp2_with (fail)
      refine hK.out _ _ (by (try dsimp only); exact (cB _ hbL.out).out) (fun hHeld => ?_)
      clear hK K
      try simp only [Act.put, List.setIfInBounds_toArray, List.set_cons_zero, List.set_cons_succ]
      refine wpAnyH_take (i := 10) (oi := ⟨_, _, _, _, _, _⟩) (v := ?_) rfl (by kernel_rfl) (by kernel_rfl) (by kernel_rfl) (fun _ _ _ h => h) (Or.inl ⟨by rfl, ?_⟩) (by assumption) ?_
      rotate_left
      · intro w hSw; (try dsimp only at hSw); go_simp; try with_reducible rfl
      try simp only [Act.put, List.setIfInBounds_toArray, List.set_cons_zero, List.set_cons_succ]
      refine wpAnyH_take (i := 11) (oi := ⟨_, _, _, _, _, _⟩) (v := ?_) rfl (by kernel_rfl) (by kernel_rfl) (by kernel_rfl) (fun _ _ _ h => h) (Or.inl ⟨by rfl, ?_⟩) (by assumption) ?_
      rotate_left
      · intro w hSw; (try dsimp only at hSw); go_simp; try with_reducible rfl
      try simp only [Act.put, List.setIfInBounds_toArray, List.set_cons_zero, List.set_cons_succ]
      refine wpAnyH_take (i := 12) (oi := ⟨_, _, _, _, _, _⟩) (v := ?_) rfl (by kernel_rfl) (by kernel_rfl) (by kernel_rfl) (fun _ _ _ h => h) (Or.inl ⟨by rfl, ?_⟩) (by assumption) ?_
      rotate_left
      · intro w hSw; (try dsimp only at hSw); go_simp; try with_reducible rfl
      try simp only [Act.put, List.setIfInBounds_toArray, List.set_cons_zero, List.set_cons_succ]
      refine wpAnyH_ready (rs := [14]) (by kernel_rfl) (by simp) ?_
      refine AllReadyH.cons (o := ⟨_, _, _, _, _, _⟩) rfl (fun K hK => ?_) AllReadyH.nil
      obtain ⟨f0, f1, f2, f3⟩ := d2.out
      go_simp
      clear f0 f1 f2 f3
      have d3 := Lib.hid (Duo.put d2.out (.slice Aa2 na2 ca2) (.slice Ab2 nb2 cb2))
      have hbS : Below bd2 wq ((wq.setCell ⟨bd2, 0, none⟩ (.slice Aa2 na2 ca2)).setCell ⟨bd2, 1, none⟩ (.slice Ab2 nb2 cb2)) := setTwo _ _
      have hra3 : Rd ((wq.setCell ⟨bd2, 0, none⟩ (.slice Aa2 na2 ca2)).setCell ⟨bd2, 1, none⟩ (.slice Ab2 nb2 cb2)) ((wq.setCell ⟨bd2, 0, none⟩ (.slice Aa2 na2 ca2)).setCell ⟨bd2, 1, none⟩ (.slice Ab2 nb2 cb2)).heap.size Aa2 la2 := by first | exact ((hra2.apart hqa2.out _ _).more (Nat.le_of_eq (size_put _ _ _ _).symm)) | exact (hra2.below (setTwo _ _)).more (by rw [size_put]; exact Nat.le_of_lt d2l)
      have hrb3 : Rd ((wq.setCell ⟨bd2, 0, none⟩ (.slice Aa2 na2 ca2)).setCell ⟨bd2, 1, none⟩ (.slice Ab2 nb2 cb2)) ((wq.setCell ⟨bd2, 0, none⟩ (.slice Aa2 na2 ca2)).setCell ⟨bd2, 1, none⟩ (.slice Ab2 nb2 cb2)).heap.size Ab2 lb2 := by first | exact ((hrb2.apart hqb2.out _ _).more (Nat.le_of_eq (size_put _ _ _ _).symm)) | exact (hrb2.below (setTwo _ _)).more (by rw [size_put]; exact Nat.le_of_lt d2l)
      have d3l : bd2 < ((wq.setCell ⟨bd2, 0, none⟩ (.slice Aa2 na2 ca2)).setCell ⟨bd2, 1, none⟩ (.slice Ab2 nb2 cb2)).heap.size := by rw [size_put]; exact d2l
      replace hLe : L ≤ ((wq.setCell ⟨bd2, 0, none⟩ (.slice Aa2 na2 ca2)).setCell ⟨bd2, 1, none⟩ (.slice Ab2 nb2 cb2)).heap.size := by rw [size_put]; exact hLe
      obtain ⟨wx, hwx⟩ : ∃ x, x = (wq.setCell ⟨bd2, 0, none⟩ (.slice Aa2 na2 ca2)).setCell ⟨bd2, 1, none⟩ (.slice Ab2 nb2 cb2) := ⟨_, rfl⟩
      rw [← hwx] at d3 hbS hra3 hrb3 d3l hLe ⊢
      replace hwx := Lib.hid hwx
      replace hbL := Lib.hid (hbL.out.trans (hbS.mono hLb))
      clear hbS hra2 hrb2 d2 d2l
      refine hK.out _ _ (by (try dsimp only); exact (cB _ hbL.out).out) (fun hHeld => ?_)
      clear hK K
      try simp only [Act.put, List.setIfInBounds_toArray, List.set_cons_zero, List.set_cons_succ]
      refine wpAnyH_take (i := 15) (oi := ⟨_, _, _, _, _, _⟩) (v := ?_) rfl (by kernel_rfl) (by kernel_rfl) (by kernel_rfl) (fun _ _ _ h => h) (Or.inl ⟨by rfl, ?_⟩) (by assumption) ?_
      rotate_left
      · intro w hSw; (try dsimp only at hSw); go_simp; try with_reducible rfl
      try simp only [Act.put, List.setIfInBounds_toArray, List.set_cons_zero, List.set_cons_succ]
      refine wpAnyH_done (by kernel_rfl) ?_ _
      obtain ⟨e1, e2⟩ := hres.out _ _ _ _ _ _ hres1.out hres2.out
      subst e1
      obtain ⟨g1, g2, g3⟩ := decres_len hres1.out
      have hBx : Below w.heap.size w wx := hB.trans (hbL.out.mono hwL)
      clear hG1 hG2 hPl hWd
      rcases g3 with g3 | ⟨g3, g4⟩
      · subst g3
        go_wp2_with (fail)
        go_ret
        exact ⟨rfl, hBx⟩
      · subst g3
        obtain ⟨e3, e4, e5⟩ := e2 rfl
        have n1 : na1 = pts.length := hna1.out.trans e3
        have n2 : na2 = pts.length := by rw [hna2.out, e4, plusL_length]
        have n3 : nb2 = nb1 := by rw [hnb2.out, e5, hnb1.out]
        rw [e4] at hra3
        rw [e5] at hrb3
        have hS1 := fun Ap W a b => same39_refl (plusL F.toDesc pts.length la1 cl) Aa2 Ap ca2 pts.length W a b (by rw [plusL_length]; omega)
        simp only [plusL_length] at hS1
        have hS2 := fun W a b => same39_refl lb1 Ab1 Ab2 cb1 cb2 W a b (by omega)
        rw [← hnb1.out] at hS2
        have hP2 := fun W a b => hPl2.out la1 Aa1 (some ⟨gc, 0, none⟩) ca1 e3 W a b
        replace hP2 := fun W a b => Lib.hid (hP2 W a b)
        replace hS1 := fun Ap W a b => Lib.hid (hS1 Ap W a b)
        replace hS2 := fun W a b => Lib.hid (hS2 W a b)
        subst n1 n2 n3
        have cX := fun W (h : Below wx.heap.size wx W) => Lib.hid (show ((W.cell? ⟨s, 0, none⟩ = some (.int .i64 F.p) ∧ W.cell? ⟨s, 1, none⟩ = some (.int .i64 F.m) ∧ W.cell? ⟨s, 2, none⟩ = some (.slice A F.mod.length c) ∧ W.cell? ⟨s, 3, none⟩ = some (.int .i64 (kn : Int)) ∧ W.cell? ⟨s, 4, none⟩ = some (.slice A1 pts.length c1) ∧ W.cell? ⟨s, 5, none⟩ = some (.slice A2 mul.length c2)) ∧ W.cell? ⟨s + 1, 0, none⟩ = some (.slice Aw pts.length cw) ∧ W.cell? ⟨s + 1, 1, none⟩ = some (.slice Ae er.length ce)) ∧ W.cell? ⟨bd1, 0, none⟩ = some (.slice Aa1 pts.length ca1) ∧ W.cell? ⟨bd1, 1, none⟩ = some (.slice Ab1 nb2 cb1) ∧ W.cell? ⟨bd2, 0, none⟩ = some (.slice Aa2 pts.length ca2) ∧ W.cell? ⟨bd2, 1, none⟩ = some (.slice Ab2 nb2 cb2) from ⟨((cB wx hbL.out).out.keep h (Nat.lt_of_lt_of_le hsL hLe)), (d1.out.keep (hbL.out.trans (h.mono hLe)) d1L).1, (d1.out.keep (hbL.out.trans (h.mono hLe)) d1L).2.1, (d3.out.keep h d3l).1, (d3.out.keep h d3l).2.1⟩)
        have hra1x := (hra1L.below hbL.out).more hLe
        have hrb1x := (hrb1L.below hbL.out).more hLe
        have hrcx := (hrcL.below hbL.out).more hLe
        obtain ⟨hb0, hl0⟩ : Below wx.heap.size wx wx.drew ∧ wx.heap.size ≤ wx.drew.heap.size := ⟨(Below.refl _ _).drew, Nat.le_refl _⟩
        replace hb0 := Lib.hid hb0
        clear e2 e3 e4 e5 hres1 hres2 hres cB kB d1 d3 hrY hrcL hra1L hrb1L hbL hPl2 hna1 hna2 hnb1 hnb2 g1 g2 hB
        go_wp2_with (fail)
        refine wp_region_held_drew (S := fun w' => ((w'.cell? ⟨s, 0, none⟩ = some (.int .i64 F.p) ∧ w'.cell? ⟨s, 1, none⟩ = some (.int .i64 F.m) ∧ w'.cell? ⟨s, 2, none⟩ = some (.slice A F.mod.length c) ∧ w'.cell? ⟨s, 3, none⟩ = some (.int .i64 (kn : Int)) ∧ w'.cell? ⟨s, 4, none⟩ = some (.slice A1 pts.length c1) ∧ w'.cell? ⟨s, 5, none⟩ = some (.slice A2 mul.length c2)) ∧ w'.cell? ⟨s + 1, 0, none⟩ = some (.slice Aw pts.length cw) ∧ w'.cell? ⟨s + 1, 1, none⟩ = some (.slice Ae er.length ce)) ∧ w'.cell? ⟨bd1, 0, none⟩ = some (.slice Aa1 pts.length ca1) ∧ w'.cell? ⟨bd1, 1, none⟩ = some (.slice Ab1 nb2 cb1) ∧ w'.cell? ⟨bd2, 0, none⟩ = some (.slice Aa2 pts.length ca2) ∧ w'.cell? ⟨bd2, 1, none⟩ = some (.slice Ab2 nb2 cb2)) (by kernel_rfl) (by (try dsimp only); exact (cX _ hb0.out).out) (fun hHeld => ?_)
        revert hb0 hl0 hHeld
        generalize wx.drew = wq
        intro hl0 hb0 hHeld
        refine wpAnyH_take (i := 0) (oi := ⟨_, _, _, _, _, _⟩) (v := ?_) rfl (by kernel_rfl) (by kernel_rfl) (by kernel_rfl) (fun _ _ _ h => h) (Or.inl ⟨by rfl, ?_⟩) (by assumption) ?_
        rotate_left
        · intro w hSw; (try dsimp only at hSw); go_simp; try with_reducible rfl
        try simp only [Act.put, List.setIfInBounds_toArray, List.set_cons_zero, List.set_cons_succ]
        refine wpAnyH_take (i := 1) (oi := ⟨_, _, _, _, _, _⟩) (v := ?_) rfl (by kernel_rfl) (by kernel_rfl) (by kernel_rfl) (fun _ _ _ h => h) (Or.inl ⟨by rfl, ?_⟩) (by assumption) ?_
        rotate_left
        · intro w hSw; (try dsimp only at hSw); go_simp; try with_reducible rfl
        try simp only [Act.put, List.setIfInBounds_toArray, List.set_cons_zero, List.set_cons_succ]
        refine wpAnyH_take (i := 2) (oi := ⟨_, _, _, _, _, _⟩) (v := ?_) rfl (by kernel_rfl) (by kernel_rfl) (by kernel_rfl) (fun _ _ _ h => h) (Or.inl ⟨by rfl, ?_⟩) (by assumption) ?_
        rotate_left
        · intro w hSw; (try dsimp only at hSw); go_simp; try with_reducible rfl
        try simp only [Act.put, List.setIfInBounds_toArray, List.set_cons_zero, List.set_cons_succ]
        refine wpAnyH_take (i := 3) (oi := ⟨_, _, _, _, _, _⟩) (v := ?_) rfl (by kernel_rfl) (by kernel_rfl) (by kernel_rfl) (fun _ _ _ h => h) (Or.inl ⟨by rfl, ?_⟩) (by assumption) ?_
        rotate_left
        · intro w hSw; (try dsimp only at hSw); go_simp; try with_reducible rfl
        try simp only [Act.put, List.setIfInBounds_toArray, List.set_cons_zero, List.set_cons_succ]
        refine wpAnyH_take (i := 4) (oi := ⟨_, _, _, _, _, _⟩) (v := ?_) rfl (by kernel_rfl) (by kernel_rfl) (by kernel_rfl) (fun _ _ _ h => h) (Or.inl ⟨by rfl, ?_⟩) (by assumption) ?_
        rotate_left
        · intro w hSw; (try dsimp only at hSw); go_simp; try with_reducible rfl
        try simp only [Act.put, List.setIfInBounds_toArray, List.set_cons_zero, List.set_cons_succ]
        refine wpAnyH_take (i := 5) (oi := ⟨_, _, _, _, _, _⟩) (v := ?_) rfl (by kernel_rfl) (by kernel_rfl) (by kernel_rfl) (fun _ _ _ h => h) (Or.inl ⟨by rfl, ?_⟩) (by assumption) ?_
        rotate_left
        · intro w hSw; (try dsimp only at hSw); go_simp; try with_reducible rfl
        try simp only [Act.put, List.setIfInBounds_toArray, List.set_cons_zero, List.set_cons_succ]
        refine wpAnyH_take (i := 6) (oi := ⟨_, _, _, _, _, _⟩) (v := ?_) rfl (by kernel_rfl) (by kernel_rfl) (by kernel_rfl) (fun _ _ _ h => h) (Or.inl ⟨by rfl, ?_⟩) (by assumption) ?_
        rotate_left
        · intro w hSw; (try dsimp only at hSw); go_simp; try with_reducible rfl
        try simp only [Act.put, List.setIfInBounds_toArray, List.set_cons_zero, List.set_cons_succ]
        refine wpAnyH_take (i := 7) (oi := ⟨_, _, _, _, _, _⟩) (v := ?_) rfl (by kernel_rfl) (by kernel_rfl) (by kernel_rfl) (fun _ _ _ h => h) (Or.inl ⟨by rfl, ?_⟩) (by assumption) ?_
        rotate_left
        · intro w hSw; (try dsimp only at hSw); go_simp; try with_reducible rfl
        try simp only [Act.put, List.setIfInBounds_toArray, List.set_cons_zero, List.set_cons_succ]
        refine wpAnyH_take (i := 8) (oi := ⟨_, _, _, _, _, _⟩) (v := ?_) rfl (by kernel_rfl) (by kernel_rfl) (by kernel_rfl) (fun _ _ _ h => h) (Or.inl ⟨by rfl, ?_⟩) (by assumption) ?_
        rotate_left
        · intro w hSw; (try dsimp only at hSw); go_simp; try with_reducible rfl
        try simp only [Act.put, List.setIfInBounds_toArray, List.set_cons_zero, List.set_cons_succ]
        refine wpAnyH_take (i := 9) (oi := ⟨_, _, _, _, _, _⟩) (v := ?_) rfl (by kernel_rfl) (by kernel_rfl) (by kernel_rfl) (fun _ _ _ h => h) (Or.inl ⟨by rfl, ?_⟩) (by assumption) ?_
        rotate_left
        · intro w hSw; (try dsimp only at hSw); go_simp; try with_reducible rfl
        try simp only [Act.put, List.setIfInBounds_toArray, List.set_cons_zero, List.set_cons_succ]
        refine wpAnyH_take (i := 10) (oi := ⟨_, _, _, _, _, _⟩) (v := ?_) rfl (by kernel_rfl) (by kernel_rfl) (by kernel_rfl) (fun _ _ _ h => h) (Or.inl ⟨by rfl, ?_⟩) (by assumption) ?_
        rotate_left
        · intro w hSw; (try dsimp only at hSw); go_simp; try with_reducible rfl
        try simp only [Act.put, List.setIfInBounds_toArray, List.set_cons_zero, List.set_cons_succ]
        refine wpAnyH_take (i := 11) (oi := ⟨_, _, _, _, _, _⟩) (v := ?_) rfl (by kernel_rfl) (by kernel_rfl) (by kernel_rfl) (fun _ _ _ h => h) (Or.inl ⟨by rfl, ?_⟩) (by assumption) ?_
        rotate_left
        · intro w hSw; (try dsimp only at hSw); go_simp; try with_reducible rfl
        try simp only [Act.put, List.setIfInBounds_toArray, List.set_cons_zero, List.set_cons_succ]
        refine wpAnyH_take (i := 12) (oi := ⟨_, _, _, _, _, _⟩) (v := ?_) rfl (by kernel_rfl) (by kernel_rfl) (by kernel_rfl) (fun _ _ _ h => h) (Or.inl ⟨by rfl, ?_⟩) (by assumption) ?_
        rotate_left
        · intro w hSw; (try dsimp only at hSw); go_simp; try with_reducible rfl
        try simp only [Act.put, List.setIfInBounds_toArray, List.set_cons_zero, List.set_cons_succ]
        refine wpAnyH_take (i := 13) (oi := ⟨_, _, _, _, _, _⟩) (v := ?_) rfl (by kernel_rfl) (by kernel_rfl) (by kernel_rfl) (fun _ _ _ h => h) (Or.inl ⟨by rfl, ?_⟩) (by assumption) ?_
        rotate_left
        · intro w hSw; (try dsimp only at hSw); go_simp; try with_reducible rfl
        try simp only [Act.put, List.setIfInBounds_toArray, List.set_cons_zero, List.set_cons_succ]
        refine wpAnyH_take (i := 14) (oi := ⟨_, _, _, _, _, _⟩) (v := ?_) rfl (by kernel_rfl) (by kernel_rfl) (by kernel_rfl) (fun _ _ _ h => h) (Or.inl ⟨by rfl, ?_⟩) (by assumption) ?_
        rotate_left
        · intro w hSw; (try dsimp only at hSw); go_simp; try with_reducible rfl
        try simp only [Act.put, List.setIfInBounds_toArray, List.set_cons_zero, List.set_cons_succ]
        refine wpAnyH_take (i := 15) (oi := ⟨_, _, _, _, _, _⟩) (v := ?_) rfl (by kernel_rfl) (by kernel_rfl) (by kernel_rfl) (fun _ _ _ h => h) (Or.inl ⟨by rfl, ?_⟩) (by assumption) ?_
        rotate_left
        · intro w hSw; (try dsimp only at hSw); go_simp; try with_reducible rfl
        try simp only [Act.put, List.setIfInBounds_toArray, List.set_cons_zero, List.set_cons_succ]
        refine wpAnyH_take (i := 16) (oi := ⟨_, _, _, _, _, _⟩) (v := ?_) rfl (by kernel_rfl) (by kernel_rfl) (by kernel_rfl) (fun _ _ _ h => h) (Or.inl ⟨by rfl, ?_⟩) (by assumption) ?_
        rotate_left
        · intro w hSw; (try dsimp only at hSw); go_simp; try with_reducible rfl
        try simp only [Act.put, List.setIfInBounds_toArray, List.set_cons_zero, List.set_cons_succ]
        refine wpAnyH_take (i := 17) (oi := ⟨_, _, _, _, _, _⟩) (v := ?_) rfl (by kernel_rfl) (by kernel_rfl) (by kernel_rfl) (fun _ _ _ h => h) (Or.inl ⟨by rfl, ?_⟩) (by assumption) ?_
        rotate_left
        · intro w hSw; (try dsimp only at hSw); go_simp; try with_reducible rfl
        try simp only [Act.put, List.setIfInBounds_toArray, List.set_cons_zero, List.set_cons_succ]
        refine wpAnyH_ready (rs := [18]) (by kernel_rfl) (by simp) ?_
        refine AllReadyH.cons (o := ⟨_, _, _, _, _, _⟩) rfl (fun K hK => ?_) AllReadyH.nil
        go_simp
        go_at_call 40
        (with_reducible refine (hP2 _ ((hra1x.below hb0.out).more hl0) ((hrcx.below hb0.out).more hl0)).out.mono ?_)
        rintro e wq ⟨gp2, rfl, -, hib, hb⟩
        have hrp := hib.rd
        clear hib
        replace hb0 := Lib.hid (hb0.out.trans (hb.mono hl0))
        replace hl0 := Nat.le_trans hl0 hb.size
        go_wp2_with (fail)
        refine hK.out _ _ (by (try dsimp only); exact (cX _ hb0.out).out) (fun hHeld => ?_)
        clear hK K
        try simp only [Act.put, List.setIfInBounds_toArray, List.set_cons_zero, List.set_cons_succ]
        refine wpAnyH_ready (rs := [19]) (by kernel_rfl) (by simp) ?_
        refine AllReadyH.cons (o := ⟨_, _, _, _, _, _⟩) rfl (fun K hK => ?_) AllReadyH.nil
        go_simp
        go_at_call 39
        (with_reducible refine (hS1 _ _ ((hra3.below hb0.out).more hl0) hrp).out.mono ?_)
        rintro e wq ⟨rfl, hb⟩
        replace hb0 := Lib.hid (hb0.out.trans (hb.mono hl0))
        replace hl0 := Nat.le_trans hl0 hb.size
        go_wp2_with (fail)
        refine hK.out _ _ (by (try dsimp only); exact (cX _ hb0.out).out) (fun hHeld => ?_)
        clear hK K
        try simp only [Act.put, List.setIfInBounds_toArray, List.set_cons_zero, List.set_cons_succ]
        refine wpAnyH_take (i := 20) (oi := ⟨_, _, _, _, _, _⟩) (v := ?_) rfl (by kernel_rfl) (by kernel_rfl) (by kernel_rfl) (fun _ _ _ h => h) (Or.inl ⟨by rfl, ?_⟩) (by assumption) ?_
        rotate_left
        · intro w hSw; (try dsimp only at hSw); go_simp; try with_reducible rfl
        try simp only [Act.put, List.setIfInBounds_toArray, List.set_cons_zero, List.set_cons_succ]
        refine wpAnyH_take (i := 21) (oi := ⟨_, _, _, _, _, _⟩) (v := ?_) rfl (by kernel_rfl) (by kernel_rfl) (by kernel_rfl) (fun _ _ _ h => h) (Or.inl ⟨by rfl, ?_⟩) (by assumption) ?_
        rotate_left
        · intro w hSw; (try dsimp only at hSw); go_simp; try with_reducible rfl
        try simp only [Act.put, List.setIfInBounds_toArray, List.set_cons_zero, List.set_cons_succ]
        refine wpAnyH_take (i := 22) (oi := ⟨_, _, _, _, _, _⟩) (v := ?_) rfl (by kernel_rfl) (by kernel_rfl) (by kernel_rfl) (fun _ _ _ h => h) (Or.inl ⟨by rfl, ?_⟩) (by assumption) ?_
        rotate_left
        · intro w hSw; (try dsimp only at hSw); go_simp; try with_reducible rfl
        try simp only [Act.put, List.setIfInBounds_toArray, List.set_cons_zero, List.set_cons_succ]
        refine wpAnyH_take (i := 23) (oi := ⟨_, _, _, _, _, _⟩) (v := ?_) rfl (by kernel_rfl) (by kernel_rfl) (by kernel_rfl) (fun _ _ _ h => h) (Or.inl ⟨by rfl, ?_⟩) (by assumption) ?_
        rotate_left
        · intro w hSw; (try dsimp only at hSw); go_simp; try with_reducible rfl
        try simp only [Act.put, List.setIfInBounds_toArray, List.set_cons_zero, List.set_cons_succ]
        refine wpAnyH_take (i := 24) (oi := ⟨_, _, _, _, _, _⟩) (v := ?_) rfl (by kernel_rfl) (by kernel_rfl) (by kernel_rfl) (fun _ _ _ h => h) (Or.inl ⟨by rfl, ?_⟩) (by assumption) ?_
        rotate_left
        · intro w hSw; (try dsimp only at hSw); go_simp; try with_reducible rfl
        try simp only [Act.put, List.setIfInBounds_toArray, List.set_cons_zero, List.set_cons_succ]
        refine wpAnyH_take (i := 25) (oi := ⟨_, _, _, _, _, _⟩) (v := ?_) rfl (by kernel_rfl) (by kernel_rfl) (by kernel_rfl) (fun _ _ _ h => h) (Or.inl ⟨by rfl, ?_⟩) (by assumption) ?_
        rotate_left
        · intro w hSw; (try dsimp only at hSw); go_simp; try with_reducible rfl
        try simp only [Act.put, List.setIfInBounds_toArray, List.set_cons_zero, List.set_cons_succ]
        refine wpAnyH_ready (rs := [26]) (by kernel_rfl) (by simp) ?_
        refine AllReadyH.cons (o := ⟨_, _, _, _, _, _⟩) rfl (fun K hK => ?_) AllReadyH.nil
        go_simp
        go_at_call 39
        (with_reducible refine (hS2 _ ((hrb1x.below hb0.out).more hl0) ((hrb3.below hb0.out).more hl0)).out.mono ?_)
        rintro e wq ⟨rfl, hb⟩
        replace hb0 := Lib.hid (hb0.out.trans (hb.mono hl0))
        replace hl0 := Nat.le_trans hl0 hb.size
        go_wp2_with (fail)
        refine hK.out _ _ (by (try dsimp only); exact (cX _ hb0.out).out) (fun hHeld => ?_)
        clear hK K
        try simp only [Act.put, List.setIfInBounds_toArray, List.set_cons_zero, List.set_cons_succ]
        refine wpAnyH_take (i := 27) (oi := ⟨_, _, _, _, _, _⟩) (v := ?_) rfl (by kernel_rfl) (by kernel_rfl) (by kernel_rfl) (fun _ _ _ h => h) (Or.inl ⟨by rfl, ?_⟩) (by assumption) ?_
        rotate_left
        · intro w hSw; (try dsimp only at hSw); go_simp; try with_reducible rfl
        try simp only [Act.put, List.setIfInBounds_toArray, List.set_cons_zero, List.set_cons_succ]
        refine wpAnyH_take (i := 28) (oi := ⟨_, _, _, _, _, _⟩) (v := ?_) rfl (by kernel_rfl) (by kernel_rfl) (by kernel_rfl) (fun _ _ _ h => h) (Or.inl ⟨by rfl, ?_⟩) (by assumption) ?_
        rotate_left
        · intro w hSw; (try dsimp only at hSw); go_simp; try with_reducible rfl
        try simp only [Act.put, List.setIfInBounds_toArray, List.set_cons_zero, List.set_cons_succ]
        refine wpAnyH_done (by kernel_rfl) ?_ _
        go_wp2_with (fail)
        go_ret
        exact ⟨rfl, hBx.trans (hb0.out.mono hBx.size)⟩
    refine AllReadyH.cons (o := ⟨_, _, _, _, _, _⟩) rfl (fun K hK => ?_) AllReadyH.nil
    go_simp
    obtain ⟨wq, bd2, hV, hbd2, hbV, hbW, hLb, d2, d2l⟩ := allocStep hbL.out hLe (.slice none 0 0) (.slice none 0 0) 54
    rw [← hV]
    simp only [← hbd2]
    try replace hrp := (hrp.below hbW).more hbW.size
    try replace hra2 := (show Rd wq bd2 Aa2 la2 from by rw [hbd2]; exact hra2.below hbW)
    try replace hrb2 := (show Rd wq bd2 Ab2 lb2 from by rw [hbd2]; exact hrb2.below hbW)
    replace hbL := Lib.hid hbV
    replace hLe := Nat.le_trans hLb (Nat.le_of_lt d2l)
    replace d2 := Lib.hid d2
    replace hV := Lib.hid hV
    replace hbd2 := Lib.hid hbd2
    clear hbV hbW
    refine hK.out _ _ (by (try dsimp only); exact (cB _ hbL.out).out) (fun hHeld => ?_)
    clear hK K
    try simp only [Act.put, List.setIfInBounds_toArray, List.set_cons_zero, List.set_cons_succ]
    refine wpAnyH_ready (rs := [6]) (by kernel_rfl) (by simp) ?_
    refine AllReadyH.cons (o := ⟨_, _, _, _, _, _⟩) rfl (fun K hK => ?_) AllReadyH.nil
    go_simp
    go_at_call 40
    (with_reducible refine (hPl _ _ (((hrY.out _ _ hrw).below hbL.out).more hLe) ((hrcL.below hbL.out).more hLe)).out.mono ?_)
    rintro e wq ⟨gp, rfl, -, hib, hb⟩
    have hrp := hib.rd
    clear hib
    try replace d2 := Lib.hid (d2.out.keep hb d2l)
    try replace d2l := Nat.lt_of_lt_of_le d2l hb.size
    replace hbL := Lib.hid (hbL.out.trans (hb.mono hLe))
    replace hLe := Nat.le_trans hLe hb.size
    go_wp2_with (fail)
    refine hK.out _ _ (by (try dsimp only); exact (cB _ hbL.out).out) (fun hHeld => ?_)
    clear hK K
    try simp only [Act.put, List.setIfInBounds_toArray, List.set_cons_zero, List.set_cons_succ]
    refine wpAnyH_ready (rs := [9]) (by kernel_rfl) (by simp) ?_
    refine AllReadyH.cons (o := ⟨_, _, _, _, _, _⟩) rfl (fun K hK => ?_) AllReadyH.nil
    go_simp
    go_at_call 31
    (with_reducible refine (hG2 _ _ _ (((hrY.out _ _ hr).below hbL.out).more hLe) (((hrY.out _ _ hr1).below hbL.out).more hLe) (((hrY.out _ _ hr2).below hbL.out).more hLe) hrp (((hrY.out _ _ hre).below hbL.out).more hLe) (by omega)).out.mono ?_)
    rintro e wq ⟨hb, Aa2, ca2, Ab2, cb2, ec2, la2, lb2, rfl, hres2, hra2, hrb2, hga2, hgb2⟩
    clear hrp
    replace hres2 := Lib.hid hres2
    obtain ⟨na2, hna2⟩ : ∃ na2, na2 = la2.length := ⟨_, rfl⟩
    obtain ⟨nb2, hnb2⟩ : ∃ nb2, nb2 = lb2.length := ⟨_, rfl⟩
    rw [← hna2, ← hnb2]
    replace hna2 := Lib.hid hna2
    replace hnb2 := Lib.hid hnb2
    try have hqa2 : Hid (∀ a, Aa2 = some a → bd2 < a.block) := fun a e => Nat.lt_of_lt_of_le d2l (hga2 a e)
    try have hqb2 : Hid (∀ a, Ab2 = some a → bd2 < a.block) := fun a e => Nat.lt_of_lt_of_le d2l (hgb2 a e)
    clear hga2 hgb2
    try replace d2 := Lib.hid (d2.out.keep hb d2l)
    try replace d2l := Nat.lt_of_lt_of_le d2l hb.size
    replace hbL := Lib.hid (hbL.out.trans (hb.mono hLe))
    replace hLe := Nat.le_trans hLe hb.size
    go_wp2_with (fail)
    refine hK.out _ _ (by (try dsimp only); exact (cB _ hbL.out).out) (fun hHeld => ?_)
    clear hK K
    try simp only [Act.put, List.setIfInBounds_toArray, List.set_cons_zero, List.set_cons_succ]
    refine wpAnyH_take (i := 10) (oi := ⟨_, _, _, _, _, _⟩) (v := ?_) rfl (by kernel_rfl) (by kernel_rfl) (by kernel_rfl) (fun _ _ _ h => h) (Or.inl ⟨by rfl, ?_⟩) (by assumption) ?_
    rotate_left
    · intro w hSw; (try dsimp only at hSw); go_simp; try with_reducible rfl
    try simp only [Act.put, List.setIfInBounds_toArray, List.set_cons_zero, List.set_cons_succ]
    refine wpAnyH_take (i := 11) (oi := ⟨_, _, _, _, _, _⟩) (v := ?_) rfl (by kernel_rfl) (by kernel_rfl) (by kernel_rfl) (fun _ _ _ h => h) (Or.inl ⟨by rfl, ?_⟩) (by assumption) ?_
    rotate_left
    · intro w hSw; (try dsimp only at hSw); go_simp; try with_reducible rfl
    try simp only [Act.put, List.setIfInBounds_toArray, List.set_cons_zero, List.set_cons_succ]
    refine wpAnyH_take (i := 12) (oi := ⟨_, _, _, _, _, _⟩) (v := ?_) rfl (by kernel_rfl) (by kernel_rfl) (by kernel_rfl) (fun _ _ _ h => h) (Or.inl ⟨by rfl, ?_⟩) (by assumption) ?_
    rotate_left
    · intro w hSw; (try dsimp only at hSw); go_simp; try with_reducible rfl
    try simp only [Act.put, List.setIfInBounds_toArray, List.set_cons_zero, List.set_cons_succ]
    refine wpAnyH_ready (rs := [14]) (by kernel_rfl) (by simp) ?_
    refine AllReadyH.cons (o := ⟨_, _, _, _, _, _⟩) rfl (fun K hK => ?_) AllReadyH.nil
    obtain ⟨f0, f1, f2, f3⟩ := d2.out
    go_simp
    clear f0 f1 f2 f3
    have d3 := Lib.hid (Duo.put d2.out (.slice Aa2 na2 ca2) (.slice Ab2 nb2 cb2))
    have hbS : Below bd2 wq ((wq.setCell ⟨bd2, 0, none⟩ (.slice Aa2 na2 ca2)).setCell ⟨bd2, 1, none⟩ (.slice Ab2 nb2 cb2)) := setTwo _ _
    have hra3 : Rd ((wq.setCell ⟨bd2, 0, none⟩ (.slice Aa2 na2 ca2)).setCell ⟨bd2, 1, none⟩ (.slice Ab2 nb2 cb2)) ((wq.setCell ⟨bd2, 0, none⟩ (.slice Aa2 na2 ca2)).setCell ⟨bd2, 1, none⟩ (.slice Ab2 nb2 cb2)).heap.size Aa2 la2 := by first | exact ((hra2.apart hqa2.out _ _).more (Nat.le_of_eq (size_put _ _ _ _).symm)) | exact (hra2.below (setTwo _ _)).more (by rw [size_put]; exact Nat.le_of_lt d2l)
    have hrb3 : Rd ((wq.setCell ⟨bd2, 0, none⟩ (.slice Aa2 na2 ca2)).setCell ⟨bd2, 1, none⟩ (.slice Ab2 nb2 cb2)) ((wq.setCell ⟨bd2, 0, none⟩ (.slice Aa2 na2 ca2)).setCell ⟨bd2, 1, none⟩ (.slice Ab2 nb2 cb2)).heap.size Ab2 lb2 := by first | exact ((hrb2.apart hqb2.out _ _).more (Nat.le_of_eq (size_put _ _ _ _).symm)) | exact (hrb2.below (setTwo _ _)).more (by rw [size_put]; exact Nat.le_of_lt d2l)
    have d3l : bd2 < ((wq.setCell ⟨bd2, 0, none⟩ (.slice Aa2 na2 ca2)).setCell ⟨bd2, 1, none⟩ (.slice Ab2 nb2 cb2)).heap.size := by rw [size_put]; exact d2l
    replace hLe : L ≤ ((wq.setCell ⟨bd2, 0, none⟩ (.slice Aa2 na2 ca2)).setCell ⟨bd2, 1, none⟩ (.slice Ab2 nb2 cb2)).heap.size := by rw [size_put]; exact hLe
    obtain ⟨wx, hwx⟩ : ∃ x, x = (wq.setCell ⟨bd2, 0, none⟩ (.slice Aa2 na2 ca2)).setCell ⟨bd2, 1, none⟩ (.slice Ab2 nb2 cb2) := ⟨_, rfl⟩
    rw [← hwx] at d3 hbS hra3 hrb3 d3l hLe ⊢
    replace hwx := Lib.hid hwx
    replace hbL := Lib.hid (hbL.out.trans (hbS.mono hLb))
    clear hbS hra2 hrb2 d2 d2l
    refine hK.out _ _ (by (try dsimp only); exact (cB _ hbL.out).out) (fun hHeld => ?_)
    clear hK K
    try simp only [Act.put, List.setIfInBounds_toArray, List.set_cons_zero, List.set_cons_succ]
    refine wpAnyH_take (i := 15) (oi := ⟨_, _, _, _, _, _⟩) (v := ?_) rfl (by kernel_rfl) (by kernel_rfl) (by kernel_rfl) (fun _ _ _ h => h) (Or.inl ⟨by rfl, ?_⟩) (by assumption) ?_
    rotate_left
    · intro w hSw; (try dsimp only at hSw); go_simp; try with_reducible rfl
    try simp only [Act.put, List.setIfInBounds_toArray, List.set_cons_zero, List.set_cons_succ]
    refine wpAnyH_done (by kernel_rfl) ?_ _
    obtain ⟨e1, e2⟩ := hres.out _ _ _ _ _ _ hres1.out hres2.out
    subst e1
    obtain ⟨g1, g2, g3⟩ := decres_len hres1.out
    have hBx : Below w.heap.size w wx := hB.trans (hbL.out.mono hwL)
    clear hG1 hG2 hPl hWd
    rcases g3 with g3 | ⟨g3, g4⟩
    · subst g3
      go_wp2_with (fail)
      go_ret
      exact ⟨rfl, hBx⟩
    · subst g3
      obtain ⟨e3, e4, e5⟩ := e2 rfl
      have n1 : na1 = pts.length := hna1.out.trans e3
      have n2 : na2 = pts.length := by rw [hna2.out, e4, plusL_length]
      have n3 : nb2 = nb1 := by rw [hnb2.out, e5, hnb1.out]
      rw [e4] at hra3
      rw [e5] at hrb3
      have hS1 := fun Ap W a b => same39_refl (plusL F.toDesc pts.length la1 cl) Aa2 Ap ca2 pts.length W a b (by rw [plusL_length]; omega)
      simp only [plusL_length] at hS1
      have hS2 := fun W a b => same39_refl lb1 Ab1 Ab2 cb1 cb2 W a b (by omega)
      rw [← hnb1.out] at hS2
      have hP2 := fun W a b => hPl2.out la1 Aa1 (some ⟨gc, 0, none⟩) ca1 e3 W a b
      replace hP2 := fun W a b => Lib.hid (hP2 W a b)
      replace hS1 := fun Ap W a b => Lib.hid (hS1 Ap W a b)
      replace hS2 := fun W a b => Lib.hid (hS2 W a b)
      subst n1 n2 n3
      have cX := fun W (h : Below wx.heap.size wx W) => Lib.hid (show ((W.cell? ⟨s, 0, none⟩ = some (.int .i64 F.p) ∧ W.cell? ⟨s, 1, none⟩ = some (.int .i64 F.m) ∧ W.cell? ⟨s, 2, none⟩ = some (.slice A F.mod.length c) ∧ W.cell? ⟨s, 3, none⟩ = some (.int .i64 (kn : Int)) ∧ W.cell? ⟨s, 4, none⟩ = some (.slice A1 pts.length c1) ∧ W.cell? ⟨s, 5, none⟩ = some (.slice A2 mul.length c2)) ∧ W.cell? ⟨s + 1, 0, none⟩ = some (.slice Aw pts.length cw) ∧ W.cell? ⟨s + 1, 1, none⟩ = some (.slice Ae er.length ce)) ∧ W.cell? ⟨bd1, 0, none⟩ = some (.slice Aa1 pts.length ca1) ∧ W.cell? ⟨bd1, 1, none⟩ = some (.slice Ab1 nb2 cb1) ∧ W.cell? ⟨bd2, 0, none⟩ = some (.slice Aa2 pts.length ca2) ∧ W.cell? ⟨bd2, 1, none⟩ = some (.slice Ab2 nb2 cb2) from ⟨((cB wx hbL.out).out.keep h (Nat.lt_of_lt_of_le hsL hLe)), (d1.out.keep (hbL.out.trans (h.mono hLe)) d1L).1, (d1.out.keep (hbL.out.trans (h.mono hLe)) d1L).2.1, (d3.out.keep h d3l).1, (d3.out.keep h d3l).2.1⟩)
      have hra1x := (hra1L.below hbL.out).more hLe
      have hrb1x := (hrb1L.below hbL.out).more hLe
      have hrcx := (hrcL.below hbL.out).more hLe
      obtain ⟨hb0, hl0⟩ : Below wx.heap.size wx wx.drew ∧ wx.heap.size ≤ wx.drew.heap.size := ⟨(Below.refl _ _).drew, Nat.le_refl _⟩
      replace hb0 := Lib.hid hb0
      clear e2 e3 e4 e5 hres1 hres2 hres cB kB d1 d3 hrY hrcL hra1L hrb1L hbL hPl2 hna1 hna2 hnb1 hnb2 g1 g2 hB
      go_wp2_with (fail)
      refine wp_region_held_drew (S := fun w' => ((w'.cell? ⟨s, 0, none⟩ = some (.int .i64 F.p) ∧ w'.cell? ⟨s, 1, none⟩ = some (.int .i64 F.m) ∧ w'.cell? ⟨s, 2, none⟩ = some (.slice A F.mod.length c) ∧ w'.cell? ⟨s, 3, none⟩ = some (.int .i64 (kn : Int)) ∧ w'.cell? ⟨s, 4, none⟩ = some (.slice A1 pts.length c1) ∧ w'.cell? ⟨s, 5, none⟩ = some (.slice A2 mul.length c2)) ∧ w'.cell? ⟨s + 1, 0, none⟩ = some (.slice Aw pts.length cw) ∧ w'.cell? ⟨s + 1, 1, none⟩ = some (.slice Ae er.length ce)) ∧ w'.cell? ⟨bd1, 0, none⟩ = some (.slice Aa1 pts.length ca1) ∧ w'.cell? ⟨bd1, 1, none⟩ = some (.slice Ab1 nb2 cb1) ∧ w'.cell? ⟨bd2, 0, none⟩ = some (.slice Aa2 pts.length ca2) ∧ w'.cell? ⟨bd2, 1, none⟩ = some (.slice Ab2 nb2 cb2)) (by kernel_rfl) (by (try dsimp only); exact (cX _ hb0.out).out) (fun hHeld => ?_)
      revert hb0 hl0 hHeld
      generalize wx.drew = wq
      intro hl0 hb0 hHeld
      refine wpAnyH_take (i := 0) (oi := ⟨_, _, _, _, _, _⟩) (v := ?_) rfl (by kernel_rfl) (by kernel_rfl) (by kernel_rfl) (fun _ _ _ h => h) (Or.inl ⟨by rfl, ?_⟩) (by assumption) ?_
      rotate_left
      · intro w hSw; (try dsimp only at hSw); go_simp; try with_reducible rfl
      try simp only [Act.put, List.setIfInBounds_toArray, List.set_cons_zero, List.set_cons_succ]
      refine wpAnyH_take (i := 1) (oi := ⟨_, _, _, _, _, _⟩) (v := ?_) rfl (by kernel_rfl) (by kernel_rfl) (by kernel_rfl) (fun _ _ _ h => h) (Or.inl ⟨by rfl, ?_⟩) (by assumption) ?_
      rotate_left
      · intro w hSw; (try dsimp only at hSw); go_simp; try with_reducible rfl
      try simp only [Act.put, List.setIfInBounds_toArray, List.set_cons_zero, List.set_cons_succ]
      refine wpAnyH_take (i := 2) (oi := ⟨_, _, _, _, _, _⟩) (v := ?_) rfl (by kernel_rfl) (by kernel_rfl) (by kernel_rfl) (fun _ _ _ h => h) (Or.inl ⟨by rfl, ?_⟩) (by assumption) ?_
      rotate_left
      · intro w hSw; (try dsimp only at hSw); go_simp; try with_reducible rfl
      try simp only [Act.put, List.setIfInBounds_toArray, List.set_cons_zero, List.set_cons_succ]
      refine wpAnyH_take (i := 3) (oi := ⟨_, _, _, _, _, _⟩) (v := ?_) rfl (by kernel_rfl) (by kernel_rfl) (by kernel_rfl) (fun _ _ _ h => h) (Or.inl ⟨by rfl, ?_⟩) (by assumption) ?_
      rotate_left
      · intro w hSw; (try dsimp only at hSw); go_simp; try with_reducible rfl
      try simp only [Act.put, List.setIfInBounds_toArray, List.set_cons_zero, List.set_cons_succ]
      refine wpAnyH_take (i := 4) (oi := ⟨_, _, _, _, _, _⟩) (v := ?_) rfl (by kernel_rfl) (by kernel_rfl) (by kernel_rfl) (fun _ _ _ h => h) (Or.inl ⟨by rfl, ?_⟩) (by assumption) ?_
      rotate_left
      · intro w hSw; (try dsimp only at hSw); go_simp; try with_reducible rfl
      try simp only [Act.put, List.setIfInBounds_toArray, List.set_cons_zero, List.set_cons_succ]
      refine wpAnyH_take (i := 5) (oi := ⟨_, _, _, _, _, _⟩) (v := ?_) rfl (by kernel_rfl) (by kernel_rfl) (by kernel_rfl) (fun _ _ _ h => h) (Or.inl ⟨by rfl, ?_⟩) (by assumption) ?_
      rotate_left
      · intro w hSw; (try dsimp only at hSw); go_simp; try with_reducible rfl
      try simp only [Act.put, List.setIfInBounds_toArray, List.set_cons_zero, List.set_cons_succ]
      refine wpAnyH_take (i := 6) (oi := ⟨_, _, _, _, _, _⟩) (v := ?_) rfl (by kernel_rfl) (by kernel_rfl) (by kernel_rfl) (fun _ _ _ h => h) (Or.inl ⟨by rfl, ?_⟩) (by assumption) ?_
      rotate_left
      · intro w hSw; (try dsimp only at hSw); go_simp; try with_reducible rfl
      try simp only [Act.put, List.setIfInBounds_toArray, List.set_cons_zero, List.set_cons_succ]
      refine wpAnyH_take (i := 7) (oi := ⟨_, _, _, _, _, _⟩) (v := ?_) rfl (by kernel_rfl) (by kernel_rfl) (by kernel_rfl) (fun _ _ _ h => h) (Or.inl ⟨by rfl, ?_⟩) (by assumption) ?_
      rotate_left
      · intro w hSw; (try dsimp only at hSw); go_simp; try with_reducible rfl
      try simp only [Act.put, List.setIfInBounds_toArray, List.set_cons_zero, List.set_cons_succ]
      refine wpAnyH_take (i := 8) (oi := ⟨_, _, _, _, _, _⟩) (v := ?_) rfl (by kernel_rfl) (by kernel_rfl) (by kernel_rfl) (fun _ _ _ h => h) (Or.inl ⟨by rfl, ?_⟩) (by assumption) ?_
      rotate_left
      · intro w hSw; (try dsimp only at hSw); go_simp; try with_reducible rfl
      try simp only [Act.put, List.setIfInBounds_toArray, List.set_cons_zero, List.set_cons_succ]
      refine wpAnyH_take (i := 9) (oi := ⟨_, _, _, _, _, _⟩) (v := ?_) rfl (by kernel_rfl) (by kernel_rfl) (by kernel_rfl) (fun _ _ _ h => h) (Or.inl ⟨by rfl, ?_⟩) (by assumption) ?_
      rotate_left
      · intro w hSw; (try dsimp only at hSw); go_simp; try with_reducible rfl
      try simp only [Act.put, List.setIfInBounds_toArray, List.set_cons_zero, List.set_cons_succ]
      refine wpAnyH_take (i := 10) (oi := ⟨_, _, _, _, _, _⟩) (v := ?_) rfl (by kernel_rfl) (by kernel_rfl) (by kernel_rfl) (fun _ _ _ h => h) (Or.inl ⟨by rfl, ?_⟩) (by assumption) ?_
      rotate_left
      · intro w hSw; (try dsimp only at hSw); go_simp; try with_reducible rfl
      try simp only [Act.put, List.setIfInBounds_toArray, List.set_cons_zero, List.set_cons_succ]
      refine wpAnyH_take (i := 11) (oi := ⟨_, _, _, _, _, _⟩) (v := ?_) rfl (by kernel_rfl) (by kernel_rfl) (by kernel_rfl) (fun _ _ _ h => h) (Or.inl ⟨by rfl, ?_⟩) (by assumption) ?_
      rotate_left
      · intro w hSw; (try dsimp only at hSw); go_simp; try with_reducible rfl
      try simp only [Act.put, List.setIfInBounds_toArray, List.set_cons_zero, List.set_cons_succ]
      refine wpAnyH_take (i := 12) (oi := ⟨_, _, _, _, _, _⟩) (v := ?_) rfl (by kernel_rfl) (by kernel_rfl) (by kernel_rfl) (fun _ _ _ h => h) (Or.inl ⟨by rfl, ?_⟩) (by assumption) ?_
      rotate_left
      · intro w hSw; (try dsimp only at hSw); go_simp; try with_reducible rfl
      try simp only [Act.put, List.setIfInBounds_toArray, List.set_cons_zero, List.set_cons_succ]
      refine wpAnyH_take (i := 13) (oi := ⟨_, _, _, _, _, _⟩) (v := ?_) rfl (by kernel_rfl) (by kernel_rfl) (by kernel_rfl) (fun _ _ _ h => h) (Or.inl ⟨by rfl, ?_⟩) (by assumption) ?_
      rotate_left
      · intro w hSw; (try dsimp only at hSw); go_simp; try with_reducible rfl
      try simp only [Act.put, List.setIfInBounds_toArray, List.set_cons_zero, List.set_cons_succ]
      refine wpAnyH_take (i := 14) (oi := ⟨_, _, _, _, _, _⟩) (v := ?_) rfl (by kernel_rfl) (by kernel_rfl) (by kernel_rfl) (fun _ _ _ h => h) (Or.inl ⟨by rfl, ?_⟩) (by assumption) ?_
      rotate_left
      · intro w hSw; (try dsimp only at hSw); go_simp; try with_reducible rfl
      try simp only [Act.put, List.setIfInBounds_toArray, List.set_cons_zero, List.set_cons_succ]
      refine wpAnyH_take (i := 15) (oi := ⟨_, _, _, _, _, _⟩) (v := ?_) rfl (by kernel_rfl) (by kernel_rfl) (by kernel_rfl) (fun _ _ _ h => h) (Or.inl ⟨by rfl, ?_⟩) (by assumption) ?_
      rotate_left
      · intro w hSw; (try dsimp only at hSw); go_simp; try with_reducible rfl
      try simp only [Act.put, List.setIfInBounds_toArray, List.set_cons_zero, List.set_cons_succ]
      refine wpAnyH_take (i := 16) (oi := ⟨_, _, _, _, _, _⟩) (v := ?_) rfl (by kernel_rfl) (by kernel_rfl) (by kernel_rfl) (fun _ _ _ h => h) (Or.inl ⟨by rfl, ?_⟩) (by assumption) ?_
      rotate_left
      · intro w hSw; (try dsimp only at hSw); go_simp; try with_reducible rfl
      try simp only [Act.put, List.setIfInBounds_toArray, List.set_cons_zero, List.set_cons_succ]
      refine wpAnyH_take (i := 17) (oi := ⟨_, _, _, _, _, _⟩) (v := ?_) rfl (by kernel_rfl) (by kernel_rfl) (by kernel_rfl) (fun _ _ _ h => h) (Or.inl ⟨by rfl, ?_⟩) (by assumption) ?_
      rotate_left
      · intro w hSw; (try dsimp only at hSw); go_simp; try with_reducible rfl
      try simp only [Act.put, List.setIfInBounds_toArray, List.set_cons_zero, List.set_cons_succ]
      refine wpAnyH_ready (rs := [18]) (by kernel_rfl) (by simp) ?_
      refine AllReadyH.cons (o := ⟨_, _, _, _, _, _⟩) rfl (fun K hK => ?_) AllReadyH.nil
      go_simp
      go_at_call 40
      (with_reducible refine (hP2 _ ((hra1x.below hb0.out).more hl0) ((hrcx.below hb0.out).more hl0)).out.mono ?_)
      rintro e wq ⟨gp2, rfl, -, hib, hb⟩
      have hrp := hib.rd
      clear hib
      replace hb0 := Lib.hid (hb0.out.trans (hb.mono hl0))
      replace hl0 := Nat.le_trans hl0 hb.size
      go_wp2_with (fail)
      refine hK.out _ _ (by (try dsimp only); exact (cX _ hb0.out).out) (fun hHeld => ?_)
      clear hK K
      try simp only [Act.put, List.setIfInBounds_toArray, List.set_cons_zero, List.set_cons_succ]
      refine wpAnyH_ready (rs := [19]) (by kernel_rfl) (by simp) ?_
      refine AllReadyH.cons (o := ⟨_, _, _, _, _, _⟩) rfl (fun K hK => ?_) AllReadyH.nil
      go_simp
      go_at_call 39
      (with_reducible refine (hS1 _ _ ((hra3.below hb0.out).more hl0) hrp).out.mono ?_)
      rintro e wq ⟨rfl, hb⟩
      replace hb0 := Lib.hid (hb0.out.trans (hb.mono hl0))
      replace hl0 := Nat.le_trans hl0 hb.size
      go_wp2_with (fail)
      refine hK.out _ _ (by (try dsimp only); exact (cX _ hb0.out).out) (fun hHeld => ?_)
      clear hK K
      try simp only [Act.put, List.setIfInBounds_toArray, List.set_cons_zero, List.set_cons_succ]
      refine wpAnyH_take (i := 20) (oi := ⟨_, _, _, _, _, _⟩) (v := ?_) rfl (by kernel_rfl) (by kernel_rfl) (by kernel_rfl) (fun _ _ _ h => h) (Or.inl ⟨by rfl, ?_⟩) (by assumption) ?_
      rotate_left
      · intro w hSw; (try dsimp only at hSw); go_simp; try with_reducible rfl
      try simp only [Act.put, List.setIfInBounds_toArray, List.set_cons_zero, List.set_cons_succ]
      refine wpAnyH_take (i := 21) (oi := ⟨_, _, _, _, _, _⟩) (v := ?_) rfl (by kernel_rfl) (by kernel_rfl) (by kernel_rfl) (fun _ _ _ h => h) (Or.inl ⟨by rfl, ?_⟩) (by assumption) ?_
      rotate_left
      · intro w hSw; (try dsimp only at hSw); go_simp; try with_reducible rfl
      try simp only [Act.put, List.setIfInBounds_toArray, List.set_cons_zero, List.set_cons_succ]
      refine wpAnyH_take (i := 22) (oi := ⟨_, _, _, _, _, _⟩) (v := ?_) rfl (by kernel_rfl) (by kernel_rfl) (by kernel_rfl) (fun _ _ _ h => h) (Or.inl ⟨by rfl, ?_⟩) (by assumption) ?_
      rotate_left
      · intro w hSw; (try dsimp only at hSw); go_simp; try with_reducible rfl
      try simp only [Act.put, List.setIfInBounds_toArray, List.set_cons_zero, List.set_cons_succ]
      refine wpAnyH_take (i := 23) (oi := ⟨_, _, _, _, _, _⟩) (v := ?_) rfl (by kernel_rfl) (by kernel_rfl) (by kernel_rfl) (fun _ _ _ h => h) (Or.inl ⟨by rfl, ?_⟩) (by assumption) ?_
      rotate_left
      · intro w hSw; (try dsimp only at hSw); go_simp; try with_reducible rfl
      try simp only [Act.put, List.setIfInBounds_toArray, List.set_cons_zero, List.set_cons_succ]
      refine wpAnyH_take (i := 24) (oi := ⟨_, _, _, _, _, _⟩) (v := ?_) rfl (by kernel_rfl) (by kernel_rfl) (by kernel_rfl) (fun _ _ _ h => h) (Or.inl ⟨by rfl, ?_⟩) (by assumption) ?_
      rotate_left
      · intro w hSw; (try dsimp only at hSw); go_simp; try with_reducible rfl
      try simp only [Act.put, List.setIfInBounds_toArray, List.set_cons_zero, List.set_cons_succ]
      refine wpAnyH_take (i := 25) (oi := ⟨_, _, _, _, _, _⟩) (v := ?_) rfl (by kernel_rfl) (by kernel_rfl) (by kernel_rfl) (fun _ _ _ h => h) (Or.inl ⟨by rfl, ?_⟩) (by assumption) ?_
      rotate_left
      · intro w hSw; (try dsimp only at hSw); go_simp; try with_reducible rfl
      try simp only [Act.put, List.setIfInBounds_toArray, List.set_cons_zero, List.set_cons_succ]
      refine wpAnyH_ready (rs := [26]) (by kernel_rfl) (by simp) ?_
      refine AllReadyH.cons (o := ⟨_, _, _, _, _, _⟩) rfl (fun K hK => ?_) AllReadyH.nil
      go_simp
      go_at_call 39
      (with_reducible refine (hS2 _ ((hrb1x.below hb0.out).more hl0) ((hrb3.below hb0.out).more hl0)).out.mono ?_)
      rintro e wq ⟨rfl, hb⟩
      replace hb0 := Lib.hid (hb0.out.trans (hb.mono hl0))
      replace hl0 := Nat.le_trans hl0 hb.size
      go_wp2_with (fail)
      refine hK.out _ _ (by (try dsimp only); exact (cX _ hb0.out).out) (fun hHeld => ?_)
      clear hK K
      try simp only [Act.put, List.setIfInBounds_toArray, List.set_cons_zero, List.set_cons_succ]
      refine wpAnyH_take (i := 27) (oi := ⟨_, _, _, _, _, _⟩) (v := ?_) rfl (by kernel_rfl) (by kernel_rfl) (by kernel_rfl) (fun _ _ _ h => h) (Or.inl ⟨by rfl, ?_⟩) (by assumption) ?_
      rotate_left
      · intro w hSw; (try dsimp only at hSw); go_simp; try with_reducible rfl
      try simp only [Act.put, List.setIfInBounds_toArray, List.set_cons_zero, List.set_cons_succ]
      refine wpAnyH_take (i := 28) (oi := ⟨_, _, _, _, _, _⟩) (v := ?_) rfl (by kernel_rfl) (by kernel_rfl) (by kernel_rfl) (fun _ _ _ h => h) (Or.inl ⟨by rfl, ?_⟩) (by assumption) ?_
      rotate_left
      · intro w hSw; (try dsimp only at hSw); go_simp; try with_reducible rfl
      try simp only [Act.put, List.setIfInBounds_toArray, List.set_cons_zero, List.set_cons_succ]
      refine wpAnyH_done (by kernel_rfl) ?_ _
      go_wp2_with (fail)
      go_ret
      exact ⟨rfl, hBx.trans (hb0.out.mono hBx.size)⟩

theorem shiftsL (P M K : Int) (ml pts mul : List Int) (A A1 A2 : Option Addr) (c c1 c2 : Nat) (xl : List Int) (Ax : Option Addr) (cx : Nat) (wl er : List Int) (Aw Ae : Option Addr) (cw ce : Nat) (w : World) (hP : I64 P) (hM : I64 M) (_hK : I64 K) (hl : ml.length ≤ maxLen) (h1 : pts.length ≤ c1 ∧ c1 ≤ maxLen) (h2 : mul.length ≤ c2 ∧ c2 ≤ maxLen) (_hi : ∀ x ∈ pts, I64 x) (_hj : ∀ x ∈ mul, I64 x) (hr : Rd w w.heap.size A ml) (hr1 : Rd w w.heap.size A1 pts) (hr2 : Rd w w.heap.size A2 mul) (hxc : xl.length ≤ cx) (hxm : cx ≤ maxLen) (hrx : Rd w w.heap.size Ax xl) (hwl : wl.length ≤ maxLen) (hel : er.length ≤ maxLen) (hrw : Rd w w.heap.size Aw wl) (hre : Rd w w.heap.size Ae er) :
    Calls Try.prog 8 #[.agg #[.int .i64 P, .int .i64 M, .slice A ml.length c, .int .i64 K, .slice A1 pts.length c1, .slice A2 mul.length c2], .slice Ax xl.length cx, .agg #[.slice Aw wl.length cw, .slice Ae er.length ce]] w (LawEnd w) := by
  by_cases hb : Good P M ml
  · have hb' := hb
    obtain ⟨D, rfl, rfl, rfl, -⟩ := hb
    rw [modL_length]
    obtain ⟨F, rfl⟩ := goodF hb'
    exact shiftsL_good F K pts mul A A1 A2 c c1 c2 xl Ax cx wl er Aw Ae cw ce w hr hb' h1 h2 hr1 hr2 hxc hxm hrx hwl hel hrw hre
  · exact shiftsL_bad P M K ml pts mul A A1 A2 c c1 c2 xl Ax cx wl er Aw Ae cw ce w hP hM hl hr hb
end Go.Proofs.Ytpflgmbcmfllgaa
