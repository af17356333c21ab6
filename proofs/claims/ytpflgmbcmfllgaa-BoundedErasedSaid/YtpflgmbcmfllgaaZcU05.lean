/- BoundedErased: the walk. -/
import Derived.Test.YtpflgmbcmfllgaaZcRG
import Derived.Test.YtpflgmbcmfllgaaZcGrsD
import Derived.Test.YtpflgmbcmfllgaaZcGrsH
import Derived.Test.YtpflgmbcmfllgaaZcU02
namespace Go.Proofs.Ytpflgmbcmfllgaa
open Go.RowKit Cw
attribute [local go_sem] Oper.semAt_some

set_option maxRecDepth 100000 in
set_option maxHeartbeats 4000000 in
theorem erasedL_bad (P M K : Int) (ml pts mul : List Int) (A A1 A2 : Option Addr) (c c1 c2 : Nat) (wl er : List Int) (Aw Ae : Option Addr) (cw ce : Nat) (xl : List Int) (Ax : Option Addr) (cx : Nat) (w : World) (hP : I64 P) (hM : I64 M) (hl : ml.length ≤ maxLen) (hr : Rd w w.heap.size A ml) (hb : ¬ Good P M ml) :
    Calls Try.prog 9 #[.agg #[.int .i64 P, .int .i64 M, .slice A ml.length c, .int .i64 K, .slice A1 pts.length c1, .slice A2 mul.length c2], .agg #[.slice Aw wl.length cw, .slice Ae er.length ce], .slice Ax xl.length cx] w (LawEnd w) := by
  have hAl := fun W => Lib.hid (alive39_any W)
  have hFw := fun W => Lib.hid (few39_any pts.length er.length A1 Ae c1 ce W)
  have hC := fun W h => Lib.hid (Chk18_bad P M K ml pts mul A A1 A2 c c1 c2 W hP hM hl h hb)
  clear hP hM hl hb
  obtain ⟨s, hs⟩ : ∃ s, s = w.heap.size := ⟨_, rfl⟩
  obtain ⟨Z, hZ⟩ : ∃ Z, Z = ((w.alloc (.cells #[.int .i64 P, .int .i64 M, .slice A ml.length c, .int .i64 K, .slice A1 pts.length c1, .slice A2 mul.length c2] 49)).alloc (.cells #[.slice Aw wl.length cw, .slice Ae er.length ce] 51)) := ⟨_, rfl⟩
  have hB : Below w.heap.size w Z := by rw [hZ]; exact ((Below.refl _ _).alloc (Nat.le_refl _) _).alloc (by simp) _
  have kB : Hid (Box8 Z s (.int .i64 P) (.int .i64 M) (.slice A ml.length c) (.int .i64 K) (.slice A1 pts.length c1) (.slice A2 mul.length c2) (.slice Aw wl.length cw) (.slice Ae er.length ce)) := by rw [hZ, hs]; exact Box8.new w _ _ _ _ _ _ _ _ _ _
  have hsW : s + 1 < Z.heap.size := by rw [hZ, hs]; simp
  replace hZ := Lib.hid hZ
  unfold LawEnd
  go_enter Try.func9, Try.ntmps9
  go_wp2_with (fail)
  rw [← hZ.out]
  simp only [← hs]
  replace hs := Lib.hid hs
  go_wp2_with (fail)
  (with_reducible refine (hAl _).out.mono ?_)
  rintro e w0 ⟨rfl, hb⟩
  replace hB := hB.trans (hb.mono hB.size)
  replace kB := Lib.hid (kB.out.keep hb hsW)
  replace hsW := Nat.lt_of_lt_of_le hsW hb.size
  obtain ⟨⟨q0, q1, q2, q3, q4, q5⟩, p0, p1⟩ := kB.out
  go_wp2_with (fail)
  (with_reducible refine (hFw _).out.mono ?_)
  rintro e w0' ⟨rfl, rfl⟩
  clear q0 q1 q2 q3 q4 q5 p0 p1
  cases hfw : fewB pts.length er.length with
  | false =>
    obtain ⟨⟨q0, q1, q2, q3, q4, q5⟩, p0, p1⟩ := kB.out
    go_wp2_with (fail)
    go_ret
    exact ⟨rfl, hB⟩
  | true =>
    obtain ⟨hf1, hf2⟩ := fewB_true hfw
    clear hfw
    obtain ⟨⟨q0, q1, q2, q3, q4, q5⟩, p0, p1⟩ := kB.out
    have hq := hC _ ((hr.below hB).more hB.size)
    go_wp2_with (fail)
    (with_reducible refine hq.out.mono ?_)
    rintro e w1 ⟨rfl, hb⟩
    clear hq
    clear q0 q1 q2 q3 q4 q5 p0 p1
    replace hB := hB.trans (hb.mono hB.size)
    replace kB := Lib.hid (kB.out.keep hb hsW)
    replace hsW := Nat.lt_of_lt_of_le hsW hb.size
    obtain ⟨⟨q0, q1, q2, q3, q4, q5⟩, p0, p1⟩ := kB.out
    go_wp2_with (fail)
    go_ret
    exact ⟨rfl, hB⟩

set_option maxRecDepth 100000 in
set_option maxHeartbeats 16000000 in
theorem erasedL_good (F : FD) (K : Int) (pts mul : List Int) (A A1 A2 : Option Addr) (c c1 c2 : Nat) (wl er : List Int) (Aw Ae : Option Addr) (cw ce : Nat) (xl : List Int) (Ax : Option Addr) (cx : Nat) (w : World) (hr : Rd w w.heap.size A (modL F.toDesc)) (hb : Good F.p F.m (modL F.toDesc)) (h1 : pts.length ≤ c1 ∧ c1 ≤ maxLen) (h2 : mul.length ≤ c2 ∧ c2 ≤ maxLen) (hr1 : Rd w w.heap.size A1 pts) (hr2 : Rd w w.heap.size A2 mul) (hwl : wl.length ≤ maxLen) (_hel : er.length ≤ maxLen) (hrw : Rd w w.heap.size Aw wl) (hre : Rd w w.heap.size Ae er) (_hxc : xl.length ≤ cx) (hxm : cx ≤ maxLen) (hrx : Rd w w.heap.size Ax xl) :
    Calls Try.prog 9 #[.agg #[.int .i64 F.p, .int .i64 F.m, .slice A F.mod.length c, .int .i64 K, .slice A1 pts.length c1, .slice A2 mul.length c2], .agg #[.slice Aw wl.length cw, .slice Ae er.length ce], .slice Ax xl.length cx] w (LawEnd w) := by
  have hAl := fun W => Lib.hid (alive39_any W)
  have hFw := fun W => Lib.hid (few39_any pts.length er.length A1 Ae c1 ce W)
  have hC := fun W a b d => Lib.hid (Chk18_D F.toDesc K pts mul A A1 A2 c c1 c2 W a hb b d (Nat.le_trans h2.1 h2.2))
  have hRv := fun W a b d => Lib.hid (Received39_any F.toDesc wl er pts.length A Aw Ae c cw ce W a b hwl d)
  have hGr := fun W a b d e f g => gGRS_D F.toDesc K pts mul A A1 A2 c c1 c2 wl er Aw Ae cw ce W a hb b d h1.1 h1.2 (Nat.le_trans h2.1 h2.2) e f hwl g
  replace h1 := Lib.hid h1
  replace h2 := Lib.hid h2
  have hgd := Lib.hid hb
  clear hb
  obtain ⟨s, hs⟩ : ∃ s, s = w.heap.size := ⟨_, rfl⟩
  obtain ⟨Z, hZ⟩ : ∃ Z, Z = ((w.alloc (.cells #[.int .i64 F.p, .int .i64 F.m, .slice A F.mod.length c, .int .i64 K, .slice A1 pts.length c1, .slice A2 mul.length c2] 49)).alloc (.cells #[.slice Aw wl.length cw, .slice Ae er.length ce] 51)) := ⟨_, rfl⟩
  have hB : Below w.heap.size w Z := by rw [hZ]; exact ((Below.refl _ _).alloc (Nat.le_refl _) _).alloc (by simp) _
  have kB : Hid (Box8 Z s (.int .i64 F.p) (.int .i64 F.m) (.slice A F.mod.length c) (.int .i64 K) (.slice A1 pts.length c1) (.slice A2 mul.length c2) (.slice Aw wl.length cw) (.slice Ae er.length ce)) := by rw [hZ, hs]; exact Box8.new w _ _ _ _ _ _ _ _ _ _
  have hsW : s + 1 < Z.heap.size := by rw [hZ, hs]; simp
  replace hZ := Lib.hid hZ
  unfold LawEnd
  go_enter Try.func9, Try.ntmps9
  go_wp2_with (fail)
  rw [← hZ.out]
  simp only [← hs]
  replace hs := Lib.hid hs
  go_wp2_with (fail)
  (with_reducible refine (hAl _).out.mono ?_)
  rintro e w0 ⟨rfl, hb⟩
  replace hB := hB.trans (hb.mono hB.size)
  replace kB := Lib.hid (kB.out.keep hb hsW)
  replace hsW := Nat.lt_of_lt_of_le hsW hb.size
  obtain ⟨⟨q0, q1, q2, q3, q4, q5⟩, p0, p1⟩ := kB.out
  go_wp2_with (fail)
  (with_reducible refine (hFw _).out.mono ?_)
  rintro e w0' ⟨rfl, rfl⟩
  clear q0 q1 q2 q3 q4 q5 p0 p1
  cases hfw : fewB pts.length er.length with
  | false =>
    obtain ⟨⟨q0, q1, q2, q3, q4, q5⟩, p0, p1⟩ := kB.out
    go_wp2_with (fail)
    go_ret
    exact ⟨rfl, hB⟩
  | true =>
    obtain ⟨hf1, hf2⟩ := fewB_true hfw
    clear hfw
    obtain ⟨⟨q0, q1, q2, q3, q4, q5⟩, p0, p1⟩ := kB.out
    have hq := hC _ ((hr.below hB).more hB.size) ((hr1.below hB).more hB.size) ((hr2.below hB).more hB.size)
    go_wp2_with (fail)
    (with_reducible refine hq.out.mono ?_)
    rintro e w1 ⟨rfl, hb⟩
    clear hq
    clear q0 q1 q2 q3 q4 q5 p0 p1
    replace hB := hB.trans (hb.mono hB.size)
    replace kB := Lib.hid (kB.out.keep hb hsW)
    replace hsW := Nat.lt_of_lt_of_le hsW hb.size
    by_cases hz : gchkD F.toDesc K pts mul = 0
    rotate_left
    · have hzb : (gchkD F.toDesc K pts mul != 0) = true := by rw [bne_iff_ne]; exact hz
      clear hz
      obtain ⟨⟨q0, q1, q2, q3, q4, q5⟩, p0, p1⟩ := kB.out
      go_wp2_with (fail)
      go_ret
      exact ⟨rfl, hB⟩
    rw [hz]
    replace hz := Lib.hid hz
    have hzG := hz
    clear hz
    obtain ⟨⟨q0, q1, q2, q3, q4, q5⟩, p0, p1⟩ := kB.out
    have hq := hRv _ ((hrw.below hB).more hB.size) ((hre.below hB).more hB.size) (by omega)
    go_wp2_with (fail)
    (with_reducible refine hq.out.mono ?_)
    rintro e w2 ⟨rfl, hb⟩
    clear hq
    clear q0 q1 q2 q3 q4 q5 p0 p1
    replace hB := hB.trans (hb.mono hB.size)
    replace kB := Lib.hid (kB.out.keep hb hsW)
    replace hsW := Nat.lt_of_lt_of_le hsW hb.size
    by_cases hz : recErr F.toDesc wl pts.length er = 0
    rotate_left
    · have hzb : (recErr F.toDesc wl pts.length er != 0) = true := by rw [bne_iff_ne]; exact hz
      clear hz
      obtain ⟨⟨q0, q1, q2, q3, q4, q5⟩, p0, p1⟩ := kB.out
      go_wp2_with (fail)
      go_ret
      exact ⟨rfl, hB⟩
    rw [hz]
    have hzr := Lib.hid hz
    clear hz
    have hEl := fun W a => Lib.hid (Elems18_any F.toDesc xl pts.length 4 A Ax c cx W a (Nat.le_trans _hxc hxm))
    obtain ⟨⟨q0, q1, q2, q3, q4, q5⟩, p0, p1⟩ := kB.out
    have hq := hEl _ ((hrx.below hB).more hB.size)
    go_wp2_with (fail)
    (with_reducible refine hq.out.mono ?_)
    rintro e w3 ⟨rfl, hb⟩
    clear hq
    clear q0 q1 q2 q3 q4 q5 p0 p1
    replace hB := hB.trans (hb.mono hB.size)
    replace kB := Lib.hid (kB.out.keep hb hsW)
    replace hsW := Nat.lt_of_lt_of_le hsW hb.size
    by_cases hz : elErr F.toDesc xl pts.length 4 = 0
    rotate_left
    · have hzb : (elErr F.toDesc xl pts.length 4 != 0) = true := by rw [bne_iff_ne]; exact hz
      clear hz
      obtain ⟨⟨q0, q1, q2, q3, q4, q5⟩, p0, p1⟩ := kB.out
      go_wp2_with (fail)
      go_ret
      exact ⟨rfl, hB⟩
    rw [hz]
    have hxe : (xl.length : Int) = (pts.length : Int) ∧ elB F.toDesc xl = true := by
      unfold elErr at hz
      by_cases g1 : (xl.length : Int) ≠ (pts.length : Int)
      · rw [if_pos g1] at hz; cases hz
      rw [if_neg g1] at hz
      cases h : elB F.toDesc xl with
      | true => exact ⟨by omega, rfl⟩
      | false => rw [if_pos h] at hz; cases hz
    clear hz
    have hE0 : Hid (decErr F.toDesc K pts mul wl er = 0) := (if_neg (fun h => h hzG.out) : decErr F.toDesc K pts mul wl er = _).trans hzr.out
    obtain ⟨hp1, hp64, hlen, -, -, -, -, hK0, hKn⟩ := gchkD_zero hzG.out
    obtain ⟨hwn, helw, hrg, hnd⟩ := recErr_zero hzr.out
    obtain ⟨kn, rfl⟩ : ∃ kn : Nat, K = kn := ⟨K.toNat, by omega⟩
    have hxl : xl.length = pts.length := by have := hxe.1; omega
    obtain ⟨ws, hws⟩ : ∃ ws, ws = putK wl xl er er.length := ⟨_, rfl⟩
    have hwsl : ws.length = pts.length := by rw [hws, putK_length, hwn]
    have hwse : elB F.toDesc ws = true := by rw [hws]; exact putK_elB helw hxe.2 (fun x hx => by have := hrg x hx; omega) _ (Nat.le_refl _)
    have hE1 : decErr F.toDesc (kn : Int) pts mul ws er = 0 := (if_neg (fun h => h hzG.out) : decErr F.toDesc (kn : Int) pts mul ws er = _).trans (recErr_ok hwsl hwse hrg hnd)
    have hpl := fun k => (putK_length wl xl er k).trans hwn
    have hag : Agr pts.length er wl ws := by rw [hws]; exact putK_agr hrg _ (Nat.le_refl _)
    have hres := fun ec ec' la lb la' lb' => decres_agr (F := F) (kn := kn) (mul := mul) (ec := ec) (ec' := ec') (la := la) (lb := lb) (la' := la') (lb' := lb') hzG.out hwn helw hrg hnd hag
    have hG1 := fun W a b d e f g => (hGr W a b d e f g).mono fun _ _ hp => hp.form2 hE0.out
    have hG2 := fun A' c' W a b d e f g => (gGRS_D F.toDesc kn pts mul A A1 A2 c c1 c2 ws er A' Ae c' ce W a hgd.out b d h1.out.1 h1.out.2 (Nat.le_trans h2.out.1 h2.out.2) e f (by rw [hwsl]; unfold maxLen; omega) g).mono fun _ _ hp => hp.form2 hE1
    rw [hwn] at hG1 kB ⊢
    rw [hwsl] at hG2
    replace hG1 := fun W a b d e f g => Lib.hid (hG1 W a b d e f g)
    replace hG2 := fun A' c' W a b d e f g => Lib.hid (hG2 A' c' W a b d e f g)
    replace hres := Lib.hid hres
    replace hlen := Lib.hid hlen
    replace hwn := Lib.hid hwn
    replace hxl := Lib.hid hxl
    replace hws := Lib.hid hws
    replace hwsl := Lib.hid hwsl
    replace hpl := Lib.hid hpl
    replace hrg := Lib.hid hrg
    have hxe2 := Lib.hid hxe
    clear hGr hC hRv hAl hFw hxe hnd helw hEl hag
    obtain ⟨L, hL⟩ : ∃ L, L = w3.heap.size := ⟨_, rfl⟩
    have hbL : Below L w3 (w3.alloc (.cells #[] 3)) := (Below.refl _ _).alloc (Nat.le_of_eq hL) _
    have hO0 : Own (w3.alloc (.cells #[] 3)) L (.slice (some ⟨w3.heap.size, 0, none⟩) 0 0) [] := Own.of_IB (IB.new w3 []) (Nat.le_of_eq hL) (Nat.zero_le _)
    have hLs : L ≤ (w3.alloc (.cells #[] 3)).heap.size := hbL.size |> Nat.le_trans (Nat.le_of_eq hL)
    have hrwL : Rd (w3.alloc (.cells #[] 3)) L Aw wl := by rw [hL]; exact ((hrw.below hB).more hB.size).below ((Below.refl _ _).alloc (Nat.le_refl _) _)
    have hlw : ([] : List Int).length + wl.length ≤ 1000000000 := by rw [hwn.out]; simp; omega
    have kB0 := kB
    have hsL : s + 1 < L := by rw [hL]; exact hsW
    have hBL : Below w.heap.size w w3 := hB
    have hLw : w.heap.size ≤ L := by rw [hL]; exact hB.size
    have hrxL : Rd w3 L Ax xl := by rw [hL]; exact ((hrx.below hB).more hB.size)
    have hreL : Rd w3 L Ae er := by rw [hL]; exact ((hre.below hB).more hB.size)
    have hrL := fun (l : List Int) (A' : Option Addr) (h : Rd w w.heap.size A' l) => (show Rd w3 L A' l from by rw [hL]; exact (h.below hB).more hB.size)
    obtain ⟨⟨q0, q1, q2, q3, q4, q5⟩, p0, p1⟩ := (kB.out.keep (hbL.mono (Nat.le_refl L)) hsL)
    replace hL := Lib.hid hL
    go_wp2_with (at_builtin; refine wpList_appN rfl (.tmp 50) (.tmp 52) rfl L _ [] L Aw cw wl hO0 hrwL rfl rfl hwn.out.symm hlw hLs ?_; intro v' w' ho' hb' hg' hv'; clear q0 q1 q2 q3 q4 q5 p0 p1; obtain ⟨⟨q0, q1, q2, q3, q4, q5⟩, p0, p1⟩ := ((kB0.out.keep hbL hsL).keep hb' hsL))
    clear q0 q1 q2 q3 q4 q5 p0 p1 hO0 hLs hrwL hlw
    rw [List.nil_append] at ho'
    obtain ⟨A', c', rfl, -, -, -⟩ := ho'.form
    obtain ⟨gw, rfl⟩ := Own.blk ho' (by rw [hwn.out]; omega)
    have hgL := (ho'.lt gw rfl).1
    have hbLw : Below L w3 w' := hbL.trans hb'
    rw [hwn.out] at ho' ⊢
    go_loopw [57] (fun i wr => ∃ k : Nat, k ≤ er.length ∧ i = .int .i64 k ∧ Hid (Own wr L (.slice (some ⟨gw, 0, none⟩) pts.length c') (putK wl xl er k)) ∧ Below L w3 wr) (fun i _ => er.length - (intOf i).toNat)
    case atStart => exact ⟨0, by omega, rfl, ho', hbLw⟩
    case round =>
      clear ho' hbLw hb' hg' hv' hbL
      obtain ⟨wv, rfl⟩ : ∃ wv : World, wv = wr := ⟨_, rfl⟩
      obtain ⟨k, hk, rfl, ho, hbw⟩ := hrel
      by_cases hkm : k < er.length
      · obtain ⟨ba, oa, rfl, hba, hca⟩ := hreL.at_ hkm
        have hm := mem_get hkm
        have hx := hrg.out _ hm
        obtain ⟨xn, hxn⟩ : ∃ xn : Nat, er[k]?.getD 0 = (xn : Int) := ⟨(er[k]?.getD 0).toNat, by omega⟩
        have hxl2 : xn < pts.length := by omega
        have hstep : putK wl xl er (k + 1) = (putK wl xl er k).set xn (xl[xn]?.getD 0) := by
          show (putK wl xl er k).set (er[k]?.getD 0).toNat _ = _
          rw [hxn, Int.toNat_natCast]
        rw [hxn] at hca
        have hcb := (hbw.cell (p := ⟨ba, oa + k, none⟩) hba).trans hca
        obtain ⟨b2, o2, rfl, hb2, hc2⟩ := hrxL.at_ (by rw [hxl.out]; exact hxl2 : xn < xl.length)
        have hd2 := (hbw.cell (p := ⟨b2, o2 + xn, none⟩) hb2).trans hc2
        obtain ⟨y, hy⟩ : ∃ y, y = xl[xn]?.getD 0 := ⟨_, rfl⟩
        rw [← hy] at hd2 hstep
        have hcW := Own.cell ho.out (hpl.out k).symm (i := xn) (by rw [hpl.out k]; exact hxl2)
        have hfW := Own.frozen ho.out (hpl.out k).symm xn
        have hset := Own.set_ ho.out (hpl.out k).symm xn y
        rw [← hstep] at hset
        have hbs : Below L w3 (wv.setCell ⟨gw, xn, none⟩ (.int .i64 y)) := hbw.setCell (p := ⟨gw, xn, none⟩) hgL _
        have hk0 : (0 : Int) ≤ (k : Int) := by omega
        have hk1 : (k : Int) < (er.length : Int) := by omega
        have hx0 : (0 : Int) ≤ (xn : Int) := by omega
        have hx1 : (xn : Int) < (pts.length : Int) := by omega
        have hx2 : (xn : Int) < (xl.length : Int) := by have := hxl.out; omega
        replace hset := Lib.hid hset
        replace hstep := Lib.hid hstep
        replace hxn := Lib.hid hxn
        replace hy := Lib.hid hy
        obtain ⟨⟨q0, q1, q2, q3, q4, q5⟩, p0, p1⟩ := kB0.out.keep hbw hsL
        clear hca hc2 hx hm
        go_wp2_with (fail)
        go_roundw
        case rel => exact ⟨k + 1, by omega, by go_num, hset, hbs⟩
        case measure => simp [intOf]; omega
      · obtain rfl : k = er.length := by omega
        rw [← hws.out, ← hwsl.out] at ho
        have hrws : Rd wv wv.heap.size (some ⟨gw, 0, none⟩) ws := by obtain ⟨A2', c2', e', -, h', -⟩ := ho.out.form; cases e'; exact h'
        have hB : Below w.heap.size w wv := hBL.trans (hbw.mono hLw)
        have kB := Lib.hid (kB0.out.keep hbw hsL)
        have hsW : s + 1 < wv.heap.size := Nat.lt_of_lt_of_le hsL (Nat.le_trans (Nat.le_of_eq hL.out) hbw.size)
        clear ho hbw hrxL hreL hrL kB0 hBL
        obtain ⟨⟨q0, q1, q2, q3, q4, q5⟩, p0, p1⟩ := kB.out
        have hq := hG1 _ ((hr.below hB).more hB.size) ((hr1.below hB).more hB.size) ((hr2.below hB).more hB.size) ((hrw.below hB).more hB.size) ((hre.below hB).more hB.size) (by omega)
        go_wp2_with (fail)
        (with_reducible refine hq.out.mono ?_)
        rintro e w31 ⟨hb, Aa1, ca1, Ab1, cb1, ec1, la1, lb1, rfl, hres1, hra1, hrb1, -, -⟩
        clear hq
        clear q0 q1 q2 q3 q4 q5 p0 p1
        replace hB := hB.trans (hb.mono hB.size)
        replace kB := Lib.hid (kB.out.keep hb hsW)
        replace hsW := Nat.lt_of_lt_of_le hsW hb.size
        replace hrws := (hrws.below hb).more hb.size
        replace hres1 := Lib.hid hres1
        obtain ⟨na1, hna1⟩ : ∃ na1, na1 = la1.length := ⟨_, rfl⟩
        obtain ⟨nb1, hnb1⟩ : ∃ nb1, nb1 = lb1.length := ⟨_, rfl⟩
        rw [← hna1, ← hnb1]
        replace hna1 := Lib.hid hna1
        replace hnb1 := Lib.hid hnb1
        obtain ⟨Y1, hY1⟩ : ∃ Y, Y = w31.alloc (.cells #[.slice Aa1 na1 ca1, .slice Ab1 nb1 cb1] 54) := ⟨_, rfl⟩
        have hbY : Below w31.heap.size w31 Y1 := by rw [hY1]; exact (Below.refl _ _).alloc (Nat.le_refl _) _
        obtain ⟨bd1, hbd1⟩ : ∃ bd, bd = w31.heap.size := ⟨_, rfl⟩
        have d1 := Lib.hid (show Duo Y1 bd1 (.slice Aa1 na1 ca1) (.slice Ab1 nb1 cb1) from by rw [hY1, hbd1]; exact Duo.new w31 _ _ _)
        have d1l : bd1 < Y1.heap.size := by rw [hY1, hbd1]; simp
        replace hB := hB.trans (hbY.mono hB.size)
        replace kB := Lib.hid (kB.out.keep hbY hsW)
        replace hsW := Nat.lt_of_lt_of_le hsW hbY.size
        replace hrws := (hrws.below hbY).more hbY.size
        replace hra1 := (hra1.below hbY).more hbY.size
        replace hrb1 := (hrb1.below hbY).more hbY.size
        have hq2 := hG2 (some ⟨gw, 0, none⟩) c' _ ((hr.below hB).more hB.size) ((hr1.below hB).more hB.size) ((hr2.below hB).more hB.size) hrws ((hre.below hB).more hB.size) (by omega)
        obtain ⟨⟨q0, q1, q2, q3, q4, q5⟩, p0, p1⟩ := hY1 ▸ kB.out
        obtain ⟨a00, a01, -, -⟩ := hY1 ▸ hbd1 ▸ d1.out
        have hq := hq2
        replace hY1 := Lib.hid hY1
        go_wp2_with (fail)
        rw [← hY1.out]
        simp only [← hbd1]
        replace hbd1 := Lib.hid hbd1
        (with_reducible refine hq.out.mono ?_)
        rintro e w32 ⟨hb, Aa2, ca2, Ab2, cb2, ec2, la2, lb2, rfl, hres2, hra2, hrb2, -, -⟩
        clear hq hq2
        clear q0 q1 q2 q3 q4 q5 p0 p1 a00 a01
        replace hB := hB.trans (hb.mono hB.size)
        replace kB := Lib.hid (kB.out.keep hb hsW)
        replace hsW := Nat.lt_of_lt_of_le hsW hb.size
        replace d1 := Lib.hid (d1.out.keep hb d1l)
        replace d1l := Nat.lt_of_lt_of_le d1l hb.size
        replace hrws := (hrws.below hb).more hb.size
        replace hra1 := (hra1.below hb).more hb.size
        replace hrb1 := (hrb1.below hb).more hb.size
        replace hres2 := Lib.hid hres2
        obtain ⟨na2, hna2⟩ : ∃ na2, na2 = la2.length := ⟨_, rfl⟩
        obtain ⟨nb2, hnb2⟩ : ∃ nb2, nb2 = lb2.length := ⟨_, rfl⟩
        rw [← hna2, ← hnb2]
        replace hna2 := Lib.hid hna2
        replace hnb2 := Lib.hid hnb2
        obtain ⟨Y2, hY2⟩ : ∃ Y, Y = w32.alloc (.cells #[.slice Aa2 na2 ca2, .slice Ab2 nb2 cb2] 54) := ⟨_, rfl⟩
        have hbY : Below w32.heap.size w32 Y2 := by rw [hY2]; exact (Below.refl _ _).alloc (Nat.le_refl _) _
        obtain ⟨bd2, hbd2⟩ : ∃ bd, bd = w32.heap.size := ⟨_, rfl⟩
        have d2 := Lib.hid (show Duo Y2 bd2 (.slice Aa2 na2 ca2) (.slice Ab2 nb2 cb2) from by rw [hY2, hbd2]; exact Duo.new w32 _ _ _)
        have d2l : bd2 < Y2.heap.size := by rw [hY2, hbd2]; simp
        replace hB := hB.trans (hbY.mono hB.size)
        replace kB := Lib.hid (kB.out.keep hbY hsW)
        replace hsW := Nat.lt_of_lt_of_le hsW hbY.size
        replace d1 := Lib.hid (d1.out.keep hbY d1l)
        replace d1l := Nat.lt_of_lt_of_le d1l hbY.size
        replace hrws := (hrws.below hbY).more hbY.size
        replace hra1 := (hra1.below hbY).more hbY.size
        replace hrb1 := (hrb1.below hbY).more hbY.size
        replace hra2 := (hra2.below hbY).more hbY.size
        replace hrb2 := (hrb2.below hbY).more hbY.size
        obtain ⟨e1, e2, e3⟩ := hres.out _ _ _ _ _ _ hres1.out hres2.out
        subst e1 e2 e3
        obtain ⟨g1, g2, -⟩ := decres_len hres1.out
        have e4 : na2 = na1 := hna2.out.trans hna1.out.symm
        have e5 : nb2 = nb1 := hnb2.out.trans hnb1.out.symm
        subst e4 e5
        have hS1 := same39_refl la2 Aa1 Aa2 ca1 ca2 Y2 hra1 hra2 (by omega)
        rw [← hna1.out] at hS1
        have hS2 := fun W a b => same39_refl lb2 Ab1 Ab2 cb1 cb2 W a b (by omega)
        rw [← hnb1.out] at hS2
        replace hS1 := Lib.hid hS1
        replace hS2 := fun W a b => Lib.hid (hS2 W a b)
        obtain ⟨⟨q0, q1, q2, q3, q4, q5⟩, p0, p1⟩ := hY2 ▸ kB.out
        obtain ⟨a00, a01, -, -⟩ := hY2 ▸ d1.out
        obtain ⟨a10, a11, -, -⟩ := hY2 ▸ hbd2 ▸ d2.out
        have hq := hS1
        replace hY2 := Lib.hid hY2
        go_wp2_with (fail)
        rw [← hY2.out]
        simp only [← hbd2]
        replace hbd2 := Lib.hid hbd2
        (with_reducible refine hq.out.mono ?_)
        rintro e w33 ⟨rfl, hb⟩
        clear hq
        clear q0 q1 q2 q3 q4 q5 p0 p1 a00 a01 a10 a11
        replace hB := hB.trans (hb.mono hB.size)
        replace kB := Lib.hid (kB.out.keep hb hsW)
        replace hsW := Nat.lt_of_lt_of_le hsW hb.size
        replace d1 := Lib.hid (d1.out.keep hb d1l)
        replace d1l := Nat.lt_of_lt_of_le d1l hb.size
        replace d2 := Lib.hid (d2.out.keep hb d2l)
        replace d2l := Nat.lt_of_lt_of_le d2l hb.size
        replace hrws := (hrws.below hb).more hb.size
        replace hra1 := (hra1.below hb).more hb.size
        replace hrb1 := (hrb1.below hb).more hb.size
        replace hra2 := (hra2.below hb).more hb.size
        replace hrb2 := (hrb2.below hb).more hb.size
        obtain ⟨⟨q0, q1, q2, q3, q4, q5⟩, p0, p1⟩ := kB.out
        obtain ⟨a00, a01, -, -⟩ := d1.out
        obtain ⟨a10, a11, -, -⟩ := d2.out
        have hq := hS2 _ hrb1 hrb2
        go_wp2_with (fail)
        (with_reducible refine hq.out.mono ?_)
        rintro e w34 ⟨rfl, hb⟩
        clear hq
        clear q0 q1 q2 q3 q4 q5 p0 p1 a00 a01 a10 a11
        replace hB := hB.trans (hb.mono hB.size)
        replace kB := Lib.hid (kB.out.keep hb hsW)
        replace hsW := Nat.lt_of_lt_of_le hsW hb.size
        replace d1 := Lib.hid (d1.out.keep hb d1l)
        replace d1l := Nat.lt_of_lt_of_le d1l hb.size
        replace d2 := Lib.hid (d2.out.keep hb d2l)
        replace d2l := Nat.lt_of_lt_of_le d2l hb.size
        replace hrws := (hrws.below hb).more hb.size
        replace hra1 := (hra1.below hb).more hb.size
        replace hrb1 := (hrb1.below hb).more hb.size
        replace hra2 := (hra2.below hb).more hb.size
        replace hrb2 := (hrb2.below hb).more hb.size
        obtain ⟨⟨q0, q1, q2, q3, q4, q5⟩, p0, p1⟩ := kB.out
        obtain ⟨a00, a01, -, -⟩ := d1.out
        obtain ⟨a10, a11, -, -⟩ := d2.out
        go_wp2_with (fail)
        go_ret
        exact ⟨rfl, hB⟩

theorem erasedL (P M K : Int) (ml pts mul : List Int) (A A1 A2 : Option Addr) (c c1 c2 : Nat) (wl er : List Int) (Aw Ae : Option Addr) (cw ce : Nat) (xl : List Int) (Ax : Option Addr) (cx : Nat) (w : World) (hP : I64 P) (hM : I64 M) (_hK : I64 K) (hl : ml.length ≤ maxLen) (h1 : pts.length ≤ c1 ∧ c1 ≤ maxLen) (h2 : mul.length ≤ c2 ∧ c2 ≤ maxLen) (_hi : ∀ x ∈ pts, I64 x) (_hj : ∀ x ∈ mul, I64 x) (hr : Rd w w.heap.size A ml) (hr1 : Rd w w.heap.size A1 pts) (hr2 : Rd w w.heap.size A2 mul) (hwl : wl.length ≤ maxLen) (hel : er.length ≤ maxLen) (hrw : Rd w w.heap.size Aw wl) (hre : Rd w w.heap.size Ae er) (hxc : xl.length ≤ cx) (hxm : cx ≤ maxLen) (hrx : Rd w w.heap.size Ax xl) :
    Calls Try.prog 9 #[.agg #[.int .i64 P, .int .i64 M, .slice A ml.length c, .int .i64 K, .slice A1 pts.length c1, .slice A2 mul.length c2], .agg #[.slice Aw wl.length cw, .slice Ae er.length ce], .slice Ax xl.length cx] w (LawEnd w) := by
  by_cases hb : Good P M ml
  · have hb' := hb
    obtain ⟨D, rfl, rfl, rfl, -⟩ := hb
    rw [modL_length]
    obtain ⟨F, rfl⟩ := goodF hb'
    exact erasedL_good F K pts mul A A1 A2 c c1 c2 wl er Aw Ae cw ce xl Ax cx w hr hb' h1 h2 hr1 hr2 hwl hel hrw hre hxc hxm hrx
  · exact erasedL_bad P M K ml pts mul A A1 A2 c c1 c2 wl er Aw Ae cw ce xl Ax cx w hP hM hl hr hb
end Go.Proofs.Ytpflgmbcmfllgaa
