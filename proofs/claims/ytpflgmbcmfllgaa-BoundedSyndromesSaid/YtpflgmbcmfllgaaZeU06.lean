/- BoundedSyndromes: the walk. -/
import Derived.Test.YtpflgmbcmfllgaaZeGrsC
import Derived.Test.YtpflgmbcmfllgaaZeSynL
import Derived.Test.YtpflgmbcmfllgaaZeGrsT
import Derived.Test.YtpflgmbcmfllgaaZeGrsU
import Derived.Test.YtpflgmbcmfllgaaZeMI
import Derived.Test.YtpflgmbcmfllgaaZeB39
namespace Go.Proofs.Ytpflgmbcmfllgaa
open Go.RowKit Cw
attribute [local go_sem] Oper.semAt_some

noncomputable def synX (D : Desc) (n L : Nat) (pts dm wl : List Int) : List Int := lst L fun i => ci (rsum n fun j => eli D ((rowsL D n (gM D pts dm) i)[j]?.getD 0) * eli D (wl[j]?.getD 0))
theorem synL_synX (F : FD) (K : Int) (pts mul wl : List Int) : synL F K pts mul wl = synX F.toDesc pts.length ((pts.length : Int) - K).toNat pts (dualL F pts mul) wl := rfl
theorem synL_eq {F F' : FD} (h : F'.toDesc = F.toDesc) (K : Int) (pts mul wl : List Int) : synL F' K pts mul wl = synL F K pts mul wl := by
  rw [synL_synX, synL_synX, dualL_eq h, h]
theorem recErr_nil (D : Desc) (wl : List Int) (n : Nat) : recErr D wl n [] = elErr D wl n 4 := by
  unfold recErr
  by_cases h : elErr D wl n 4 = 0
  · rw [if_neg (fun e => e h), if_neg (by simp), if_neg (by simp), h]
  · rw [if_pos h]

set_option maxRecDepth 100000 in
set_option maxHeartbeats 4000000 in
theorem syndL_bad (P M K : Int) (ml pts mul : List Int) (A A1 A2 : Option Addr) (c c1 c2 : Nat) (xl : List Int) (Ax : Option Addr) (cx : Nat) (w : World) (hP : I64 P) (hM : I64 M) (hl : ml.length ≤ maxLen) (hr : Rd w w.heap.size A ml) (hb : ¬ Good P M ml) :
    Calls Try.prog 12 #[.agg #[.int .i64 P, .int .i64 M, .slice A ml.length c, .int .i64 K, .slice A1 pts.length c1, .slice A2 mul.length c2], .slice Ax xl.length cx] w (LawEnd w) := by
  have hAl := fun W => Lib.hid (alive39_any W)
  have hSy := fun W h => Lib.hid (gSyn_bad P M K ml pts mul A A1 A2 c c1 c2 Ax xl.length cx W hP hM hl h hb)
  have hC := fun W h => Lib.hid (Chk18_bad P M K ml pts mul A A1 A2 c c1 c2 W hP hM hl h hb)
  clear hP hM hl hb
  obtain ⟨s, hs⟩ : ∃ s, s = w.heap.size := ⟨_, rfl⟩
  obtain ⟨Z, hZ⟩ : ∃ Z, Z = w.alloc (.cells #[.int .i64 P, .int .i64 M, .slice A ml.length c, .int .i64 K, .slice A1 pts.length c1, .slice A2 mul.length c2] 49) := ⟨_, rfl⟩
  have hB : Below w.heap.size w Z := by rw [hZ]; exact (Below.refl _ _).alloc (Nat.le_refl _) _
  have kB : Hid (Z.cell? ⟨s, 0, none⟩ = some (.int .i64 P) ∧ Z.cell? ⟨s, 1, none⟩ = some (.int .i64 M) ∧ Z.cell? ⟨s, 2, none⟩ = some (.slice A ml.length c) ∧ Z.cell? ⟨s, 3, none⟩ = some (.int .i64 K) ∧ Z.cell? ⟨s, 4, none⟩ = some (.slice A1 pts.length c1) ∧ Z.cell? ⟨s, 5, none⟩ = some (.slice A2 mul.length c2)) := by rw [hZ, hs]; simp [Hid, go_sem]
  have hsW : s < Z.heap.size := by rw [hZ, hs]; simp
  replace hZ := Lib.hid hZ
  unfold LawEnd
  go_enter Try.func12, Try.ntmps12
  go_wp2_with (fail)
  rw [← hZ.out]
  simp only [← hs]
  replace hs := Lib.hid hs
  go_wp2_with (fail)
  (with_reducible refine (hAl _).out.mono ?_)
  rintro e w0 ⟨rfl, hb⟩
  replace hB := hB.trans (hb.mono hB.size)
  replace kB := Lib.hid (keep6 hb hsW kB.out)
  replace hsW := Nat.lt_of_lt_of_le hsW hb.size
  by_cases hbig : (20 : Int) < (pts.length : Int)
  · obtain ⟨q0, q1, q2, q3, q4, q5⟩ := kB.out
    go_wp2_with (fail)
    go_ret
    exact ⟨rfl, hB⟩
  obtain ⟨q0, q1, q2, q3, q4, q5⟩ := kB.out
  have hq := hSy _ ((hr.below hB).more hB.size)
  go_wp2_with (fail)
  (with_reducible refine hq.out.mono ?_)
  rintro e w1 ⟨rfl, hb⟩
  clear hq
  clear q0 q1 q2 q3 q4 q5
  replace hB := hB.trans (hb.mono hB.size)
  replace kB := Lib.hid (keep6 hb hsW kB.out)
  replace hsW := Nat.lt_of_lt_of_le hsW hb.size
  obtain ⟨q0, q1, q2, q3, q4, q5⟩ := kB.out
  have hq := hC _ ((hr.below hB).more hB.size)
  go_wp2_with (fail)
  (with_reducible refine hq.out.mono ?_)
  rintro e w2 ⟨rfl, hb⟩
  clear hq
  clear q0 q1 q2 q3 q4 q5
  replace hB := hB.trans (hb.mono hB.size)
  replace kB := Lib.hid (keep6 hb hsW kB.out)
  replace hsW := Nat.lt_of_lt_of_le hsW hb.size
  obtain ⟨q0, q1, q2, q3, q4, q5⟩ := kB.out
  go_wp2_with (fail)
  go_ret
  exact ⟨rfl, hB⟩

set_option maxRecDepth 100000 in
set_option maxHeartbeats 16000000 in
theorem syndL_good (F : FD) (K : Int) (pts mul : List Int) (A A1 A2 : Option Addr) (c c1 c2 : Nat) (xl : List Int) (Ax : Option Addr) (cx : Nat) (w : World) (hr : Rd w w.heap.size A (modL F.toDesc)) (hb : Good F.p F.m (modL F.toDesc)) (h1 : pts.length ≤ c1 ∧ c1 ≤ maxLen) (h2 : mul.length ≤ c2 ∧ c2 ≤ maxLen) (hr1 : Rd w w.heap.size A1 pts) (hr2 : Rd w w.heap.size A2 mul) (hxc : xl.length ≤ cx) (hxm : cx ≤ maxLen) (hrx : Rd w w.heap.size Ax xl) :
    Calls Try.prog 12 #[.agg #[.int .i64 F.p, .int .i64 F.m, .slice A F.mod.length c, .int .i64 K, .slice A1 pts.length c1, .slice A2 mul.length c2], .slice Ax xl.length cx] w (LawEnd w) := by
  have hAl := fun W => Lib.hid (alive39_any W)
  have hSy := fun W a b d e => Lib.hid (gSyn_D F.toDesc K pts mul A A1 A2 c c1 c2 xl Ax cx W a hb b d h1.1 h1.2 (Nat.le_trans h2.1 h2.2) e (Nat.le_trans hxc hxm))
  have hC := fun W a b d => Lib.hid (Chk18_D F.toDesc K pts mul A A1 A2 c c1 c2 W a hb b d (Nat.le_trans h2.1 h2.2))
  have hEl := fun W a => Lib.hid (Elems18_any F.toDesc xl pts.length 4 A Ax c cx W a (Nat.le_trans hxc hxm))
  have hgd := Lib.hid hb
  clear hb h1 h2
  obtain ⟨s, hs⟩ : ∃ s, s = w.heap.size := ⟨_, rfl⟩
  obtain ⟨Z, hZ⟩ : ∃ Z, Z = w.alloc (.cells #[.int .i64 F.p, .int .i64 F.m, .slice A F.mod.length c, .int .i64 K, .slice A1 pts.length c1, .slice A2 mul.length c2] 49) := ⟨_, rfl⟩
  have hB : Below w.heap.size w Z := by rw [hZ]; exact (Below.refl _ _).alloc (Nat.le_refl _) _
  have kB : Hid (Z.cell? ⟨s, 0, none⟩ = some (.int .i64 F.p) ∧ Z.cell? ⟨s, 1, none⟩ = some (.int .i64 F.m) ∧ Z.cell? ⟨s, 2, none⟩ = some (.slice A F.mod.length c) ∧ Z.cell? ⟨s, 3, none⟩ = some (.int .i64 K) ∧ Z.cell? ⟨s, 4, none⟩ = some (.slice A1 pts.length c1) ∧ Z.cell? ⟨s, 5, none⟩ = some (.slice A2 mul.length c2)) := by rw [hZ, hs]; simp [Hid, go_sem]
  have hsW : s < Z.heap.size := by rw [hZ, hs]; simp
  replace hZ := Lib.hid hZ
  unfold LawEnd
  go_enter Try.func12, Try.ntmps12
  go_wp2_with (fail)
  rw [← hZ.out]
  simp only [← hs]
  replace hs := Lib.hid hs
  go_wp2_with (fail)
  (with_reducible refine (hAl _).out.mono ?_)
  rintro e w0 ⟨rfl, hb⟩
  replace hB := hB.trans (hb.mono hB.size)
  replace kB := Lib.hid (keep6 hb hsW kB.out)
  replace hsW := Nat.lt_of_lt_of_le hsW hb.size
  by_cases hbig : (20 : Int) < (pts.length : Int)
  · obtain ⟨q0, q1, q2, q3, q4, q5⟩ := kB.out
    go_wp2_with (fail)
    go_ret
    exact ⟨rfl, hB⟩
  obtain ⟨q0, q1, q2, q3, q4, q5⟩ := kB.out
  have hq := hSy _ ((hr.below hB).more hB.size) ((hr1.below hB).more hB.size) ((hr2.below hB).more hB.size) ((hrx.below hB).more hB.size)
  go_wp2_with (fail)
  (with_reducible refine hq.out.mono ?_)
  rintro e w1 ⟨hb, hcase⟩
  clear hq
  clear q0 q1 q2 q3 q4 q5
  replace hB := hB.trans (hb.mono hB.size)
  replace kB := Lib.hid (keep6 hb hsW kB.out)
  replace hsW := Nat.lt_of_lt_of_le hsW hb.size
  rcases hcase with ⟨hne, rfl⟩ | ⟨hE0, F2, hF2, As, cs, rfl, hrs⟩
  · obtain ⟨E, hE⟩ : ∃ E, E = decErr F.toDesc K pts mul xl [] := ⟨_, rfl⟩
    rw [← hE] at hne ⊢
    have hnb : (E != 0) = true := by rw [bne_iff_ne]; exact hne
    have hnb2 : (E == 0) = false := by rw [beq_eq_false_iff_ne]; exact hne
    replace hne := Lib.hid hne
    replace hE := Lib.hid hE
    obtain ⟨q0, q1, q2, q3, q4, q5⟩ := kB.out
    have hq := hC _ ((hr.below hB).more hB.size) ((hr1.below hB).more hB.size) ((hr2.below hB).more hB.size)
    go_wp2_with (fail)
    (with_reducible refine hq.out.mono ?_)
    rintro e w2 ⟨rfl, hb⟩
    clear hq
    clear q0 q1 q2 q3 q4 q5
    replace hB := hB.trans (hb.mono hB.size)
    replace kB := Lib.hid (keep6 hb hsW kB.out)
    replace hsW := Nat.lt_of_lt_of_le hsW hb.size
    by_cases hz : gchkD F.toDesc K pts mul = 0
    rotate_left
    · have hEz : gchkD F.toDesc K pts mul = E := by rw [hE.out]; exact (if_pos hz).symm
      rw [hEz]
      clear hz hEz
      obtain ⟨q0, q1, q2, q3, q4, q5⟩ := kB.out
      go_wp2_with (fail)
      go_ret
      exact ⟨rfl, hB⟩
    rw [hz]
    have hEz : Hid (elErr F.toDesc xl pts.length 4 = E) := by rw [Hid, hE.out, ← recErr_nil]; exact (if_neg (fun h => h hz)).symm
    clear hz
    obtain ⟨q0, q1, q2, q3, q4, q5⟩ := kB.out
    have hq := hEl _ ((hrx.below hB).more hB.size)
    go_wp2_with (fail)
    (with_reducible refine hq.out.mono ?_)
    rintro e w3 ⟨rfl, hb⟩
    clear hq
    clear q0 q1 q2 q3 q4 q5
    replace hB := hB.trans (hb.mono hB.size)
    replace kB := Lib.hid (keep6 hb hsW kB.out)
    replace hsW := Nat.lt_of_lt_of_le hsW hb.size
    rw [hEz.out]
    obtain ⟨q0, q1, q2, q3, q4, q5⟩ := kB.out
    go_wp2_with (fail)
    go_ret
    exact ⟨rfl, hB⟩
  have hz : gchkD F.toDesc K pts mul = 0 := Classical.byContradiction fun h => h ((if_pos h).symm.trans hE0)
  have hzr : recErr F.toDesc xl pts.length [] = 0 := (if_neg (fun h => h hz) : decErr F.toDesc K pts mul xl [] = _).symm.trans hE0
  have hze : Hid (elErr F.toDesc xl pts.length 4 = 0) := (recErr_nil _ _ _).symm.trans hzr
  obtain ⟨hp1, hp64, hlen, -, -, -, -, hK0, hKn⟩ := gchkD_zero hz
  obtain ⟨hwn, helw, -, -⟩ := recErr_zero hzr
  obtain ⟨kn, rfl⟩ : ∃ kn : Nat, K = kn := ⟨K.toNat, by omega⟩
  have hpl := Lib.hid (syn_has (wl := xl) hz)
  rw [synL_eq hF2] at hrs
  have hsl := synL_length F kn pts mul xl
  obtain ⟨L, hL⟩ : ∃ L, L = ((pts.length : Int) - (kn : Int)).toNat := ⟨_, rfl⟩
  have hKL : (pts.length : Int) - (kn : Int) = (L : Int) := by omega
  have hL64 : L ≤ 64 := by omega
  obtain ⟨sl, hsn⟩ : ∃ sl, sl = synL F kn pts mul xl := ⟨_, rfl⟩
  have hget : Hid (∀ i, i < L → ci (rsum pts.length fun j => eli F.toDesc ((rowsW F.toDesc pts (dualL F pts mul) i)[j]?.getD 0) * eli F.toDesc (xl[j]?.getD 0)) = sl[i]?.getD 0) := fun i hi => by
    rw [hsn, synL, ← hL, lst_get _ hi, rowsW_eq]
  have hDu := fun W a b d => Dual18_any F kn pts mul A A1 A2 c c1 c2 W a b d hlen hp64 hK0 hKn
  rw [hKL] at hDu
  have hRw := fun A' W a b d => Rows18_any F.toDesc L pts (dualL F pts mul) A A1 A' c c1 pts.length W a b d (dualL_length F pts mul) hp64 (by omega)
  rw [dualL_length] at hRw
  have hDt := fun i A' c' W a b d => Dot4_any F.toDesc (rowsW F.toDesc pts (dualL F pts mul) i) xl pts.length (wordL_length _ _ _ _) hwn A A' Ax c c' cx W a b d (by unfold maxLen; omega)
  have hWt := fun W a => Weight18_any sl As cs W a (by rw [hsn, hsl, ← hL]; unfold maxLen; omega)
  have hHs := fun W a b d e => Has18_any F hgd.out kn pts mul xl A A1 A2 Ax c c1 c2 cx W hz a b d e hwn helw
  rw [← hsn] at hrs hpl
  rw [← hL, ← hsn] at hsl
  rw [← hL]
  rw [hsl] at hWt
  rw [hwn] at hHs ⊢
  replace hpl := Lib.hid hpl
  replace hDu := fun W a b d => Lib.hid (hDu W a b d)
  replace hRw := fun A' W a b d => Lib.hid (hRw A' W a b d)
  replace hDt := fun i A' c' W a b d => Lib.hid (hDt i A' c' W a b d)
  replace hzH := Lib.hid hz
  replace hwnH := Lib.hid hwn
  replace hsl := Lib.hid hsl
  replace hsn := Lib.hid hsn
  replace hL := Lib.hid hL
  replace hKL := Lib.hid hKL
  replace hlen := Lib.hid hlen
  replace hF2 := Lib.hid hF2
  clear hz hzr hE0 helw hwn hSy hAl
  obtain ⟨q0, q1, q2, q3, q4, q5⟩ := kB.out
  have hq := hC _ ((hr.below hB).more hB.size) ((hr1.below hB).more hB.size) ((hr2.below hB).more hB.size)
  go_wp2_with (fail)
  (with_reducible refine hq.out.mono ?_)
  rintro e w4 ⟨rfl, hb⟩
  clear hq
  clear q0 q1 q2 q3 q4 q5
  replace hB := hB.trans (hb.mono hB.size)
  replace kB := Lib.hid (keep6 hb hsW kB.out)
  replace hsW := Nat.lt_of_lt_of_le hsW hb.size
  replace hrs := (hrs.below hb).more hb.size
  rw [hzH.out]
  obtain ⟨q0, q1, q2, q3, q4, q5⟩ := kB.out
  have hq := hEl _ ((hrx.below hB).more hB.size)
  rw [hwnH.out] at hq
  go_wp2_with (fail)
  (with_reducible refine hq.out.mono ?_)
  rintro e w5 ⟨rfl, hb⟩
  clear hq
  clear q0 q1 q2 q3 q4 q5
  replace hB := hB.trans (hb.mono hB.size)
  replace kB := Lib.hid (keep6 hb hsW kB.out)
  replace hsW := Nat.lt_of_lt_of_le hsW hb.size
  replace hrs := (hrs.below hb).more hb.size
  rw [hze.out]
  obtain ⟨q0, q1, q2, q3, q4, q5⟩ := kB.out
  have hq := hDu _ ((hr.below hB).more hB.size) ((hr1.below hB).more hB.size) ((hr2.below hB).more hB.size)
  go_wp2_with (fail)
  (with_reducible refine hq.out.mono ?_)
  rintro e w6 ⟨gd, rfl, hrd, hb⟩
  clear hq
  clear q0 q1 q2 q3 q4 q5
  replace hB := hB.trans (hb.mono hB.size)
  replace kB := Lib.hid (keep6 hb hsW kB.out)
  replace hsW := Nat.lt_of_lt_of_le hsW hb.size
  replace hrs := (hrs.below hb).more hb.size
  obtain ⟨q0, q1, q2, q3, q4, q5⟩ := kB.out
  have hq := hRw _ _ ((hr.below hB).more hB.size) ((hr1.below hB).more hB.size) hrd
  go_wp2_with (fail)
  (with_reducible refine hq.out.mono ?_)
  rintro e w7 ⟨v, rfl, hown, hb⟩
  clear hq
  clear q0 q1 q2 q3 q4 q5
  replace hB := hB.trans (hb.mono hB.size)
  replace kB := Lib.hid (keep6 hb hsW kB.out)
  replace hsW := Nat.lt_of_lt_of_le hsW hb.size
  replace hrs := (hrs.below hb).more hb.size
  replace hrd := (hrd.below hb).more hb.size
  obtain ⟨Av, cv, rfl, hrm⟩ := hown.rd
  clear hown
  obtain ⟨q0, q1, q2, q3, q4, q5⟩ := kB.out
  have hBR := hB
  have kR := kB
  have hlt := hsW
  go_wp2_with (fail)
  clear q0 q1 q2 q3 q4 q5
  go_loopw [57, 9] (fun i _ wr => ∃ k : Nat, k ≤ L ∧ i = .int .i64 k ∧ Below w7.heap.size w7 wr) (fun i _ _ => L - (intOf i).toNat)
  case atStart => exact ⟨0, by omega, rfl, Below.refl _ _⟩
  case round =>
    obtain ⟨wv, rfl⟩ : ∃ wv : World, wv = wr := ⟨_, rfl⟩
    obtain ⟨k, hk, rfl, hbl⟩ := hrel
    by_cases hkm : k < L
    · obtain ⟨bs, os, rfl, hbs, hcs⟩ := hrs.at_ (show k < sl.length by rw [hsl.out]; exact hkm)
      obtain ⟨b, off, Ai, ci', rfl, hbb, hcell, hri, -, -⟩ := hrm.at_ hkm
      rw [show (rowsW F.toDesc pts (dualL F pts mul) k).length = pts.length from wordL_length _ _ _ _] at hcell
      have hbd := hbl.drew
      have cL := fun W' (h : Below w7.heap.size w7 W') => Lib.hid (show (W'.cell? ⟨s, 0, none⟩ = some (.int .i64 F.p) ∧ W'.cell? ⟨s, 1, none⟩ = some (.int .i64 F.m) ∧ W'.cell? ⟨s, 2, none⟩ = some (.slice A F.mod.length c) ∧ W'.cell? ⟨s, 3, none⟩ = some (.int .i64 (kn : Int)) ∧ W'.cell? ⟨s, 4, none⟩ = some (.slice A1 pts.length c1) ∧ W'.cell? ⟨s, 5, none⟩ = some (.slice A2 mul.length c2)) ∧ W'.cell? ⟨bs, os + k, none⟩ = some (.int .i64 (sl[k]?.getD 0)) ∧ W'.cell? ⟨b, off + k, none⟩ = some (.slice Ai pts.length ci') from ⟨keep6 h hlt kR.out, (h.cell (p := ⟨bs, os + k, none⟩) hbs).trans hcs, (h.cell (p := ⟨b, off + k, none⟩) hbb).trans hcell⟩)
      have hBL := hBR.trans (hbl.mono hBR.size)
      have hDk := (hDt k Ai ci' wv.drew ((hr.below hBL).more hBL.size) ((hri.below hbl).more hbl.size) ((hrx.below hBL).more hBL.size)).out
      rw [hget.out k hkm] at hDk
      obtain ⟨y, hy⟩ : ∃ y, y = sl[k]?.getD 0 := ⟨_, rfl⟩
      rw [← hy] at hDk cL
      have k0 : (0 : Int) ≤ (k : Int) := by omega
      have k1 : (k : Int) < (L : Int) := by omega
      replace hDk := Lib.hid hDk
      replace hy := Lib.hid hy
      clear hcs hcell hri
      obtain ⟨⟨q0, q1, q2, q3, q4, q5⟩, p0, p1⟩ := (cL _ hbl).out
      go_wp2_with (fail)
      clear q0 q1 q2 q3 q4 q5 p0 p1
      refine wp_region_held_drew (S := fun w' => (w'.cell? ⟨s, 0, none⟩ = some (.int .i64 F.p) ∧ w'.cell? ⟨s, 1, none⟩ = some (.int .i64 F.m) ∧ w'.cell? ⟨s, 2, none⟩ = some (.slice A F.mod.length c) ∧ w'.cell? ⟨s, 3, none⟩ = some (.int .i64 (kn : Int)) ∧ w'.cell? ⟨s, 4, none⟩ = some (.slice A1 pts.length c1) ∧ w'.cell? ⟨s, 5, none⟩ = some (.slice A2 mul.length c2)) ∧ w'.cell? ⟨bs, os + k, none⟩ = some (.int .i64 y) ∧ w'.cell? ⟨b, off + k, none⟩ = some (.slice Ai pts.length ci')) (by kernel_rfl) (by (try dsimp only); exact (cL _ hbd).out) (fun hHeld => ?_)
      refine wpAnyH_take (i := 0) (oi := ⟨_, _, _, _, _, _⟩) (v := ?_) rfl (by kernel_rfl) (by kernel_rfl) (by kernel_rfl) (fun _ _ _ h => h) (Or.inl ⟨by rfl, ?_⟩) (by assumption) ?_
      rotate_left
      · intro w hSw; (try dsimp only at hSw); go_simp; try with_reducible rfl
      try simp only [Act.put, List.setIfInBounds_toArray, List.set_cons_zero, List.set_cons_succ]
      refine wpAnyH_take (i := 1) (oi := ⟨_, _, _, _, _, _⟩) (v := ?_) rfl (by kernel_rfl) (by kernel_rfl) (by kernel_rfl) (fun _ _ _ h => h) (Or.inl ⟨by rfl, ?_⟩) (by assumption) ?_
      rotate_left
      · intro w hSw; (try dsimp only at hSw); go_simp; try with_reducible rfl
      try simp only [Act.put, List.setIfInBounds_toArray, List.set_cons_zero, List.set_cons_succ]
      refine wpAnyH_take (i := 2) (oi := ⟨_, _, _, _, _, _⟩) (v := ?_) rfl (by kernel_rfl) (by kernel_rfl) (by kernel_rfl) (fun _ _ _ h => h) (Or.inl ⟨by rfl, ?_⟩) (by assumption) ?_
      rotate_left
      · intro w hSw; (try dsimp only at hSw); go_simp; try with_reducible rfl
      try simp only [Act.put, List.setIfInBounds_toArray, List.set_cons_zero, List.set_cons_succ]
      refine wpAnyH_take (i := 3) (oi := ⟨_, _, _, _, _, _⟩) (v := ?_) rfl (by kernel_rfl) (by kernel_rfl) (by kernel_rfl) (fun _ _ _ h => h) (Or.inl ⟨by rfl, ?_⟩) (by assumption) ?_
      rotate_left
      · intro w hSw; (try dsimp only at hSw); go_simp; try with_reducible rfl
      try simp only [Act.put, List.setIfInBounds_toArray, List.set_cons_zero, List.set_cons_succ]
      refine wpAnyH_take (i := 4) (oi := ⟨_, _, _, _, _, _⟩) (v := ?_) rfl (by kernel_rfl) (by kernel_rfl) (by kernel_rfl) (fun _ _ _ h => h) (Or.inl ⟨by rfl, ?_⟩) (by assumption) ?_
      rotate_left
      · intro w hSw; (try dsimp only at hSw); go_simp; try with_reducible rfl
      try simp only [Act.put, List.setIfInBounds_toArray, List.set_cons_zero, List.set_cons_succ]
      refine wpAnyH_take (i := 5) (oi := ⟨_, _, _, _, _, _⟩) (v := ?_) rfl (by kernel_rfl) (by kernel_rfl) (by kernel_rfl) (fun _ _ _ h => h) (Or.inl ⟨by rfl, ?_⟩) (by assumption) ?_
      rotate_left
      · intro w hSw; (try dsimp only at hSw); go_simp; try with_reducible rfl
      try simp only [Act.put, List.setIfInBounds_toArray, List.set_cons_zero, List.set_cons_succ]
      refine wpAnyH_take (i := 6) (oi := ⟨_, _, _, _, _, _⟩) (v := ?_) rfl (by kernel_rfl) (by kernel_rfl) (by kernel_rfl) (fun _ _ _ h => h) (Or.inl ⟨by rfl, ?_⟩) (by assumption) ?_
      rotate_left
      · intro w hSw; (try dsimp only at hSw); go_simp; try with_reducible rfl
      try simp only [Act.put, List.setIfInBounds_toArray, List.set_cons_zero, List.set_cons_succ]
      refine wpAnyH_take (i := 7) (oi := ⟨_, _, _, _, _, _⟩) (v := ?_) rfl (by kernel_rfl) (by kernel_rfl) (by kernel_rfl) (fun _ _ _ h => h) (Or.inl ⟨by rfl, ?_⟩) (by assumption) ?_
      rotate_left
      · intro w hSw; (try dsimp only at hSw); go_simp; try with_reducible rfl
      try simp only [Act.put, List.setIfInBounds_toArray, List.set_cons_zero, List.set_cons_succ]
      refine wpAnyH_take (i := 8) (oi := ⟨_, _, _, _, _, _⟩) (v := ?_) rfl (by kernel_rfl) (by kernel_rfl) (by kernel_rfl) (fun _ _ _ h => h) (Or.inl ⟨by rfl, ?_⟩) (by assumption) ?_
      rotate_left
      · intro w hSw; (try dsimp only at hSw); go_simp; try with_reducible rfl
      try simp only [Act.put, List.setIfInBounds_toArray, List.set_cons_zero, List.set_cons_succ]
      refine wpAnyH_take (i := 9) (oi := ⟨_, _, _, _, _, _⟩) (v := ?_) rfl (by kernel_rfl) (by kernel_rfl) (by kernel_rfl) (fun _ _ _ h => h) (Or.inl ⟨by rfl, ?_⟩) (by assumption) ?_
      rotate_left
      · intro w hSw; (try dsimp only at hSw); go_simp; try with_reducible rfl
      try simp only [Act.put, List.setIfInBounds_toArray, List.set_cons_zero, List.set_cons_succ]
      refine wpAnyH_take (i := 10) (oi := ⟨_, _, _, _, _, _⟩) (v := ?_) rfl (by kernel_rfl) (by kernel_rfl) (by kernel_rfl) (fun _ _ _ h => h) (Or.inl ⟨by rfl, ?_⟩) (by assumption) ?_
      rotate_left
      · intro w hSw; (try dsimp only at hSw); go_simp; try with_reducible rfl
      try simp only [Act.put, List.setIfInBounds_toArray, List.set_cons_zero, List.set_cons_succ]
      refine wpAnyH_ready (rs := [11]) (by kernel_rfl) (by simp) ?_
      refine AllReadyH.cons (o := ⟨_, _, _, _, _, _⟩) rfl (fun K hK => ?_) AllReadyH.nil
      go_simp
      go_at_call 53
      (with_reducible refine (hDk).out.mono ?_)
      rintro e wq ⟨rfl, hb⟩
      have hbD := hbd.trans (hb.mono hbd.size)
      go_wp2_with (fail)
      refine hK.out _ _ (by (try dsimp only); exact (cL _ hbD).out) (fun hHeld => ?_)
      clear hK K
      try simp only [Act.put, List.setIfInBounds_toArray, List.set_cons_zero, List.set_cons_succ]
      refine wpAnyH_take (i := 12) (oi := ⟨_, _, _, _, _, _⟩) (v := ?_) rfl (by kernel_rfl) (by kernel_rfl) (by kernel_rfl) (fun _ _ _ h => h) (Or.inl ⟨by rfl, ?_⟩) (by assumption) ?_
      rotate_left
      · intro w hSw; (try dsimp only at hSw); go_simp; try with_reducible rfl
      try simp only [Act.put, List.setIfInBounds_toArray, List.set_cons_zero, List.set_cons_succ]
      refine wpAnyH_done (by kernel_rfl) ?_ _
      go_wp2_with (fail)
      go_roundw
      case rel => exact ⟨k + 1, by omega, by go_num, hbD⟩
      case measure => simp [intOf]; omega
    · have hkL : k = L := by omega
      subst hkL
      replace hB := hBR.trans (hbl.mono hBR.size)
      replace kB := Lib.hid (keep6 hbl hlt kR.out)
      replace hsW : s < wv.heap.size := Nat.lt_of_lt_of_le hlt hbl.size
      have hrsv := (hrs.below hbl).more hbl.size
      clear hrs hrm hbl hBR kR hlt hDt hRw hDu hC hEl hkm hget hk
      have cE := fun W' (h : Below wv.heap.size wv W') => Lib.hid (show W'.cell? ⟨s, 0, none⟩ = some (.int .i64 F.p) ∧ W'.cell? ⟨s, 1, none⟩ = some (.int .i64 F.m) ∧ W'.cell? ⟨s, 2, none⟩ = some (.slice A F.mod.length c) ∧ W'.cell? ⟨s, 3, none⟩ = some (.int .i64 (kn : Int)) ∧ W'.cell? ⟨s, 4, none⟩ = some (.slice A1 pts.length c1) ∧ W'.cell? ⟨s, 5, none⟩ = some (.slice A2 mul.length c2) from keep6 h hsW kB.out)
      obtain ⟨hb0, hl0⟩ : Below wv.heap.size wv wv.drew ∧ wv.heap.size ≤ wv.drew.heap.size := ⟨(Below.refl _ _).drew, Nat.le_refl _⟩
      replace hb0 := Lib.hid hb0
      obtain ⟨m, hm⟩ : ∃ m, m = wgt sl := ⟨_, rfl⟩
      obtain ⟨ib, hib⟩ : ∃ ib, ib = inB F kn pts mul xl := ⟨_, rfl⟩
      rw [← hm] at hWt
      rw [← hib] at hHs
      have hmb : decide (m = 0) = ib := by rw [hm, hib]; exact hpl.out
      replace hm := Lib.hid hm
      replace hib := Lib.hid hib
      replace hmb := Lib.hid hmb
      replace hWt := fun W a => Lib.hid (hWt W a)
      replace hHs := fun W a b d e => Lib.hid (hHs W a b d e)
      obtain ⟨q0, q1, q2, q3, q4, q5⟩ := kB.out
      go_wp2_with (fail)
      clear q0 q1 q2 q3 q4 q5
      refine wp_region_held_drew (S := fun w' => w'.cell? ⟨s, 0, none⟩ = some (.int .i64 F.p) ∧ w'.cell? ⟨s, 1, none⟩ = some (.int .i64 F.m) ∧ w'.cell? ⟨s, 2, none⟩ = some (.slice A F.mod.length c) ∧ w'.cell? ⟨s, 3, none⟩ = some (.int .i64 (kn : Int)) ∧ w'.cell? ⟨s, 4, none⟩ = some (.slice A1 pts.length c1) ∧ w'.cell? ⟨s, 5, none⟩ = some (.slice A2 mul.length c2)) (by kernel_rfl) (by (try dsimp only); exact (cE _ hb0.out).out) (fun hHeld => ?_)
      revert hb0 hl0 hHeld
      generalize wv.drew = wq
      intro hl0 hb0 hHeld
      refine wpAnyH_take (i := 0) (oi := ⟨_, _, _, _, _, _⟩) (v := ?_) rfl (by kernel_rfl) (by kernel_rfl) (by kernel_rfl) (fun _ _ _ h => h) (Or.inl ⟨by rfl, ?_⟩) (by assumption) ?_
      rotate_left
      · intro w hSw; (try dsimp only at hSw); go_simp; try with_reducible rfl
      try simp only [Act.put, List.setIfInBounds_toArray, List.set_cons_zero, List.set_cons_succ]
      refine wpAnyH_take (i := 3) (oi := ⟨_, _, _, _, _, _⟩) (v := ?_) rfl (by kernel_rfl) (by kernel_rfl) (by kernel_rfl) (fun _ _ _ h => h) (Or.inl ⟨by rfl, ?_⟩) (by assumption) ?_
      rotate_left
      · intro w hSw; (try dsimp only at hSw); go_simp; try with_reducible rfl
      try simp only [Act.put, List.setIfInBounds_toArray, List.set_cons_zero, List.set_cons_succ]
      refine wpAnyH_take (i := 4) (oi := ⟨_, _, _, _, _, _⟩) (v := ?_) rfl (by kernel_rfl) (by kernel_rfl) (by kernel_rfl) (fun _ _ _ h => h) (Or.inl ⟨by rfl, ?_⟩) (by assumption) ?_
      rotate_left
      · intro w hSw; (try dsimp only at hSw); go_simp; try with_reducible rfl
      try simp only [Act.put, List.setIfInBounds_toArray, List.set_cons_zero, List.set_cons_succ]
      refine wpAnyH_ready (rs := [1]) (by kernel_rfl) (by simp) ?_
      refine AllReadyH.cons (o := ⟨_, _, _, _, _, _⟩) rfl (fun K hK => ?_) AllReadyH.nil
      go_simp
      go_at_call 44
      (with_reducible refine (hWt _ ((hrsv.below hb0.out).more hl0)).out.mono ?_)
      rintro e wq2 ⟨rfl, rfl⟩
      go_wp2_with (fail)
      refine hK.out _ _ (by (try dsimp only); exact (cE _ hb0.out).out) (fun hHeld => ?_)
      clear hK K
      try simp only [Act.put, List.setIfInBounds_toArray, List.set_cons_zero, List.set_cons_succ]
      refine wpAnyH_take (i := 2) (oi := ⟨_, _, _, _, _, _⟩) (v := ?_) rfl (by kernel_rfl) (by kernel_rfl) (by kernel_rfl) (fun _ _ _ h => h) (Or.inl ⟨by rfl, ?_⟩) (by assumption) ?_
      rotate_left
      · intro w hSw; (try dsimp only at hSw); go_simp; try with_reducible rfl
      try simp only [Act.put, List.setIfInBounds_toArray, List.set_cons_zero, List.set_cons_succ]
      refine wpAnyH_ready (rs := [5]) (by kernel_rfl) (by simp) ?_
      refine AllReadyH.cons (o := ⟨_, _, _, _, _, _⟩) rfl (fun K hK => ?_) AllReadyH.nil
      go_simp
      go_at_call 36
      (with_reducible refine (hHs _ ((((hr.below hB).more hB.size).below hb0.out).more hl0) ((((hr1.below hB).more hB.size).below hb0.out).more hl0) ((((hr2.below hB).more hB.size).below hb0.out).more hl0) ((((hrx.below hB).more hB.size).below hb0.out).more hl0)).out.mono ?_)
      rintro e wq ⟨rfl, hb⟩
      replace hb0 := Lib.hid (hb0.out.trans (hb.mono hl0))
      replace hl0 := Nat.le_trans hl0 hb.size
      go_wp2_with (fail)
      refine hK.out _ _ (by (try dsimp only); exact (cE _ hb0.out).out) (fun hHeld => ?_)
      clear hK K
      try simp only [Act.put, List.setIfInBounds_toArray, List.set_cons_zero, List.set_cons_succ]
      refine wpAnyH_take (i := 6) (oi := ⟨_, _, _, _, _, _⟩) (v := ?_) rfl (by kernel_rfl) (by kernel_rfl) (by kernel_rfl) (fun _ _ _ h => h) (Or.inl ⟨by rfl, ?_⟩) (by assumption) ?_
      rotate_left
      · intro w hSw; (try dsimp only at hSw); go_simp; try with_reducible rfl
      try simp only [Act.put, List.setIfInBounds_toArray, List.set_cons_zero, List.set_cons_succ]
      refine wpAnyH_take (i := 7) (oi := ⟨_, _, _, _, _, _⟩) (v := ?_) rfl (by kernel_rfl) (by kernel_rfl) (by kernel_rfl) (fun _ _ _ h => h) (Or.inl ⟨by rfl, ?_⟩) (by assumption) ?_
      rotate_left
      · intro w hSw; (try dsimp only at hSw); go_simp; try with_reducible rfl
      try simp only [Act.put, List.setIfInBounds_toArray, List.set_cons_zero, List.set_cons_succ]
      refine wpAnyH_done (by kernel_rfl) ?_ _
      have hBx := hB.trans (hb0.out.mono hB.size)
      have hfin : (((m : Int) == 0) == ib) = true := by rw [← hmb.out]; by_cases h : m = 0 <;> simp [h]
      go_wp2_with (fail)
      go_ret
      exact ⟨(show Ending.returned (Value.bool (((m : Int) == 0) == ib)) = Ending.returned (Value.bool true) from by rw [hfin]), hBx⟩

theorem syndL (P M K : Int) (ml pts mul : List Int) (A A1 A2 : Option Addr) (c c1 c2 : Nat) (xl : List Int) (Ax : Option Addr) (cx : Nat) (w : World) (hP : I64 P) (hM : I64 M) (_hK : I64 K) (hl : ml.length ≤ maxLen) (h1 : pts.length ≤ c1 ∧ c1 ≤ maxLen) (h2 : mul.length ≤ c2 ∧ c2 ≤ maxLen) (_hi : ∀ x ∈ pts, I64 x) (_hj : ∀ x ∈ mul, I64 x) (hr : Rd w w.heap.size A ml) (hr1 : Rd w w.heap.size A1 pts) (hr2 : Rd w w.heap.size A2 mul) (hxc : xl.length ≤ cx) (hxm : cx ≤ maxLen) (hrx : Rd w w.heap.size Ax xl) :
    Calls Try.prog 12 #[.agg #[.int .i64 P, .int .i64 M, .slice A ml.length c, .int .i64 K, .slice A1 pts.length c1, .slice A2 mul.length c2], .slice Ax xl.length cx] w (LawEnd w) := by
  by_cases hb : Good P M ml
  · have hb' := hb
    obtain ⟨D, rfl, rfl, rfl, -⟩ := hb
    rw [modL_length]
    obtain ⟨F, rfl⟩ := goodF hb'
    exact syndL_good F K pts mul A A1 A2 c c1 c2 xl Ax cx w hr hb' h1 h2 hr1 hr2 hxc hxm hrx
  · exact syndL_bad P M K ml pts mul A A1 A2 c c1 c2 xl Ax cx w hP hM hl hr hb
end Go.Proofs.Ytpflgmbcmfllgaa
