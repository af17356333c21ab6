/- Layer 39 of the program: Syndromes. -/
import Derived.Test.YtpflgmbcmfllgaaZeBndG
import Derived.Test.YtpflgmbcmfllgaaZeMatZ
import Derived.Test.YtpflgmbcmfllgaaZeDot
import Derived.Test.YtpflgmbcmfllgaaZeGrsT
namespace Go.Proofs.Ytpflgmbcmfllgaa
open Go.RowKit Cw
attribute [local go_sem] Oper.semAt_some

/-- The syndromes. -/
noncomputable def synL (F : FD) (K : Int) (pts mul wl : List Int) : List Int := lst ((pts.length : Int) - K).toNat fun i => ci (rsum pts.length fun j => eli F.toDesc ((rowsL F.toDesc pts.length (gM F.toDesc pts (dualL F pts mul)) i)[j]?.getD 0) * eli F.toDesc (wl[j]?.getD 0))
theorem synL_length (F : FD) (K : Int) (pts mul wl : List Int) : (synL F K pts mul wl).length = ((pts.length : Int) - K).toNat := lst_length _ _
/-- What Syndromes hands back over a field. -/
def SynPost (D : Desc) (K : Int) (pts mul wl : List Int) (w : World) (e : Ending) (w' : World) : Prop :=
  Below w.heap.size w w' ∧ ((decErr D K pts mul wl [] ≠ 0 ∧ e = .returned (.tuple #[.slice none 0 0, .int .i64 (decErr D K pts mul wl [])])) ∨
    (decErr D K pts mul wl [] = 0 ∧ ∃ F : FD, F.toDesc = D ∧ ∃ A c, e = .returned (.tuple #[.slice A ((pts.length : Int) - K).toNat c, .int .i64 0]) ∧ Rd w' w'.heap.size A (synL F K pts mul wl)))
theorem SynPost.err {D : Desc} {K : Int} {pts mul wl : List Int} {w w' : World} (hB : Below w.heap.size w w') {E : Int} (h : decErr D K pts mul wl [] = E) (h0 : E ≠ 0) : SynPost D K pts mul wl w (.returned (.tuple #[.slice none 0 0, .int .i64 E])) w' := ⟨hB, .inl ⟨by rw [h]; exact h0, by rw [h]⟩⟩

set_option maxHeartbeats 4000000 in
theorem gSyn_bad (P M K : Int) (ml pts mul : List Int) (A A1 A2 : Option Addr) (c c1 c2 : Nat) (Aw : Option Addr) (nw cw : Nat) (w : World) (hP : I64 P) (hM : I64 M) (hl : ml.length ≤ maxLen) (hr : Rd w w.heap.size A ml) (hb : ¬ Good P M ml) :
    Calls Try.prog 50 #[.agg #[.int .i64 P, .int .i64 M, .slice A ml.length c, .int .i64 K, .slice A1 pts.length c1, .slice A2 mul.length c2], .slice Aw nw cw] w fun e w' => e = .returned (.tuple #[.slice none 0 0, .int .i64 1]) ∧ Below w.heap.size w w' := by
  have hN := fun W h => Lib.hid (gDual_bad P M K ml pts mul A A1 A2 c c1 c2 W hP hM hl h hb)
  obtain ⟨s, hs⟩ : ∃ s, s = w.heap.size := ⟨_, rfl⟩
  obtain ⟨Z, hZ⟩ : ∃ Z, Z = w.alloc (.cells #[.int .i64 P, .int .i64 M, .slice A ml.length c, .int .i64 K, .slice A1 pts.length c1, .slice A2 mul.length c2] 49) := ⟨_, rfl⟩
  have hB : Below w.heap.size w Z := by rw [hZ]; exact (Below.refl _ _).alloc (Nat.le_refl _) _
  have k0 : Z.cell? ⟨s, 0, none⟩ = some (.int .i64 P) ∧ Z.cell? ⟨s, 1, none⟩ = some (.int .i64 M) ∧ Z.cell? ⟨s, 2, none⟩ = some (.slice A ml.length c) ∧ Z.cell? ⟨s, 3, none⟩ = some (.int .i64 K) ∧ Z.cell? ⟨s, 4, none⟩ = some (.slice A1 pts.length c1) ∧ Z.cell? ⟨s, 5, none⟩ = some (.slice A2 mul.length c2) := by rw [hZ, hs]; simp [go_sem]
  have hN2 := hN Z ((hr.below hB).more hB.size)
  replace hZ := Lib.hid hZ
  clear hP hM hl hb hN
  go_enter Try.func50, Try.ntmps50
  obtain ⟨q0, q1, q2, q3, q4, q5⟩ := k0
  go_wp2_with (fail)
  rw [← hZ.out]
  simp only [← hs]
  replace hs := Lib.hid hs
  go_wp2_with (fail)
  (with_reducible refine hN2.out.mono ?_)
  rintro e w1 ⟨rfl, hb1⟩
  have hBe := hB.trans (hb1.mono hB.size)
  clear q0 q1 q2 q3 q4 q5 hb1 hB
  go_wp2_with (fail)
  refine bodyPost_ret (v := .tuple #[.slice none 0 0, .int .i64 1]) (by simp [results, Try.results50, go_sem]) rfl (⟨rfl, hBe.alloc hBe.size _⟩)

set_option maxRecDepth 100000 in
set_option maxHeartbeats 16000000 in
theorem gSyn_D (D : Desc) (K : Int) (pts mul : List Int) (A A1 A2 : Option Addr) (c c1 c2 : Nat) (wl : List Int) (Aw : Option Addr) (cw : Nat) (w : World) (hr : Rd w w.heap.size A (modL D)) (hg : Good D.p D.m (modL D)) (hr1 : Rd w w.heap.size A1 pts) (hr2 : Rd w w.heap.size A2 mul) (h1 : pts.length ≤ c1) (h1' : c1 ≤ maxLen) (h2 : mul.length ≤ maxLen) (hrw : Rd w w.heap.size Aw wl) (hwl : wl.length ≤ maxLen) :
    Calls Try.prog 50 #[.agg #[.int .i64 D.p, .int .i64 D.m, .slice A D.mod.length c, .int .i64 K, .slice A1 pts.length c1, .slice A2 mul.length c2], .slice Aw wl.length cw] w (SynPost D K pts mul wl w) := by
  have hCk := fun W a b d => Lib.hid (gDual_D D K pts mul A A1 A2 c c1 c2 W a hg b d h1 h1' h2)
  have hNw := fun W a => Lib.hid (New_good D A c W a hg)
  obtain ⟨s, hs⟩ : ∃ s, s = w.heap.size := ⟨_, rfl⟩
  obtain ⟨Z, hZ⟩ : ∃ Z, Z = w.alloc (.cells #[.int .i64 D.p, .int .i64 D.m, .slice A D.mod.length c, .int .i64 K, .slice A1 pts.length c1, .slice A2 mul.length c2] 49) := ⟨_, rfl⟩
  have hB : Below w.heap.size w Z := by rw [hZ]; exact (Below.refl _ _).alloc (Nat.le_refl _) _
  have k0 : Z.cell? ⟨s, 0, none⟩ = some (.int .i64 D.p) ∧ Z.cell? ⟨s, 1, none⟩ = some (.int .i64 D.m) ∧ Z.cell? ⟨s, 2, none⟩ = some (.slice A D.mod.length c) ∧ Z.cell? ⟨s, 3, none⟩ = some (.int .i64 K) ∧ Z.cell? ⟨s, 4, none⟩ = some (.slice A1 pts.length c1) ∧ Z.cell? ⟨s, 5, none⟩ = some (.slice A2 mul.length c2) := by rw [hZ, hs]; simp [go_sem]
  have hZs : s < Z.heap.size := by rw [hZ, hs]; simp
  have hC1 := hCk Z ((hr.below hB).more hB.size) ((hr1.below hB).more hB.size) ((hr2.below hB).more hB.size)
  have hgg := Lib.hid hg
  replace hZ := Lib.hid hZ
  replace k0 := Lib.hid k0
  clear hCk hg
  go_enter Try.func50, Try.ntmps50
  obtain ⟨q0, q1, q2, q3, q4, q5⟩ := k0.out
  go_wp2_with (fail)
  rw [← hZ.out]
  simp only [← hs]
  replace hs := Lib.hid hs
  go_wp2_with (fail)
  (with_reducible refine hC1.out.mono ?_)
  rintro e w1 ⟨hb1, ⟨hz, rfl⟩ | ⟨hz, F0, hF0, A3, c3, A4, c4, A5, c5, rfl, hr3, hr4, hr5, h4, h4'⟩⟩
  · have hzb : (gchkD D K pts mul != 0) = true := by rw [bne_iff_ne]; exact hz
    have hE : Hid (decErr D K pts mul wl [] = gchkD D K pts mul) := if_pos hz
    have hBe := hB.trans (hb1.mono hB.size)
    clear q0 q1 q2 q3 q4 q5 hb1 hB
    have hz2 := Lib.hid hz
    clear hz
    go_wp2_with (fail)
    refine bodyPost_ret (v := .tuple #[.slice none 0 0, .int .i64 (gchkD D K pts mul)]) (by simp [results, Try.results50, go_sem]) rfl (SynPost.err (hBe.alloc hBe.size _) hE.out hz2.out)
  have hE0 : Hid (decErr D K pts mul wl [] = recErr D wl pts.length []) := if_neg (fun h => h hz)
  obtain ⟨hp1, hp64, hlen, -, -, -, -, hK0, hKn⟩ := gchkD_zero hz
  have hdl := Lib.hid (dualL_length F0 pts mul)
  have hzH := Lib.hid hz
  obtain ⟨Y, hY⟩ : ∃ Y, Y = w1.alloc (.cells #[.int .i64 D.p, .int .i64 D.m, .slice A3 D.mod.length c3, .int .i64 (pts.length - K), .slice A4 pts.length c4, .slice A5 pts.length c5] 49) := ⟨_, rfl⟩
  have hbY : Below w1.heap.size w1 Y := by rw [hY]; exact (Below.refl _ _).alloc (Nat.le_refl _) _
  obtain ⟨bd, hbd⟩ : ∃ bd, bd = w1.heap.size := ⟨_, rfl⟩
  have dd : Hid (Y.cell? ⟨bd, 0, none⟩ = some (.int .i64 D.p) ∧ Y.cell? ⟨bd, 1, none⟩ = some (.int .i64 D.m) ∧ Y.cell? ⟨bd, 2, none⟩ = some (.slice A3 D.mod.length c3) ∧ Y.cell? ⟨bd, 3, none⟩ = some (.int .i64 (pts.length - K)) ∧ Y.cell? ⟨bd, 4, none⟩ = some (.slice A4 pts.length c4) ∧ Y.cell? ⟨bd, 5, none⟩ = some (.slice A5 pts.length c5)) := by rw [hY, hbd]; simp [Hid, go_sem]
  have hdl1 : bd < Y.heap.size := by rw [hY, hbd]; simp
  have hB1 := hB.trans ((hb1.trans (hbY.mono hb1.size)).mono hB.size)
  have kk1 : Hid (Y.cell? ⟨s, 0, none⟩ = some (.int .i64 D.p) ∧ Y.cell? ⟨s, 1, none⟩ = some (.int .i64 D.m) ∧ Y.cell? ⟨s, 2, none⟩ = some (.slice A D.mod.length c) ∧ Y.cell? ⟨s, 3, none⟩ = some (.int .i64 K) ∧ Y.cell? ⟨s, 4, none⟩ = some (.slice A1 pts.length c1) ∧ Y.cell? ⟨s, 5, none⟩ = some (.slice A2 mul.length c2)) := keep6 (hb1.trans (hbY.mono hb1.size)) hZs k0.out
  have hs1 : s < Y.heap.size := Nat.lt_of_lt_of_le hZs (Nat.le_trans hb1.size hbY.size)
  replace hr3 := (hr3.below hbY).more hbY.size
  replace hr4 := (hr4.below hbY).more hbY.size
  replace hr5 := (hr5.below hbY).more hbY.size
  have hNw1 := hNw Y ((hr.below hB1).more hB1.size)
  replace hlen := Lib.hid hlen
  clear q0 q1 q2 q3 q4 q5 hb1 hB hNw hz
  obtain ⟨q0, q1, q2, q3, q4, q5⟩ := hY ▸ kk1.out
  replace hY := Lib.hid hY
  go_wp2_with (fail)
  rw [← hY.out]
  simp only [← hbd]
  replace hbd := Lib.hid hbd
  (with_reducible refine hNw1.out.mono ?_)
  rintro e w2 ⟨g, F, rfl, rfl, hgl, hgf, hb2⟩
  have hB2 := hB1.trans (hb2.mono hB1.size)
  have hs2 : s < w2.heap.size := Nat.lt_of_lt_of_le hs1 hb2.size
  have hd2 : bd < w2.heap.size := Nat.lt_of_lt_of_le hdl1 hb2.size
  have kk2 : Hid (w2.cell? ⟨s, 0, none⟩ = some (.int .i64 F.p) ∧ w2.cell? ⟨s, 1, none⟩ = some (.int .i64 F.m) ∧ w2.cell? ⟨s, 2, none⟩ = some (.slice A F.mod.length c) ∧ w2.cell? ⟨s, 3, none⟩ = some (.int .i64 K) ∧ w2.cell? ⟨s, 4, none⟩ = some (.slice A1 pts.length c1) ∧ w2.cell? ⟨s, 5, none⟩ = some (.slice A2 mul.length c2)) := keep6 hb2 hs1 kk1.out
  have dd2 : Hid (w2.cell? ⟨bd, 0, none⟩ = some (.int .i64 F.p) ∧ w2.cell? ⟨bd, 1, none⟩ = some (.int .i64 F.m) ∧ w2.cell? ⟨bd, 2, none⟩ = some (.slice A3 F.mod.length c3) ∧ w2.cell? ⟨bd, 3, none⟩ = some (.int .i64 (pts.length - K)) ∧ w2.cell? ⟨bd, 4, none⟩ = some (.slice A4 pts.length c4) ∧ w2.cell? ⟨bd, 5, none⟩ = some (.slice A5 pts.length c5)) := keep6 hb2 hdl1 dd.out
  have hWd : Calls Try.prog 76 #[.pointer (some ⟨g, 0, none⟩), .slice Aw wl.length cw, .int .i64 (pts.length : Int), .slice none 0 0] w2 fun e w' => e = .returned (.int .i64 (recErr F.toDesc wl pts.length [])) ∧ Below w2.heap.size w2 w' := gWord_any F wl [] pts.length hp64 Aw none cw 0 g w2 hgf ((hrw.below hB2).more hB2.size) Rd.nil hwl (by simp)
  clear q0 q1 q2 q3 q4 q5
  obtain ⟨q0, q1, q2, q3, q4, q5⟩ := kk2.out
  replace hWd := Lib.hid hWd
  go_wp2_with (fail)
  (with_reducible refine hWd.out.mono ?_)
  rintro e w3 ⟨rfl, hb3⟩
  have hB3 := hB2.trans (hb3.mono hB2.size)
  have hd3 : bd < w3.heap.size := Nat.lt_of_lt_of_le hd2 hb3.size
  have dd3 : Hid (w3.cell? ⟨bd, 0, none⟩ = some (.int .i64 F.p) ∧ w3.cell? ⟨bd, 1, none⟩ = some (.int .i64 F.m) ∧ w3.cell? ⟨bd, 2, none⟩ = some (.slice A3 F.mod.length c3) ∧ w3.cell? ⟨bd, 3, none⟩ = some (.int .i64 (pts.length - K)) ∧ w3.cell? ⟨bd, 4, none⟩ = some (.slice A4 pts.length c4) ∧ w3.cell? ⟨bd, 5, none⟩ = some (.slice A5 pts.length c5)) := keep6 hb3 hd2 dd2.out
  clear q0 q1 q2 q3 q4 q5
  by_cases hzr : recErr F.toDesc wl pts.length [] = 0
  rotate_left
  · have hzb : (recErr F.toDesc wl pts.length [] != 0) = true := by rw [bne_iff_ne]; exact hzr
    have hz2 := Lib.hid hzr
    clear hzr
    go_wp2_with (fail)
    refine bodyPost_ret (v := .tuple #[.slice none 0 0, .int .i64 (recErr F.toDesc wl pts.length [])]) (by simp [results, Try.results50, go_sem]) rfl (SynPost.err hB3 hE0.out hz2.out)
  rw [hzr]
  obtain ⟨hwn, -, -, -⟩ := recErr_zero hzr
  have hE : Hid (decErr F.toDesc K pts mul wl [] = 0) := hE0.out.trans hzr
  have hb23 := hb2.trans (hb3.mono hb2.size)
  have hdq : dualL F0 pts mul = dualL F pts mul := dualL_eq hF0 pts mul
  rw [hdq] at hr5
  have hGn := gGenr_D F.toDesc ((pts.length : Int) - K) pts (dualL F pts mul) A3 A4 A5 c3 c4 c5 w3 ((hr3.below hb23).more hb23.size) hgg.out ((hr4.below hb23).more hb23.size) ((hr5.below hb23).more hb23.size) h4 h4' (by rw [dualL_length]; unfold maxLen; omega)
  rw [dualL_length] at hGn
  have hdc : Hid (gchkD F.toDesc ((pts.length : Int) - K) pts (dualL F pts mul) = 0) := dual_chk hzH.out
  have hg3 := (hgf.below hb3).more hb3.size
  have hrw3 := (hrw.below hB3).more hB3.size
  replace hGn := Lib.hid hGn
  replace hwn := Lib.hid hwn
  clear hzr hE0 hb2 hb3 hb23 hdq
  obtain ⟨q0, q1, q2, q3, q4, q5⟩ := dd3.out
  go_wp2_with (fail)
  (with_reducible refine hGn.out.mono ?_)
  rintro e w4 ⟨hb4, ⟨hne, -⟩ | ⟨-, Al, cl, rfl, hrm⟩⟩
  · exact absurd hdc.out hne
  clear q0 q1 q2 q3 q4 q5
  obtain ⟨L, hL⟩ : ∃ L, L = ((pts.length : Int) - K).toNat := ⟨_, rfl⟩
  rw [← hL] at hrm ⊢
  have hL64 : L ≤ 64 := by omega
  obtain ⟨f, hf⟩ : ∃ f : Nat → Int, f = fun i => ci (rsum pts.length fun j => eli F.toDesc ((rowsL F.toDesc pts.length (gM F.toDesc pts (dualL F pts mul)) i)[j]?.getD 0) * eli F.toDesc (wl[j]?.getD 0)) := ⟨_, rfl⟩
  have hfin : Hid (synL F K pts mul wl = lst L f) := by rw [hf, hL]; rfl
  have hmk := mk_ints L (by omega)
  obtain ⟨X, hX⟩ : ∃ X, X = w4.alloc (.cells #[.int .i64 pts.length, .slice Al L cl] 132) := ⟨_, rfl⟩
  obtain ⟨bm, hbm⟩ : ∃ bm, bm = w4.heap.size := ⟨_, rfl⟩
  have hbX : Below w4.heap.size w4 X := by rw [hX]; exact (Below.refl _ _).alloc (Nat.le_refl _) _
  have hXs : X.heap.size = bm + 1 := by rw [hX, hbm]; simp
  have hm1 : X.cell? ⟨bm, 1, none⟩ = some (.slice Al L cl) := by rw [hX, hbm]; simp [go_sem]
  obtain ⟨V, hV⟩ : ∃ V, V = X.alloc (.cells (Array.replicate L (Value.int .i64 0)) 3) := ⟨_, rfl⟩
  have hib : IB V (bm + 1) (upd L 0 f) := by rw [upd_zero, hV, ← hXs]; exact IB.newz X L
  have hbV : Below X.heap.size X V := by rw [hV]; exact (Below.refl _ _).alloc (Nat.le_refl _) _
  have hm2 : V.cell? ⟨bm, 1, none⟩ = some (.slice Al L cl) := (hbV.cell (p := ⟨bm, 1, none⟩) (show bm < X.heap.size by omega)).trans hm1
  have hbXV : Below w4.heap.size w4 V := hbX.trans (hbV.mono hbX.size)
  have hB4 := hB3.trans (hb4.mono hB3.size)
  have hwB : w.heap.size ≤ w4.heap.size := hB4.size
  have hB5 : Below w.heap.size w V := hB4.trans (hbXV.mono hwB)
  have hw4 : w4.heap.size = bm := hbm.symm
  have hrm4 : RdM V bm Al L (rowsL F.toDesc pts.length (gM F.toDesc pts (dualL F pts mul))) := by rw [← hw4]; exact hrm.below hbXV
  have hg4 : GF V bm g F := by rw [← hw4]; exact ((hg3.below hb4).more hb4.size).below hbXV
  have hrw4 : Rd V bm Aw wl := by rw [← hw4]; exact ((hrw3.below hb4).more hb4.size).below hbXV
  have hDt := fun i A' c' W (a : GF W W.heap.size g F) b d => gDot_any F (rowsL F.toDesc pts.length (gM F.toDesc pts (dualL F pts mul)) i) wl pts.length (rowL_length _ _ _) hwn.out A' Aw c' cw g W a b d (by unfold maxLen; omega)
  have hDt2 : ∀ i A' c' W (_ : GF W W.heap.size g F) (_ : Rd W W.heap.size A' (rowsL F.toDesc pts.length (gM F.toDesc pts (dualL F pts mul)) i)) (_ : Rd W W.heap.size Aw wl), Hid (Calls Try.prog 101 #[.pointer (some ⟨g, 0, none⟩), .slice A' pts.length c', .slice Aw pts.length cw] W fun e w' => e = .returned (.int .i64 (f i)) ∧ Below W.heap.size W w') := fun i A' c' W a b d => by rw [hf]; exact hDt i A' c' W a b d
  have hBV : V.heap.size = bm + 2 := by rw [hV]; simp [hXs]
  rw [hwn.out]
  replace hf := Lib.hid hf
  replace hL := Lib.hid hL
  replace hX := Lib.hid hX
  clear hDt hm1 hbX hbV hbXV hB3 hB4 hrm hg3 hrw3 hb4
  have hm3 : (w4.alloc (.cells #[.int .i64 pts.length, .slice Al L cl] 132)).cell? ⟨bm, 1, none⟩ = some (.slice Al L cl) := by rw [hbm]; simp [go_sem]
  replace hbm := Lib.hid hbm
  go_wp2_with (fail)
  rw [← hX.out, ← hV]
  replace hV := Lib.hid hV
  have hwb : w.heap.size ≤ bm := by rw [← hw4]; exact hwB
  clear hm3 hmk hw4 hwB hs1 hs2 hdl1 hd2 hd3 hr3 hr4 hr5 hNw1 hGn hWd dd dd2 dd3 kk1 kk2 k0
  replace hib := Lib.hid hib
  go_loopw [51, 14, 15] (fun i _ _ wr => ∃ k : Nat, k ≤ L ∧ i = .int .i64 k ∧ Hid (IB wr (bm + 1) (upd L k f)) ∧ Below (bm + 1) V wr) (fun i _ _ _ => L - (intOf i).toNat)
  case atStart => exact ⟨0, by omega, rfl, hib, Below.refl _ _⟩
  case round =>
    clear hib
    obtain ⟨wv, rfl⟩ : ∃ wv : World, wv = wr := ⟨_, rfl⟩
    obtain ⟨k, hk, rfl, hib, hbl⟩ := hrel
    have hgl := hib.out.lt
    by_cases hkm : k < L
    · obtain ⟨b, off, Ai, ci', rfl, hbb, hcell, hri, -, -⟩ := hrm4.at_ hkm
      have hcv := (hbl.cell (p := ⟨b, off + k, none⟩) (Nat.lt_succ_of_lt hbb)).trans hcell
      rw [show (rowsL F.toDesc pts.length (gM F.toDesc pts (dualL F pts mul)) k).length = pts.length from rowL_length _ _ _] at hcv
      have hbm1 : Below bm V wv := hbl.mono (Nat.le_succ _)
      have hle : bm ≤ wv.heap.size := by omega
      have hDk := (hDt2 k Ai ci' wv ((hg4.below hbm1).more hle) ((hri.below hbm1).more hle) ((hrw4.below hbm1).more hle)).out
      obtain ⟨v, hv⟩ : ∃ v, v = f k := ⟨_, rfl⟩
      rw [← hv] at hDk
      have hkk : Hid (k < (upd L k f).length) := by unfold Hid; rw [upd_length]; exact hkm
      have k0 : (0 : Int) ≤ (k : Int) := by omega
      have k1 : (k : Int) < (L : Int) := by omega
      replace hDk := Lib.hid hDk
      replace hv := Lib.hid hv
      clear hcell hri
      go_wp2_with (fail)
      (with_reducible refine hDk.out.mono ?_)
      rintro e w5 ⟨rfl, hb5⟩
      have hib5 := hib.out.below hb5 hgl
      have hcW := hib5.cell hkk.out
      have hfW := hib5.frozen k
      have hset := hib5.set_ k v
      rw [hv.out, upd_set, ← hv.out] at hset
      replace hset := Lib.hid hset
      have hbs : Below (bm + 1) V (w5.setCell ⟨bm + 1, k, none⟩ (.int .i64 v)) := (hbl.trans (hb5.mono (Nat.le_of_lt hgl))).setCell (p := ⟨bm + 1, k, none⟩) (Nat.le_refl _) _
      clear hcv
      go_wp2_with (fail)
      go_roundw
      case rel => exact ⟨k + 1, by omega, by go_num, hset, hbs⟩
      case measure => simp [intOf]; omega
    · have hkL : k = L := by omega
      subst hkL
      rw [upd_full] at hib
      have hBe := hB5.trans (hbl.mono (Nat.le_succ_of_le hwb))
      have hrd := hib.out.rd
      clear hib hBV
      go_wp2_with (fail)
      refine bodyPost_ret (v := .tuple #[.slice (some ⟨bm + 1, 0, none⟩) k k, .int .i64 0]) (by simp [results, Try.results50, go_sem]) rfl ⟨hBe, .inr ⟨hE.out, F, rfl, _, _, by rw [← hL.out], by rw [hfin.out]; exact hrd⟩⟩
end Go.Proofs.Ytpflgmbcmfllgaa
