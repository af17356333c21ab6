/- grs.Generator. -/
import Derived.Test.YtnbkmkeiophjoaaMatY
import Derived.Test.YtnbkmkeiophjoaaGrsE
namespace Go.Proofs.Ytnbkmkeiophjoaa
open Go.RowKit Cw
attribute [local go_sem] Oper.semAt_some

/-- The two cells of a matrix, free to be written. -/
def Two (w : World) (b : Nat) (v0 v1 : Value) : Prop := w.cell? ⟨b, 0, none⟩ = some v0 ∧ w.cell? ⟨b, 1, none⟩ = some v1 ∧ w.frozen? ⟨b, 0, none⟩ = false ∧ w.frozen? ⟨b, 1, none⟩ = false
theorem Two.keep {B b : Nat} {w w1 : World} {v0 v1 : Value} (h : Two w b v0 v1) (hb : Below B w w1) (hlt : b < B) : Two w1 b v0 v1 :=
  ⟨(hb.cell (p := ⟨b, 0, none⟩) hlt).trans h.1, (hb.cell (p := ⟨b, 1, none⟩) hlt).trans h.2.1, (hb.frozen (p := ⟨b, 0, none⟩) hlt).trans h.2.2.1, (hb.frozen (p := ⟨b, 1, none⟩) hlt).trans h.2.2.2⟩
theorem Two.new (w : World) (v0 v1 : Value) (t : TypeId) : Two (w.alloc (.cells #[v0, v1] t)) w.heap.size v0 v1 := by unfold Two; simp [go_sem]

set_option maxHeartbeats 1000000 in
theorem gGenr_bad (P M K : Int) (ml pts mul : List Int) (A A1 A2 : Option Addr) (c c1 c2 : Nat) (w : World) (hP : I64 P) (hM : I64 M) (hl : ml.length ≤ maxLen) (hr : Rd w w.heap.size A ml) (hb : ¬ Good P M ml) :
    Calls Try.prog 42 #[.agg #[.int .i64 P, .int .i64 M, .slice A ml.length c, .int .i64 K, .slice A1 pts.length c1, .slice A2 mul.length c2]] w fun e w' => e = .returned (.tuple #[.agg #[.int .i64 0, .slice none 0 0], .int .i64 1]) ∧ Below w.heap.size w w' := by
  have hN := fun W h => Lib.hid (gOpen_bad P M K ml pts mul A A1 A2 c c1 c2 W hP hM hl h hb)
  obtain ⟨Z, hZ⟩ : ∃ Z, Z = (w.alloc (.cells #[.int .i64 P, .int .i64 M, .slice A ml.length c, .int .i64 K, .slice A1 pts.length c1, .slice A2 mul.length c2] 27)).alloc (.cells #[.int .i64 0, .slice none 0 0] 65) := ⟨_, rfl⟩
  have hB : Below w.heap.size w Z := by rw [hZ]; exact ((Below.refl _ _).alloc (Nat.le_refl _) _).alloc (by simp) _
  have hZs : Z.heap.size = w.heap.size + 2 := by rw [hZ]; simp
  have k0 := Lib.hid (show Z.cell? ⟨w.heap.size, 0, none⟩ = some (.int .i64 P) ∧ Z.cell? ⟨w.heap.size, 1, none⟩ = some (.int .i64 M) ∧ Z.cell? ⟨w.heap.size, 2, none⟩ = some (.slice A ml.length c) ∧ Z.cell? ⟨w.heap.size, 3, none⟩ = some (.int .i64 K) ∧ Z.cell? ⟨w.heap.size, 4, none⟩ = some (.slice A1 pts.length c1) ∧ Z.cell? ⟨w.heap.size, 5, none⟩ = some (.slice A2 mul.length c2) from by rw [hZ]; simp [go_sem])
  have k1 : Two Z (w.heap.size + 1) (.int .i64 0) (.slice none 0 0) := by
    rw [hZ]; have := Two.new (w.alloc (.cells #[.int .i64 P, .int .i64 M, .slice A ml.length c, .int .i64 K, .slice A1 pts.length c1, .slice A2 mul.length c2] 27)) (.int .i64 0) (.slice none 0 0) 65; rw [World.size_alloc] at this; exact this
  have hN2 := hN Z ((hr.below hB).more hB.size)
  replace hZ := Lib.hid hZ
  clear hP hM hl hb hN
  go_enter Try.func42, Try.ntmps42
  go_wp2_with (fail)
  rw [← hZ.out]
  (with_reducible refine hN2.out.mono ?_)
  rintro e w1 ⟨rfl, hb1⟩
  obtain ⟨a0, a1, f0, f1⟩ := k1.keep hb1 (by omega)
  clear k1
  have hBe := (hB.trans (hb1.mono hB.size)).trans ((set2 (w3 := w1) (b := w.heap.size + 1) (.int .i64 0) (.slice none 0 0)).mono (Nat.le_succ _))
  clear hB hb1
  go_wp2_with (fail)
  refine bodyPost_ret (v := .tuple #[.agg #[.int .i64 0, .slice none 0 0], .int .i64 1]) (by simp [results, Try.results42, go_sem, a0, a1]) rfl ⟨rfl, hBe⟩

/-- What Generator hands back over a field. -/
def GenrPost (D : Desc) (K : Int) (pts mul : List Int) (w : World) (e : Ending) (w' : World) : Prop :=
  Below w.heap.size w w' ∧ ((gchkD D K pts mul ≠ 0 ∧ e = .returned (.tuple #[.agg #[.int .i64 0, .slice none 0 0], .int .i64 (gchkD D K pts mul)])) ∨
    (gchkD D K pts mul = 0 ∧ ∃ Al cl, e = .returned (.tuple #[.agg #[.int .i64 pts.length, .slice Al K.toNat cl], .int .i64 0]) ∧ RdM w' w'.heap.size Al K.toNat (rowsL D pts.length (gM D pts mul))))
set_option maxRecDepth 100000 in
set_option maxHeartbeats 2000000 in
theorem gGenr_D (D : Desc) (K : Int) (pts mul : List Int) (A A1 A2 : Option Addr) (c c1 c2 : Nat) (w : World) (hr : Rd w w.heap.size A (modL D)) (hg : Good D.p D.m (modL D)) (hr1 : Rd w w.heap.size A1 pts) (hr2 : Rd w w.heap.size A2 mul) (h1 : pts.length ≤ c1) (h1' : c1 ≤ maxLen) (h2 : mul.length ≤ maxLen) :
    Calls Try.prog 42 #[.agg #[.int .i64 D.p, .int .i64 D.m, .slice A D.mod.length c, .int .i64 K, .slice A1 pts.length c1, .slice A2 mul.length c2]] w (GenrPost D K pts mul w) := by
  have hN := fun W a b c' => Lib.hid (gOpen_D D K pts mul A A1 A2 c c1 c2 W a hg b c' h1 h1' h2)
  obtain ⟨Z, hZ⟩ : ∃ Z, Z = (w.alloc (.cells #[.int .i64 D.p, .int .i64 D.m, .slice A D.mod.length c, .int .i64 K, .slice A1 pts.length c1, .slice A2 mul.length c2] 27)).alloc (.cells #[.int .i64 0, .slice none 0 0] 65) := ⟨_, rfl⟩
  have hB : Below w.heap.size w Z := by rw [hZ]; exact ((Below.refl _ _).alloc (Nat.le_refl _) _).alloc (by simp) _
  have hZs : Z.heap.size = w.heap.size + 2 := by rw [hZ]; simp
  have k0 := Lib.hid (show Z.cell? ⟨w.heap.size, 0, none⟩ = some (.int .i64 D.p) ∧ Z.cell? ⟨w.heap.size, 1, none⟩ = some (.int .i64 D.m) ∧ Z.cell? ⟨w.heap.size, 2, none⟩ = some (.slice A D.mod.length c) ∧ Z.cell? ⟨w.heap.size, 3, none⟩ = some (.int .i64 K) ∧ Z.cell? ⟨w.heap.size, 4, none⟩ = some (.slice A1 pts.length c1) ∧ Z.cell? ⟨w.heap.size, 5, none⟩ = some (.slice A2 mul.length c2) from by rw [hZ]; simp [go_sem])
  have k1 : Two Z (w.heap.size + 1) (.int .i64 0) (.slice none 0 0) := by
    rw [hZ]; have := Two.new (w.alloc (.cells #[.int .i64 D.p, .int .i64 D.m, .slice A D.mod.length c, .int .i64 K, .slice A1 pts.length c1, .slice A2 mul.length c2] 27)) (.int .i64 0) (.slice none 0 0) 65; rw [World.size_alloc] at this; exact this
  have hN2 := hN Z ((hr.below hB).more hB.size) ((hr1.below hB).more hB.size) ((hr2.below hB).more hB.size)
  replace hZ := Lib.hid hZ
  clear hg hN
  go_enter Try.func42, Try.ntmps42
  go_wp2_with (fail)
  rw [← hZ.out]
  (with_reducible refine hN2.out.mono ?_)
  rintro e w1 ⟨hb1, g, F, rfl, hgf, hgl, ⟨hz, rfl⟩ | ⟨hz, rfl⟩⟩
  rotate_left
  · have hzb : (gchkD F.toDesc K pts mul != 0) = true := by rw [bne_iff_ne]; exact hz
    obtain ⟨a0, a1, f0, f1⟩ := k1.keep hb1 (by omega)
    clear k1
    have hBe := Lib.hid ((hB.trans (hb1.mono hB.size)).trans ((set2 (w3 := w1) (b := w.heap.size + 1) (.int .i64 0) (.slice none 0 0)).mono (Nat.le_succ _)))
    replace hz := Lib.hid hz
    go_wp2_with (fail)
    refine bodyPost_ret (v := .tuple #[.agg #[.int .i64 0, .slice none 0 0], .int .i64 (gchkD F.toDesc K pts mul)]) (by simp [results, Try.results42, go_sem, a0, a1]) rfl ⟨hBe.out, .inl ⟨hz.out, rfl⟩⟩
  obtain ⟨hp1, hp64, hlen, -, hel, -, -, hK0, hKn⟩ := gchkD_zero hz
  obtain ⟨kn, rfl⟩ := Int.eq_ofNat_of_zero_le hK0
  have hs1 := hb1.size
  have hB1 := hB.trans (hb1.mono hB.size)
  have r1 := k1.keep hb1 (by omega)
  have kk1 := keep6 hb1 (by omega) k0.out
  rw [hlen] at kk1
  simp only [hlen]
  have hG := Lib.hid (gGen_any F kn pts.length pts mul A A1 A2 c c1 c2 g w1 hgf ((hr1.below hB1).more hB1.size) ((hr2.below hB1).more hB1.size) rfl hlen hp1 hp64 (by omega) (of_decide_eq_true hel))
  obtain ⟨q0, q1, q2, q3, q4, q5⟩ := kk1
  replace hz := Lib.hid hz
  replace hlen := Lib.hid hlen
  replace hel := Lib.hid hel
  clear hN2 k0 hr hr1 hr2
  go_wp2_with (fail)
  (with_reducible refine hG.out.mono ?_)
  rintro e w2 ⟨Al, cl, rfl, hru, hb2⟩
  have hs2 := hb2.size
  obtain ⟨a0, a1, f0, f1⟩ := r1.keep hb2 (by omega)
  have hBf := Lib.hid ((hB1.trans (hb2.mono hB1.size)).trans ((set2 (w3 := w2) (b := w.heap.size + 1) (.int .i64 pts.length) (.slice Al kn cl)).mono (Nat.le_succ _)))
  have hrf : Hid (RdMU ((w2.setCell ⟨w.heap.size + 1, 0, none⟩ (.int .i64 pts.length)).setCell ⟨w.heap.size + 1, 1, none⟩ (.slice Al kn cl)) w1.heap.size w2.heap.size Al kn (rowsL F.toDesc pts.length (gM F.toDesc pts mul))) := hru.keepU fun p hp _ => set2_above (b := w.heap.size + 1) (L := w1.heap.size) (by omega) _ _ p hp
  have hsz : Hid (w2.heap.size ≤ ((w2.setCell ⟨w.heap.size + 1, 0, none⟩ (.int .i64 pts.length)).setCell ⟨w.heap.size + 1, 1, none⟩ (.slice Al kn cl)).heap.size) := by unfold Hid; simp [World.setCell]
  clear hru hG r1
  go_wp2_with (fail)
  refine bodyPost_ret (v := .tuple #[.agg #[.int .i64 pts.length, .slice Al kn cl], .int .i64 0]) (by simp [results, Try.results42, go_sem, a0, a1]) rfl ⟨hBf.out, .inr ⟨hz.out, Al, cl, rfl, hrf.out.rdm.more hsz.out⟩⟩

set_option maxHeartbeats 1000000 in
theorem gCode_bad (P M K : Int) (ml pts mul : List Int) (A A1 A2 : Option Addr) (c c1 c2 : Nat) (w : World) (hP : I64 P) (hM : I64 M) (hl : ml.length ≤ maxLen) (hr : Rd w w.heap.size A ml) (hb : ¬ Good P M ml) :
    Calls Try.prog 37 #[.agg #[.int .i64 P, .int .i64 M, .slice A ml.length c, .int .i64 K, .slice A1 pts.length c1, .slice A2 mul.length c2]] w fun e w' => e = .returned (.tuple #[.agg #[.int .i64 0, .int .i64 0, .slice none 0 0, .int .i64 0, .slice none 0 0], .int .i64 1]) ∧ Below w.heap.size w w' := by
  have hN := fun W h => Lib.hid (gOpen_bad P M K ml pts mul A A1 A2 c c1 c2 W hP hM hl h hb)
  obtain ⟨Z, hZ⟩ : ∃ Z, Z = (w.alloc (.cells #[.int .i64 P, .int .i64 M, .slice A ml.length c, .int .i64 K, .slice A1 pts.length c1, .slice A2 mul.length c2] 27)).alloc (.cells #[.int .i64 0, .int .i64 0, .slice none 0 0, .int .i64 0, .slice none 0 0] 55) := ⟨_, rfl⟩
  have hB : Below w.heap.size w Z := by rw [hZ]; exact ((Below.refl _ _).alloc (Nat.le_refl _) _).alloc (by simp) _
  have hZs : Z.heap.size = w.heap.size + 2 := by rw [hZ]; simp
  have k0 := Lib.hid (show Z.cell? ⟨w.heap.size, 0, none⟩ = some (.int .i64 P) ∧ Z.cell? ⟨w.heap.size, 1, none⟩ = some (.int .i64 M) ∧ Z.cell? ⟨w.heap.size, 2, none⟩ = some (.slice A ml.length c) ∧ Z.cell? ⟨w.heap.size, 3, none⟩ = some (.int .i64 K) ∧ Z.cell? ⟨w.heap.size, 4, none⟩ = some (.slice A1 pts.length c1) ∧ Z.cell? ⟨w.heap.size, 5, none⟩ = some (.slice A2 mul.length c2) from by rw [hZ]; simp [go_sem])
  have k1 : Five Z (w.heap.size + 1) (.int .i64 0) (.int .i64 0) (.slice none 0 0) (.int .i64 0) (.slice none 0 0) := by
    rw [hZ]; have := Five.new (w.alloc (.cells #[.int .i64 P, .int .i64 M, .slice A ml.length c, .int .i64 K, .slice A1 pts.length c1, .slice A2 mul.length c2] 27)) (.int .i64 0) (.int .i64 0) (.slice none 0 0) (.int .i64 0) (.slice none 0 0) 55; rw [World.size_alloc] at this; exact this
  have hN2 := hN Z ((hr.below hB).more hB.size)
  replace hZ := Lib.hid hZ
  clear hP hM hl hb hN
  go_enter Try.func37, Try.ntmps37
  go_wp2_with (fail)
  rw [← hZ.out]
  (with_reducible refine hN2.out.mono ?_)
  rintro e w1 ⟨rfl, hb1⟩
  obtain ⟨a0, a1, a2, a3, a4, f0, f1, f2, f3, f4⟩ := k1.keep hb1 (by omega)
  clear k1
  have hBe := (hB.trans (hb1.mono hB.size)).trans ((set5 (w3 := w1) (b := w.heap.size + 1) (.int .i64 0) (.int .i64 0) (.slice none 0 0) (.int .i64 0) (.slice none 0 0)).mono (Nat.le_succ _))
  clear hB hb1
  go_wp2_with (fail)
  refine bodyPost_ret (v := .tuple #[.agg #[.int .i64 0, .int .i64 0, .slice none 0 0, .int .i64 0, .slice none 0 0], .int .i64 1]) (by simp [results, Try.results37, go_sem, a0, a1, a2, a3, a4]) rfl ⟨rfl, hBe⟩


/-- What Code hands back over a field. -/
def GCodePost (D : Desc) (K : Int) (pts mul : List Int) (w : World) (e : Ending) (w' : World) : Prop :=
  Below w.heap.size w w' ∧ ((gchkD D K pts mul ≠ 0 ∧ e = .returned (.tuple #[.agg #[.int .i64 0, .int .i64 0, .slice none 0 0, .int .i64 0, .slice none 0 0], .int .i64 (gchkD D K pts mul)])) ∨
    (gchkD D K pts mul = 0 ∧ ∃ F : FD, F.toDesc = D ∧ ∃ A3 c3 Al, e = .returned (.tuple #[.agg #[.int .i64 D.p, .int .i64 D.m, .slice A3 D.mod.length c3, .int .i64 pts.length, .slice Al (rkS F K.toNat pts.length (gM F.toDesc pts mul)) (rkS F K.toNat pts.length (gM F.toDesc pts mul))], .int .i64 0]) ∧
      Rd w' w'.heap.size A3 (modL D) ∧ RdM w' w'.heap.size Al (rkS F K.toNat pts.length (gM F.toDesc pts mul)) (rowsL F.toDesc pts.length (elS K.toNat (gM F.toDesc pts mul) pts.length).1)))
set_option maxRecDepth 100000 in
set_option maxHeartbeats 2000000 in
theorem gCode_D (D : Desc) (K : Int) (pts mul : List Int) (A A1 A2 : Option Addr) (c c1 c2 : Nat) (w : World) (hr : Rd w w.heap.size A (modL D)) (hg : Good D.p D.m (modL D)) (hr1 : Rd w w.heap.size A1 pts) (hr2 : Rd w w.heap.size A2 mul) (h1 : pts.length ≤ c1) (h1' : c1 ≤ maxLen) (h2 : mul.length ≤ maxLen) :
    Calls Try.prog 37 #[.agg #[.int .i64 D.p, .int .i64 D.m, .slice A D.mod.length c, .int .i64 K, .slice A1 pts.length c1, .slice A2 mul.length c2]] w (GCodePost D K pts mul w) := by
  have hN := fun W a b c' => Lib.hid (gOpen_D D K pts mul A A1 A2 c c1 c2 W a hg b c' h1 h1' h2)
  obtain ⟨Z, hZ⟩ : ∃ Z, Z = (w.alloc (.cells #[.int .i64 D.p, .int .i64 D.m, .slice A D.mod.length c, .int .i64 K, .slice A1 pts.length c1, .slice A2 mul.length c2] 27)).alloc (.cells #[.int .i64 0, .int .i64 0, .slice none 0 0, .int .i64 0, .slice none 0 0] 55) := ⟨_, rfl⟩
  have hB : Below w.heap.size w Z := by rw [hZ]; exact ((Below.refl _ _).alloc (Nat.le_refl _) _).alloc (by simp) _
  have hZs : Z.heap.size = w.heap.size + 2 := by rw [hZ]; simp
  have k0 := Lib.hid (show Z.cell? ⟨w.heap.size, 0, none⟩ = some (.int .i64 D.p) ∧ Z.cell? ⟨w.heap.size, 1, none⟩ = some (.int .i64 D.m) ∧ Z.cell? ⟨w.heap.size, 2, none⟩ = some (.slice A D.mod.length c) ∧ Z.cell? ⟨w.heap.size, 3, none⟩ = some (.int .i64 K) ∧ Z.cell? ⟨w.heap.size, 4, none⟩ = some (.slice A1 pts.length c1) ∧ Z.cell? ⟨w.heap.size, 5, none⟩ = some (.slice A2 mul.length c2) from by rw [hZ]; simp [go_sem])
  have k1 : Five Z (w.heap.size + 1) (.int .i64 0) (.int .i64 0) (.slice none 0 0) (.int .i64 0) (.slice none 0 0) := by
    rw [hZ]; have := Five.new (w.alloc (.cells #[.int .i64 D.p, .int .i64 D.m, .slice A D.mod.length c, .int .i64 K, .slice A1 pts.length c1, .slice A2 mul.length c2] 27)) (.int .i64 0) (.int .i64 0) (.slice none 0 0) (.int .i64 0) (.slice none 0 0) 55; rw [World.size_alloc] at this; exact this
  have hN2 := hN Z ((hr.below hB).more hB.size) ((hr1.below hB).more hB.size) ((hr2.below hB).more hB.size)
  replace hZ := Lib.hid hZ
  have hgH := Lib.hid hg
  clear hg hN
  go_enter Try.func37, Try.ntmps37
  go_wp2_with (fail)
  rw [← hZ.out]
  (with_reducible refine hN2.out.mono ?_)
  rintro e w1 ⟨hb1, g, F, rfl, hgf, hgl, ⟨hz, rfl⟩ | ⟨hz, rfl⟩⟩
  rotate_left
  · have hzb : (gchkD F.toDesc K pts mul != 0) = true := by rw [bne_iff_ne]; exact hz
    obtain ⟨a0, a1, a2, a3, a4, f0, f1, f2, f3, f4⟩ := k1.keep hb1 (by omega)
    clear k1
    have hBe := Lib.hid ((hB.trans (hb1.mono hB.size)).trans ((set5 (w3 := w1) (b := w.heap.size + 1) (.int .i64 0) (.int .i64 0) (.slice none 0 0) (.int .i64 0) (.slice none 0 0)).mono (Nat.le_succ _)))
    replace hz := Lib.hid hz
    go_wp2_with (fail)
    refine bodyPost_ret (v := .tuple #[.agg #[.int .i64 0, .int .i64 0, .slice none 0 0, .int .i64 0, .slice none 0 0], .int .i64 (gchkD F.toDesc K pts mul)]) (by simp [results, Try.results37, go_sem, a0, a1, a2, a3, a4]) rfl ⟨hBe.out, .inl ⟨hz.out, rfl⟩⟩
  obtain ⟨hp1, hp64, hlen, -, hel, -, -, hK0, hKn⟩ := gchkD_zero hz
  obtain ⟨kn, rfl⟩ := Int.eq_ofNat_of_zero_le hK0
  have hs1 := hb1.size
  have hB1 := hB.trans (hb1.mono hB.size)
  have r1 := k1.keep hb1 (by omega)
  have kk1 := keep6 hb1 (by omega) k0.out
  rw [hlen] at kk1
  simp only [hlen]
  replace kk1 := Lib.hid kk1
  have hG := Lib.hid (gGen_any F kn pts.length pts mul A A1 A2 c c1 c2 g w1.drew hgf.drew ((hr1.below hB1).more hB1.size).drew ((hr2.below hB1).more hB1.size).drew rfl hlen hp1 hp64 (by omega) (of_decide_eq_true hel))
  have hC := fun Al cl W a b => Lib.hid (gNewC_ok F hgH.out kn pts.length (gM F.toDesc pts mul) A Al c cl W a b (by omega) hp1 hp64)
  replace hz := Lib.hid hz
  replace hlen := Lib.hid hlen
  replace hel := Lib.hid hel
  unfold CodePost at hC
  have hlt1 : w.heap.size < w1.heap.size := by omega
  clear hN2 k0
  go_wp2_with (fail)
  refine wp_region_held_drew (S := fun w' => w'.cell? ⟨w.heap.size, 0, none⟩ = some (.int .i64 F.p) ∧ w'.cell? ⟨w.heap.size, 1, none⟩ = some (.int .i64 F.m) ∧ w'.cell? ⟨w.heap.size, 2, none⟩ = some (.slice A F.mod.length c) ∧ w'.cell? ⟨w.heap.size, 3, none⟩ = some (.int .i64 (kn : Int)) ∧ w'.cell? ⟨w.heap.size, 4, none⟩ = some (.slice A1 pts.length c1) ∧ w'.cell? ⟨w.heap.size, 5, none⟩ = some (.slice A2 pts.length c2)) (by kernel_rfl) (by (try dsimp only); exact kk1.out) (fun hHeld => ?_)
  refine wpAnyH_take (i := 0) (oi := ⟨_, _, _, _, _, _⟩) (v := ?_) rfl (by kernel_rfl) (by kernel_rfl) (by kernel_rfl) (fun _ _ _ h => h) (Or.inl ⟨by rfl, ?_⟩) (by assumption) ?_
  rotate_left
  · intro w hSw; (try dsimp only at hSw); go_simp; try with_reducible rfl
  try simp only [Act.put, List.setIfInBounds_toArray, List.set_cons_zero, List.set_cons_succ]
  refine wpAnyH_take (i := 1) (oi := ⟨_, _, _, _, _, _⟩) (v := ?_) rfl (by kernel_rfl) (by kernel_rfl) (by kernel_rfl) (fun _ _ _ h => h) (Or.inl ⟨by rfl, ?_⟩) (by assumption) ?_
  rotate_left
  · intro w hSw; (try dsimp only at hSw); go_simp; try with_reducible rfl
  try simp only [Act.put, List.setIfInBounds_toArray, List.set_cons_zero, List.set_cons_succ]
  refine wpAnyH_take (i := 2) (oi := ⟨_, _, _, _, _, _⟩) (v := ?_) rfl (by kernel_rfl) (by kernel_rfl) (by kernel_rfl) (fun _ _ _ h => h) (Or.inl ⟨by rfl, ?_⟩) (by assumption) ?_
  rotate_left
  · intro w hSw; (try dsimp only at hSw); go_simp; try with_reducible rfl
  try simp only [Act.put, List.setIfInBounds_toArray, List.set_cons_zero, List.set_cons_succ]
  refine wpAnyH_take (i := 3) (oi := ⟨_, _, _, _, _, _⟩) (v := ?_) rfl (by kernel_rfl) (by kernel_rfl) (by kernel_rfl) (fun _ _ _ h => h) (Or.inl ⟨by rfl, ?_⟩) (by assumption) ?_
  rotate_left
  · intro w hSw; (try dsimp only at hSw); go_simp; try with_reducible rfl
  try simp only [Act.put, List.setIfInBounds_toArray, List.set_cons_zero, List.set_cons_succ]
  refine wpAnyH_ready (rs := [4]) (by kernel_rfl) (by simp) ?_
  refine AllReadyH.cons (o := ⟨_, _, _, _, _, _⟩) rfl (fun K hK => ?_) AllReadyH.nil
  go_simp
  go_at_call 77
  (with_reducible refine (hG).out.mono ?_)
  rintro e w2 ⟨Al, cl, rfl, hru, hb2⟩
  have kk2 := Lib.hid (keep6 hb2 hlt1 kk1.out)
  have hB2 := hB1.drew.trans (hb2.mono hB1.size)
  have hs2 : w1.heap.size ≤ w2.heap.size := hb2.size
  have hC2 := hC Al cl w2 ((hr.below hB2).more hB2.size) hru.rdm
  go_wp2_with (fail)
  refine hK.out _ _ (by (try dsimp only); exact kk2.out) (fun hHeld => ?_)
  clear hK K
  try simp only [Act.put, List.setIfInBounds_toArray, List.set_cons_zero, List.set_cons_succ]
  refine wpAnyH_ready (rs := [5]) (by kernel_rfl) (by simp) ?_
  refine AllReadyH.cons (o := ⟨_, _, _, _, _, _⟩) rfl (fun K hK => ?_) AllReadyH.nil
  go_simp
  go_at_call 76
  (with_reducible refine (hC2).out.mono ?_)
  rintro e w3 ⟨A3, c3, Al3, rfl, hr3, hA3, hrm3, hb3⟩
  have kk3 := Lib.hid (keep6 hb3 (Nat.lt_of_lt_of_le hlt1 hs2) kk2.out)
  have hB3 := hB2.trans (hb3.mono hB2.size)
  obtain ⟨a0, a1, a2, a3, a4, g0, g1, g2, g3, g4⟩ := ((show Five w1.drew _ _ _ _ _ _ from r1).keep hb2 (show w.heap.size + 1 < w1.heap.size by omega)).keep hb3 (show w.heap.size + 1 < w2.heap.size by omega)
  go_wp2_with (fail)
  refine hK.out _ _ (by (try dsimp only); exact kk3.out) (fun hHeld => ?_)
  clear hK K
  try simp only [Act.put, List.setIfInBounds_toArray, List.set_cons_zero, List.set_cons_succ]
  refine wpAnyH_take (i := 6) (oi := ⟨_, _, _, _, _, _⟩) (v := ?_) rfl (by kernel_rfl) (by kernel_rfl) (by kernel_rfl) (fun _ _ _ h => h) (Or.inl ⟨by rfl, ?_⟩) (by assumption) ?_
  rotate_left
  · intro w hSw; (try dsimp only at hSw); go_simp; try with_reducible rfl
  try simp only [Act.put, List.setIfInBounds_toArray, List.set_cons_zero, List.set_cons_succ]
  refine wpAnyH_take (i := 7) (oi := ⟨_, _, _, _, _, _⟩) (v := ?_) rfl (by kernel_rfl) (by kernel_rfl) (by kernel_rfl) (fun _ _ _ h => h) (Or.inl ⟨by rfl, ?_⟩) (by assumption) ?_
  rotate_left
  · intro w hSw; (try dsimp only at hSw); go_simp; try with_reducible rfl
  try simp only [Act.put, List.setIfInBounds_toArray, List.set_cons_zero, List.set_cons_succ]
  refine wpAnyH_ready (rs := [8]) (by kernel_rfl) (by simp) ?_
  refine AllReadyH.cons (o := ⟨_, _, _, _, _, _⟩) rfl (fun K hK => ?_) AllReadyH.nil
  go_simp
  refine hK.out _ _ (by (try dsimp only); exact keep6 (B := w.heap.size + 1) (set5 _ _ _ _ _) (Nat.lt_succ_self _) kk3.out) (fun hHeld => ?_)
  clear hK K
  try simp only [Act.put, List.setIfInBounds_toArray, List.set_cons_zero, List.set_cons_succ]
  refine wpAnyH_take (i := 9) (oi := ⟨_, _, _, _, _, _⟩) (v := ?_) rfl (by kernel_rfl) (by kernel_rfl) (by kernel_rfl) (fun _ _ _ h => h) (Or.inl ⟨by rfl, ?_⟩) (by assumption) ?_
  rotate_left
  · intro w hSw; (try dsimp only at hSw); go_simp; try with_reducible rfl
  try simp only [Act.put, List.setIfInBounds_toArray, List.set_cons_zero, List.set_cons_succ]
  refine wpAnyH_done (by kernel_rfl) ?_ _
  have hlt2 : w.heap.size + 1 < w2.heap.size := by omega
  have hrf := Lib.hid (hr3.set5 (b := w.heap.size + 1) (fun b hb => by have := hA3 b hb; omega) (.int .i64 F.p) (.int .i64 F.m) (.slice A3 F.mod.length c3) (.int .i64 pts.length) (.slice Al3 (rkS F kn pts.length (gM F.toDesc pts mul)) (rkS F kn pts.length (gM F.toDesc pts mul))))
  have hru4 : Hid (RdMU (((((w3.setCell ⟨w.heap.size + 1, 0, none⟩ (.int .i64 F.p)).setCell ⟨w.heap.size + 1, 1, none⟩ (.int .i64 F.m)).setCell ⟨w.heap.size + 1, 2, none⟩ (.slice A3 F.mod.length c3)).setCell ⟨w.heap.size + 1, 3, none⟩ (.int .i64 pts.length)).setCell ⟨w.heap.size + 1, 4, none⟩ (.slice Al3 (rkS F kn pts.length (gM F.toDesc pts mul)) (rkS F kn pts.length (gM F.toDesc pts mul)))) w2.heap.size w3.heap.size Al3 (rkS F kn pts.length (gM F.toDesc pts mul)) (rowsL F.toDesc pts.length (elS kn (gM F.toDesc pts mul) pts.length).1)) := hrm3.keepU fun p hp _ => set5_above (b := w.heap.size + 1) (L := w2.heap.size) hlt2 _ _ _ _ _ p hp
  have hBf : Hid (Below w.heap.size w (((((w3.setCell ⟨w.heap.size + 1, 0, none⟩ (.int .i64 F.p)).setCell ⟨w.heap.size + 1, 1, none⟩ (.int .i64 F.m)).setCell ⟨w.heap.size + 1, 2, none⟩ (.slice A3 F.mod.length c3)).setCell ⟨w.heap.size + 1, 3, none⟩ (.int .i64 pts.length)).setCell ⟨w.heap.size + 1, 4, none⟩ (.slice Al3 (rkS F kn pts.length (gM F.toDesc pts mul)) (rkS F kn pts.length (gM F.toDesc pts mul))))) := hB3.trans ((set5 _ _ _ _ _).mono (Nat.le_succ _))
  have hsz : Hid (w3.heap.size ≤ (((((w3.setCell ⟨w.heap.size + 1, 0, none⟩ (.int .i64 F.p)).setCell ⟨w.heap.size + 1, 1, none⟩ (.int .i64 F.m)).setCell ⟨w.heap.size + 1, 2, none⟩ (.slice A3 F.mod.length c3)).setCell ⟨w.heap.size + 1, 3, none⟩ (.int .i64 pts.length)).setCell ⟨w.heap.size + 1, 4, none⟩ (.slice Al3 (rkS F kn pts.length (gM F.toDesc pts mul)) (rkS F kn pts.length (gM F.toDesc pts mul)))).heap.size) := by unfold Hid; simp [World.setCell]
  replace hr3 := Lib.hid hr3
  clear hA3 hrm3 hru r1 hG hC hC2
  go_wp2_with (fail)
  refine bodyPost_ret (v := .tuple #[.agg #[.int .i64 F.p, .int .i64 F.m, .slice A3 F.mod.length c3, .int .i64 pts.length, .slice Al3 (rkS F kn pts.length (gM F.toDesc pts mul)) (rkS F kn pts.length (gM F.toDesc pts mul))], .int .i64 0]) (by simp [results, Try.results37, go_sem, a0, a1, a2, a3, a4]) rfl ⟨hBf.out, .inr ⟨hz.out, F, rfl, A3, c3, Al3, rfl, hrf.out.more (by simp [World.setCell]), hru4.out.rdm.more hsz.out⟩⟩
end Go.Proofs.Ytnbkmkeiophjoaa
