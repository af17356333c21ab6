/- Layer 18 of the program: Affine. -/
import Derived.Test.YtnbkmkeiophjoaaGrsH
namespace Go.Proofs.Ytnbkmkeiophjoaa
open Go.RowKit Cw

set_option maxHeartbeats 1000000 in
theorem gAff_bad (P M K : Int) (ml pts mul : List Int) (A A1 A2 : Option Addr) (c c1 c2 : Nat) (a b : Int) (w : World) (hP : I64 P) (hM : I64 M) (hl : ml.length ≤ maxLen) (hr : Rd w w.heap.size A ml) (hb : ¬ Good P M ml) :
    Calls Try.prog 44 #[.agg #[.int .i64 P, .int .i64 M, .slice A ml.length c, .int .i64 K, .slice A1 pts.length c1, .slice A2 mul.length c2], .int .i64 a, .int .i64 b] w fun e w' => e = .returned (.tuple #[.agg #[.int .i64 0, .int .i64 0, .slice none 0 0, .int .i64 0, .slice none 0 0, .slice none 0 0], .int .i64 1]) ∧ Below w.heap.size w w' := by
  have hN := fun W h => Lib.hid (gOpen_bad P M K ml pts mul A A1 A2 c c1 c2 W hP hM hl h hb)
  obtain ⟨Z, hZ⟩ : ∃ Z, Z = (w.alloc (.cells #[.int .i64 P, .int .i64 M, .slice A ml.length c, .int .i64 K, .slice A1 pts.length c1, .slice A2 mul.length c2] 27)).alloc (.cells #[.int .i64 0, .int .i64 0, .slice none 0 0, .int .i64 0, .slice none 0 0, .slice none 0 0] 27) := ⟨_, rfl⟩
  have hB : Below w.heap.size w Z := by rw [hZ]; exact ((Below.refl _ _).alloc (Nat.le_refl _) _).alloc (by simp) _
  have hZs : Z.heap.size = w.heap.size + 2 := by rw [hZ]; simp
  have k0 := Lib.hid (show Z.cell? ⟨w.heap.size, 0, none⟩ = some (.int .i64 P) ∧ Z.cell? ⟨w.heap.size, 1, none⟩ = some (.int .i64 M) ∧ Z.cell? ⟨w.heap.size, 2, none⟩ = some (.slice A ml.length c) ∧ Z.cell? ⟨w.heap.size, 3, none⟩ = some (.int .i64 K) ∧ Z.cell? ⟨w.heap.size, 4, none⟩ = some (.slice A1 pts.length c1) ∧ Z.cell? ⟨w.heap.size, 5, none⟩ = some (.slice A2 mul.length c2) from by rw [hZ]; simp [go_sem])
  have k1 : Six Z (w.heap.size + 1) (.int .i64 0) (.int .i64 0) (.slice none 0 0) (.int .i64 0) (.slice none 0 0) (.slice none 0 0) := by
    rw [hZ]; have := Six.new (w.alloc (.cells #[.int .i64 P, .int .i64 M, .slice A ml.length c, .int .i64 K, .slice A1 pts.length c1, .slice A2 mul.length c2] 27)) (.int .i64 0) (.int .i64 0) (.slice none 0 0) (.int .i64 0) (.slice none 0 0) (.slice none 0 0) 27; rw [World.size_alloc] at this; exact this
  have hN2 := hN Z ((hr.below hB).more hB.size)
  replace hZ := Lib.hid hZ
  clear hP hM hl hb hN
  go_enter Try.func44, Try.ntmps44
  go_wp2_with (fail)
  rw [← hZ.out]
  (with_reducible refine hN2.out.mono ?_)
  rintro e w1 ⟨rfl, hb1⟩
  obtain ⟨a0, a1, a2, a3, a4, a5, f0, f1, f2, f3, f4, f5⟩ := k1.keep hb1 (by omega)
  clear k1
  have hBe := (hB.trans (hb1.mono hB.size)).trans ((set6 (w3 := w1) (b := w.heap.size + 1) (.int .i64 0) (.int .i64 0) (.slice none 0 0) (.int .i64 0) (.slice none 0 0) (.slice none 0 0)).mono (Nat.le_succ _))
  clear hB hb1
  go_wp2_with (fail)
  refine bodyPost_ret (v := .tuple #[.agg #[.int .i64 0, .int .i64 0, .slice none 0 0, .int .i64 0, .slice none 0 0, .slice none 0 0], .int .i64 1]) (by simp [results, Try.results44, go_sem, a0, a1, a2, a3, a4, a5]) rfl ⟨rfl, hBe⟩

/-- The points a x + b. -/
def affV (D : Desc) (a b : Int) (pts : List Int) (i : Nat) : Int := ci (eli D a * eli D (pts[i]?.getD 0) + eli D b)
def affL (D : Desc) (a b : Int) (pts : List Int) : List Int := lst pts.length (affV D a b pts)
theorem affL_length (D : Desc) (a b : Int) (pts : List Int) : (affL D a b pts).length = pts.length := lst_length _ _
def affErr (D : Desc) (K : Int) (pts mul : List Int) (a b : Int) : Int :=
  if gchkD D K pts mul ≠ 0 then gchkD D K pts mul else if decide (0 ≤ a ∧ a < D.q) = false then 2 else if decide (0 ≤ b ∧ b < D.q) = false then 2 else if a = 0 then 7 else 0
/-- What Affine hands back over a field. -/
def AffPost (D : Desc) (K : Int) (pts mul : List Int) (a b : Int) (w : World) (e : Ending) (w' : World) : Prop :=
  Below w.heap.size w w' ∧ ((affErr D K pts mul a b ≠ 0 ∧ e = .returned (.tuple #[.agg #[.int .i64 0, .int .i64 0, .slice none 0 0, .int .i64 0, .slice none 0 0, .slice none 0 0], .int .i64 (affErr D K pts mul a b)])) ∨
    (affErr D K pts mul a b = 0 ∧ ∃ A3 c3 A4 c4 A5 c5, e = .returned (.tuple #[.agg #[.int .i64 D.p, .int .i64 D.m, .slice A3 D.mod.length c3, .int .i64 K, .slice A4 pts.length c4, .slice A5 mul.length c5], .int .i64 0]) ∧
      Rd w' w'.heap.size A3 (modL D) ∧ Rd w' w'.heap.size A4 (affL D a b pts) ∧ Rd w' w'.heap.size A5 mul ∧ pts.length ≤ c4 ∧ c4 ≤ maxLen))

set_option maxRecDepth 100000 in
set_option maxHeartbeats 4000000 in
theorem gAff_D (D : Desc) (K : Int) (pts mul : List Int) (A A1 A2 : Option Addr) (c c1 c2 : Nat) (a b : Int) (w : World) (hr : Rd w w.heap.size A (modL D)) (hg : Good D.p D.m (modL D)) (hr1 : Rd w w.heap.size A1 pts) (hr2 : Rd w w.heap.size A2 mul) (h1 : pts.length ≤ c1) (h1' : c1 ≤ maxLen) (h2 : mul.length ≤ maxLen) :
    Calls Try.prog 44 #[.agg #[.int .i64 D.p, .int .i64 D.m, .slice A D.mod.length c, .int .i64 K, .slice A1 pts.length c1, .slice A2 mul.length c2], .int .i64 a, .int .i64 b] w (AffPost D K pts mul a b w) := by
  have hN := fun W x y c' => Lib.hid (gOpen_D D K pts mul A A1 A2 c c1 c2 W x hg y c' h1 h1' h2)
  obtain ⟨Z, hZ⟩ : ∃ Z, Z = (w.alloc (.cells #[.int .i64 D.p, .int .i64 D.m, .slice A D.mod.length c, .int .i64 K, .slice A1 pts.length c1, .slice A2 mul.length c2] 27)).alloc (.cells #[.int .i64 0, .int .i64 0, .slice none 0 0, .int .i64 0, .slice none 0 0, .slice none 0 0] 27) := ⟨_, rfl⟩
  have hB : Below w.heap.size w Z := by rw [hZ]; exact ((Below.refl _ _).alloc (Nat.le_refl _) _).alloc (by simp) _
  have hZs : Z.heap.size = w.heap.size + 2 := by rw [hZ]; simp
  have k0 := Lib.hid (show Z.cell? ⟨w.heap.size, 0, none⟩ = some (.int .i64 D.p) ∧ Z.cell? ⟨w.heap.size, 1, none⟩ = some (.int .i64 D.m) ∧ Z.cell? ⟨w.heap.size, 2, none⟩ = some (.slice A D.mod.length c) ∧ Z.cell? ⟨w.heap.size, 3, none⟩ = some (.int .i64 K) ∧ Z.cell? ⟨w.heap.size, 4, none⟩ = some (.slice A1 pts.length c1) ∧ Z.cell? ⟨w.heap.size, 5, none⟩ = some (.slice A2 mul.length c2) from by rw [hZ]; simp [go_sem])
  have k1 : Six Z (w.heap.size + 1) (.int .i64 0) (.int .i64 0) (.slice none 0 0) (.int .i64 0) (.slice none 0 0) (.slice none 0 0) := by
    rw [hZ]; have := Six.new (w.alloc (.cells #[.int .i64 D.p, .int .i64 D.m, .slice A D.mod.length c, .int .i64 K, .slice A1 pts.length c1, .slice A2 mul.length c2] 27)) (.int .i64 0) (.int .i64 0) (.slice none 0 0) (.int .i64 0) (.slice none 0 0) (.slice none 0 0) 27; rw [World.size_alloc] at this; exact this
  have hN2 := hN Z ((hr.below hB).more hB.size) ((hr1.below hB).more hB.size) ((hr2.below hB).more hB.size)
  replace hZ := Lib.hid hZ
  clear hg hN
  go_enter Try.func44, Try.ntmps44
  go_wp2_with (fail)
  rw [← hZ.out]
  (with_reducible refine hN2.out.mono ?_)
  rintro e w1 ⟨hb1, g, F, rfl, hgf, hgl, ⟨hz, rfl⟩ | ⟨hz, rfl⟩⟩
  rotate_left
  · have haff : affErr F.toDesc K pts mul a b = gchkD F.toDesc K pts mul := if_pos hz
    have hzb : (gchkD F.toDesc K pts mul != 0) = true := by rw [bne_iff_ne]; exact hz
    obtain ⟨a0, a1, a2, a3, a4, a5, f0, f1, f2, f3, f4, f5⟩ := k1.keep hb1 (by omega)
    clear k1
    have hBe := Lib.hid ((hB.trans (hb1.mono hB.size)).trans ((set6 (w3 := w1) (b := w.heap.size + 1) (.int .i64 0) (.int .i64 0) (.slice none 0 0) (.int .i64 0) (.slice none 0 0) (.slice none 0 0)).mono (Nat.le_succ _)))
    replace hz := Lib.hid hz
    go_wp2_with (fail)
    refine bodyPost_ret (v := .tuple #[.agg #[.int .i64 0, .int .i64 0, .slice none 0 0, .int .i64 0, .slice none 0 0, .slice none 0 0], .int .i64 (gchkD F.toDesc K pts mul)]) (by simp [results, Try.results44, go_sem, a0, a1, a2, a3, a4, a5]) rfl ⟨hBe.out, .inl (haff.symm ▸ ⟨hz.out, rfl⟩)⟩
  obtain ⟨hp1, hp64, hlen, -, -, -, -, hK0, hKn⟩ := gchkD_zero hz
  have hs1 := hb1.size
  have hB1 := hB.trans (hb1.mono hB.size)
  have r1 := k1.keep hb1 (by omega)
  have kk1 := Lib.hid (keep6 hb1 (by omega) k0.out)
  have hzH := Lib.hid hz
  have hIa := gIs_any F a g w1 hgf
  have hIb := gIs_any F b g w1 hgf
  by_cases hia : decide (0 ≤ a ∧ a < F.q) = false
  · rw [hia] at hIa
    replace hIa := Lib.hid hIa
    have haff : affErr F.toDesc K pts mul a b = 2 := by unfold affErr; rw [if_neg (fun h => h hz), if_pos hia]
    obtain ⟨a0, a1, a2, a3, a4, a5, f0, f1, f2, f3, f4, f5⟩ := r1
    have hBe := Lib.hid (hB1.trans ((set6 (w3 := w1) (b := w.heap.size + 1) (.int .i64 0) (.int .i64 0) (.slice none 0 0) (.int .i64 0) (.slice none 0 0) (.slice none 0 0)).mono (Nat.le_succ _)))
    clear hz hzH
    go_wp2_with (fail)
    (with_reducible refine hIa.out.mono ?_)
    rintro e w2 ⟨rfl, rfl⟩
    go_wp2_with (fail)
    refine bodyPost_ret (v := .tuple #[.agg #[.int .i64 0, .int .i64 0, .slice none 0 0, .int .i64 0, .slice none 0 0, .slice none 0 0], .int .i64 2]) (by simp [results, Try.results44, go_sem, a0, a1, a2, a3, a4, a5]) rfl ⟨hBe.out, .inl (haff.symm ▸ ⟨by decide, rfl⟩)⟩
  by_cases hib : decide (0 ≤ b ∧ b < F.q) = false
  · have hia2 : decide (0 ≤ a ∧ a < F.q) = true := Bool.not_eq_false _ ▸ hia
    rw [hia2] at hIa
    rw [hib] at hIb
    replace hIa := Lib.hid hIa
    replace hIb := Lib.hid hIb
    have haff : affErr F.toDesc K pts mul a b = 2 := by unfold affErr; rw [if_neg (fun h => h hz), if_neg hia, if_pos hib]
    obtain ⟨a0, a1, a2, a3, a4, a5, f0, f1, f2, f3, f4, f5⟩ := r1
    have hBe := Lib.hid (hB1.trans ((set6 (w3 := w1) (b := w.heap.size + 1) (.int .i64 0) (.int .i64 0) (.slice none 0 0) (.int .i64 0) (.slice none 0 0) (.slice none 0 0)).mono (Nat.le_succ _)))
    clear hz hzH
    go_wp2_with (fail)
    (with_reducible refine hIa.out.mono ?_)
    rintro e w2 ⟨rfl, rfl⟩
    go_wp2_with (fail)
    (with_reducible refine hIb.out.mono ?_)
    rintro e w2 ⟨rfl, rfl⟩
    go_wp2_with (fail)
    refine bodyPost_ret (v := .tuple #[.agg #[.int .i64 0, .int .i64 0, .slice none 0 0, .int .i64 0, .slice none 0 0, .slice none 0 0], .int .i64 2]) (by simp [results, Try.results44, go_sem, a0, a1, a2, a3, a4, a5]) rfl ⟨hBe.out, .inl (haff.symm ▸ ⟨by decide, rfl⟩)⟩
  have hia2 : decide (0 ≤ a ∧ a < F.q) = true := Bool.not_eq_false _ ▸ hia
  have hib2 : decide (0 ≤ b ∧ b < F.q) = true := Bool.not_eq_false _ ▸ hib
  rw [hia2] at hIa
  rw [hib2] at hIb
  replace hIa := Lib.hid hIa
  replace hIb := Lib.hid hIb
  by_cases ha0 : a = 0
  · have haff : affErr F.toDesc K pts mul a b = 7 := by unfold affErr; rw [if_neg (fun h => h hz), if_neg hia, if_neg hib, if_pos ha0]
    obtain ⟨a0, a1, a2, a3, a4, a5, f0, f1, f2, f3, f4, f5⟩ := r1
    have hBe := Lib.hid (hB1.trans ((set6 (w3 := w1) (b := w.heap.size + 1) (.int .i64 0) (.int .i64 0) (.slice none 0 0) (.int .i64 0) (.slice none 0 0) (.slice none 0 0)).mono (Nat.le_succ _)))
    clear hz hzH
    have ha0b : (a == 0) = true := by rw [beq_iff_eq]; exact ha0
    subst ha0
    go_wp2_with (fail)
    (with_reducible refine hIa.out.mono ?_)
    rintro e w2 ⟨rfl, rfl⟩
    go_wp2_with (fail)
    (with_reducible refine hIb.out.mono ?_)
    rintro e w2 ⟨rfl, rfl⟩
    go_wp2_with (fail)
    refine bodyPost_ret (v := .tuple #[.agg #[.int .i64 0, .int .i64 0, .slice none 0 0, .int .i64 0, .slice none 0 0, .slice none 0 0], .int .i64 7]) (by simp [results, Try.results44, go_sem, a0, a1, a2, a3, a4, a5]) rfl ⟨hBe.out, .inl (haff.symm ▸ ⟨by decide, rfl⟩)⟩
  have haff : Hid (affErr F.toDesc K pts mul a b = 0) := by unfold Hid affErr; rw [if_neg (fun h => h hz), if_neg hia, if_neg hib, if_neg ha0]
  have ha0b : (a == 0) = false := by rw [beq_eq_false_iff_ne]; exact ha0
  have hC := Lib.hid (gCopied_any F K pts mul A A1 A2 c c1 c2 g w1 hgf ((hr1.below hB1).more hB1.size) ((hr2.below hB1).more hB1.size) hp64 (by omega))
  obtain ⟨q0, q1, q2, q3, q4, q5⟩ := kk1.out
  have hlenH := Lib.hid hlen
  clear hz hzH hN2 k0 hlen hia hib ha0 hia2 hib2
  go_wp2_with (fail)
  (with_reducible refine hIa.out.mono ?_)
  rintro e w2 ⟨rfl, rfl⟩
  go_wp2_with (fail)
  (with_reducible refine hIb.out.mono ?_)
  rintro e w2 ⟨rfl, rfl⟩
  go_wp2_with (fail)
  (with_reducible refine hC.out.mono ?_)
  rintro e w2 ⟨A3, c3, A4, c4, A5, c5, rfl, hrf, ho4, ho5, hdd, hd4, hd5, hA3, hb2⟩
  obtain ⟨b4, rfl⟩ := ho4.blk hp1
  have hs2 := hb2.size
  have kk2 := keep6 hb2 (by omega) kk1.out
  have hlt1 : w.heap.size < w2.heap.size := by omega
  have hXb : Below w2.heap.size w2 (w2.alloc (.cells #[.int .i64 F.p, .int .i64 F.m, .slice A3 F.mod.length c3, .int .i64 K, .slice (some ⟨b4, 0, none⟩) pts.length c4, .slice A5 mul.length c5] 27)) := (Below.refl _ _).alloc (Nat.le_refl _) _
  have hXs : w2.heap.size < (w2.alloc (.cells #[.int .i64 F.p, .int .i64 F.m, .slice A3 F.mod.length c3, .int .i64 K, .slice (some ⟨b4, 0, none⟩) pts.length c4, .slice A5 mul.length c5] 27)).heap.size := by rw [World.size_alloc]; exact Nat.lt_succ_self _
  have kk3 := keep6 hXb hlt1 kk2
  have x6 := Six.new w2 (.int .i64 F.p) (.int .i64 F.m) (.slice A3 F.mod.length c3) (.int .i64 K) (.slice (some ⟨b4, 0, none⟩) pts.length c4) (.slice A5 mul.length c5) 27
  have kq := kk3
  obtain ⟨X, hX⟩ : ∃ X, X = (w2.alloc (.cells #[.int .i64 F.p, .int .i64 F.m, .slice A3 F.mod.length c3, .int .i64 K, .slice (some ⟨b4, 0, none⟩) pts.length c4, .slice A5 mul.length c5] 27)) := ⟨_, rfl⟩
  rw [← hX] at hXb kk3 x6 hXs
  replace hX := Lib.hid hX
  replace kk2 := Lib.hid kk2
  have kk3H := Lib.hid kk3
  replace x6 := Lib.hid x6
  clear q0 q1 q2 q3 q4 q5
  clear kk3
  obtain ⟨q0, q1, q2, q3, q4, q5⟩ := kq
  go_wp2_with (fail)
  rw [← hX.out]
  clear q0 q1 q2 q3 q4 q5
  go_loopw [45] (fun i wr => ∃ k : Nat, k ≤ pts.length ∧ i = .int .i64 k ∧ Hid (wr.cell? ⟨w.heap.size, 0, none⟩ = some (.int .i64 F.p) ∧ wr.cell? ⟨w.heap.size, 1, none⟩ = some (.int .i64 F.m) ∧ wr.cell? ⟨w.heap.size, 2, none⟩ = some (.slice A F.mod.length c) ∧ wr.cell? ⟨w.heap.size, 3, none⟩ = some (.int .i64 K) ∧ wr.cell? ⟨w.heap.size, 4, none⟩ = some (.slice A1 pts.length c1) ∧ wr.cell? ⟨w.heap.size, 5, none⟩ = some (.slice A2 mul.length c2)) ∧ Hid (Six wr w2.heap.size (.int .i64 F.p) (.int .i64 F.m) (.slice A3 F.mod.length c3) (.int .i64 K) (.slice (some ⟨b4, 0, none⟩) pts.length c4) (.slice A5 mul.length c5) ∧ Rd wr wr.heap.size A3 (modL F.toDesc) ∧ Own wr w1.heap.size (.slice (some ⟨b4, 0, none⟩) pts.length c4) (mixL pts k (affV F.toDesc a b pts)) ∧ Own wr w1.heap.size (.slice A5 mul.length c5) mul) ∧ Below w1.heap.size w1 wr ∧ w2.heap.size < wr.heap.size) (fun i _ => pts.length - (intOf i).toNat)
  case atStart => exact ⟨0, by omega, rfl, kk3H, ⟨x6.out, (hrf.below hXb).more hXb.size, by rw [mixL_zero]; exact ho4.below hXb (Nat.le_refl _), ho5.below hXb (Nat.le_refl _)⟩, hb2.trans (hXb.mono hs2), hXs⟩
  case round =>
    obtain ⟨wo, rfl⟩ : ∃ wo : World, wo = wr := ⟨_, rfl⟩
    obtain ⟨k, hk, rfl, kk5, hst, hbw, hlt5⟩ := hrel
    have hb4 := ho4.lt b4 rfl
    clear x6 kk3H hXs hXb hrf ho5 kk2 kk1
    have hBw : Below w.heap.size w wo := hB1.trans (hbw.mono hB1.size)
    by_cases hkn : k < pts.length
    · obtain ⟨b1, o1, rfl, hbb1, hc1⟩ := hr1.at_ hkn
      have hd1 := (hBw.cell (p := ⟨b1, o1 + k, none⟩) hbb1).trans hc1
      obtain ⟨x, hx⟩ : ∃ x, x = pts[k]?.getD 0 := ⟨_, rfl⟩
      rw [← hx] at hd1
      have hk0 : (0 : Int) ≤ (k : Int) := by omega
      have hk1 : (k : Int) < (pts.length : Int) := by omega
      have hlto : w.heap.size < wo.heap.size := by omega
      have hgo := (hgf.below hbw).more hbw.size
      have hM := Lib.hid (gMul_any F a x g wo.drew hgo.drew)
      have hA := fun W h => gAdd_any F (ci (eli F.toDesc a * eli F.toDesc x)) b g W h
      rw [eli_ci] at hA
      obtain ⟨dv, hdv⟩ : ∃ dv, dv = affV F.toDesc a b pts k := ⟨_, rfl⟩
      have hdv2 : ci (eli F.toDesc a * eli F.toDesc x + eli F.toDesc b) = dv := by rw [hdv, hx]; rfl
      rw [hdv2] at hA
      replace hA := fun W h => Lib.hid (hA W h)
      have hS4 := hst.out.1.2.2.2.2.1
      have ho4i := hst.out.2.2.1
      replace hdv := Lib.hid hdv
      replace hx := Lib.hid hx
      clear hc1 hdv2
      obtain ⟨q0, q1, q2, q3, q4, q5⟩ := kk5.out
      go_wp2_with (fail)
      clear q0 q1 q2 q3 q4 q5 hd1
      refine wp_region_held_drew (S := fun w' => w'.cell? ⟨w2.heap.size, 4, none⟩ = some (.slice (some ⟨b4, 0, none⟩) pts.length c4)) (by kernel_rfl) (by (try dsimp only); exact hS4) (fun hHeld => ?_)
      refine wpAnyH_take (i := 0) (oi := ⟨_, _, _, _, _, _⟩) (v := ?_) rfl (by kernel_rfl) (by kernel_rfl) (by kernel_rfl) (fun _ _ _ h => h) (Or.inl ⟨by rfl, ?_⟩) (by assumption) ?_
      rotate_left
      · intro w hSw; (try dsimp only at hSw); go_simp; try with_reducible rfl
      try simp only [Act.put, List.setIfInBounds_toArray, List.set_cons_zero, List.set_cons_succ]
      refine wpAnyH_take (i := 1) (oi := ⟨_, _, _, _, _, _⟩) (v := ?_) rfl (by kernel_rfl) (by kernel_rfl) (by kernel_rfl) (fun _ _ _ h => h) (Or.inl ⟨by rfl, ?_⟩) (by assumption) ?_
      rotate_left
      · intro w hSw; (try dsimp only at hSw); go_simp; try with_reducible rfl
      try simp only [Act.put, List.setIfInBounds_toArray, List.set_cons_zero, List.set_cons_succ]
      refine wpAnyH_take (i := 2) (oi := ⟨_, _, _, _, _, _⟩) (v := ?_) rfl (by kernel_rfl) (by kernel_rfl) (by kernel_rfl) (fun _ _ _ h => h) (Or.inl ⟨by rfl, ?_⟩) (by assumption) ?_
      rotate_left
      · intro w hSw; (try dsimp only at hSw); go_simp; try with_reducible rfl
      try simp only [Act.put, List.setIfInBounds_toArray, List.set_cons_zero, List.set_cons_succ]
      refine wpAnyH_take (i := 3) (oi := ⟨_, _, _, _, _, _⟩) (v := ?_) rfl (by kernel_rfl) (by kernel_rfl) (by kernel_rfl) (fun _ _ _ h => h) (Or.inl ⟨by rfl, ?_⟩) (by assumption) ?_
      rotate_left
      · intro w hSw; (try dsimp only at hSw); go_simp; try with_reducible rfl
      try simp only [Act.put, List.setIfInBounds_toArray, List.set_cons_zero, List.set_cons_succ]
      refine wpAnyH_take (i := 4) (oi := ⟨_, _, _, _, _, _⟩) (v := ?_) rfl (by kernel_rfl) (by kernel_rfl) (by kernel_rfl) (fun _ _ _ h => h) (Or.inl ⟨by rfl, ?_⟩) (by assumption) ?_
      rotate_left
      · intro w hSw; (try dsimp only at hSw); go_simp; try with_reducible rfl
      try simp only [Act.put, List.setIfInBounds_toArray, List.set_cons_zero, List.set_cons_succ]
      refine wpAnyH_take (i := 5) (oi := ⟨_, _, _, _, _, _⟩) (v := ?_) rfl (by kernel_rfl) (by kernel_rfl) (by kernel_rfl) (fun _ _ _ h => h) (Or.inl ⟨by rfl, ?_⟩) (by assumption) ?_
      rotate_left
      · intro w hSw; (try dsimp only at hSw); go_simp; try with_reducible rfl
      try simp only [Act.put, List.setIfInBounds_toArray, List.set_cons_zero, List.set_cons_succ]
      refine wpAnyH_take (i := 6) (oi := ⟨_, _, _, _, _, _⟩) (v := ?_) rfl (by kernel_rfl) (by kernel_rfl) (by kernel_rfl) (fun _ _ _ h => h) (Or.inl ⟨by rfl, ?_⟩) (by assumption) ?_
      rotate_left
      · intro w hSw; (try dsimp only at hSw); go_simp; try with_reducible rfl
      try simp only [Act.put, List.setIfInBounds_toArray, List.set_cons_zero, List.set_cons_succ]
      refine wpAnyH_take (i := 8) (oi := ⟨_, _, _, _, _, _⟩) (v := ?_) rfl (by kernel_rfl) (by kernel_rfl) (by kernel_rfl) (fun _ _ _ h => h) (Or.inl ⟨by rfl, ?_⟩) (by assumption) ?_
      rotate_left
      · intro w hSw; (try dsimp only at hSw); go_simp; try with_reducible rfl
      try simp only [Act.put, List.setIfInBounds_toArray, List.set_cons_zero, List.set_cons_succ]
      refine wpAnyH_ready (rs := [7]) (by kernel_rfl) (by simp) ?_
      refine AllReadyH.cons (o := ⟨_, _, _, _, _, _⟩) rfl (fun K hK => ?_) AllReadyH.nil
      go_simp
      go_at_call 67
      (with_reducible refine (hM).out.mono ?_)
      rintro e w3 ⟨rfl, hb3⟩
      have hgo3 := ((hgo.drew).below hb3).more hb3.size
      have hs3 : wo.heap.size ≤ w3.heap.size := hb3.size
      go_wp2_with (fail)
      refine hK.out _ _ (by (try dsimp only); exact (hb3.cell (p := ⟨w2.heap.size, 4, none⟩) hlt5).trans hS4) (fun hHeld => ?_)
      clear hK K
      try simp only [Act.put, List.setIfInBounds_toArray, List.set_cons_zero, List.set_cons_succ]
      refine wpAnyH_ready (rs := [9]) (by kernel_rfl) (by simp) ?_
      refine AllReadyH.cons (o := ⟨_, _, _, _, _, _⟩) rfl (fun K hK => ?_) AllReadyH.nil
      go_simp
      go_at_call 85
      (with_reducible refine (hA _ hgo3).out.mono ?_)
      rintro e w4 ⟨rfl, hb4'⟩
      have hb34 := hb3.trans (hb4'.mono hs3)
      have ho43 := ho4i.drew.below hb34 (Nat.le_refl _)
      have hcW := ho43.cell (mixL_length _ _ _).symm (i := k) (by rw [mixL_length]; exact hkn)
      have hfW := ho43.frozen (mixL_length _ _ _).symm k
      go_wp2_with (fail)
      refine hK.out _ _ (by (try dsimp only); exact (hb4'.cell (p := ⟨w2.heap.size, 4, none⟩) (Nat.lt_of_lt_of_le hlt5 hs3)).trans ((hb3.cell (p := ⟨w2.heap.size, 4, none⟩) hlt5).trans hS4)) (fun hHeld => ?_)
      clear hK K
      try simp only [Act.put, List.setIfInBounds_toArray, List.set_cons_zero, List.set_cons_succ]
      refine wpAnyH_take (i := 10) (oi := ⟨_, _, _, _, _, _⟩) (v := ?_) rfl (by kernel_rfl) (by kernel_rfl) (by kernel_rfl) (fun _ _ _ h => h) (Or.inl ⟨by rfl, ?_⟩) (by assumption) ?_
      rotate_left
      · intro w hSw; (try dsimp only at hSw); go_simp; try with_reducible rfl
      try simp only [Act.put, List.setIfInBounds_toArray, List.set_cons_zero, List.set_cons_succ]
      refine wpAnyH_ready (rs := [11]) (by kernel_rfl) (by simp) ?_
      refine AllReadyH.cons (o := ⟨_, _, _, _, _, _⟩) rfl (fun K hK => ?_) AllReadyH.nil
      go_simp
      refine hK.out _ _ (by (try dsimp only); exact (World.cell?_setCell_other _ _ _ _ (by intro e; injection e with e1; omega)).trans ((hb34.cell (p := ⟨w2.heap.size, 4, none⟩) hlt5).trans hS4)) (fun hHeld => ?_)
      clear hK K
      try simp only [Act.put, List.setIfInBounds_toArray, List.set_cons_zero, List.set_cons_succ]
      refine wpAnyH_done (by kernel_rfl) ?_ _
      have hne4 : b4 ≠ w2.heap.size := Nat.ne_of_lt hb4.2
      have hB36 : Below w1.heap.size wo (w4.setCell ⟨b4, k, none⟩ (.int .i64 dv)) := ((Below.refl _ wo).drew.trans (hb34.mono hbw.size)).setCell (p := ⟨b4, k, none⟩) hb4.1 _
      have kk6 := Lib.hid (keep6 hB36 (by omega) kk5.out)
      have x63 : Six w4 _ _ _ _ _ _ _ := (show Six wo.drew _ _ _ _ _ _ _ from hst.out.1).keep hb34 hlt5
      have x6 := Lib.hid (x63.far hne4 k (.int .i64 dv))
      have hr6 : Hid (Rd (w4.setCell ⟨b4, k, none⟩ (.int .i64 dv)) (w4.setCell ⟨b4, k, none⟩ (.int .i64 dv)).heap.size A3 (modL F.toDesc)) :=
        (((hst.out.2.1.drew.below hb34).more hb34.size).farD hd4 k (.int .i64 dv)).more (grown_set _ _ _).size
      have ho56 := Lib.hid ((hst.out.2.2.2.drew.below hb34 (Nat.le_refl _)).far (p := ⟨b4, k, none⟩) (fun e => hdd _ rfl e) (.int .i64 dv))
      have ho46 := Lib.hid (ho43.set_ (mixL_length _ _ _).symm k dv)
      rw [hdv.out, mixL_set, ← hdv.out] at ho46
      have hlt6 : w2.heap.size < (w4.setCell ⟨b4, k, none⟩ (.int .i64 dv)).heap.size := Nat.lt_of_lt_of_le (Nat.lt_of_lt_of_le hlt5 hb34.size) (grown_set _ _ _).size
      clear hcW hfW hS4
      go_wp2_with (fail)
      go_roundw
      case rel => exact ⟨k + 1, by omega, by go_num, kk6, ⟨x6.out, hr6.out, ho46.out, ho56.out⟩, hbw.trans hB36, hlt6⟩
      case measure => simp [intOf]; omega
    · obtain rfl : k = pts.length := by omega
      have x5 := hst.out.1
      obtain ⟨a0, a1, a2, a3, a4, a5, f0, f1, f2, f3, f4, f5⟩ := x5
      have h1w : w.heap.size + 1 < w1.heap.size := by omega
      obtain ⟨p0, p1, p2, p3, p4, p5, e0, e1, e2, e3, e4, e5⟩ := r1.keep hbw h1w
      go_wp2_with (fail)
      obtain ⟨-, hrf, ho4f, ho5f⟩ := hst.out
      obtain ⟨B5, k5, ef5, hc5, hr5, hA5⟩ := ho5f.form
      cases ef5
      obtain ⟨B4, k4, ef4, hc4, hr4, hA4⟩ := ho4f.form
      rw [mixL_length] at ef4
      cases ef4
      refine bodyPost_ret (v := .tuple #[.agg #[.int .i64 F.p, .int .i64 F.m, .slice A3 F.mod.length c3, .int .i64 K, .slice (some ⟨b4, 0, none⟩) pts.length c4, .slice A5 mul.length c5], .int .i64 0]) (by simp [results, Try.results44, go_sem, p0, p1, p2, p3, p4, p5]) rfl ⟨hBw.trans ((set6 _ _ _ _ _ _).mono (Nat.le_succ _)), .inr ⟨haff.out, A3, c3, some ⟨b4, 0, none⟩, c4, A5, c5, rfl, ?_, ?_, ?_, by rw [mixL_length] at hc4; exact hc4, ho4f.cap⟩⟩
      · exact (hrf.set6 (fun a e => by have := hA3 a e; omega) _ _ _ _ _ _).more (by simp [World.setCell])
      · rw [mixL_full] at hr4
        exact (hr4.set6 (fun a e => by have := (hA4 a e).1; omega) _ _ _ _ _ _).more (by simp [World.setCell])
      · exact (hr5.set6 (fun a e => by have := (hA5 a e).1; omega) _ _ _ _ _ _).more (by simp [World.setCell])
end Go.Proofs.Ytnbkmkeiophjoaa
