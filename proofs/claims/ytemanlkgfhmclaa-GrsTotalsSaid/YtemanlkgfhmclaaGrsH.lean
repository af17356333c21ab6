/- Layer 18 of the program: Dual. -/
import Derived.Test.YtemanlkgfhmclaaGrsG
import Derived.Test.YtemanlkgfhmclaaGA
namespace Go.Proofs.Ytemanlkgfhmclaa
open Go.RowKit Cw
open Cw.CField (inv)

/-- The product of u and the differences of point i from the other points below k. -/
def dprod (D : Desc) (pts : List Int) (i : Nat) (u : R D) : Nat → R D
  | 0 => u
  | k + 1 => if k = i then dprod D pts i u k else dprod D pts i u k * (eli D (pts[i]?.getD 0) - eli D (pts[k]?.getD 0))
/-- The multipliers of the dual description. -/
noncomputable def dualV (F : FD) (pts mul : List Int) (i : Nat) : Int := ci (inv (dprod F.toDesc pts i (eli F.toDesc (mul[i]?.getD 0)) pts.length))
noncomputable def dualL (F : FD) (pts mul : List Int) : List Int := lst pts.length (dualV F pts mul)
/-- The first k entries new, the others as in l. -/
def mixL (l : List Int) (k : Nat) (f : Nat → Int) : List Int := lst l.length fun i => if i < k then f i else l[i]?.getD 0
theorem mixL_length (l : List Int) (k : Nat) (f : Nat → Int) : (mixL l k f).length = l.length := lst_length _ _
theorem mixL_zero (l : List Int) (f : Nat → Int) : mixL l 0 f = l := by
  apply List.ext_getElem
  · exact mixL_length _ _ _
  · intro i h1 h2
    simp [mixL, lst, h2]
theorem mixL_set (l : List Int) (k : Nat) (f : Nat → Int) : (mixL l k f).set k (f k) = mixL l (k + 1) f := by
  unfold mixL
  rw [lst_set]
  exact lst_congr fun i _ => by
    by_cases h : i = k
    · subst h; simp
    · by_cases h2 : i < k
      · simp [h, h2, show i < k + 1 by omega]
      · simp [h, h2, show ¬ i < k + 1 by omega]
theorem mixL_full (l : List Int) (f : Nat → Int) : mixL l l.length f = lst l.length f := lst_congr fun i h => by simp [h]
theorem Own.blk {w : World} {B n c : Nat} {A : Option Addr} {l : List Int} (h : Own w B (.slice A n c) l) (hl : 0 < l.length) : ∃ g, A = some ⟨g, 0, none⟩ := by
  rcases h.2 with ⟨-, h0⟩ | ⟨g, cap, cur, hv, -⟩
  · omega
  · cases hv; exact ⟨g, rfl⟩
theorem dprod_self (D : Desc) (pts : List Int) (i : Nat) (u : R D) : dprod D pts i u (i + 1) = dprod D pts i u i := if_pos rfl
theorem dprod_other (D : Desc) (pts : List Int) {i k : Nat} (u : R D) (h : k ≠ i) : dprod D pts i u (k + 1) = dprod D pts i u k * (eli D (pts[i]?.getD 0) - eli D (pts[k]?.getD 0)) := if_neg h
theorem Rd.farD {w : World} {B g n c : Nat} {A : Option Addr} {l : List Int} (h : Rd w B A l) (hd : DisA A l (.slice (some ⟨g, 0, none⟩) n c)) (i : Nat) (u : Value) : Rd (w.setCell ⟨g, i, none⟩ u) B A l := fun hn =>
  Rd.far h (fun b e e2 => hd (List.length_pos_iff.1 hn) b e (by rw [← e2]; rfl)) i u hn
theorem Six.set3 {w : World} {b : Nat} {v0 v1 v2 v3 v4 v5 : Value} (h : Six w b v0 v1 v2 v3 v4 v5) (u : Value) : Six (w.setCell ⟨b, 3, none⟩ u) b v0 v1 v2 u v4 v5 := by
  obtain ⟨a0, a1, a2, a3, a4, a5, f0, f1, f2, f3, f4, f5⟩ := h
  unfold Six
  simp [go_sem, a0, a1, a2, a3, a4, a5, f0, f1, f2, f3, f4, f5]
theorem Six.far {w : World} {b g : Nat} {v0 v1 v2 v3 v4 v5 : Value} (h : Six w b v0 v1 v2 v3 v4 v5) (hne : g ≠ b) (i : Nat) (u : Value) : Six (w.setCell ⟨g, i, none⟩ u) b v0 v1 v2 v3 v4 v5 := by
  obtain ⟨a0, a1, a2, a3, a4, a5, f0, f1, f2, f3, f4, f5⟩ := h
  have hx : ∀ j, (w.setCell ⟨g, i, none⟩ u).cell? ⟨b, j, none⟩ = w.cell? ⟨b, j, none⟩ := fun j => World.cell?_setCell_other _ _ _ _ (by intro e; injection e with e1; exact hne (by first | exact e1 | exact e1.symm))
  have hf : ∀ j, (w.setCell ⟨g, i, none⟩ u).frozen? ⟨b, j, none⟩ = w.frozen? ⟨b, j, none⟩ := fun j => by simp [go_sem]
  unfold Six
  simp only [hx, hf]
  exact ⟨a0, a1, a2, a3, a4, a5, f0, f1, f2, f3, f4, f5⟩

set_option maxHeartbeats 1000000 in
theorem gDual_bad (P M K : Int) (ml pts mul : List Int) (A A1 A2 : Option Addr) (c c1 c2 : Nat) (w : World) (hP : I64 P) (hM : I64 M) (hl : ml.length ≤ maxLen) (hr : Rd w w.heap.size A ml) (hb : ¬ Good P M ml) :
    Calls Try.prog 18 #[.agg #[.int .i64 P, .int .i64 M, .slice A ml.length c, .int .i64 K, .slice A1 pts.length c1, .slice A2 mul.length c2]] w fun e w' => e = .returned (.tuple #[.agg #[.int .i64 0, .int .i64 0, .slice none 0 0, .int .i64 0, .slice none 0 0, .slice none 0 0], .int .i64 1]) ∧ Below w.heap.size w w' := by
  have hN := fun W h => Lib.hid (gOpen_bad P M K ml pts mul A A1 A2 c c1 c2 W hP hM hl h hb)
  obtain ⟨Z, hZ⟩ : ∃ Z, Z = (w.alloc (.cells #[.int .i64 P, .int .i64 M, .slice A ml.length c, .int .i64 K, .slice A1 pts.length c1, .slice A2 mul.length c2] 26)).alloc (.cells #[.int .i64 0, .int .i64 0, .slice none 0 0, .int .i64 0, .slice none 0 0, .slice none 0 0] 26) := ⟨_, rfl⟩
  have hB : Below w.heap.size w Z := by rw [hZ]; exact ((Below.refl _ _).alloc (Nat.le_refl _) _).alloc (by simp) _
  have hZs : Z.heap.size = w.heap.size + 2 := by rw [hZ]; simp
  have k0 := Lib.hid (show Z.cell? ⟨w.heap.size, 0, none⟩ = some (.int .i64 P) ∧ Z.cell? ⟨w.heap.size, 1, none⟩ = some (.int .i64 M) ∧ Z.cell? ⟨w.heap.size, 2, none⟩ = some (.slice A ml.length c) ∧ Z.cell? ⟨w.heap.size, 3, none⟩ = some (.int .i64 K) ∧ Z.cell? ⟨w.heap.size, 4, none⟩ = some (.slice A1 pts.length c1) ∧ Z.cell? ⟨w.heap.size, 5, none⟩ = some (.slice A2 mul.length c2) from by rw [hZ]; simp [go_sem])
  have k1 : Six Z (w.heap.size + 1) (.int .i64 0) (.int .i64 0) (.slice none 0 0) (.int .i64 0) (.slice none 0 0) (.slice none 0 0) := by
    rw [hZ]; have := Six.new (w.alloc (.cells #[.int .i64 P, .int .i64 M, .slice A ml.length c, .int .i64 K, .slice A1 pts.length c1, .slice A2 mul.length c2] 26)) (.int .i64 0) (.int .i64 0) (.slice none 0 0) (.int .i64 0) (.slice none 0 0) (.slice none 0 0) 26; rw [World.size_alloc] at this; exact this
  have hN2 := hN Z ((hr.below hB).more hB.size)
  replace hZ := Lib.hid hZ
  clear hP hM hl hb hN
  go_enter Try.func18, Try.ntmps18
  go_wp2_with (fail)
  rw [← hZ.out]
  (with_reducible refine hN2.out.mono ?_)
  rintro e w1 ⟨rfl, hb1⟩
  obtain ⟨a0, a1, a2, a3, a4, a5, f0, f1, f2, f3, f4, f5⟩ := k1.keep hb1 (by omega)
  clear k1
  have hBe := (hB.trans (hb1.mono hB.size)).trans ((set6 (w3 := w1) (b := w.heap.size + 1) (.int .i64 0) (.int .i64 0) (.slice none 0 0) (.int .i64 0) (.slice none 0 0) (.slice none 0 0)).mono (Nat.le_succ _))
  clear hB hb1
  go_wp2_with (fail)
  refine bodyPost_ret (v := .tuple #[.agg #[.int .i64 0, .int .i64 0, .slice none 0 0, .int .i64 0, .slice none 0 0, .slice none 0 0], .int .i64 1]) (by simp [results, Try.results18, go_sem, a0, a1, a2, a3, a4, a5]) rfl ⟨rfl, hBe⟩

/-- What Dual hands back over a field. -/
def DualPost (D : Desc) (K : Int) (pts mul : List Int) (w : World) (e : Ending) (w' : World) : Prop :=
  Below w.heap.size w w' ∧ ((gchkD D K pts mul ≠ 0 ∧ e = .returned (.tuple #[.agg #[.int .i64 0, .int .i64 0, .slice none 0 0, .int .i64 0, .slice none 0 0, .slice none 0 0], .int .i64 (gchkD D K pts mul)])) ∨
    (gchkD D K pts mul = 0 ∧ ∃ F : FD, F.toDesc = D ∧ ∃ A3 c3 A4 c4 A5 c5, e = .returned (.tuple #[.agg #[.int .i64 D.p, .int .i64 D.m, .slice A3 D.mod.length c3, .int .i64 (pts.length - K), .slice A4 pts.length c4, .slice A5 pts.length c5], .int .i64 0]) ∧
      Rd w' w'.heap.size A3 (modL D) ∧ Rd w' w'.heap.size A4 pts ∧ Rd w' w'.heap.size A5 (dualL F pts mul) ∧ pts.length ≤ c4 ∧ c4 ≤ maxLen))

/-- What Dual hands back over a field, all of it above the world it was called in. -/
def DualPost2 (D : Desc) (K : Int) (pts mul : List Int) (w : World) (e : Ending) (w' : World) : Prop :=
  Below w.heap.size w w' ∧ ((gchkD D K pts mul ≠ 0 ∧ e = .returned (.tuple #[.agg #[.int .i64 0, .int .i64 0, .slice none 0 0, .int .i64 0, .slice none 0 0, .slice none 0 0], .int .i64 (gchkD D K pts mul)])) ∨
    (gchkD D K pts mul = 0 ∧ ∃ F : FD, F.toDesc = D ∧ ∃ A3 c3 A4 c4 A5 c5, e = .returned (.tuple #[.agg #[.int .i64 D.p, .int .i64 D.m, .slice A3 D.mod.length c3, .int .i64 (pts.length - K), .slice A4 pts.length c4, .slice A5 pts.length c5], .int .i64 0]) ∧
      Rd w' w'.heap.size A3 (modL D) ∧ Rd w' w'.heap.size A4 pts ∧ Rd w' w'.heap.size A5 (dualL F pts mul) ∧ pts.length ≤ c4 ∧ c4 ≤ maxLen ∧ (∀ a, A3 = some a → w.heap.size ≤ a.block) ∧ (∀ a, A4 = some a → w.heap.size ≤ a.block) ∧ ∀ a, A5 = some a → w.heap.size ≤ a.block))

set_option maxRecDepth 100000 in
set_option maxHeartbeats 4000000 in
theorem gDual_D2 (D : Desc) (K : Int) (pts mul : List Int) (A A1 A2 : Option Addr) (c c1 c2 : Nat) (w : World) (hr : Rd w w.heap.size A (modL D)) (hg : Good D.p D.m (modL D)) (hr1 : Rd w w.heap.size A1 pts) (hr2 : Rd w w.heap.size A2 mul) (h1 : pts.length ≤ c1) (h1' : c1 ≤ maxLen) (h2 : mul.length ≤ maxLen) :
    Calls Try.prog 18 #[.agg #[.int .i64 D.p, .int .i64 D.m, .slice A D.mod.length c, .int .i64 K, .slice A1 pts.length c1, .slice A2 mul.length c2]] w (DualPost2 D K pts mul w) := by
  have hN := fun W a b c' => Lib.hid (gOpen_D D K pts mul A A1 A2 c c1 c2 W a hg b c' h1 h1' h2)
  obtain ⟨Z, hZ⟩ : ∃ Z, Z = (w.alloc (.cells #[.int .i64 D.p, .int .i64 D.m, .slice A D.mod.length c, .int .i64 K, .slice A1 pts.length c1, .slice A2 mul.length c2] 26)).alloc (.cells #[.int .i64 0, .int .i64 0, .slice none 0 0, .int .i64 0, .slice none 0 0, .slice none 0 0] 26) := ⟨_, rfl⟩
  have hB : Below w.heap.size w Z := by rw [hZ]; exact ((Below.refl _ _).alloc (Nat.le_refl _) _).alloc (by simp) _
  have hZs : Z.heap.size = w.heap.size + 2 := by rw [hZ]; simp
  have k0 := Lib.hid (show Z.cell? ⟨w.heap.size, 0, none⟩ = some (.int .i64 D.p) ∧ Z.cell? ⟨w.heap.size, 1, none⟩ = some (.int .i64 D.m) ∧ Z.cell? ⟨w.heap.size, 2, none⟩ = some (.slice A D.mod.length c) ∧ Z.cell? ⟨w.heap.size, 3, none⟩ = some (.int .i64 K) ∧ Z.cell? ⟨w.heap.size, 4, none⟩ = some (.slice A1 pts.length c1) ∧ Z.cell? ⟨w.heap.size, 5, none⟩ = some (.slice A2 mul.length c2) from by rw [hZ]; simp [go_sem])
  have k1 : Six Z (w.heap.size + 1) (.int .i64 0) (.int .i64 0) (.slice none 0 0) (.int .i64 0) (.slice none 0 0) (.slice none 0 0) := by
    rw [hZ]; have := Six.new (w.alloc (.cells #[.int .i64 D.p, .int .i64 D.m, .slice A D.mod.length c, .int .i64 K, .slice A1 pts.length c1, .slice A2 mul.length c2] 26)) (.int .i64 0) (.int .i64 0) (.slice none 0 0) (.int .i64 0) (.slice none 0 0) (.slice none 0 0) 26; rw [World.size_alloc] at this; exact this
  have hN2 := hN Z ((hr.below hB).more hB.size) ((hr1.below hB).more hB.size) ((hr2.below hB).more hB.size)
  replace hZ := Lib.hid hZ
  clear hg hN
  go_enter Try.func18, Try.ntmps18
  go_wp2_with (fail)
  rw [← hZ.out]
  (with_reducible refine hN2.out.mono ?_)
  rintro e w1 ⟨hb1, g, F, rfl, hgf, hgl, ⟨hz, rfl⟩ | ⟨hz, rfl⟩⟩
  rotate_left
  · have hzb : (gchkD F.toDesc K pts mul != 0) = true := by rw [bne_iff_ne]; exact hz
    obtain ⟨a0, a1, a2, a3, a4, a5, f0, f1, f2, f3, f4, f5⟩ := k1.keep hb1 (by omega)
    clear k1
    have hBe := Lib.hid ((hB.trans (hb1.mono hB.size)).trans ((set6 (w3 := w1) (b := w.heap.size + 1) (.int .i64 0) (.int .i64 0) (.slice none 0 0) (.int .i64 0) (.slice none 0 0) (.slice none 0 0)).mono (Nat.le_succ _)))
    replace hz := Lib.hid hz
    go_wp2_with (fail)
    refine bodyPost_ret (v := .tuple #[.agg #[.int .i64 0, .int .i64 0, .slice none 0 0, .int .i64 0, .slice none 0 0, .slice none 0 0], .int .i64 (gchkD F.toDesc K pts mul)]) (by simp [results, Try.results18, go_sem, a0, a1, a2, a3, a4, a5]) rfl ⟨hBe.out, .inl ⟨hz.out, rfl⟩⟩
  obtain ⟨hp1, hp64, hlen, -, -, -, -, hK0, hKn⟩ := gchkD_zero hz
  have hs1 := hb1.size
  have hB1 := hB.trans (hb1.mono hB.size)
  have r1 := k1.keep hb1 (by omega)
  have kk1 := Lib.hid (keep6 hb1 (by omega) k0.out)
  have hC := Lib.hid (gCopied_any F K pts mul A A1 A2 c c1 c2 g w1 hgf ((hr1.below hB1).more hB1.size) ((hr2.below hB1).more hB1.size) hp64 (by omega))
  obtain ⟨q0, q1, q2, q3, q4, q5⟩ := kk1.out
  have hzH := Lib.hid hz
  have hlm : 0 < mul.length := by omega
  have hlm2 : (pts.length : Int) = (mul.length : Int) := by omega
  have hlenH := Lib.hid hlen
  clear hz hN2 k0 hlen
  replace hlm2 := Lib.hid hlm2
  go_wp2_with (fail)
  (with_reducible refine hC.out.mono ?_)
  rintro e w2 ⟨A3, c3, A4, c4, A5, c5, rfl, hrf, ho4, ho5, hdd, -, hd5, hA3, hb2⟩
  obtain ⟨b5, rfl⟩ := ho5.blk hlm
  have hs2 := hb2.size
  have kk2 := keep6 hb2 (by omega) kk1.out
  have hlt1 : w.heap.size < w2.heap.size := by omega
  have hXb : Below w2.heap.size w2 (w2.alloc (.cells #[.int .i64 F.p, .int .i64 F.m, .slice A3 F.mod.length c3, .int .i64 K, .slice A4 pts.length c4, .slice (some ⟨b5, 0, none⟩) mul.length c5] 26)) := (Below.refl _ _).alloc (Nat.le_refl _) _
  have kk3 := keep6 hXb hlt1 kk2
  have x6 := Six.new w2 (.int .i64 F.p) (.int .i64 F.m) (.slice A3 F.mod.length c3) (.int .i64 K) (.slice A4 pts.length c4) (.slice (some ⟨b5, 0, none⟩) mul.length c5) 26
  have y6 := Lib.hid (Six.new w2 (.int .i64 F.p) (.int .i64 F.m) (.slice A3 F.mod.length c3) (.int .i64 ((pts.length : Int) - K)) (.slice A4 pts.length c4) (.slice (some ⟨b5, 0, none⟩) mul.length c5) 26)
  have hYb : Hid (Below w2.heap.size w2 (w2.alloc (.cells #[.int .i64 F.p, .int .i64 F.m, .slice A3 F.mod.length c3, .int .i64 ((pts.length : Int) - K), .slice A4 pts.length c4, .slice (some ⟨b5, 0, none⟩) mul.length c5] 26))) := (Below.refl _ _).alloc (Nat.le_refl _) _
  have hYs : Hid (w2.heap.size < (w2.alloc (.cells #[.int .i64 F.p, .int .i64 F.m, .slice A3 F.mod.length c3, .int .i64 ((pts.length : Int) - K), .slice A4 pts.length c4, .slice (some ⟨b5, 0, none⟩) mul.length c5] 26)).heap.size) := by unfold Hid; rw [World.size_alloc]; exact Nat.lt_succ_self _
  have kk4 := keep6 hYb.out hlt1 kk2
  replace kk2 := Lib.hid kk2
  clear q0 q1 q2 q3 q4 q5
  obtain ⟨q0, q1, q2, q3, q4, q5⟩ := kk3
  have kk4H := Lib.hid kk4
  obtain ⟨s0, s1, s2, s3, s4, s5⟩ := kk4
  obtain ⟨a0, a1, a2, a3, a4, a5, f0, f1, f2, f3, f4, f5⟩ := x6
  have hwr := (IntWalk.i64_in ((pts.length : Int) - K) (by omega))
  go_wp2_with (fail)
  clear q0 q1 q2 q3 q4 q5 s0 s1 s2 s3 s4 s5 a0 a1 a2 a3 a4 a5 f0 f1 f2 f3 f4 f5 hwr hXb
  go_loopw [34] (fun i wr => ∃ k : Nat, k ≤ pts.length ∧ i = .int .i64 k ∧ Hid (wr.cell? ⟨w.heap.size, 0, none⟩ = some (.int .i64 F.p) ∧ wr.cell? ⟨w.heap.size, 1, none⟩ = some (.int .i64 F.m) ∧ wr.cell? ⟨w.heap.size, 2, none⟩ = some (.slice A F.mod.length c) ∧ wr.cell? ⟨w.heap.size, 3, none⟩ = some (.int .i64 K) ∧ wr.cell? ⟨w.heap.size, 4, none⟩ = some (.slice A1 pts.length c1) ∧ wr.cell? ⟨w.heap.size, 5, none⟩ = some (.slice A2 mul.length c2)) ∧ Hid (Six wr w2.heap.size (.int .i64 F.p) (.int .i64 F.m) (.slice A3 F.mod.length c3) (.int .i64 ((pts.length : Int) - K)) (.slice A4 pts.length c4) (.slice (some ⟨b5, 0, none⟩) mul.length c5) ∧ Rd wr wr.heap.size A3 (modL F.toDesc) ∧ Own wr w1.heap.size (.slice A4 pts.length c4) pts ∧ Own wr w1.heap.size (.slice (some ⟨b5, 0, none⟩) mul.length c5) (mixL mul k (dualV F pts mul))) ∧ Below w1.heap.size w1 wr ∧ w2.heap.size < wr.heap.size) (fun i _ => pts.length - (intOf i).toNat)
  case atStart => exact ⟨0, by omega, rfl, kk4H, ⟨y6.out, (hrf.below hYb.out).more hYb.out.size, ho4.below hYb.out (Nat.le_refl _), by rw [mixL_zero]; exact ho5.below hYb.out (Nat.le_refl _)⟩, hb2.trans (hYb.out.mono hs2), hYs.out⟩
  case round =>
    obtain ⟨wo, rfl⟩ : ∃ wo : World, wo = wr := ⟨_, rfl⟩
    obtain ⟨k, hk, rfl, kk5, hst, hbw, hlt5⟩ := hrel
    have hb5 := ho5.lt b5 rfl
    clear y6 kk4H hYs hYb hrf ho5 kk2 kk1
    have hBw : Below w.heap.size w wo := hB1.trans (hbw.mono hB1.size)
    by_cases hkn : k < pts.length
    · obtain ⟨b1, o1, rfl, hbb1, hc1⟩ := hr1.at_ hkn
      obtain ⟨b2, o2, rfl, hbb2, hc2⟩ := hr2.at_ (by rw [hlenH.out]; exact hkn : k < mul.length)
      have hd1 := (hBw.cell (p := ⟨b1, o1 + k, none⟩) hbb1).trans hc1
      have hd2 := (hBw.cell (p := ⟨b2, o2 + k, none⟩) hbb2).trans hc2
      obtain ⟨x, hx⟩ : ∃ x, x = pts[k]?.getD 0 := ⟨_, rfl⟩
      obtain ⟨y, hy⟩ : ∃ y, y = mul[k]?.getD 0 := ⟨_, rfl⟩
      rw [← hx] at hd1
      rw [← hy] at hd2
      replace hx := Lib.hid hx
      replace hy := Lib.hid hy
      have hk0 : (0 : Int) ≤ (k : Int) := by omega
      have hk1 : (k : Int) < (pts.length : Int) := by omega
      have hk2 : (k : Int) < (mul.length : Int) := by rw [← hlm2.out]; exact hk1
      have hlto : w.heap.size < wo.heap.size := by omega
      clear hc1 hc2
      obtain ⟨q0, q1, q2, q3, q4, q5⟩ := kk5.out
      go_wp2_with (fail)
      clear q0 q1 q2 q3 q4 q5 hd1 hd2
      go_loopw [47, 9] (fun j' y' wr => ∃ (j : Nat) (z : Int), j ≤ pts.length ∧ j' = .int .i64 j ∧ y' = .int .i64 z ∧ Hid (eli F.toDesc z = dprod F.toDesc pts k (eli F.toDesc y) j) ∧ Below wo.heap.size wo wr) (fun j' _ _ => pts.length - (intOf j').toNat)
      case atStart => exact ⟨0, y, by omega, rfl, rfl, rfl, Below.refl _ _⟩
      case round =>
        obtain ⟨wi, rfl⟩ : ∃ wi : World, wi = wr := ⟨_, rfl⟩
        obtain ⟨j, z, hj, rfl, rfl, hz, hbi⟩ := hrel
        have hbi1 := hbw.trans (hbi.mono hbw.size)
        have hgi := (hgf.below hbi1).more hbi1.size
        have kki := keep6 hbi hlto kk5.out
        by_cases hjn : j < pts.length
        · obtain ⟨b1', o1', ee, hbb1', hc1⟩ := hr1.at_ hjn
          cases ee
          have hd1 := ((hBw.trans (hbi.mono hBw.size)).cell (p := ⟨b1, o1 + j, none⟩) hbb1').trans hc1
          obtain ⟨xj, hxj⟩ : ∃ xj, xj = pts[j]?.getD 0 := ⟨_, rfl⟩
          rw [← hxj] at hd1
          replace hxj := Lib.hid hxj
          have hj0 : (0 : Int) ≤ (j : Int) := by omega
          have hj1 : (j : Int) < (pts.length : Int) := by omega
          clear hc1
          obtain ⟨q0, q1, q2, q3, q4, q5⟩ := kki
          by_cases hjk : j = k
          · have hjb : ((j : Int) != (k : Int)) = false := by rw [bne_eq_false_iff_eq]; omega
            have hz2 : Hid (eli F.toDesc z = dprod F.toDesc pts k (eli F.toDesc y) (j + 1)) := by unfold Hid; rw [hz.out, hjk, dprod_self]
            clear hjk hz
            go_wp2_with (fail)
            go_roundw
            case rel => exact ⟨j + 1, z, by omega, by go_num, rfl, hz2, hbi⟩
            case measure => simp [intOf]; omega
          · have hjb : ((j : Int) != (k : Int)) = true := by rw [bne_iff_ne]; omega
            have hS := Lib.hid (gSub_any F x xj g wi hgi)
            have hM := fun W h => gMul_any F z (ci (eli F.toDesc x - eli F.toDesc xj)) g W h
            rw [eli_ci] at hM
            have hz2 : Hid (eli F.toDesc z * (eli F.toDesc x - eli F.toDesc xj) = dprod F.toDesc pts k (eli F.toDesc y) (j + 1)) := by unfold Hid; rw [hz.out, dprod_other _ _ _ hjk, hx.out, hxj.out]
            rw [hz2.out] at hM
            replace hM := fun W h => Lib.hid (hM W h)
            clear hjk hz
            go_wp2_with (fail)
            (with_reducible refine hS.out.mono ?_)
            rintro e w5 ⟨rfl, hb5s⟩
            go_wp2_with (fail)
            (with_reducible refine (hM _ ((hgi.below hb5s).more hb5s.size)).out.mono ?_)
            rintro e w6 ⟨rfl, hb6s⟩
            go_wp2_with (fail)
            go_roundw
            case rel => exact ⟨j + 1, _, by omega, by go_num, rfl, eli_ci _, (hbi.trans (hb5s.mono hbi.size)).trans (hb6s.mono (Nat.le_trans hbi.size hb5s.size))⟩
            case measure => simp [intOf]; omega
        · obtain rfl : j = pts.length := by omega
          have hval : ci (inv (eli F.toDesc z)) = dualV F pts mul k := by unfold dualV; rw [hz.out, hy.out]
          have hI := fun W h => gInv_any F z g W h
          rw [hval] at hI
          replace hI := fun W h => Lib.hid (hI W h)
          obtain ⟨dv, hdv⟩ : ∃ dv, dv = dualV F pts mul k := ⟨_, rfl⟩
          rw [← hdv] at hI
          have x5 := hst.out.1.keep hbi hlt5
          have hS5 := x5.2.2.2.2.2.1
          have ho5i := hst.out.2.2.2.below hbi (Nat.le_refl _)
          replace hdv := Lib.hid hdv
          replace x5 := Lib.hid x5
          replace kki := Lib.hid kki
          clear hval hz
          have hki : w2.heap.size < wi.heap.size := Nat.lt_of_lt_of_le hlt5 hbi.size
          have hb5i : b5 < wi.heap.size := Nat.lt_trans hb5.2 hki
          go_wp2_with (fail)
          refine wp_region_held_drew (S := fun w' => w'.cell? ⟨w2.heap.size, 5, none⟩ = some (.slice (some ⟨b5, 0, none⟩) mul.length c5)) (by kernel_rfl) (by (try dsimp only); exact hS5) (fun hHeld => ?_)
          refine wpAnyH_take (i := 0) (oi := ⟨_, _, _, _, _, _⟩) (v := ?_) rfl (by kernel_rfl) (by kernel_rfl) (by kernel_rfl) (fun _ _ _ h => h) (Or.inl ⟨by rfl, ?_⟩) (by assumption) ?_
          rotate_left
          · intro w hSw; (try dsimp only at hSw); go_simp; try with_reducible rfl
          try simp only [Act.put, List.setIfInBounds_toArray, List.set_cons_zero, List.set_cons_succ]
          refine wpAnyH_take (i := 1) (oi := ⟨_, _, _, _, _, _⟩) (v := ?_) rfl (by kernel_rfl) (by kernel_rfl) (by kernel_rfl) (fun _ _ _ h => h) (Or.inl ⟨by rfl, ?_⟩) (by assumption) ?_
          rotate_left
          · intro w hSw; (try dsimp only at hSw); go_simp; try with_reducible rfl
          try simp only [Act.put, List.setIfInBounds_toArray, List.set_cons_zero, List.set_cons_succ]
          refine wpAnyH_take (i := 2) (oi := ⟨_, _, _, _, _, _⟩) (v := ?_) rfl (by kernel_rfl) (by kernel_rfl) (by kernel_rfl) (fun _ _ _ h => h) (Or.inl ⟨by rfl, ?_⟩) (by assumption) ?_
          rotate_left
          · intro w hSw; (try dsimp only at hSw); go_simp; try with_reducible rfl
          try simp only [Act.put, List.setIfInBounds_toArray, List.set_cons_zero, List.set_cons_succ]
          refine wpAnyH_take (i := 3) (oi := ⟨_, _, _, _, _, _⟩) (v := ?_) rfl (by kernel_rfl) (by kernel_rfl) (by kernel_rfl) (fun _ _ _ h => h) (Or.inl ⟨by rfl, ?_⟩) (by assumption) ?_
          rotate_left
          · intro w hSw; (try dsimp only at hSw); go_simp; try with_reducible rfl
          try simp only [Act.put, List.setIfInBounds_toArray, List.set_cons_zero, List.set_cons_succ]
          refine wpAnyH_take (i := 4) (oi := ⟨_, _, _, _, _, _⟩) (v := ?_) rfl (by kernel_rfl) (by kernel_rfl) (by kernel_rfl) (fun _ _ _ h => h) (Or.inl ⟨by rfl, ?_⟩) (by assumption) ?_
          rotate_left
          · intro w hSw; (try dsimp only at hSw); go_simp; try with_reducible rfl
          try simp only [Act.put, List.setIfInBounds_toArray, List.set_cons_zero, List.set_cons_succ]
          refine wpAnyH_ready (rs := [5]) (by kernel_rfl) (by simp) ?_
          refine AllReadyH.cons (o := ⟨_, _, _, _, _, _⟩) rfl (fun K hK => ?_) AllReadyH.nil
          go_simp
          go_at_call 43
          (with_reducible refine (hI _ hgi.drew).out.mono ?_)
          rintro e w3 ⟨⟨t0, rfl⟩, hb3⟩
          go_wp2_with (fail)
          refine hK.out _ _ (by (try dsimp only); exact (hb3.cell (p := ⟨w2.heap.size, 5, none⟩) hki).trans hS5) (fun hHeld => ?_)
          clear hK K
          try simp only [Act.put, List.setIfInBounds_toArray, List.set_cons_zero, List.set_cons_succ]
          have ho53 := ho5i.drew.below hb3 (Nat.le_refl _)
          have hcW := ho53.cell (mixL_length _ _ _).symm (i := k) (by rw [mixL_length, hlenH.out]; exact hkn)
          have hfW := ho53.frozen (mixL_length _ _ _).symm k
          refine wpAnyH_take (i := 6) (oi := ⟨_, _, _, _, _, _⟩) (v := ?_) rfl (by kernel_rfl) (by kernel_rfl) (by kernel_rfl) (fun _ _ _ h => h) (Or.inl ⟨by rfl, ?_⟩) (by assumption) ?_
          rotate_left
          · intro w hSw; (try dsimp only at hSw); go_simp; try with_reducible rfl
          try simp only [Act.put, List.setIfInBounds_toArray, List.set_cons_zero, List.set_cons_succ]
          refine wpAnyH_take (i := 7) (oi := ⟨_, _, _, _, _, _⟩) (v := ?_) rfl (by kernel_rfl) (by kernel_rfl) (by kernel_rfl) (fun _ _ _ h => h) (Or.inl ⟨by rfl, ?_⟩) (by assumption) ?_
          rotate_left
          · intro w hSw; (try dsimp only at hSw); go_simp; try with_reducible rfl
          try simp only [Act.put, List.setIfInBounds_toArray, List.set_cons_zero, List.set_cons_succ]
          refine wpAnyH_take (i := 8) (oi := ⟨_, _, _, _, _, _⟩) (v := ?_) rfl (by kernel_rfl) (by kernel_rfl) (by kernel_rfl) (fun _ _ _ h => h) (Or.inl ⟨by rfl, ?_⟩) (by assumption) ?_
          rotate_left
          · intro w hSw; (try dsimp only at hSw); go_simp; try with_reducible rfl
          try simp only [Act.put, List.setIfInBounds_toArray, List.set_cons_zero, List.set_cons_succ]
          refine wpAnyH_take (i := 9) (oi := ⟨_, _, _, _, _, _⟩) (v := ?_) rfl (by kernel_rfl) (by kernel_rfl) (by kernel_rfl) (fun _ _ _ h => h) (Or.inl ⟨by rfl, ?_⟩) (by assumption) ?_
          rotate_left
          · intro w hSw; (try dsimp only at hSw); go_simp; try with_reducible rfl
          try simp only [Act.put, List.setIfInBounds_toArray, List.set_cons_zero, List.set_cons_succ]
          refine wpAnyH_ready (rs := [10]) (by kernel_rfl) (by simp) ?_
          refine AllReadyH.cons (o := ⟨_, _, _, _, _, _⟩) rfl (fun K hK => ?_) AllReadyH.nil
          go_simp
          refine hK.out _ _ (by (try dsimp only); exact (World.cell?_setCell_other _ _ _ _ (by intro e; injection e with e1; omega)).trans ((hb3.cell (p := ⟨w2.heap.size, 5, none⟩) hki).trans hS5)) (fun hHeld => ?_)
          clear hK K
          try simp only [Act.put, List.setIfInBounds_toArray, List.set_cons_zero, List.set_cons_succ]
          refine wpAnyH_done (by kernel_rfl) ?_ _
          have hne5 : b5 ≠ w2.heap.size := Nat.ne_of_lt hb5.2
          have hB36 : Below w1.heap.size wo (w3.setCell ⟨b5, k, none⟩ (.int .i64 dv)) := ((hbi.mono hbw.size).drew.trans (hb3.mono (Nat.le_trans hbw.size hbi.size))).setCell (p := ⟨b5, k, none⟩) hb5.1 _
          have kk6 := Lib.hid (keep6 hB36 (by omega) kk5.out)
          have x63 : Six w3 _ _ _ _ _ _ _ := (show Six wi.drew _ _ _ _ _ _ _ from x5.out).keep hb3 hki
          have x6 := Lib.hid (x63.far hne5 k (.int .i64 dv))
          have hr6 : Hid (Rd (w3.setCell ⟨b5, k, none⟩ (.int .i64 dv)) (w3.setCell ⟨b5, k, none⟩ (.int .i64 dv)).heap.size A3 (modL F.toDesc)) :=
            (((((hst.out.2.1.below hbi).more hbi.size).drew.below hb3).more hb3.size).farD hd5 k (.int .i64 dv)).more (grown_set _ _ _).size
          have ho46 := Lib.hid (((hst.out.2.2.1.below hbi (Nat.le_refl _)).drew.below hb3 (Nat.le_refl _)).far (p := ⟨b5, k, none⟩) (fun e => hdd _ e rfl) (.int .i64 dv))
          have ho56 := Lib.hid (ho53.set_ (mixL_length _ _ _).symm k dv)
          rw [hdv.out, mixL_set, ← hdv.out] at ho56
          have hlt6 : w2.heap.size < (w3.setCell ⟨b5, k, none⟩ (.int .i64 dv)).heap.size := Nat.lt_of_lt_of_le (Nat.lt_of_lt_of_le hki hb3.size) (grown_set _ _ _).size
          clear hcW hfW hS5
          go_wp2_with (fail)
          go_roundw
          case rel => exact ⟨k + 1, by omega, by go_num, kk6, ⟨x6.out, hr6.out, ho46.out, ho56.out⟩, hbw.trans hB36, hlt6⟩
          case measure => simp [intOf]; omega
    · obtain rfl : k = pts.length := by omega
      have x5 := hst.out.1
      obtain ⟨a0, a1, a2, a3, a4, a5, f0, f1, f2, f3, f4, f5⟩ := x5
      have h1w : w.heap.size + 1 < w1.heap.size := by omega
      obtain ⟨p0, p1, p2, p3, p4, p5, e0, e1, e2, e3, e4, e5⟩ := r1.keep hbw h1w
      go_wp2_with (fail)
      obtain ⟨-, hrf, ho4f, ho5f⟩ := hst.out
      obtain ⟨B4, k4, ef4, hc4, hr4, hA4⟩ := ho4f.form
      cases ef4
      obtain ⟨B5, k5, ef5, hc5, hr5, hA5⟩ := ho5f.form
      rw [mixL_length] at ef5
      cases ef5
      refine bodyPost_ret (v := .tuple #[.agg #[.int .i64 F.p, .int .i64 F.m, .slice A3 F.mod.length c3, .int .i64 ((pts.length : Int) - K), .slice A4 pts.length c4, .slice (some ⟨b5, 0, none⟩) mul.length c5], .int .i64 0]) (by simp [results, Try.results18, go_sem, p0, p1, p2, p3, p4, p5]) rfl ⟨hBw.trans ((set6 _ _ _ _ _ _).mono (Nat.le_succ _)), .inr ⟨hzH.out, F, rfl, A3, c3, A4, c4, some ⟨b5, 0, none⟩, c5, by rw [hlenH.out], ?_, ?_, ?_, hc4, ho4f.cap, fun a e => Nat.le_trans hB1.size (hA3 a e), fun a e => Nat.le_trans hB1.size (hA4 a e).1, fun a e => Nat.le_trans hB1.size (hA5 a e).1⟩⟩
      · exact (hrf.set6 (fun a e => by have := hA3 a e; omega) _ _ _ _ _ _).more (by simp [World.setCell])
      · exact (hr4.set6 (fun a e => by have := (hA4 a e).1; omega) _ _ _ _ _ _).more (by simp [World.setCell])
      · rw [← hlenH.out, mixL_full] at hr5
        rw [show dualL F pts mul = lst mul.length (dualV F pts mul) from by unfold dualL; rw [hlenH.out]]
        exact (hr5.set6 (fun a e => by have := (hA5 a e).1; omega) _ _ _ _ _ _).more (by simp [World.setCell])
theorem gDual_D (D : Desc) (K : Int) (pts mul : List Int) (A A1 A2 : Option Addr) (c c1 c2 : Nat) (w : World) (hr : Rd w w.heap.size A (modL D)) (hg : Good D.p D.m (modL D)) (hr1 : Rd w w.heap.size A1 pts) (hr2 : Rd w w.heap.size A2 mul) (h1 : pts.length ≤ c1) (h1' : c1 ≤ maxLen) (h2 : mul.length ≤ maxLen) :
    Calls Try.prog 18 #[.agg #[.int .i64 D.p, .int .i64 D.m, .slice A D.mod.length c, .int .i64 K, .slice A1 pts.length c1, .slice A2 mul.length c2]] w (DualPost D K pts mul w) :=
  (gDual_D2 D K pts mul A A1 A2 c c1 c2 w hr hg hr1 hr2 h1 h1' h2).mono fun _ _ h => ⟨h.1, h.2.imp id fun ⟨a, F, b, A3, c3, A4, c4, A5, c5, x0, x1, x2, x3, x4, x5, _⟩ => ⟨a, F, b, A3, c3, A4, c4, A5, c5, x0, x1, x2, x3, x4, x5⟩⟩
end Go.Proofs.Ytemanlkgfhmclaa
