/- Layer 18 of the program: Standard. -/
import Derived.Test.YtemanlkgfhmclaaGrsE
namespace Go.Proofs.Ytemanlkgfhmclaa
open Go.RowKit Cw

/-- Six cells of a block that nothing holds fast. -/
def Six (w : World) (b : Nat) (v0 v1 v2 v3 v4 v5 : Value) : Prop :=
  w.cell? ⟨b, 0, none⟩ = some v0 ∧ w.cell? ⟨b, 1, none⟩ = some v1 ∧ w.cell? ⟨b, 2, none⟩ = some v2 ∧ w.cell? ⟨b, 3, none⟩ = some v3 ∧ w.cell? ⟨b, 4, none⟩ = some v4 ∧ w.cell? ⟨b, 5, none⟩ = some v5 ∧
  w.frozen? ⟨b, 0, none⟩ = false ∧ w.frozen? ⟨b, 1, none⟩ = false ∧ w.frozen? ⟨b, 2, none⟩ = false ∧ w.frozen? ⟨b, 3, none⟩ = false ∧ w.frozen? ⟨b, 4, none⟩ = false ∧ w.frozen? ⟨b, 5, none⟩ = false
theorem Six.keep {B b : Nat} {w w1 : World} {v0 v1 v2 v3 v4 v5 : Value} (h : Six w b v0 v1 v2 v3 v4 v5) (hb : Below B w w1) (hlt : b < B) : Six w1 b v0 v1 v2 v3 v4 v5 := by
  obtain ⟨a0, a1, a2, a3, a4, a5, f0, f1, f2, f3, f4, f5⟩ := h
  exact ⟨(hb.cell (p := ⟨b, 0, none⟩) hlt).trans a0, (hb.cell (p := ⟨b, 1, none⟩) hlt).trans a1, (hb.cell (p := ⟨b, 2, none⟩) hlt).trans a2, (hb.cell (p := ⟨b, 3, none⟩) hlt).trans a3, (hb.cell (p := ⟨b, 4, none⟩) hlt).trans a4, (hb.cell (p := ⟨b, 5, none⟩) hlt).trans a5,
    (hb.frozen (p := ⟨b, 0, none⟩) hlt).trans f0, (hb.frozen (p := ⟨b, 1, none⟩) hlt).trans f1, (hb.frozen (p := ⟨b, 2, none⟩) hlt).trans f2, (hb.frozen (p := ⟨b, 3, none⟩) hlt).trans f3, (hb.frozen (p := ⟨b, 4, none⟩) hlt).trans f4, (hb.frozen (p := ⟨b, 5, none⟩) hlt).trans f5⟩
theorem Six.new (w : World) (v0 v1 v2 v3 v4 v5 : Value) (t : TypeId) : Six (w.alloc (.cells #[v0, v1, v2, v3, v4, v5] t)) w.heap.size v0 v1 v2 v3 v4 v5 := by
  obtain ⟨a0, a1, a2, a3, a4, a5⟩ := alloc6 w v0 v1 v2 v3 v4 v5 t
  exact ⟨a0, a1, a2, a3, a4, a5, World.frozen?_alloc_at _ _ _ _ rfl, World.frozen?_alloc_at _ _ _ _ rfl, World.frozen?_alloc_at _ _ _ _ rfl, World.frozen?_alloc_at _ _ _ _ rfl, World.frozen?_alloc_at _ _ _ _ rfl, World.frozen?_alloc_at _ _ _ _ rfl⟩
theorem set6 {w3 : World} {b : Nat} (u0 u1 u2 u3 u4 u5 : Value) : Below b w3 ((((((w3.setCell ⟨b, 0, none⟩ u0).setCell ⟨b, 1, none⟩ u1).setCell ⟨b, 2, none⟩ u2).setCell ⟨b, 3, none⟩ u3).setCell ⟨b, 4, none⟩ u4).setCell ⟨b, 5, none⟩ u5) :=
  ((((((Below.refl _ _).setCell (p := ⟨b, 0, none⟩) (Nat.le_refl _) _).setCell (p := ⟨b, 1, none⟩) (Nat.le_refl _) _).setCell (p := ⟨b, 2, none⟩) (Nat.le_refl _) _).setCell (p := ⟨b, 3, none⟩) (Nat.le_refl _) _).setCell (p := ⟨b, 4, none⟩) (Nat.le_refl _) _).setCell (p := ⟨b, 5, none⟩) (Nat.le_refl _) _

set_option maxHeartbeats 1000000 in
theorem gStd_bad (P M n k : Int) (ml : List Int) (A : Option Addr) (c : Nat) (w : World) (hP : I64 P) (hM : I64 M) (hl : ml.length ≤ maxLen) (hr : Rd w w.heap.size A ml) (hb : ¬ Good P M ml) :
    Calls Try.prog 16 #[.agg #[.int .i64 P, .int .i64 M, .slice A ml.length c], .int .i64 n, .int .i64 k] w fun e w' => e = .returned (.tuple #[.agg #[.int .i64 0, .int .i64 0, .slice none 0 0, .int .i64 0, .slice none 0 0, .slice none 0 0], .int .i64 1]) ∧ Below w.heap.size w w' := by
  have hN := fun W h => Lib.hid (New_no P M ml A c W hP.2 hM.2 hl h hb)
  obtain ⟨Z, hZ⟩ : ∃ Z, Z = (w.alloc (.cells #[.int .i64 P, .int .i64 M, .slice A ml.length c] 24)).alloc (.cells #[.int .i64 0, .int .i64 0, .slice none 0 0, .int .i64 0, .slice none 0 0, .slice none 0 0] 26) := ⟨_, rfl⟩
  have hB : Below w.heap.size w Z := by rw [hZ]; exact ((Below.refl _ _).alloc (Nat.le_refl _) _).alloc (by simp) _
  have hZs : Z.heap.size = w.heap.size + 2 := by rw [hZ]; simp
  have k0 := Lib.hid (show Z.cell? ⟨w.heap.size, 0, none⟩ = some (.int .i64 P) ∧ Z.cell? ⟨w.heap.size, 1, none⟩ = some (.int .i64 M) ∧ Z.cell? ⟨w.heap.size, 2, none⟩ = some (.slice A ml.length c) from by rw [hZ]; simp [go_sem])
  have k1 : Six Z (w.heap.size + 1) (.int .i64 0) (.int .i64 0) (.slice none 0 0) (.int .i64 0) (.slice none 0 0) (.slice none 0 0) := by
    rw [hZ]; have := Six.new (w.alloc (.cells #[.int .i64 P, .int .i64 M, .slice A ml.length c] 24)) (.int .i64 0) (.int .i64 0) (.slice none 0 0) (.int .i64 0) (.slice none 0 0) (.slice none 0 0) 26; rw [World.size_alloc] at this; exact this
  have hN2 := hN Z ((hr.below hB).more hB.size)
  replace hZ := Lib.hid hZ
  clear hP hM hl hb hN
  go_enter Try.func16, Try.ntmps16
  go_wp2_with (fail)
  rw [← hZ.out]
  (with_reducible refine hN2.out.mono ?_)
  rintro e w1 ⟨rfl, hb1⟩
  obtain ⟨a0, a1, a2, a3, a4, a5, f0, f1, f2, f3, f4, f5⟩ := k1.keep hb1 (by omega)
  clear k1
  have hBe := (hB.trans (hb1.mono hB.size)).trans ((set6 (w3 := w1) (b := w.heap.size + 1) (.int .i64 0) (.int .i64 0) (.slice none 0 0) (.int .i64 0) (.slice none 0 0) (.slice none 0 0)).mono (Nat.le_succ _))
  clear hB hb1
  go_wp2_with (fail)
  refine bodyPost_ret (v := .tuple #[.agg #[.int .i64 0, .int .i64 0, .slice none 0 0, .int .i64 0, .slice none 0 0, .slice none 0 0], .int .i64 1]) (by simp [results, Try.results16, go_sem, a0, a1, a2, a3, a4, a5]) rfl ⟨rfl, hBe⟩
theorem Six.set4 {w : World} {b : Nat} {v0 v1 v2 v3 v4 v5 : Value} (h : Six w b v0 v1 v2 v3 v4 v5) (u : Value) : Six (w.setCell ⟨b, 4, none⟩ u) b v0 v1 v2 v3 u v5 := by
  obtain ⟨a0, a1, a2, a3, a4, a5, f0, f1, f2, f3, f4, f5⟩ := h
  unfold Six
  simp [go_sem, a0, a1, a2, a3, a4, a5, f0, f1, f2, f3, f4, f5]
theorem Six.set5 {w : World} {b : Nat} {v0 v1 v2 v3 v4 v5 : Value} (h : Six w b v0 v1 v2 v3 v4 v5) (u : Value) : Six (w.setCell ⟨b, 5, none⟩ u) b v0 v1 v2 v3 v4 u := by
  obtain ⟨a0, a1, a2, a3, a4, a5, f0, f1, f2, f3, f4, f5⟩ := h
  unfold Six
  simp [go_sem, a0, a1, a2, a3, a4, a5, f0, f1, f2, f3, f4, f5]
theorem Rd.set6 {w : World} {B b : Nat} {A : Option Addr} {l : List Int} (h : Rd w B A l) (hA : ∀ a, A = some a → a.block ≠ b) (u0 u1 u2 u3 u4 u5 : Value) : Rd ((((((w.setCell ⟨b, 0, none⟩ u0).setCell ⟨b, 1, none⟩ u1).setCell ⟨b, 2, none⟩ u2).setCell ⟨b, 3, none⟩ u3).setCell ⟨b, 4, none⟩ u4).setCell ⟨b, 5, none⟩ u5) B A l :=
  (((((h.far hA 0 u0).far hA 1 u1).far hA 2 u2).far hA 3 u3).far hA 4 u4).far hA 5 u5

/-- Standard's error. -/
def stdErr (D : Desc) (n k : Int) : Int := if n < 1 ∨ 64 < n ∨ (D.q : Int) < n then 4 else if k < 0 ∨ n < k then 6 else 0
/-- What Standard hands back over a field. -/
def StdPost (D : Desc) (n k : Int) (w : World) (e : Ending) (w' : World) : Prop :=
  Below w.heap.size w w' ∧ ((stdErr D n k ≠ 0 ∧ e = .returned (.tuple #[.agg #[.int .i64 0, .int .i64 0, .slice none 0 0, .int .i64 0, .slice none 0 0, .slice none 0 0], .int .i64 (stdErr D n k)])) ∨
    (stdErr D n k = 0 ∧ ∃ A c A1 c1 A2 c2, e = .returned (.tuple #[.agg #[.int .i64 D.p, .int .i64 D.m, .slice A D.mod.length c, .int .i64 k, .slice A1 n.toNat c1, .slice A2 n.toNat c2], .int .i64 0]) ∧
      Rd w' w'.heap.size A (modL D) ∧ Rd w' w'.heap.size A1 (lst n.toNat fun i => (i : Int)) ∧ Rd w' w'.heap.size A2 (lst n.toNat fun _ => 1) ∧ n.toNat ≤ c1 ∧ c1 ≤ maxLen))

set_option maxRecDepth 100000 in
set_option maxHeartbeats 2000000 in
theorem gStd_D (D : Desc) (n k : Int) (A : Option Addr) (c : Nat) (w : World) (hr : Rd w w.heap.size A (modL D)) (hg : Good D.p D.m (modL D)) :
    Calls Try.prog 16 #[.agg #[.int .i64 D.p, .int .i64 D.m, .slice A D.mod.length c], .int .i64 n, .int .i64 k] w (StdPost D n k w) := by
  have hN := fun W h => Lib.hid (New_good D A c W h hg)
  obtain ⟨Z, hZ⟩ : ∃ Z, Z = (w.alloc (.cells #[.int .i64 D.p, .int .i64 D.m, .slice A D.mod.length c] 24)).alloc (.cells #[.int .i64 0, .int .i64 0, .slice none 0 0, .int .i64 0, .slice none 0 0, .slice none 0 0] 26) := ⟨_, rfl⟩
  have hB : Below w.heap.size w Z := by rw [hZ]; exact ((Below.refl _ _).alloc (Nat.le_refl _) _).alloc (by simp) _
  have hZs : Z.heap.size = w.heap.size + 2 := by rw [hZ]; simp
  have k0 := Lib.hid (show Z.cell? ⟨w.heap.size, 0, none⟩ = some (.int .i64 D.p) ∧ Z.cell? ⟨w.heap.size, 1, none⟩ = some (.int .i64 D.m) ∧ Z.cell? ⟨w.heap.size, 2, none⟩ = some (.slice A D.mod.length c) from by rw [hZ]; simp [go_sem])
  have k1 : Six Z (w.heap.size + 1) (.int .i64 0) (.int .i64 0) (.slice none 0 0) (.int .i64 0) (.slice none 0 0) (.slice none 0 0) := by
    rw [hZ]; have := Six.new (w.alloc (.cells #[.int .i64 D.p, .int .i64 D.m, .slice A D.mod.length c] 24)) (.int .i64 0) (.int .i64 0) (.slice none 0 0) (.int .i64 0) (.slice none 0 0) (.slice none 0 0) 26; rw [World.size_alloc] at this; exact this
  have hN2 := hN Z ((hr.below hB).more hB.size)
  replace hZ := Lib.hid hZ
  clear hg hN
  go_enter Try.func16, Try.ntmps16
  go_wp2_with (fail)
  rw [← hZ.out]
  (with_reducible refine hN2.out.mono ?_)
  rintro e w1 ⟨g, F, rfl, rfl, hgl, hgf, hb1⟩
  have hs1 := hb1.size
  obtain ⟨a0, a1, a2, a3, a4, a5, f0, f1, f2, f3, f4, f5⟩ := k1.keep hb1 (by omega)
  replace k1 := Lib.hid k1
  have hBe := Lib.hid ((hB.trans (hb1.mono hB.size)).trans ((set6 (w3 := w1) (b := w.heap.size + 1) (.int .i64 0) (.int .i64 0) (.slice none 0 0) (.int .i64 0) (.slice none 0 0) (.slice none 0 0)).mono (Nat.le_succ _)))
  have hO := Lib.hid (gOrder_any F g w1 hgf)
  have hF := Lib.hid (gField_any F g w1 hgf)
  by_cases hn1 : n < 1
  · have hv : Hid (stdErr F.toDesc n k = 4) := if_pos (.inl hn1)
    go_wp2_with (fail)
    refine bodyPost_ret (v := .tuple #[.agg #[.int .i64 0, .int .i64 0, .slice none 0 0, .int .i64 0, .slice none 0 0, .slice none 0 0], .int .i64 4]) (by simp [results, Try.results16, go_sem, a0, a1, a2, a3, a4, a5]) rfl ⟨hBe.out, .inl ⟨by rw [hv.out]; decide, by rw [hv.out]⟩⟩
  go_wp2_with (fail)
  (with_reducible refine hO.out.mono ?_)
  rintro e w2 ⟨rfl, rfl⟩
  have hor : (64 < n ∧ 64 ≤ (F.q : Int)) ∨ ((F.q : Int) < n ∧ ¬ 64 ≤ (F.q : Int)) ∨ ((n ≤ 64 ∧ n ≤ (F.q : Int)) ∧ 64 ≤ (F.q : Int)) ∨ ((n ≤ 64 ∧ n ≤ (F.q : Int)) ∧ ¬ 64 ≤ (F.q : Int)) := by omega
  rcases hor with ⟨hn2, hq⟩ | ⟨hn2, hq⟩ | ⟨⟨hn2, hn3⟩, hq⟩ | ⟨⟨hn2, hn3⟩, hq⟩
  · have hv : Hid (stdErr F.toDesc n k = 4) := if_pos (.inr (.inl hn2))
    go_wp2_with (fail)
    refine bodyPost_ret (v := .tuple #[.agg #[.int .i64 0, .int .i64 0, .slice none 0 0, .int .i64 0, .slice none 0 0, .slice none 0 0], .int .i64 4]) (by simp [results, Try.results16, go_sem, a0, a1, a2, a3, a4, a5]) rfl ⟨hBe.out, .inl ⟨by rw [hv.out]; decide, by rw [hv.out]⟩⟩
  · have hv : Hid (stdErr F.toDesc n k = 4) := if_pos (.inr (.inr hn2))
    go_wp2_with (fail)
    refine bodyPost_ret (v := .tuple #[.agg #[.int .i64 0, .int .i64 0, .slice none 0 0, .int .i64 0, .slice none 0 0, .slice none 0 0], .int .i64 4]) (by simp [results, Try.results16, go_sem, a0, a1, a2, a3, a4, a5]) rfl ⟨hBe.out, .inl ⟨by rw [hv.out]; decide, by rw [hv.out]⟩⟩
  all_goals
   have hv0 : Hid (stdErr F.toDesc n k = if k < 0 ∨ n < k then 6 else 0) := if_neg (by omega)
   by_cases hk1 : k < 0
   · have hv : Hid (stdErr F.toDesc n k = 6) := hv0.out.trans (if_pos (.inl hk1))
     go_wp2_with (fail)
     refine bodyPost_ret (v := .tuple #[.agg #[.int .i64 0, .int .i64 0, .slice none 0 0, .int .i64 0, .slice none 0 0, .slice none 0 0], .int .i64 6]) (by simp [results, Try.results16, go_sem, a0, a1, a2, a3, a4, a5]) rfl ⟨hBe.out, .inl ⟨by rw [hv.out]; decide, by rw [hv.out]⟩⟩
   by_cases hk2 : n < k
   · have hv : Hid (stdErr F.toDesc n k = 6) := hv0.out.trans (if_pos (.inr hk2))
     go_wp2_with (fail)
     refine bodyPost_ret (v := .tuple #[.agg #[.int .i64 0, .int .i64 0, .slice none 0 0, .int .i64 0, .slice none 0 0, .slice none 0 0], .int .i64 6]) (by simp [results, Try.results16, go_sem, a0, a1, a2, a3, a4, a5]) rfl ⟨hBe.out, .inl ⟨by rw [hv.out]; decide, by rw [hv.out]⟩⟩
   have hv : Hid (stdErr F.toDesc n k = 0) := hv0.out.trans (if_neg (by omega))
   go_wp2_with (fail)
   (with_reducible refine hF.out.mono ?_)
   rintro e w2 ⟨A3, c3, rfl, hrf, hAf, hb2⟩
   go_wp2_with (fail)
   have hs2 := hb2.size
   have r6 := Lib.hid (((k1.out.keep hb1 (by omega)).keep hb2 (by omega)))
   have hBw := Lib.hid ((hB.trans (hb1.mono hB.size)).trans (hb2.mono (by omega)))
   have six0 := Six.new w2 (.int .i64 F.p) (.int .i64 F.m) (.slice A3 F.mod.length c3) (.int .i64 k) (.slice none 0 0) (.slice none 0 0) 26
   have hB0 : Below w2.heap.size w2 (w2.alloc (.cells #[.int .i64 F.p, .int .i64 F.m, .slice A3 F.mod.length c3, .int .i64 k, .slice none 0 0, .slice none 0 0] 26)) := (Below.refl _ _).alloc (Nat.le_refl _) _
   replace hrf := Lib.hid hrf
   replace hAf := Lib.hid hAf
   clear hN2 hO hF hBe hgf a0 a1 a2 a3 a4 a5 f0 f1 f2 f3 f4 f5
   go_loopw [47] (fun i wr => ∃ j : Nat, (j : Int) ≤ n ∧ i = .int .i64 j ∧ ∃ v1 v2, Six wr w2.heap.size (.int .i64 F.p) (.int .i64 F.m) (.slice A3 F.mod.length c3) (.int .i64 k) v1 v2 ∧ Own wr (w2.heap.size + 1) v1 (lst j fun i => (i : Int)) ∧ Own wr (w2.heap.size + 1) v2 (lst j fun _ => 1) ∧ Dis v1 v2 ∧ Below w2.heap.size w2 wr ∧ w2.heap.size < wr.heap.size) (fun i _ => (n - intOf i).toNat)
   case atStart => exact ⟨0, by omega, rfl, _, _, six0, Own.nil _ _, Own.nil _ _, Dis.nil, hB0, by rw [World.size_alloc]; exact Nat.lt_succ_self _⟩
   case round =>
     obtain ⟨wt, rfl⟩ : ∃ wt : World, wt = wr := ⟨_, rfl⟩
     obtain ⟨j, hj, rfl, v1, v2, six, ho1, ho2, hdis, hbw, hlt⟩ := hrel
     clear six0 hB0
     obtain ⟨A1, c1, rfl, hc1, hr1, hA1⟩ := ho1.form
     obtain ⟨A2, c2, rfl, hc2, hr2, hA2⟩ := ho2.form
     by_cases hjn : (j : Int) < n
     · have hle1 : (lst j fun i => (i : Int)).length ≤ 1000000 := by rw [lst_length]; omega
       have hle2 : (lst j fun _ => (1 : Int)).length ≤ 1000000 := by rw [lst_length]; omega
       have six' := six
       obtain ⟨a0, a1, a2, a3, a4, a5, f0, f1, f2, f3, f4, f5⟩ := six'
       go_wp2_with (at_builtin; first
         | (refine wpList_app1 rfl _ _ rfl (w2.heap.size + 1) _ _ _ ho1 rfl rfl rfl hle1 hlt ?_; intro v1' w3 ho3 hb3 hg3 hv3; obtain ⟨A4, c4, rfl, -, -, -⟩ := ho3.form; rw [List.length_append] at ho3 hv3; have hd3 := hdis.step ho2.lt hv3; have ho2' := ho2.kept hg3 hdis.symm.ne; have six3 := six.keep hb3 (Nat.lt_succ_self _); have sx := six3; have six4 := six3.set4 (.slice A4 ((lst j fun i => (i : Int)).length + 1) c4); clear a0 a1 a2 a3 a4 a5 f0 f1 f2 f3 f4 f5; obtain ⟨b0, b1, b2, b3, b4, b5, g0, g1, g2, g3, g4, g5⟩ := sx; have ho4 := ho2'.farB 4 (.slice A4 ((lst j fun i => (i : Int)).length + 1) c4); have ho3' := ho3.farB 4 (.slice A4 ((lst j fun i => (i : Int)).length + 1) c4); have hlt4 := Nat.lt_of_lt_of_le hlt hb3.size)
         | go_loud (refine wpList_app1 rfl _ _ rfl (w2.heap.size + 1) _ _ _ ho4 rfl rfl (by simp [World.setCell]) hle2 (Nat.le_trans hlt4 (grown_set _ _ _).size) ?_; intro v2' w5 ho5 hb5 hg5 hv5; obtain ⟨A5, c5, rfl, -, -, -⟩ := ho5.form; rw [List.length_append] at ho5 hv5; clear b0 b1 b2 b3 b4 b5 g0 g1 g2 g3 g4 g5; have six5 := six4.keep hb5 (Nat.lt_succ_self _); have sx := six5; obtain ⟨b0, b1, b2, b3, b4, b5, g0, g1, g2, g3, g4, g5⟩ := sx))
       go_roundw
       case rel =>
         refine ⟨j + 1, by omega, rfl, _, _, six5.set5 _, ?_, ?_, ?_, (hbw.trans (hb3.mono (Nat.le_succ _))).trans ((((Below.refl _ _).setCell (p := ⟨w2.heap.size, 4, none⟩) (Nat.le_refl _) _).trans (hb5.mono (Nat.le_succ _))).setCell (p := ⟨w2.heap.size, 5, none⟩) (Nat.le_refl _) _), by have := hb5.size; simp [World.setCell] at *; omega⟩
         · have := (ho3'.kept hg5 hd3.ne).farB 5 (.slice A5 ((lst j fun _ => (1 : Int)).length + 1) c5)
           rw [lst_succ]; exact this
         · have := ho5.farB 5 (.slice A5 ((lst j fun _ => (1 : Int)).length + 1) c5)
           rw [lst_succ]; exact this
         · exact (hd3.symm.step ho3'.lt hv5).symm
       case measure => simp [intOf]; omega
     · obtain ⟨a0, a1, a2, a3, a4, a5, f0, f1, f2, f3, f4, f5⟩ := six
       have hjn' : n.toNat = j := by omega
       have h1w : w.heap.size + 1 < w2.heap.size := by omega
       obtain ⟨p0, p1, p2, p3, p4, p5, e0, e1, e2, e3, e4, e5⟩ := r6.out.keep hbw h1w
       go_wp2_with (fail)
       refine bodyPost_ret (v := .tuple #[.agg #[.int .i64 F.p, .int .i64 F.m, .slice A3 F.mod.length c3, .int .i64 k, .slice A1 (lst j fun i => (i : Int)).length c1, .slice A2 (lst j fun _ => (1 : Int)).length c2], .int .i64 0]) (by simp [results, Try.results16, go_sem, p0, p1, p2, p3, p4, p5]) rfl ⟨(hBw.out.trans (hbw.mono (by omega))).trans ((set6 _ _ _ _ _ _).mono (by omega)), .inr ⟨hv.out, A3, c3, A1, c1, A2, c2, by rw [hjn', lst_length, lst_length], ?_, ?_, ?_, ?_, ho1.cap⟩⟩
       · refine (Rd.set6 ((hrf.out.below hbw).more ?_) (fun a e => ?_) _ _ _ _ _ _)
         · have := hbw.size; simpa [World.setCell] using this
         · have := hAf.out a e; omega
       · rw [hjn']; exact (hr1.set6 (fun a e => by have := (hA1 a e).1; omega) _ _ _ _ _ _).more (by simp [World.setCell])
       · rw [hjn']; exact (hr2.set6 (fun a e => by have := (hA2 a e).1; omega) _ _ _ _ _ _).more (by simp [World.setCell])
       · rw [hjn']; rw [lst_length] at hc1; exact hc1
end Go.Proofs.Ytemanlkgfhmclaa
