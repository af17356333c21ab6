/- Layer 18: Encode, Check, the reference's Elements. Layer 18 of the program: Standard. grs.Generator. -/
import Derived.Test.YtpflgmbcmfllgaaZeMatY
import Derived.Test.YtpflgmbcmfllgaaZeGrsD
namespace Go.Proofs.Ytpflgmbcmfllgaa
open Go.RowKit Cw

/-- Encode's error. -/
def encErr (D : Desc) (K : Int) (pts mul msg : List Int) : Int := if gchkD D K pts mul ≠ 0 then gchkD D K pts mul else elErr D msg K 3
theorem gchkD_zero {D : Desc} {K : Int} {pts mul : List Int} (h : gchkD D K pts mul = 0) : 1 ≤ pts.length ∧ pts.length ≤ 64 ∧ mul.length = pts.length ∧ elB D pts = true ∧ elB D mul = true ∧ twB pts = false ∧ ¬ (0 : Int) ∈ mul ∧ 0 ≤ K ∧ K ≤ (pts.length : Int) := by
  unfold gchkD at h
  by_cases h1 : pts.length < 1 ∨ 64 < pts.length
  · rw [if_pos h1] at h; cases h
  rw [if_neg h1] at h
  by_cases h2 : mul.length ≠ pts.length
  · rw [if_pos h2] at h; cases h
  rw [if_neg h2] at h
  by_cases h3 : elB D pts = false ∨ elB D mul = false
  · rw [if_pos h3] at h; cases h
  rw [if_neg h3] at h
  by_cases h4 : twB pts = true
  · rw [if_pos h4] at h; cases h
  rw [if_neg h4] at h
  by_cases h5 : (0 : Int) ∈ mul
  · rw [if_pos h5] at h; cases h
  rw [if_neg h5] at h
  by_cases h6 : K < 0 ∨ (pts.length : Int) < K
  · rw [if_pos h6] at h; cases h
  refine ⟨by omega, by omega, Classical.not_not.1 h2, ?_, ?_, ?_, h5, by omega, by omega⟩
  · rcases Bool.eq_false_or_eq_true (elB D pts) with e | e
    · exact e
    · exact absurd (.inl e) h3
  · rcases Bool.eq_false_or_eq_true (elB D mul) with e | e
    · exact e
    · exact absurd (.inr e) h3
  · rwa [Bool.not_eq_true] at h4

/-- The same, with the word in memory of its own. -/
def EncPost2 (D : Desc) (K : Int) (pts mul msg : List Int) (w : World) (e : Ending) (w' : World) : Prop :=
  Below w.heap.size w w' ∧ ((encErr D K pts mul msg ≠ 0 ∧ e = .returned (.tuple #[.slice none 0 0, .int .i64 (encErr D K pts mul msg)])) ∨
    (encErr D K pts mul msg = 0 ∧ ∃ A', e = .returned (.tuple #[.slice A' (wordL D pts mul msg).length (wordL D pts mul msg).length, .int .i64 0]) ∧ Rd w' w'.heap.size A' (wordL D pts mul msg) ∧ ∀ a, A' = some a → w.heap.size ≤ a.block))

set_option maxRecDepth 100000 in
set_option maxHeartbeats 2000000 in
theorem gEnc_D2 (D : Desc) (K : Int) (pts mul : List Int) (A A1 A2 : Option Addr) (c c1 c2 : Nat) (msg : List Int) (A3 : Option Addr) (c3 : Nat) (w : World) (hr : Rd w w.heap.size A (modL D)) (hg : Good D.p D.m (modL D)) (hr1 : Rd w w.heap.size A1 pts) (hr2 : Rd w w.heap.size A2 mul) (h1 : pts.length ≤ c1) (h1' : c1 ≤ maxLen) (h2 : mul.length ≤ maxLen)
    (hr3 : Rd w w.heap.size A3 msg) (h3 : msg.length ≤ maxLen) :
    Calls Try.prog 85 #[.agg #[.int .i64 D.p, .int .i64 D.m, .slice A D.mod.length c, .int .i64 K, .slice A1 pts.length c1, .slice A2 mul.length c2], .slice A3 msg.length c3] w (EncPost2 D K pts mul msg w) := by
  have hO := fun W a b c' => Lib.hid (gOpen_D D K pts mul A A1 A2 c c1 c2 W a hg b c' h1 h1' h2)
  have k0 := Lib.hid (alloc6 w (.int .i64 D.p) (.int .i64 D.m) (.slice A D.mod.length c) (.int .i64 K) (.slice A1 pts.length c1) (.slice A2 mul.length c2) 49)
  have hB : Below w.heap.size w (w.alloc (.cells #[.int .i64 D.p, .int .i64 D.m, .slice A D.mod.length c, .int .i64 K, .slice A1 pts.length c1, .slice A2 mul.length c2] 49)) := (Below.refl _ _).alloc (Nat.le_refl _) _
  have hO2 := hO _ ((hr.below hB).more hB.size) ((hr1.below hB).more hB.size) ((hr2.below hB).more hB.size)
  have hm3 := h3
  unfold maxLen at hm3
  clear hO hg
  unfold EncPost2
  go_enter Try.func85, Try.ntmps85
  go_wp2_with (fail)
  (with_reducible refine hO2.out.mono ?_)
  rintro e w1 ⟨hb1, g, F, rfl, hgf, hgl, ⟨hz, rfl⟩ | ⟨hz, rfl⟩⟩
  rotate_left
  · have hv : Hid (encErr F.toDesc K pts mul msg = gchkD F.toDesc K pts mul) := if_pos hz
    have hzb : (gchkD F.toDesc K pts mul != 0) = true := by rw [bne_iff_ne]; exact hz
    have hz' := Lib.hid hz
    clear hz
    go_wp2_with (fail)
    go_ret2
    exact ⟨hB.trans (hb1.mono hB.size), .inl ⟨by rw [hv.out]; exact hz'.out, by rw [hv.out]; rfl⟩⟩
  have hv0 : Hid (encErr F.toDesc K pts mul msg = elErr F.toDesc msg K 3) := if_neg (fun h => h hz)
  obtain ⟨-, hp64, hlen, -⟩ := gchkD_zero hz
  have hB1 := hB.trans (hb1.mono hB.size)
  have kk1 := Lib.hid (keep6 hb1 (by simp) k0.out)
  have hr1' := (hr1.below hB1).more hB1.size
  have hr2' := (hr2.below hB1).more hB1.size
  have hr3' := (hr3.below hB1).more hB1.size
  have hE := Lib.hid (gElems_any F msg A3 c3 g w1 hgf hr3' h3)
  have hW := Lib.hid (gEncode_any F K pts mul msg A A1 A2 A3 c c1 c2 c3 g w1 hgf hr1' hr2' hr3' hlen hp64 h3)
  obtain ⟨q0, q1, q2, q3, q4, q5⟩ := kk1.out
  clear hz hb1 hO2 k0 hlen
  by_cases hK : (msg.length : Int) = K
  rotate_left
  · have hv : Hid (encErr F.toDesc K pts mul msg = 3) := hv0.out.trans (if_pos hK)
    have hKb : ((msg.length : Int) != K) = true := by rw [bne_iff_ne]; exact hK
    clear hK
    go_wp2_with (fail)
    go_ret2
    exact ⟨hB1, .inl ⟨by rw [hv.out]; decide, by rw [hv.out]; rfl⟩⟩
  have hKb : ((msg.length : Int) != K) = false := by rw [bne_eq_false_iff_eq]; exact hK
  by_cases he : elB F.toDesc msg = true
  rotate_left
  · rw [Bool.not_eq_true] at he
    have hv : Hid (encErr F.toDesc K pts mul msg = 2) := hv0.out.trans ((if_neg (not_not_intro hK)).trans (if_pos he))
    rw [he] at hE
    clear hK he
    go_wp2_with (fail)
    (with_reducible refine hE.out.mono ?_)
    rintro e w2 ⟨rfl, rfl⟩
    go_wp2_with (fail)
    go_ret2
    exact ⟨hB1, .inl ⟨by rw [hv.out]; decide, by rw [hv.out]; rfl⟩⟩
  have hv : Hid (encErr F.toDesc K pts mul msg = 0) := hv0.out.trans ((if_neg (not_not_intro hK)).trans (if_neg (by rw [he]; simp)))
  rw [he] at hE
  clear hK he
  go_wp2_with (fail)
  (with_reducible refine hE.out.mono ?_)
  rintro e w2 ⟨rfl, rfl⟩
  go_wp2_with (fail)
  (with_reducible refine hW.out.mono ?_)
  rintro e w3 ⟨g3, rfl, hg3, hib, hb3⟩
  go_wp2_with (fail)
  go_ret2
  exact ⟨hB1.trans (hb3.mono hB1.size), .inr ⟨hv.out, _, rfl, hib.rd, fun a e => by cases e; exact Nat.le_trans hB1.size hg3⟩⟩

set_option maxHeartbeats 1000000 in
theorem gCheck_D (D : Desc) (K : Int) (pts mul : List Int) (A A1 A2 : Option Addr) (c c1 c2 : Nat) (w : World) (hr : Rd w w.heap.size A (modL D)) (hg : Good D.p D.m (modL D)) (hr1 : Rd w w.heap.size A1 pts) (hr2 : Rd w w.heap.size A2 mul) (h1 : pts.length ≤ c1) (h1' : c1 ≤ maxLen) (h2 : mul.length ≤ maxLen) :
    Calls Try.prog 75 #[.agg #[.int .i64 D.p, .int .i64 D.m, .slice A D.mod.length c, .int .i64 K, .slice A1 pts.length c1, .slice A2 mul.length c2]] w fun e w' => e = .returned (.int .i64 (gchkD D K pts mul)) ∧ Below w.heap.size w w' := by
  have hO := fun W a b c' => Lib.hid (gOpen_D D K pts mul A A1 A2 c c1 c2 W a hg b c' h1 h1' h2)
  have hB : Below w.heap.size w (w.alloc (.cells #[.int .i64 D.p, .int .i64 D.m, .slice A D.mod.length c, .int .i64 K, .slice A1 pts.length c1, .slice A2 mul.length c2] 49)) := (Below.refl _ _).alloc (Nat.le_refl _) _
  have hO2 := hO _ ((hr.below hB).more hB.size) ((hr1.below hB).more hB.size) ((hr2.below hB).more hB.size)
  clear hO hg
  go_enter Try.func75, Try.ntmps75
  go_wp2_with (fail)
  (with_reducible refine hO2.out.mono ?_)
  rintro e w1 ⟨hb1, g, F, rfl, hgf, hgl, ⟨hz, rfl⟩ | ⟨hz, rfl⟩⟩
  · replace hz := Lib.hid hz
    go_wp2_with (fail)
    go_ret
    exact ⟨by rw [hz.out]; rfl, hB.trans (hb1.mono hB.size)⟩
  · clear hz
    go_wp2_with (fail)
    go_ret
    exact ⟨rfl, hB.trans (hb1.mono hB.size)⟩

end Go.Proofs.Ytpflgmbcmfllgaa

namespace Go.Proofs.Ytpflgmbcmfllgaa
open Go.RowKit Cw

/-- Six cells of a block that nothing holds fast. -/
def Six (w : World) (b : Nat) (v0 v1 v2 v3 v4 v5 : Value) : Prop :=
  w.cell? ⟨b, 0, none⟩ = some v0 ∧ w.cell? ⟨b, 1, none⟩ = some v1 ∧ w.cell? ⟨b, 2, none⟩ = some v2 ∧ w.cell? ⟨b, 3, none⟩ = some v3 ∧ w.cell? ⟨b, 4, none⟩ = some v4 ∧ w.cell? ⟨b, 5, none⟩ = some v5 ∧
  w.frozen? ⟨b, 0, none⟩ = false ∧ w.frozen? ⟨b, 1, none⟩ = false ∧ w.frozen? ⟨b, 2, none⟩ = false ∧ w.frozen? ⟨b, 3, none⟩ = false ∧ w.frozen? ⟨b, 4, none⟩ = false ∧ w.frozen? ⟨b, 5, none⟩ = false
theorem Six.keep {B b : Nat} {w w1 : World} {v0 v1 v2 v3 v4 v5 : Value} (h : Six w b v0 v1 v2 v3 v4 v5) (hb : Below B w w1) (hlt : b < B) : Six w1 b v0 v1 v2 v3 v4 v5 := by
  obtain ⟨a0, a1, a2, a3, a4, a5, f0, f1, f2, f3, f4, f5⟩ := h
  exact ⟨(hb.cell (p := ⟨b, 0, none⟩) hlt).trans a0, (hb.cell (p := ⟨b, 1, none⟩) hlt).trans a1, (hb.cell (p := ⟨b, 2, none⟩) hlt).trans a2, (hb.cell (p := ⟨b, 3, none⟩) hlt).trans a3, (hb.cell (p := ⟨b, 4, none⟩) hlt).trans a4, (hb.cell (p := ⟨b, 5, none⟩) hlt).trans a5,
    (hb.frozen (p := ⟨b, 0, none⟩) hlt).trans f0, (hb.frozen (p := ⟨b, 1, none⟩) hlt).trans f1, (hb.frozen (p := ⟨b, 2, none⟩) hlt).trans f2, (hb.frozen (p := ⟨b, 3, none⟩) hlt).trans f3, (hb.frozen (p := ⟨b, 4, none⟩) hlt).trans f4, (hb.frozen (p := ⟨b, 5, none⟩) hlt).trans f5⟩
theorem Six.new (w : World) (v0 v1 v2 v3 v4 v5 : Value) (t : TypeId) : Six (w.alloc (.cells #[v0, v1, v2, v3, v4, v5] t)) w.heap.size v0 v1 v2 v3 v4 v5 := by
  obtain ⟨a0, a1, a2, a3, a4, a5⟩ := alloc6 w v0 v1 v2 v3 v4 v5 t
  exact ⟨a0, a1, a2, a3, a4, a5, World.frozen?_alloc_at _ _ _ _ rfl, World.frozen?_alloc_at _ _ _ _ rfl, World.frozen?_alloc_at _ _ _ _ rfl, World.frozen?_alloc_at _ _ _ _ rfl, World.frozen?_alloc_at _ _ _ _ rfl, World.frozen?_alloc_at _ _ _ _ rfl⟩
theorem set6 {w3 : World} {b : Nat} (u0 u1 u2 u3 u4 u5 : Value) : Below b w3 ((((((w3.setCell ⟨b, 0, none⟩ u0).setCell ⟨b, 1, none⟩ u1).setCell ⟨b, 2, none⟩ u2).setCell ⟨b, 3, none⟩ u3).setCell ⟨b, 4, none⟩ u4).setCell ⟨b, 5, none⟩ u5) :=
  ((((((Below.refl _ _).setCell (p := ⟨b, 0, none⟩) (Nat.le_refl _) _).setCell (p := ⟨b, 1, none⟩) (Nat.le_refl _) _).setCell (p := ⟨b, 2, none⟩) (Nat.le_refl _) _).setCell (p := ⟨b, 3, none⟩) (Nat.le_refl _) _).setCell (p := ⟨b, 4, none⟩) (Nat.le_refl _) _).setCell (p := ⟨b, 5, none⟩) (Nat.le_refl _) _

theorem Six.set5 {w : World} {b : Nat} {v0 v1 v2 v3 v4 v5 : Value} (h : Six w b v0 v1 v2 v3 v4 v5) (u : Value) : Six (w.setCell ⟨b, 5, none⟩ u) b v0 v1 v2 v3 v4 u := by
  obtain ⟨a0, a1, a2, a3, a4, a5, f0, f1, f2, f3, f4, f5⟩ := h
  unfold Six
  simp [go_sem, a0, a1, a2, a3, a4, a5, f0, f1, f2, f3, f4, f5]
theorem Rd.set6 {w : World} {B b : Nat} {A : Option Addr} {l : List Int} (h : Rd w B A l) (hA : ∀ a, A = some a → a.block ≠ b) (u0 u1 u2 u3 u4 u5 : Value) : Rd ((((((w.setCell ⟨b, 0, none⟩ u0).setCell ⟨b, 1, none⟩ u1).setCell ⟨b, 2, none⟩ u2).setCell ⟨b, 3, none⟩ u3).setCell ⟨b, 4, none⟩ u4).setCell ⟨b, 5, none⟩ u5) B A l :=
  (((((h.far hA 0 u0).far hA 1 u1).far hA 2 u2).far hA 3 u3).far hA 4 u4).far hA 5 u5

end Go.Proofs.Ytpflgmbcmfllgaa

namespace Go.Proofs.Ytpflgmbcmfllgaa
open Go.RowKit Cw
attribute [local go_sem] Oper.semAt_some

/-- The two cells of a matrix, free to be written. -/
def Two (w : World) (b : Nat) (v0 v1 : Value) : Prop := w.cell? ⟨b, 0, none⟩ = some v0 ∧ w.cell? ⟨b, 1, none⟩ = some v1 ∧ w.frozen? ⟨b, 0, none⟩ = false ∧ w.frozen? ⟨b, 1, none⟩ = false
theorem Two.keep {B b : Nat} {w w1 : World} {v0 v1 : Value} (h : Two w b v0 v1) (hb : Below B w w1) (hlt : b < B) : Two w1 b v0 v1 :=
  ⟨(hb.cell (p := ⟨b, 0, none⟩) hlt).trans h.1, (hb.cell (p := ⟨b, 1, none⟩) hlt).trans h.2.1, (hb.frozen (p := ⟨b, 0, none⟩) hlt).trans h.2.2.1, (hb.frozen (p := ⟨b, 1, none⟩) hlt).trans h.2.2.2⟩
theorem Two.new (w : World) (v0 v1 : Value) (t : TypeId) : Two (w.alloc (.cells #[v0, v1] t)) w.heap.size v0 v1 := by unfold Two; simp [go_sem]

/-- What Generator hands back over a field. -/
def GenrPost (D : Desc) (K : Int) (pts mul : List Int) (w : World) (e : Ending) (w' : World) : Prop :=
  Below w.heap.size w w' ∧ ((gchkD D K pts mul ≠ 0 ∧ e = .returned (.tuple #[.agg #[.int .i64 0, .slice none 0 0], .int .i64 (gchkD D K pts mul)])) ∨
    (gchkD D K pts mul = 0 ∧ ∃ Al cl, e = .returned (.tuple #[.agg #[.int .i64 pts.length, .slice Al K.toNat cl], .int .i64 0]) ∧ RdM w' w'.heap.size Al K.toNat (rowsL D pts.length (gM D pts mul))))
set_option maxRecDepth 100000 in
set_option maxHeartbeats 2000000 in
theorem gGenr_D (D : Desc) (K : Int) (pts mul : List Int) (A A1 A2 : Option Addr) (c c1 c2 : Nat) (w : World) (hr : Rd w w.heap.size A (modL D)) (hg : Good D.p D.m (modL D)) (hr1 : Rd w w.heap.size A1 pts) (hr2 : Rd w w.heap.size A2 mul) (h1 : pts.length ≤ c1) (h1' : c1 ≤ maxLen) (h2 : mul.length ≤ maxLen) :
    Calls Try.prog 100 #[.agg #[.int .i64 D.p, .int .i64 D.m, .slice A D.mod.length c, .int .i64 K, .slice A1 pts.length c1, .slice A2 mul.length c2]] w (GenrPost D K pts mul w) := by
  have hN := fun W a b c' => Lib.hid (gOpen_D D K pts mul A A1 A2 c c1 c2 W a hg b c' h1 h1' h2)
  obtain ⟨Z, hZ⟩ : ∃ Z, Z = (w.alloc (.cells #[.int .i64 D.p, .int .i64 D.m, .slice A D.mod.length c, .int .i64 K, .slice A1 pts.length c1, .slice A2 mul.length c2] 49)).alloc (.cells #[.int .i64 0, .slice none 0 0] 132) := ⟨_, rfl⟩
  have hB : Below w.heap.size w Z := by rw [hZ]; exact ((Below.refl _ _).alloc (Nat.le_refl _) _).alloc (by simp) _
  have hZs : Z.heap.size = w.heap.size + 2 := by rw [hZ]; simp
  have k0 := Lib.hid (show Z.cell? ⟨w.heap.size, 0, none⟩ = some (.int .i64 D.p) ∧ Z.cell? ⟨w.heap.size, 1, none⟩ = some (.int .i64 D.m) ∧ Z.cell? ⟨w.heap.size, 2, none⟩ = some (.slice A D.mod.length c) ∧ Z.cell? ⟨w.heap.size, 3, none⟩ = some (.int .i64 K) ∧ Z.cell? ⟨w.heap.size, 4, none⟩ = some (.slice A1 pts.length c1) ∧ Z.cell? ⟨w.heap.size, 5, none⟩ = some (.slice A2 mul.length c2) from by rw [hZ]; simp [go_sem])
  have k1 : Two Z (w.heap.size + 1) (.int .i64 0) (.slice none 0 0) := by
    rw [hZ]; have := Two.new (w.alloc (.cells #[.int .i64 D.p, .int .i64 D.m, .slice A D.mod.length c, .int .i64 K, .slice A1 pts.length c1, .slice A2 mul.length c2] 49)) (.int .i64 0) (.slice none 0 0) 132; rw [World.size_alloc] at this; exact this
  have hN2 := hN Z ((hr.below hB).more hB.size) ((hr1.below hB).more hB.size) ((hr2.below hB).more hB.size)
  replace hZ := Lib.hid hZ
  clear hg hN
  go_enter Try.func100, Try.ntmps100
  go_wp2_with (fail)
  rw [← hZ.out]
  (with_reducible refine hN2.out.mono ?_)
  rintro e w1 ⟨hb1, g, F, rfl, hgf, hgl, ⟨hz, rfl⟩ | ⟨hz, rfl⟩⟩
  rotate_left
  · have hzb : (gchkD F.toDesc K pts mul != 0) = true := by rw [bne_iff_ne]; exact hz
    obtain ⟨a0, a1, f0, f1⟩ := k1.keep hb1 (by omega)
    clear k1
    have hBe := Lib.hid ((hB.trans (hb1.mono hB.size)).trans ((set2 (w3 := w1) (b := w.heap.size + 1) (.int .i64 0) (.slice none 0 0)).mono (Nat.le_succ _)))
    replace hz := Lib.hid hz
    go_wp2_with (fail)
    refine bodyPost_ret (v := .tuple #[.agg #[.int .i64 0, .slice none 0 0], .int .i64 (gchkD F.toDesc K pts mul)]) (by simp [results, Try.results100, go_sem, a0, a1]) rfl ⟨hBe.out, .inl ⟨hz.out, rfl⟩⟩
  obtain ⟨hp1, hp64, hlen, -, hel, -, -, hK0, hKn⟩ := gchkD_zero hz
  obtain ⟨kn, rfl⟩ := Int.eq_ofNat_of_zero_le hK0
  have hs1 := hb1.size
  have hB1 := hB.trans (hb1.mono hB.size)
  have r1 := k1.keep hb1 (by omega)
  have kk1 := keep6 hb1 (by omega) k0.out
  rw [hlen] at kk1
  simp only [hlen]
  have hG := Lib.hid (gGen_any F kn pts.length pts mul A A1 A2 c c1 c2 g w1 hgf ((hr1.below hB1).more hB1.size) ((hr2.below hB1).more hB1.size) rfl hlen hp1 hp64 (by omega) (of_decide_eq_true hel))
  obtain ⟨q0, q1, q2, q3, q4, q5⟩ := kk1
  replace hz := Lib.hid hz
  replace hlen := Lib.hid hlen
  replace hel := Lib.hid hel
  clear hN2 k0 hr hr1 hr2
  go_wp2_with (fail)
  (with_reducible refine hG.out.mono ?_)
  rintro e w2 ⟨Al, cl, rfl, hru, hb2⟩
  have hs2 := hb2.size
  obtain ⟨a0, a1, f0, f1⟩ := r1.keep hb2 (by omega)
  have hBf := Lib.hid ((hB1.trans (hb2.mono hB1.size)).trans ((set2 (w3 := w2) (b := w.heap.size + 1) (.int .i64 pts.length) (.slice Al kn cl)).mono (Nat.le_succ _)))
  have hrf : Hid (RdMU ((w2.setCell ⟨w.heap.size + 1, 0, none⟩ (.int .i64 pts.length)).setCell ⟨w.heap.size + 1, 1, none⟩ (.slice Al kn cl)) w1.heap.size w2.heap.size Al kn (rowsL F.toDesc pts.length (gM F.toDesc pts mul))) := hru.keepU fun p hp _ => set2_above (b := w.heap.size + 1) (L := w1.heap.size) (by omega) _ _ p hp
  have hsz : Hid (w2.heap.size ≤ ((w2.setCell ⟨w.heap.size + 1, 0, none⟩ (.int .i64 pts.length)).setCell ⟨w.heap.size + 1, 1, none⟩ (.slice Al kn cl)).heap.size) := by unfold Hid; simp [World.setCell]
  clear hru hG r1
  go_wp2_with (fail)
  refine bodyPost_ret (v := .tuple #[.agg #[.int .i64 pts.length, .slice Al kn cl], .int .i64 0]) (by simp [results, Try.results100, go_sem, a0, a1]) rfl ⟨hBf.out, .inr ⟨hz.out, Al, cl, rfl, hrf.out.rdm.more hsz.out⟩⟩

end Go.Proofs.Ytpflgmbcmfllgaa
