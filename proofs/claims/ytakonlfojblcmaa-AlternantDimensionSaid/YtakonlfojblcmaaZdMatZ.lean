/- Layer 18: Encode, Check, the reference's Elements. Layer 18 of the program: Standard. grs.Generator. -/
import Derived.Test.YtakonlfojblcmaaZdMatY
import Derived.Test.YtakonlfojblcmaaZdGrsC
namespace Go.Proofs.Ytakonlfojblcmaa
open Go.RowKit Cw

theorem gchkD_zero {D : Desc} {K : Int} {pts mul : List Int} (h : gchkD D K pts mul = 0) : 1 ≤ pts.length ∧ pts.length ≤ 64 ∧ mul.length = pts.length ∧ elB D pts = true ∧ elB D mul = true ∧ twB pts = false ∧ ¬ (0 : Int) ∈ mul ∧ 0 ≤ K ∧ K ≤ (pts.length : Int) := by
  unfold gchkD at h
  by_cases h1 : pts.length < 1 ∨ 64 < pts.length
  · rw [if_pos h1] at h; cases h
  rw [if_neg h1] at h
  by_cases h2 : mul.length ≠ pts.length
  · rw [if_pos h2] at h; cases h
  rw [if_neg h2] at h
  by_cases h3 : elB D pts = false ∨ elB D mul = false
  · rw [if_pos h3] at h; cases h
  rw [if_neg h3] at h
  by_cases h4 : twB pts = true
  · rw [if_pos h4] at h; cases h
  rw [if_neg h4] at h
  by_cases h5 : (0 : Int) ∈ mul
  · rw [if_pos h5] at h; cases h
  rw [if_neg h5] at h
  by_cases h6 : K < 0 ∨ (pts.length : Int) < K
  · rw [if_pos h6] at h; cases h
  refine ⟨by omega, by omega, Classical.not_not.1 h2, ?_, ?_, ?_, h5, by omega, by omega⟩
  · rcases Bool.eq_false_or_eq_true (elB D pts) with e | e
    · exact e
    · exact absurd (.inl e) h3
  · rcases Bool.eq_false_or_eq_true (elB D mul) with e | e
    · exact e
    · exact absurd (.inr e) h3
  · rwa [Bool.not_eq_true] at h4

set_option maxHeartbeats 1000000 in
theorem gCheck_D (D : Desc) (K : Int) (pts mul : List Int) (A A1 A2 : Option Addr) (c c1 c2 : Nat) (w : World) (hr : Rd w w.heap.size A (modL D)) (hg : Good D.p D.m (modL D)) (hr1 : Rd w w.heap.size A1 pts) (hr2 : Rd w w.heap.size A2 mul) (h1 : pts.length ≤ c1) (h1' : c1 ≤ maxLen) (h2 : mul.length ≤ maxLen) :
    Calls Try.prog 81 #[.agg #[.int .i64 D.p, .int .i64 D.m, .slice A D.mod.length c, .int .i64 K, .slice A1 pts.length c1, .slice A2 mul.length c2]] w fun e w' => e = .returned (.int .i64 (gchkD D K pts mul)) ∧ Below w.heap.size w w' := by
  have hO := fun W a b c' => Lib.hid (gOpen_D D K pts mul A A1 A2 c c1 c2 W a hg b c' h1 h1' h2)
  have hB : Below w.heap.size w (w.alloc (.cells #[.int .i64 D.p, .int .i64 D.m, .slice A D.mod.length c, .int .i64 K, .slice A1 pts.length c1, .slice A2 mul.length c2] 26)) := (Below.refl _ _).alloc (Nat.le_refl _) _
  have hO2 := hO _ ((hr.below hB).more hB.size) ((hr1.below hB).more hB.size) ((hr2.below hB).more hB.size)
  clear hO hg
  go_enter Try.func81, Try.ntmps81
  go_wp2_with (fail)
  (with_reducible refine hO2.out.mono ?_)
  rintro e w1 ⟨hb1, g, F, rfl, hgf, hgl, ⟨hz, rfl⟩ | ⟨hz, rfl⟩⟩
  · replace hz := Lib.hid hz
    go_wp2_with (fail)
    go_ret
    exact ⟨by rw [hz.out]; rfl, hB.trans (hb1.mono hB.size)⟩
  · clear hz
    go_wp2_with (fail)
    go_ret
    exact ⟨rfl, hB.trans (hb1.mono hB.size)⟩

end Go.Proofs.Ytakonlfojblcmaa

namespace Go.Proofs.Ytakonlfojblcmaa
open Go.RowKit Cw

def Six (w : World) (b : Nat) (v0 v1 v2 v3 v4 v5 : Value) : Prop :=
  w.cell? ⟨b, 0, none⟩ = some v0 ∧ w.cell? ⟨b, 1, none⟩ = some v1 ∧ w.cell? ⟨b, 2, none⟩ = some v2 ∧ w.cell? ⟨b, 3, none⟩ = some v3 ∧ w.cell? ⟨b, 4, none⟩ = some v4 ∧ w.cell? ⟨b, 5, none⟩ = some v5 ∧
  w.frozen? ⟨b, 0, none⟩ = false ∧ w.frozen? ⟨b, 1, none⟩ = false ∧ w.frozen? ⟨b, 2, none⟩ = false ∧ w.frozen? ⟨b, 3, none⟩ = false ∧ w.frozen? ⟨b, 4, none⟩ = false ∧ w.frozen? ⟨b, 5, none⟩ = false
theorem Six.keep {B b : Nat} {w w1 : World} {v0 v1 v2 v3 v4 v5 : Value} (h : Six w b v0 v1 v2 v3 v4 v5) (hb : Below B w w1) (hlt : b < B) : Six w1 b v0 v1 v2 v3 v4 v5 := by
  obtain ⟨a0, a1, a2, a3, a4, a5, f0, f1, f2, f3, f4, f5⟩ := h
  exact ⟨(hb.cell (p := ⟨b, 0, none⟩) hlt).trans a0, (hb.cell (p := ⟨b, 1, none⟩) hlt).trans a1, (hb.cell (p := ⟨b, 2, none⟩) hlt).trans a2, (hb.cell (p := ⟨b, 3, none⟩) hlt).trans a3, (hb.cell (p := ⟨b, 4, none⟩) hlt).trans a4, (hb.cell (p := ⟨b, 5, none⟩) hlt).trans a5,
    (hb.frozen (p := ⟨b, 0, none⟩) hlt).trans f0, (hb.frozen (p := ⟨b, 1, none⟩) hlt).trans f1, (hb.frozen (p := ⟨b, 2, none⟩) hlt).trans f2, (hb.frozen (p := ⟨b, 3, none⟩) hlt).trans f3, (hb.frozen (p := ⟨b, 4, none⟩) hlt).trans f4, (hb.frozen (p := ⟨b, 5, none⟩) hlt).trans f5⟩
theorem Six.new (w : World) (v0 v1 v2 v3 v4 v5 : Value) (t : TypeId) : Six (w.alloc (.cells #[v0, v1, v2, v3, v4, v5] t)) w.heap.size v0 v1 v2 v3 v4 v5 := by
  obtain ⟨a0, a1, a2, a3, a4, a5⟩ := alloc6 w v0 v1 v2 v3 v4 v5 t
  exact ⟨a0, a1, a2, a3, a4, a5, World.frozen?_alloc_at _ _ _ _ rfl, World.frozen?_alloc_at _ _ _ _ rfl, World.frozen?_alloc_at _ _ _ _ rfl, World.frozen?_alloc_at _ _ _ _ rfl, World.frozen?_alloc_at _ _ _ _ rfl, World.frozen?_alloc_at _ _ _ _ rfl⟩
theorem set6 {w3 : World} {b : Nat} (u0 u1 u2 u3 u4 u5 : Value) : Below b w3 ((((((w3.setCell ⟨b, 0, none⟩ u0).setCell ⟨b, 1, none⟩ u1).setCell ⟨b, 2, none⟩ u2).setCell ⟨b, 3, none⟩ u3).setCell ⟨b, 4, none⟩ u4).setCell ⟨b, 5, none⟩ u5) :=
  ((((((Below.refl _ _).setCell (p := ⟨b, 0, none⟩) (Nat.le_refl _) _).setCell (p := ⟨b, 1, none⟩) (Nat.le_refl _) _).setCell (p := ⟨b, 2, none⟩) (Nat.le_refl _) _).setCell (p := ⟨b, 3, none⟩) (Nat.le_refl _) _).setCell (p := ⟨b, 4, none⟩) (Nat.le_refl _) _).setCell (p := ⟨b, 5, none⟩) (Nat.le_refl _) _

theorem Rd.set6 {w : World} {B b : Nat} {A : Option Addr} {l : List Int} (h : Rd w B A l) (hA : ∀ a, A = some a → a.block ≠ b) (u0 u1 u2 u3 u4 u5 : Value) : Rd ((((((w.setCell ⟨b, 0, none⟩ u0).setCell ⟨b, 1, none⟩ u1).setCell ⟨b, 2, none⟩ u2).setCell ⟨b, 3, none⟩ u3).setCell ⟨b, 4, none⟩ u4).setCell ⟨b, 5, none⟩ u5) B A l :=
  (((((h.far hA 0 u0).far hA 1 u1).far hA 2 u2).far hA 3 u3).far hA 4 u4).far hA 5 u5

end Go.Proofs.Ytakonlfojblcmaa

namespace Go.Proofs.Ytakonlfojblcmaa
open Go.RowKit Cw
attribute [local go_sem] Oper.semAt_some

def Two (w : World) (b : Nat) (v0 v1 : Value) : Prop := w.cell? ⟨b, 0, none⟩ = some v0 ∧ w.cell? ⟨b, 1, none⟩ = some v1 ∧ w.frozen? ⟨b, 0, none⟩ = false ∧ w.frozen? ⟨b, 1, none⟩ = false
theorem Two.keep {B b : Nat} {w w1 : World} {v0 v1 : Value} (h : Two w b v0 v1) (hb : Below B w w1) (hlt : b < B) : Two w1 b v0 v1 :=
  ⟨(hb.cell (p := ⟨b, 0, none⟩) hlt).trans h.1, (hb.cell (p := ⟨b, 1, none⟩) hlt).trans h.2.1, (hb.frozen (p := ⟨b, 0, none⟩) hlt).trans h.2.2.1, (hb.frozen (p := ⟨b, 1, none⟩) hlt).trans h.2.2.2⟩
theorem Two.new (w : World) (v0 v1 : Value) (t : TypeId) : Two (w.alloc (.cells #[v0, v1] t)) w.heap.size v0 v1 := by unfold Two; simp [go_sem]

def GenrPost (D : Desc) (K : Int) (pts mul : List Int) (w : World) (e : Ending) (w' : World) : Prop :=
  Below w.heap.size w w' ∧ ((gchkD D K pts mul ≠ 0 ∧ e = .returned (.tuple #[.agg #[.int .i64 0, .slice none 0 0], .int .i64 (gchkD D K pts mul)])) ∨
    (gchkD D K pts mul = 0 ∧ ∃ Al cl, e = .returned (.tuple #[.agg #[.int .i64 pts.length, .slice Al K.toNat cl], .int .i64 0]) ∧ RdM w' w'.heap.size Al K.toNat (rowsL D pts.length (gM D pts mul))))
set_option maxRecDepth 100000 in
set_option maxHeartbeats 2000000 in
theorem gGenr_D (D : Desc) (K : Int) (pts mul : List Int) (A A1 A2 : Option Addr) (c c1 c2 : Nat) (w : World) (hr : Rd w w.heap.size A (modL D)) (hg : Good D.p D.m (modL D)) (hr1 : Rd w w.heap.size A1 pts) (hr2 : Rd w w.heap.size A2 mul) (h1 : pts.length ≤ c1) (h1' : c1 ≤ maxLen) (h2 : mul.length ≤ maxLen) :
    Calls Try.prog 50 #[.agg #[.int .i64 D.p, .int .i64 D.m, .slice A D.mod.length c, .int .i64 K, .slice A1 pts.length c1, .slice A2 mul.length c2]] w (GenrPost D K pts mul w) := by
  have hN := fun W a b c' => Lib.hid (gOpen_D D K pts mul A A1 A2 c c1 c2 W a hg b c' h1 h1' h2)
  obtain ⟨Z, hZ⟩ : ∃ Z, Z = (w.alloc (.cells #[.int .i64 D.p, .int .i64 D.m, .slice A D.mod.length c, .int .i64 K, .slice A1 pts.length c1, .slice A2 mul.length c2] 26)).alloc (.cells #[.int .i64 0, .slice none 0 0] 92) := ⟨_, rfl⟩
  have hB : Below w.heap.size w Z := by rw [hZ]; exact ((Below.refl _ _).alloc (Nat.le_refl _) _).alloc (by simp) _
  have hZs : Z.heap.size = w.heap.size + 2 := by rw [hZ]; simp
  have k0 := Lib.hid (show Z.cell? ⟨w.heap.size, 0, none⟩ = some (.int .i64 D.p) ∧ Z.cell? ⟨w.heap.size, 1, none⟩ = some (.int .i64 D.m) ∧ Z.cell? ⟨w.heap.size, 2, none⟩ = some (.slice A D.mod.length c) ∧ Z.cell? ⟨w.heap.size, 3, none⟩ = some (.int .i64 K) ∧ Z.cell? ⟨w.heap.size, 4, none⟩ = some (.slice A1 pts.length c1) ∧ Z.cell? ⟨w.heap.size, 5, none⟩ = some (.slice A2 mul.length c2) from by rw [hZ]; simp [go_sem])
  have k1 : Two Z (w.heap.size + 1) (.int .i64 0) (.slice none 0 0) := by
    rw [hZ]; have := Two.new (w.alloc (.cells #[.int .i64 D.p, .int .i64 D.m, .slice A D.mod.length c, .int .i64 K, .slice A1 pts.length c1, .slice A2 mul.length c2] 26)) (.int .i64 0) (.slice none 0 0) 92; rw [World.size_alloc] at this; exact this
  have hN2 := hN Z ((hr.below hB).more hB.size) ((hr1.below hB).more hB.size) ((hr2.below hB).more hB.size)
  replace hZ := Lib.hid hZ
  clear hg hN
  go_enter Try.func50, Try.ntmps50
  go_wp2_with (fail)
  rw [← hZ.out]
  (with_reducible refine hN2.out.mono ?_)
  rintro e w1 ⟨hb1, g, F, rfl, hgf, hgl, ⟨hz, rfl⟩ | ⟨hz, rfl⟩⟩
  rotate_left
  · have hzb : (gchkD F.toDesc K pts mul != 0) = true := by rw [bne_iff_ne]; exact hz
    obtain ⟨a0, a1, f0, f1⟩ := k1.keep hb1 (by omega)
    clear k1
    have hBe := Lib.hid ((hB.trans (hb1.mono hB.size)).trans ((set2 (w3 := w1) (b := w.heap.size + 1) (.int .i64 0) (.slice none 0 0)).mono (Nat.le_succ _)))
    replace hz := Lib.hid hz
    go_wp2_with (fail)
    refine bodyPost_ret (v := .tuple #[.agg #[.int .i64 0, .slice none 0 0], .int .i64 (gchkD F.toDesc K pts mul)]) (by simp [results, Try.results50, go_sem, a0, a1]) rfl ⟨hBe.out, .inl ⟨hz.out, rfl⟩⟩
  obtain ⟨hp1, hp64, hlen, -, hel, -, -, hK0, hKn⟩ := gchkD_zero hz
  obtain ⟨kn, rfl⟩ := Int.eq_ofNat_of_zero_le hK0
  have hs1 := hb1.size
  have hB1 := hB.trans (hb1.mono hB.size)
  have r1 := k1.keep hb1 (by omega)
  have kk1 := keep6 hb1 (by omega) k0.out
  rw [hlen] at kk1
  simp only [hlen]
  have hG := Lib.hid (gGen_any F kn pts.length pts mul A A1 A2 c c1 c2 g w1 hgf ((hr1.below hB1).more hB1.size) ((hr2.below hB1).more hB1.size) rfl hlen hp1 hp64 (by omega) (of_decide_eq_true hel))
  obtain ⟨q0, q1, q2, q3, q4, q5⟩ := kk1
  replace hz := Lib.hid hz
  replace hlen := Lib.hid hlen
  replace hel := Lib.hid hel
  clear hN2 k0 hr hr1 hr2
  go_wp2_with (fail)
  (with_reducible refine hG.out.mono ?_)
  rintro e w2 ⟨Al, cl, rfl, hru, hb2⟩
  have hs2 := hb2.size
  obtain ⟨a0, a1, f0, f1⟩ := r1.keep hb2 (by omega)
  have hBf := Lib.hid ((hB1.trans (hb2.mono hB1.size)).trans ((set2 (w3 := w2) (b := w.heap.size + 1) (.int .i64 pts.length) (.slice Al kn cl)).mono (Nat.le_succ _)))
  have hrf : Hid (RdMU ((w2.setCell ⟨w.heap.size + 1, 0, none⟩ (.int .i64 pts.length)).setCell ⟨w.heap.size + 1, 1, none⟩ (.slice Al kn cl)) w1.heap.size w2.heap.size Al kn (rowsL F.toDesc pts.length (gM F.toDesc pts mul))) := hru.keepU fun p hp _ => set2_above (b := w.heap.size + 1) (L := w1.heap.size) (by omega) _ _ p hp
  have hsz : Hid (w2.heap.size ≤ ((w2.setCell ⟨w.heap.size + 1, 0, none⟩ (.int .i64 pts.length)).setCell ⟨w.heap.size + 1, 1, none⟩ (.slice Al kn cl)).heap.size) := by unfold Hid; simp [World.setCell]
  clear hru hG r1
  go_wp2_with (fail)
  refine bodyPost_ret (v := .tuple #[.agg #[.int .i64 pts.length, .slice Al kn cl], .int .i64 0]) (by simp [results, Try.results50, go_sem, a0, a1]) rfl ⟨hBf.out, .inr ⟨hz.out, Al, cl, rfl, hrf.out.rdm.more hsz.out⟩⟩

end Go.Proofs.Ytakonlfojblcmaa
