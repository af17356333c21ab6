/- GrsEncodes: the walk. -/
import Derived.Test.YtnbkmkeiophjoaaK01
namespace Go.Proofs.Ytnbkmkeiophjoaa
open Go.RowKit Cw

theorem same_refl (l : List Int) (A1 A2 : Option Addr) (c1 c2 : Nat) (w : World) (h1 : Rd w w.heap.size A1 l) (h2 : Rd w w.heap.size A2 l) (hl : l.length ≤ 1000000) :
    Calls Try.prog 26 #[.slice A1 l.length c1, .slice A2 l.length c2] w fun e w' => e = .returned (.bool true) ∧ Below w.heap.size w w' :=
  (same_any l l A1 A2 c1 c2 w h1 h2 hl hl).mono fun e w' h => ⟨by rw [h.1]; simp, h.2⟩

set_option maxHeartbeats 2000000 in
theorem encodesL_bad (P M K : Int) (ml pts mul : List Int) (A A1 A2 : Option Addr) (c c1 c2 : Nat) (l1 : List Int) (A3 : Option Addr) (c3 : Nat) (w : World) (hP : I64 P) (hM : I64 M) (hl : ml.length ≤ maxLen) (hr : Rd w w.heap.size A ml) (hb : ¬ Good P M ml) (_hK : I64 K) (h1 : pts.length ≤ c1 ∧ c1 ≤ maxLen) (_h2 : mul.length ≤ c2 ∧ c2 ≤ maxLen) (_hi : ∀ x ∈ pts, I64 x) (_hj : ∀ x ∈ mul, I64 x) (_hr1 : Rd w w.heap.size A1 pts) (_hr2 : Rd w w.heap.size A2 mul)
    (_h3 : l1.length ≤ c3) (h3' : c3 ≤ maxLen) (_hr3 : Rd w w.heap.size A3 l1) :
    Calls Try.prog 4 #[.agg #[.int .i64 P, .int .i64 M, .slice A ml.length c, .int .i64 K, .slice A1 pts.length c1, .slice A2 mul.length c2], .slice A3 l1.length c3] w (LawEnd w) := by
  have hA := fun W => Lib.hid (alive_any W)
  have hC := fun W h => Lib.hid (gEnc_bad P M K ml pts mul A A1 A2 c c1 c2 l1 A3 c3 W hP hM hl h hb)
  have hR := fun W h => Lib.hid (Chk18_bad P M K ml pts mul A A1 A2 c c1 c2 W hP hM hl h hb)
  have hm1 := h1.1; have hm2 := h1.2; have hm3 := h3'
  unfold maxLen at hm2 hm3
  have k0 := Lib.hid (alloc6 w (.int .i64 P) (.int .i64 M) (.slice A ml.length c) (.int .i64 K) (.slice A1 pts.length c1) (.slice A2 mul.length c2) 27)
  have hB : Below w.heap.size w (w.alloc (.cells #[.int .i64 P, .int .i64 M, .slice A ml.length c, .int .i64 K, .slice A1 pts.length c1, .slice A2 mul.length c2] 27)) := (Below.refl _ _).alloc (Nat.le_refl _) _
  clear hP hM hl hb
  go_enter Try.func4, Try.ntmps4
  go_wp2_with (fail)
  refine (hA _).out.mono ?_
  rintro e w1 ⟨rfl, hb1⟩
  have kk1 := Lib.hid (keep6 hb1 (by simp) k0.out)
  have hB1 := hB.trans (hb1.mono hB.size)
  obtain ⟨q0, q1, q2, q3, q4, q5⟩ := kk1.out
  have hlt1 : w.heap.size < w1.heap.size := by have := hb1.size; simp only [World.size_alloc] at this; omega
  by_cases h24 : 24 < pts.length
  · go_wp2_with (fail)
    go_ret
    exact ⟨rfl, hB1⟩
  by_cases h300 : 300 < l1.length
  · go_wp2_with (fail)
    go_ret
    exact ⟨rfl, hB1⟩
  go_wp2_with (fail)
  (with_reducible refine (hC w1 ((hr.below hB1).more hB1.size)).out.mono ?_)
  rintro e w2 ⟨rfl, hb2⟩
  have hB2 := hB1.trans (hb2.mono hB1.size)
  have kk2 := keep6 hb2 hlt1 kk1.out
  clear q0 q1 q2 q3 q4 q5
  obtain ⟨q0, q1, q2, q3, q4, q5⟩ := kk2
  go_wp2_with (fail)
  (with_reducible refine (hR w2 ((hr.below hB2).more hB2.size)).out.mono ?_)
  rintro e w3 ⟨rfl, hb3⟩
  have hB3 := hB2.trans (hb3.mono hB2.size)
  go_wp2_with (fail)
  go_ret
  exact ⟨rfl, hB3⟩

set_option maxRecDepth 100000 in
set_option maxHeartbeats 2000000 in
theorem encodesL_good (D : Desc) (K : Int) (pts mul : List Int) (A A1 A2 : Option Addr) (c c1 c2 : Nat) (l1 : List Int) (A3 : Option Addr) (c3 : Nat) (w : World) (hr : Rd w w.heap.size A (modL D)) (hb : Good D.p D.m (modL D)) (_hK : I64 K) (h1 : pts.length ≤ c1 ∧ c1 ≤ maxLen) (h2 : mul.length ≤ c2 ∧ c2 ≤ maxLen) (_hi : ∀ x ∈ pts, I64 x) (_hj : ∀ x ∈ mul, I64 x) (hr1 : Rd w w.heap.size A1 pts) (hr2 : Rd w w.heap.size A2 mul)
    (h3 : l1.length ≤ c3) (h3' : c3 ≤ maxLen) (hr3 : Rd w w.heap.size A3 l1) :
    Calls Try.prog 4 #[.agg #[.int .i64 D.p, .int .i64 D.m, .slice A D.mod.length c, .int .i64 K, .slice A1 pts.length c1, .slice A2 mul.length c2], .slice A3 l1.length c3] w (LawEnd w) := by
  have hA := fun W => Lib.hid (alive_any W)
  have hC := fun W h a b d => Lib.hid (gEnc_D D K pts mul A A1 A2 c c1 c2 l1 A3 c3 W h hb a b h1.1 h1.2 (Nat.le_trans h2.1 h2.2) d (Nat.le_trans h3 h3'))
  have hR := fun W h a b => Lib.hid (Chk18_D D K pts mul A A1 A2 c c1 c2 W h hb a b (Nat.le_trans h2.1 h2.2))
  have hE := fun W d => Lib.hid (Elems18_any D l1 K 3 A A3 c c3 W d (Nat.le_trans h3 h3'))
  have hm1 := h1.1; have hm2 := h1.2; have hm3 := h3'
  unfold maxLen at hm2 hm3
  have k0 := Lib.hid (alloc6 w (.int .i64 D.p) (.int .i64 D.m) (.slice A D.mod.length c) (.int .i64 K) (.slice A1 pts.length c1) (.slice A2 mul.length c2) 27)
  have hB : Below w.heap.size w (w.alloc (.cells #[.int .i64 D.p, .int .i64 D.m, .slice A D.mod.length c, .int .i64 K, .slice A1 pts.length c1, .slice A2 mul.length c2] 27)) := (Below.refl _ _).alloc (Nat.le_refl _) _
  clear hb
  go_enter Try.func4, Try.ntmps4
  go_wp2_with (fail)
  refine (hA _).out.mono ?_
  rintro e w1 ⟨rfl, hb1⟩
  have kk1 := Lib.hid (keep6 hb1 (by simp) k0.out)
  have hB1 := hB.trans (hb1.mono hB.size)
  obtain ⟨q0, q1, q2, q3, q4, q5⟩ := kk1.out
  have hlt1 : w.heap.size < w1.heap.size := by have := hb1.size; simp only [World.size_alloc] at this; omega
  by_cases h24 : 24 < pts.length
  · go_wp2_with (fail)
    go_ret
    exact ⟨rfl, hB1⟩
  by_cases h300 : 300 < l1.length
  · go_wp2_with (fail)
    go_ret
    exact ⟨rfl, hB1⟩
  go_wp2_with (fail)
  (with_reducible refine (hC w1 ((hr.below hB1).more hB1.size) ((hr1.below hB1).more hB1.size) ((hr2.below hB1).more hB1.size) ((hr3.below hB1).more hB1.size)).out.mono ?_)
  rintro e w2 ⟨hb2, ⟨hne, rfl⟩ | ⟨heq, A4, rfl, hr4⟩⟩
  · replace hne := Lib.hid hne
    have hB2 := hB1.trans (hb2.mono hB1.size)
    have kk2 := keep6 hb2 hlt1 kk1.out
    clear q0 q1 q2 q3 q4 q5
    have kk2H := Lib.hid kk2
    obtain ⟨q0, q1, q2, q3, q4, q5⟩ := kk2
    go_wp2_with (fail)
    (with_reducible refine (hR w2 ((hr.below hB2).more hB2.size) ((hr1.below hB2).more hB2.size) ((hr2.below hB2).more hB2.size)).out.mono ?_)
    rintro e w3 ⟨rfl, hb3⟩
    have hB3 := hB2.trans (hb3.mono hB2.size)
    have hlt2 : w.heap.size < w2.heap.size := Nat.lt_of_lt_of_le hlt1 hb2.size
    have kk3 := keep6 hb3 hlt2 kk2H.out
    clear q0 q1 q2 q3 q4 q5
    obtain ⟨q0, q1, q2, q3, q4, q5⟩ := kk3
    by_cases hz : gchkD D K pts mul = 0
    · have hee : Hid (encErr D K pts mul l1 = elErr D l1 K 3) := if_neg (fun h => h hz)
      have hzb : (gchkD D K pts mul == 0) = true := by rw [beq_iff_eq]; exact hz
      have hel : (elErr D l1 K 3 != 0) = true := by rw [bne_iff_ne, ← hee.out]; exact hne.out
      rw [hee.out]
      clear hz
      go_wp2_with (fail)
      (with_reducible refine (hE w3 ((hr3.below hB3).more hB3.size)).out.mono ?_)
      rintro e w4 ⟨rfl, hb4⟩
      go_wp2_with (fail)
      go_ret
      exact ⟨by simp, hB3.trans (hb4.mono hB3.size)⟩
    · have hee : Hid (encErr D K pts mul l1 = gchkD D K pts mul) := if_pos hz
      have hzb : (gchkD D K pts mul == 0) = false := by rw [beq_eq_false_iff_ne]; exact hz
      have hel : (gchkD D K pts mul != 0) = true := by rw [bne_iff_ne]; exact hz
      rw [hee.out]
      clear hz
      go_wp2_with (fail)
      go_ret
      exact ⟨by simp, hB3⟩
  · have hz : gchkD D K pts mul = 0 := Classical.byContradiction fun h => by
      rw [show encErr D K pts mul l1 = gchkD D K pts mul from if_pos h] at heq
      exact h heq
    have hee : elErr D l1 K 3 = 0 := (show encErr D K pts mul l1 = elErr D l1 K 3 from if_neg (fun h => h hz)) ▸ heq
    obtain ⟨-, hp64, hlen, -⟩ := gchkD_zero hz
    have hW := fun W a b d e' => Lib.hid (Word18_any D K pts mul l1 A A1 A2 A3 c c1 c2 c3 W a b d e' hlen hp64 (Nat.le_trans h3 h3'))
    have hwl := wordL_length D pts mul l1
    replace hlen := Lib.hid hlen
    have hB2 := hB1.trans (hb2.mono hB1.size)
    have kk2 := keep6 hb2 hlt1 kk1.out
    clear q0 q1 q2 q3 q4 q5
    have kk2H := Lib.hid kk2
    obtain ⟨q0, q1, q2, q3, q4, q5⟩ := kk2
    rw [hz] at hR
    rw [hee] at hE
    replace hwl := Lib.hid hwl
    clear hz heq hee
    go_wp2_with (fail)
    (with_reducible refine (hR w2 ((hr.below hB2).more hB2.size) ((hr1.below hB2).more hB2.size) ((hr2.below hB2).more hB2.size)).out.mono ?_)
    rintro e w3 ⟨rfl, hb3⟩
    have hB3 := hB2.trans (hb3.mono hB2.size)
    have hlt2 : w.heap.size < w2.heap.size := Nat.lt_of_lt_of_le hlt1 hb2.size
    have kk3 := keep6 hb3 hlt2 kk2H.out
    have kk3H := Lib.hid kk3
    clear q0 q1 q2 q3 q4 q5
    obtain ⟨q0, q1, q2, q3, q4, q5⟩ := kk3
    go_wp2_with (fail)
    (with_reducible refine (hE w3 ((hr3.below hB3).more hB3.size)).out.mono ?_)
    rintro e w4 ⟨rfl, hb4⟩
    have hB4 := hB3.trans (hb4.mono hB3.size)
    have hlt3 : w.heap.size < w3.heap.size := Nat.lt_of_lt_of_le hlt2 hb3.size
    have kk4 := keep6 hb4 hlt3 kk3H.out
    clear q0 q1 q2 q3 q4 q5
    obtain ⟨q0, q1, q2, q3, q4, q5⟩ := kk4
    go_wp2_with (fail)
    (with_reducible refine (hW w4 ((hr.below hB4).more hB4.size) ((hr1.below hB4).more hB4.size) ((hr2.below hB4).more hB4.size) ((hr3.below hB4).more hB4.size)).out.mono ?_)
    rintro e w5 ⟨g5, rfl, hg5, hib5, hb5⟩
    have hB5 := hB4.trans (hb5.mono hB4.size)
    have hb35 := (hb3.trans (hb4.mono hb3.size)).trans (hb5.mono (Nat.le_trans hb3.size hb4.size))
    have hS := Lib.hid (same_refl (wordL D pts mul l1) A4 (some ⟨g5, 0, none⟩) (wordL D pts mul l1).length (wordL D pts mul l1).length w5 ((hr4.below hb35).more hb35.size) hib5.rd (by rw [hwl.out]; omega))
    clear q0 q1 q2 q3 q4 q5 hib5
    go_wp2_with (fail)
    (with_reducible refine hS.out.mono ?_)
    rintro e w6 ⟨rfl, hb6⟩
    go_wp2_with (fail)
    go_ret
    exact ⟨rfl, hB5.trans (hb6.mono hB5.size)⟩
end Go.Proofs.Ytnbkmkeiophjoaa
