/- Layer 18: alive. -/
import Derived.Test.YtnbkmkeiophjoaaLaw8B
namespace Go.Proofs.Ytnbkmkeiophjoaa
open Go.RowKit Cw
open Cw.CField (inv)

theorem dual4 (F : FD) (hF : F.toDesc = D4) : dualL F (lst 3 fun i => (i : Int)) (lst 3 fun _ => 1) = [3, 2, 1] := by
  have key : ∀ i : Fin 3, rcode (dprod D4 (lst 3 fun i => (i : Int)) i.val (eli D4 ((lst 3 fun _ => (1 : Int))[i.val]?.getD 0)) 3 * rel D4 ([3, 2, 1].getD i.val 0)) = rcode (1 : R D4) := by decide +kernel
  have hq : F.toDesc.q = 4 := by rw [hF]; rfl
  rw [← hF] at key
  have h : ∀ i : Fin 3, dualV F (lst 3 fun i => (i : Int)) (lst 3 fun _ => 1) i.val = (([3, 2, 1].getD i.val 0 : Nat) : Int) := fun i => by
    have h1 := inv_unique (rcode_inj (key i))
    unfold dualV
    rw [show (lst 3 fun i => (i : Int)).length = 3 from rfl, ← h1]
    unfold ci
    rw [rcode_rel (by rw [hq]; match i with | 0 => decide | 1 => decide | 2 => decide)]
  have e : dualL F (lst 3 fun i => (i : Int)) (lst 3 fun _ => 1) = lst 3 fun i => (([3, 2, 1].getD i 0 : Nat) : Int) := lst_congr fun i hi => h ⟨i, hi⟩
  rw [e]; rfl

set_option maxHeartbeats 2000000 in
theorem alive_any (w : World) : Calls Try.prog 17 #[] w fun e w' => e = .returned (.bool true) ∧ Below w.heap.size w w' := by
  have hS := fun A c W hr => Lib.hid (gStd_D D4 3 2 A c W hr good4)
  go_enter Try.func17, Try.ntmps17
  go_wp2_with (fail)
  have hrd : Rd (w.alloc (.cells #[.int .i64 1, .int .i64 1] 3)) (w.alloc (.cells #[.int .i64 1, .int .i64 1] 3)).heap.size (some ⟨w.heap.size, 0, none⟩) (modL D4) := fun _ => ⟨w.heap.size, 0, rfl, by simp, fun j hj => by
    have hj4 : j < 2 := hj
    rcases (by omega : j = 0 ∨ j = 1) with rfl | rfl <;> simp [go_sem] <;> rfl⟩
  have hB0 : Below w.heap.size w (w.alloc (.cells #[.int .i64 1, .int .i64 1] 3)) := (Below.refl _ _).alloc (Nat.le_refl _) _
  refine (hS (some ⟨w.heap.size, 0, none⟩) 2 _ hrd).out.mono ?_
  rintro e w1 ⟨hb1, ⟨h, -⟩ | ⟨-, A3, c3, A1, c1, A2, c2, rfl, hr3, hr1, hr2, hc1, hc1'⟩⟩
  · exact absurd std4 h
  rw [show (3 : Int).toNat = 3 from rfl] at *
  have hB1 := hB0.trans (hb1.mono hB0.size)
  obtain ⟨pts, hpts⟩ : ∃ pts, pts = lst 3 fun i => (i : Int) := ⟨_, rfl⟩
  obtain ⟨mul, hmul⟩ : ∃ mul, mul = lst 3 fun _ => (1 : Int) := ⟨_, rfl⟩
  rw [← hpts] at hr1
  rw [← hmul] at hr2
  have hpl : pts.length = 3 := by rw [hpts]; rfl
  have hml : mul.length = 3 := by rw [hmul]; rfl
  have hE := fun A3' c3' W a b cc d => gEnc_D D4 2 pts mul A3 A1 A2 c3 c1 c2 [1, 1] A3' c3' W a good4 b cc (by rw [hpl]; exact hc1) hc1' (by rw [hml]; decide) d (by decide)
  rw [hpl, hml] at hE
  have hD := fun W a b cc => gDual_D D4 2 pts mul A3 A1 A2 c3 c1 c2 W a good4 b cc (by rw [hpl]; exact hc1) hc1' (by rw [hml]; decide)
  rw [hpl, hml] at hD
  replace hE := fun A3' c3' W a b cc d => Lib.hid (hE A3' c3' W a b cc d)
  replace hD := fun W a b cc => Lib.hid (hD W a b cc)
  have hX1 : Below w1.heap.size w1 (w1.alloc (.cells #[.int .i64 D4.p, .int .i64 D4.m, .slice A3 D4.mod.length c3, .int .i64 2, .slice A1 3 c1, .slice A2 3 c2] 27)) := (Below.refl _ _).alloc (Nat.le_refl _) _
  obtain ⟨X2, hX2⟩ : ∃ X2, X2 = (w1.alloc (.cells #[.int .i64 D4.p, .int .i64 D4.m, .slice A3 D4.mod.length c3, .int .i64 2, .slice A1 3 c1, .slice A2 3 c2] 27)).alloc (.cells #[.int .i64 1, .int .i64 1] 3) := ⟨_, rfl⟩
  have hb2 : Below w1.heap.size w1 X2 := by rw [hX2]; exact hX1.alloc hX1.size _
  have hm2 : Rd X2 X2.heap.size (some ⟨w1.heap.size + 1, 0, none⟩) [1, 1] := by
    rw [hX2]; exact fun _ => ⟨w1.heap.size + 1, 0, rfl, by simp, fun j hj => by
      have hj4 : j < 2 := hj
      rcases (by omega : j = 0 ∨ j = 1) with rfl | rfl <;> simp [go_sem]⟩
  have hs2 : X2.heap.size = w1.heap.size + 2 := by rw [hX2]; simp
  have kk : Six X2 w1.heap.size (.int .i64 D4.p) (.int .i64 D4.m) (.slice A3 D4.mod.length c3) (.int .i64 2) (.slice A1 3 c1) (.slice A2 3 c2) := by
    rw [hX2]; exact (Six.new w1 _ _ _ _ _ _ _).keep ((Below.refl _ _).alloc (Nat.le_refl _) _) (by simp)
  have hE2 := hE (some ⟨w1.heap.size + 1, 0, none⟩) 2 X2 ((hr3.below hb2).more hb2.size) ((hr1.below hb2).more hb2.size) ((hr2.below hb2).more hb2.size) hm2
  replace hX2 := Lib.hid hX2
  go_wp2_with (fail)
  rw [← hX2.out]
  refine hE2.out.mono ?_
  rintro e w2 ⟨hb3, ⟨h, -⟩ | ⟨-, A4, rfl, hr4⟩⟩
  · exact absurd (by rw [hpts, hmul]; exact enc4) h
  have hs3 := hb3.size
  have hB2 := hB1.trans (hb2.mono hB1.size)
  have hB3 := hB2.trans (hb3.mono hB2.size)
  have k3 := kk.keep hb3 (by omega)
  have hb23 := hb2.trans (hb3.mono hb2.size)
  have hD2 := hD w2 ((hr3.below hb23).more hb23.size) ((hr1.below hb23).more hb23.size) ((hr2.below hb23).more hb23.size)
  have hwl : wordL D4 pts mul [1, 1] = [1, 0, 3] := by rw [hpts, hmul]; exact word4
  rw [hwl] at hr4 ⊢
  obtain ⟨a0, a1, a2, a3, a4, a5, f0, f1, f2, f3, f4, f5⟩ := k3
  go_wp2_with (fail)
  refine hD2.out.mono ?_
  rintro e w3 ⟨hb4, ⟨h, -⟩ | ⟨-, F, hF, A5, c5, A6, c6, A7, c7, rfl, hr5, hr6, hr7, -, -⟩⟩
  · exact absurd (by rw [hpts, hmul]; exact chk4) h
  have hdl : dualL F pts mul = [3, 2, 1] := by rw [hpts, hmul]; exact dual4 F hF
  rw [hdl] at hr7
  rw [hpl] at *
  have hB4 := hB3.trans (hb4.mono hB3.size)
  go_wp2_with (fail)
  obtain ⟨X5, hX5⟩ : ∃ X5, X5 = (w3.alloc (.cells #[.int .i64 D4.p, .int .i64 D4.m, .slice A5 D4.mod.length c5, .int .i64 1, .slice A6 3 c6, .slice A7 3 c7] 27)).alloc (.cells #[.int .i64 1, .int .i64 0, .int .i64 3] 3) := ⟨_, rfl⟩
  have hb5 : Below w3.heap.size w3 X5 := by rw [hX5]; exact ((Below.refl _ _).alloc (Nat.le_refl _) _).alloc (by simp) _
  have hs5 : X5.heap.size = w3.heap.size + 2 := by rw [hX5]; simp
  have hm5 : Rd X5 X5.heap.size (some ⟨w3.heap.size + 1, 0, none⟩) [1, 0, 3] := by
    rw [hX5]; exact fun _ => ⟨w3.heap.size + 1, 0, rfl, by simp, fun j hj => by
      have hj4 : j < 3 := hj
      rcases (by omega : j = 0 ∨ j = 1 ∨ j = 2) with rfl | rfl | rfl <;> simp [go_sem]⟩
  have k5 : Six X5 w3.heap.size (.int .i64 D4.p) (.int .i64 D4.m) (.slice A5 D4.mod.length c5) (.int .i64 1) (.slice A6 3 c6) (.slice A7 3 c7) := by
    rw [hX5]; exact (Six.new w3 _ _ _ _ _ _ _).keep ((Below.refl _ _).alloc (Nat.le_refl _) _) (by simp)
  rw [← hX5]
  replace hX5 := Lib.hid hX5
  have hb45 := (hb4.trans (hb5.mono hb4.size))
  have hr45 := (hr4.below hb45).more hb45.size
  have hsm := same_any [1, 0, 3] [1, 0, 3] A4 (some ⟨w3.heap.size + 1, 0, none⟩) 3 3 X5 hr45 hm5 (by decide) (by decide)
  refine hsm.mono ?_
  rintro e w6 ⟨rfl, hb6⟩
  have hs6 := hb6.size
  have k6 := k5.keep hb6 (by omega)
  have hB6 := ((hB4.trans (hb5.mono hB4.size)).trans (hb6.mono (Nat.le_trans hB4.size hb5.size)))
  obtain ⟨b0, b1, b2, b3, b4, b5, -⟩ := k6
  go_wp2_with (fail)
  have hb7 : Below w6.heap.size w6 (w6.alloc (.cells #[.int .i64 3, .int .i64 2, .int .i64 1] 3)) := (Below.refl _ _).alloc (Nat.le_refl _) _
  have hm7 : Rd (w6.alloc (.cells #[.int .i64 3, .int .i64 2, .int .i64 1] 3)) (w6.alloc (.cells #[.int .i64 3, .int .i64 2, .int .i64 1] 3)).heap.size (some ⟨w6.heap.size, 0, none⟩) [3, 2, 1] :=
    fun _ => ⟨w6.heap.size, 0, rfl, by simp, fun j hj => by
      have hj4 : j < 3 := hj
      rcases (by omega : j = 0 ∨ j = 1 ∨ j = 2) with rfl | rfl | rfl <;> simp [go_sem]⟩
  have hb57 := (hb5.trans (hb6.mono hb5.size)).trans (hb7.mono (Nat.le_trans hb5.size hb6.size))
  have hsm2 := same_any [3, 2, 1] [3, 2, 1] A7 (some ⟨w6.heap.size, 0, none⟩) c7 3 _ ((hr7.below hb57).more hb57.size) hm7 (by decide) (by decide)
  refine hsm2.mono ?_
  rintro e w8 ⟨rfl, hb8⟩
  go_wp2_with (fail)
  go_ret
  exact ⟨rfl, (hB6.trans (hb7.mono hB6.size)).trans (hb8.mono (Nat.le_trans hB6.size hb7.size))⟩
end Go.Proofs.Ytnbkmkeiophjoaa
