/- TowerAutomorphisms: the walk. -/
import Derived.Test.YteamndefbpdcjaaL01
namespace Go.Proofs.Yteamndefbpdcjaa
open Go.RowKit Go.Shelf Cw
attribute [local go_sem] Oper.semAt_some

theorem kmod_opp {m : Nat} (hm : 1 ≤ m) (k : Int) : ∃ j, kmod m (-k) + kmod m k = m * j := by
  have h1 : (kmod m k : Int) = k % (m : Int) := Int.toNat_of_nonneg (Int.emod_nonneg k (by omega))
  have h2 : (kmod m (-k) : Int) = (-k) % (m : Int) := Int.toNat_of_nonneg (Int.emod_nonneg _ (by omega))
  have h3 : ((kmod m (-k) + kmod m k : Nat) : Int) % (m : Int) = 0 := by
    rw [Int.natCast_add, h1, h2, ← Int.add_emod, Int.add_left_neg, Int.zero_emod]
  have h4 : (kmod m (-k) + kmod m k) % m = 0 := by
    have := h3
    rw [← Int.natCast_emod] at this
    omega
  exact ⟨_, (Nat.mul_div_cancel' (Nat.dvd_of_mod_eq_zero h4)).symm⟩
theorem frob_back {D : FD} (k : Int) (u : R D.toDesc) : frob (kmod D.m (-k)) (frob (kmod D.m k) u) = u := by
  obtain ⟨j, hj⟩ := kmod_opp D.m1 k
  rw [frob_frob, hj]
  exact frob_Mmul (F := R D.toDesc) j u

set_option maxHeartbeats 1000000 in
theorem autL_bad (P M : Int) (ml : List Int) (A : Option Addr) (c : Nat) (x1 y1 : Int) (x2 : Int) (w : World) (hP : I64 P) (hM : I64 M) (hl : ml.length ≤ maxLen) (hr : Rd w w.heap.size A ml) (hb : ¬ Good P M ml) :
    Calls Try.prog 4 #[.agg #[.int .i64 P, .int .i64 M, .slice A ml.length c], .agg #[.int .i64 x1, .int .i64 y1], .int .i64 x2] w (LawEnd w) := by
  have hA := fun W => Lib.hid (alive_any W)
  have hM := fun W (h : Rd W W.heap.size A ml) => Lib.hid (made_bad P M ml A c W hP.2 hM.2 hl h hb)
  have hB : Below w.heap.size w ((w.alloc (.cells #[.int .i64 P, .int .i64 M, .slice A ml.length c] 24)).alloc (.cells #[.int .i64 x1, .int .i64 y1] 31)) := (((Below.refl _ _).alloc (by simp) _).alloc (by simp) _)
  have k0 := Lib.hid (show (((w.alloc (.cells #[.int .i64 P, .int .i64 M, .slice A ml.length c] 24)).alloc (.cells #[.int .i64 x1, .int .i64 y1] 31))).cell? ⟨w.heap.size, 0, none⟩ = some (.int .i64 P) ∧ (((w.alloc (.cells #[.int .i64 P, .int .i64 M, .slice A ml.length c] 24)).alloc (.cells #[.int .i64 x1, .int .i64 y1] 31))).cell? ⟨w.heap.size, 1, none⟩ = some (.int .i64 M) ∧ (((w.alloc (.cells #[.int .i64 P, .int .i64 M, .slice A ml.length c] 24)).alloc (.cells #[.int .i64 x1, .int .i64 y1] 31))).cell? ⟨w.heap.size, 2, none⟩ = some (.slice A ml.length c) from by simp [go_sem])
  clear hP hl hb
  go_enter Try.func4, Try.ntmps4
  go_wp2_with (fail)
  refine (hA _).out.mono ?_
  rintro e w1 ⟨rfl, hb1⟩
  obtain ⟨ka, kb, kc⟩ := keep3 hb1 (by simp; try omega) k0.out
  have hr1 := (((hr.below hB).more hB.size).below hb1).more hb1.size
  have hB1 := hB.trans (hb1.mono hB.size)
  have hM1 := hM _ hr1
  clear hM hA
  go_wp2_with (fail)
  refine hM1.out.mono ?_
  rintro e w2 ⟨rfl, hb2⟩
  go_wp2_with (fail)
  go_ret
  exact ⟨rfl, hB1.trans (hb2.mono hB1.size)⟩

set_option maxRecDepth 100000 in
set_option maxHeartbeats 2000000 in
theorem autL_good (D : Desc) (A : Option Addr) (c : Nat) (x1 y1 : Int) (x2 : Int) (w : World) (hx2 : I64 x2) (hr : Rd w w.heap.size A (modL D)) (hb : Good D.p D.m (modL D)) :
    Calls Try.prog 4 #[.agg #[.int .i64 D.p, .int .i64 D.m, .slice A D.mod.length c], .agg #[.int .i64 x1, .int .i64 y1], .int .i64 x2] w (LawEnd w) := by
  have hp2 := D.m8; have hm1 := D.m1
  have hA := fun W => Lib.hid (alive_any W)
  have hM := fun W (h : Rd W W.heap.size A (modL D)) => Lib.hid (made_good D A c W h hb)
  have hB : Below w.heap.size w ((w.alloc (.cells #[.int .i64 D.p, .int .i64 D.m, .slice A D.mod.length c] 24)).alloc (.cells #[.int .i64 x1, .int .i64 y1] 31)) := (((Below.refl _ _).alloc (by simp) _).alloc (by simp) _)
  have k0 := Lib.hid (show (((w.alloc (.cells #[.int .i64 D.p, .int .i64 D.m, .slice A D.mod.length c] 24)).alloc (.cells #[.int .i64 x1, .int .i64 y1] 31))).cell? ⟨w.heap.size, 0, none⟩ = some (.int .i64 D.p) ∧ (((w.alloc (.cells #[.int .i64 D.p, .int .i64 D.m, .slice A D.mod.length c] 24)).alloc (.cells #[.int .i64 x1, .int .i64 y1] 31))).cell? ⟨w.heap.size, 1, none⟩ = some (.int .i64 D.m) ∧ (((w.alloc (.cells #[.int .i64 D.p, .int .i64 D.m, .slice A D.mod.length c] 24)).alloc (.cells #[.int .i64 x1, .int .i64 y1] 31))).cell? ⟨w.heap.size, 2, none⟩ = some (.slice A D.mod.length c) from by simp [go_sem])
  have p0 := Lib.hid (show (((w.alloc (.cells #[.int .i64 D.p, .int .i64 D.m, .slice A D.mod.length c] 24)).alloc (.cells #[.int .i64 x1, .int .i64 y1] 31))).cell? ⟨w.heap.size + 1, 0, none⟩ = some (.int .i64 x1) ∧ (((w.alloc (.cells #[.int .i64 D.p, .int .i64 D.m, .slice A D.mod.length c] 24)).alloc (.cells #[.int .i64 x1, .int .i64 y1] 31))).cell? ⟨w.heap.size + 1, 1, none⟩ = some (.int .i64 y1) from by simp [go_sem])
  go_enter Try.func4, Try.ntmps4
  go_wp2_with (fail)
  refine (hA _).out.mono ?_
  rintro e w1 ⟨rfl, hb1⟩
  obtain ⟨ka, kb, kc⟩ := keep3 hb1 (by simp; try omega) k0.out
  have p1 := Lib.hid (keep2 hb1 (by simp) p0.out)
  have hr1 := (((hr.below hB).more hB.size).below hb1).more hb1.size
  have hB1 := hB.trans (hb1.mono hB.size)
  have hM1 := hM _ hr1
  clear hM hA
  go_wp2_with (fail)
  refine hM1.out.mono ?_
  rintro e w2 ⟨hb2, ⟨g, F, rfl, rfl, hgl, hg⟩ | ⟨-, rfl⟩⟩
  rotate_left
  · go_wp2_with (fail)
    go_ret
    exact ⟨rfl, hB1.trans (hb2.mono hB1.size)⟩
  have hlt2 : w.heap.size < w2.heap.size := by have := hb1.size; have := hb2.size; simp only [World.size_alloc] at *; omega
  have hlt2b : w.heap.size + 1 < w2.heap.size := by have := hb1.size; have := hb2.size; simp only [World.size_alloc] at *; omega
  have kk2 := Lib.hid (keep3 hb2 (by have := hb1.size; simp only [World.size_alloc] at this; omega) ⟨ka, kb, kc⟩)
  have pk2 := Lib.hid (keep2 hb2 (by have := hb1.size; simp only [World.size_alloc] at this; omega) p1.out)
  have hB2 := hB1.trans (hb2.mono hB1.size)
  have hr2 := (hr1.below hb2).more hb2.size
  clear ka kb kc hr1 hM1 hb hb1 hB hB1 k0 hr p0 p1
  obtain ⟨ka, kb, kc⟩ := kk2.out
  clear hb2
  by_cases hk1 : x2 < -1000
  · go_wp2_with (fail)
    go_ret
    exact ⟨rfl, hB2⟩
  by_cases hk2 : 1000 < x2
  · go_wp2_with (fail)
    go_ret
    exact ⟨rfl, hB2⟩
  have kp2 := Lib.hid (show _ ∧ _ ∧ _ ∧ _ ∧ _ from ⟨ka, kb, kc, pk2.out.1, pk2.out.2⟩)
  clear kk2 ka kb kc
  have hlt2' : w.heap.size + 1 < w2.heap.size := hlt2b
  obtain ⟨pa, pb⟩ := pk2.out
  have hF0 := fun W hg => Lib.hid (tFrob_any F x1 x2 g W hg hx2.1 hx2.2)
  have hF1 := fun W hg => Lib.hid (tFrob_any F y1 x2 g W hg hx2.1 hx2.2)
  have hA1 := fun W => Lib.hid (Add_any F.toDesc x1 y1 A F.mod.length c W)
  have hM1 := fun W hr => Lib.hid (Mul_any F.toDesc x1 y1 A c W hr)
  have hI := fun W => Lib.hid (In_any F.toDesc x1 A F.mod.length c W)
  have hback := Lib.hid (frob_back x2 (eli F.toDesc x1))
  generalize hu0 : eli F.toDesc x1 = u at *
  generalize hv0 : eli F.toDesc y1 = v at *
  have hFs := fun W hg => Lib.hid (tFrob_any F (ci (u + v)) x2 g W hg hx2.1 hx2.2)
  have hFm := fun W hg => Lib.hid (tFrob_any F (ci (u * v)) x2 g W hg hx2.1 hx2.2)
  have hFn := fun W hg => Lib.hid (tFrob_any F (ci (frob (kmod F.m x2) u)) (-x2) g W hg (by omega) (by omega))
  have hA2 := fun W => Lib.hid (Add_any F.toDesc (ci (frob (kmod F.m x2) u)) (ci (frob (kmod F.m x2) v)) A F.mod.length c W)
  have hM2 := fun W hr => Lib.hid (Mul_any F.toDesc (ci (frob (kmod F.m x2) u)) (ci (frob (kmod F.m x2) v)) A c W hr)
  simp only [eli_ci, frob_add] at hFs hA2
  simp only [eli_ci, frob_mul] at hFm hM2
  simp only [eli_ci, hback.out] at hFn
  clear hback hu0 hv0
  generalize kmod F.m x2 = K at *
  generalize frob K u = fu at *
  generalize frob K v = fv at *
  go_wp2_with (fail)
  go_region_held3 (fun w' => w'.cell? ⟨w.heap.size, 0, none⟩ = some (.int .i64 F.p) ∧ w'.cell? ⟨w.heap.size, 1, none⟩ = some (.int .i64 F.m) ∧ w'.cell? ⟨w.heap.size, 2, none⟩ = some (.slice A F.mod.length c) ∧ w'.cell? ⟨w.heap.size + 1, 0, none⟩ = some (.int .i64 x1) ∧ w'.cell? ⟨w.heap.size + 1, 1, none⟩ = some (.int .i64 y1)) (first | exact kp2.out | exact kp3.out | exact kp4.out)
    (first
      | (go_at_call_of 22 (Value.int .i64 x1); (with_reducible refine (hF0 _ hg.drew).out.mono ?_); rintro e w3 ⟨rfl, hb3⟩; have kp3 := Lib.hid (keep5 hb3 hlt2 hlt2' kp2.out); have hg3 := (hg.drew.below hb3).more hb3.size; have hs3 : w2.heap.size ≤ w3.heap.size := hb3.size)
      | (go_at_call_of 22 (Value.int .i64 y1); (with_reducible refine (hF1 _ hg3).out.mono ?_); rintro e w4 ⟨rfl, hb4⟩; have kp4 := Lib.hid (keep5 hb4 (by omega) (by omega) kp3.out)))
  have hs4 := hb4.size
  have hg4 := (hg3.below hb4).more hs4
  have hr4 := (((hr2.drew.below hb3).more hb3.size).below hb4).more hs4
  have hB4 := (hB2.trans (Below.refl _ _).drew).trans ((hb3.mono hB2.size).trans (hb4.mono (by have := hB2.size; omega)))
  obtain ⟨k4a, k4b, k4c, k4d, k4e⟩ := kp4.out
  clear pa pb pk2 kp2 kp3 hg3 hb3 hb4 hF0 hF1 hg hr2 hB2
  go_wp2_with (fail)
  refine (hA1 _).out.mono ?_
  rintro e w5 ⟨rfl, hb5⟩
  have hs5 := hb5.size
  have hg5 := (hg4.below hb5).more hs5
  have hr5 := (hr4.below hb5).more hs5
  have kp5 := Lib.hid (keep5 hb5 (by omega) (by omega) kp4.out)
  have hB5 := hB4.trans (hb5.mono hB4.size)
  clear k4a k4b k4c k4d k4e hg4 hr4 hb5 hA1 kp4 hB4
  obtain ⟨k5a, k5b, k5c, k5d, k5e⟩ := kp5.out
  go_wp2_with (fail)
  refine (hFs _ hg5).out.mono ?_
  rintro e w6 ⟨rfl, hb6⟩
  have hs6 := hb6.size
  have hg6 := (hg5.below hb6).more hs6
  have hr6 := (hr5.below hb6).more hs6
  have kp6 := Lib.hid (keep5 hb6 (by omega) (by omega) kp5.out)
  have hB6 := hB5.trans (hb6.mono hB5.size)
  clear k5a k5b k5c k5d k5e hg5 hr5 hb6 hFs kp5 hB5
  obtain ⟨k6a, k6b, k6c, k6d, k6e⟩ := kp6.out
  go_wp2_with (fail)
  refine (hM1 _ hr6).out.mono ?_
  rintro e w7 ⟨rfl, hb7⟩
  have hs7 := hb7.size
  have hg7 := (hg6.below hb7).more hs7
  have hr7 := (hr6.below hb7).more hs7
  have kp7 := Lib.hid (keep5 hb7 (by omega) (by omega) kp6.out)
  have hB7 := hB6.trans (hb7.mono hB6.size)
  clear k6a k6b k6c k6d k6e hg6 hr6 hb7 hM1 kp6 hB6
  obtain ⟨k7a, k7b, k7c, k7d, k7e⟩ := kp7.out
  go_wp2_with (fail)
  refine (hFm _ hg7).out.mono ?_
  rintro e w8 ⟨rfl, hb8⟩
  have hs8 := hb8.size
  have hg8 := (hg7.below hb8).more hs8
  have hr8 := (hr7.below hb8).more hs8
  have kp8 := Lib.hid (keep5 hb8 (by omega) (by omega) kp7.out)
  have hB8 := hB7.trans (hb8.mono hB7.size)
  clear k7a k7b k7c k7d k7e hg7 hr7 hb8 hFm kp7 hB7
  have hwn : IntKind.i64.wrap (-x2) = -x2 := IntWalk.i64_in _ (by omega)
  have hl8 : w.heap.size < w8.heap.size := by omega
  have hl8b : w.heap.size + 1 < w8.heap.size := by omega
  go_wp2_with (fail)
  go_region_held3 (fun w' => w'.cell? ⟨w.heap.size, 0, none⟩ = some (.int .i64 F.p) ∧ w'.cell? ⟨w.heap.size, 1, none⟩ = some (.int .i64 F.m) ∧ w'.cell? ⟨w.heap.size, 2, none⟩ = some (.slice A F.mod.length c) ∧ w'.cell? ⟨w.heap.size + 1, 0, none⟩ = some (.int .i64 x1) ∧ w'.cell? ⟨w.heap.size + 1, 1, none⟩ = some (.int .i64 y1)) (first | exact kp8.out | exact kp9.out | exact kp10.out | exact kp11.out | exact kp12.out)
    (first
      | (go_at_call 24; (with_reducible refine (hA2 _).out.mono ?_); rintro e w9 ⟨rfl, hb9⟩; have hs9 : w8.heap.size ≤ w9.heap.size := hb9.size; have kp9 := Lib.hid (keep5 hb9 hl8 hl8b kp8.out); have hg9 := (hg8.drew.below hb9).more hb9.size; have hr9 := (hr8.drew.below hb9).more hb9.size)
      | (go_at_call 25; (with_reducible refine (hM2 _ hr9).out.mono ?_); rintro e w10 ⟨rfl, hb10⟩; have hs10 : w9.heap.size ≤ w10.heap.size := hb10.size; have kp10 := Lib.hid (keep5 hb10 (by omega) (by omega) kp9.out); have hg10 := (hg9.below hb10).more hb10.size)
      | (go_at_call 22; (with_reducible refine (hFn _ hg10).out.mono ?_); rintro e w11 ⟨rfl, hb11⟩; have hs11 : w10.heap.size ≤ w11.heap.size := hb11.size; have kp11 := Lib.hid (keep5 hb11 (by omega) (by omega) kp10.out))
      | (go_at_call 26; (with_reducible refine (hI _).out.mono ?_); rintro e w12 ⟨rfl, hb12⟩; have kp12 := Lib.hid (keep5 hb12 (by omega) (by omega) kp11.out)))
  go_wp2_with (fail)
  go_ret
  have := hB8.size
  exact ⟨rfl, (hB8.trans (Below.refl _ _).drew).trans ((((hb9.mono (by show _ ≤ w8.heap.size; omega)).trans (hb10.mono (by omega))).trans (hb11.mono (by omega))).trans (hb12.mono (by omega)))⟩
end Go.Proofs.Yteamndefbpdcjaa
