/- The reference of layer 7: Trace, Norm, Subfield, Conjugates. -/
import Derived.Test.YteamndefbpdcjaaRef7
import Derived.Test.YteamndefbpdcjaaP2
import Derived.Deep.Onto
namespace Go.Proofs.Yteamndefbpdcjaa
open Go.RowKit Cw
open Cw.CField (inv)

noncomputable def frobs {D : FD} (d : Nat) (u : R D.toDesc) (n : Nat) : List Int := lst n fun i => ci (frob (d * i) u)

set_option maxHeartbeats 1000000 in
theorem Trace7_any (D : FD) (x : Int) (d : Nat) (A : Option Addr) (c : Nat) (w : World) (hr : Rd w w.heap.size A (modL D.toDesc)) (hd1 : 1 ≤ d) (hd2 : d ≤ 8) :
    Calls Try.prog 38 #[.agg #[.int .i64 D.p, .int .i64 D.m, .slice A D.mod.length c], .int .i64 x, .int .i64 d] w fun e w' =>
      e = .returned (.int .i64 (ci (tr d (eli D.toDesc x)))) ∧ Below w.heap.size w w' := by
  have hp0 := D.p2; have hp1 := D.p256; have hp2 := D.m8
  have hF : ∀ (j : Nat) (w : World), Rd w w.heap.size A (modL D.toDesc) → j ≤ 8 → Hid (Calls Try.prog 23 #[.agg #[.int .i64 D.p, .int .i64 D.m, .slice A D.mod.length c], .int .i64 x, .int .i64 ((d : Int) * (j : Int))] w fun e w' =>
      e = .returned (.int .i64 (ci (frob (d * j) (eli D.toDesc x)))) ∧ Below w.heap.size w w') := fun j w hr hj => by
    have h := Frob7_any D x (d * j) A c w hr (by have := Nat.mul_le_mul hd2 hj; omega)
    rw [Int.natCast_mul] at h; exact h
  have hA := fun y z w => Lib.hid (Add_any D.toDesc y z A D.mod.length c w)
  have hN : D.m / d ≤ 8 := Nat.le_trans (Nat.div_le_self _ _) hp2
  obtain ⟨N, hNe⟩ : ∃ N, N = D.m / d := ⟨_, rfl⟩
  rw [← hNe] at hN
  have hdiv : (D.m : Int) / (d : Int) = (N : Int) := by rw [hNe]; rfl
  have hfin : ∀ u : R D.toDesc, Hid (rsum N (fun i => frob (d * i) u) = tr d u) := fun u => by unfold Hid tr; rw [hNe]; rfl
  clear hNe
  generalize eli D.toDesc x = u at *
  have hbx0 := Bx.new w D.toDesc A D.mod.length c 24
  go_enter Try.func38, Try.ntmps38
  go_wp2_with (fail)
  go_loopw [7, 8] (fun o i wr => ∃ j : Nat, j ≤ N ∧ i = .int .i64 j ∧ o = .int .i64 (ci (rsum j (fun i => frob (d * i) u))) ∧ Bx wr w.heap.size D.toDesc A D.mod.length c ∧ Below w.heap.size w wr ∧ w.heap.size < wr.heap.size) (fun _ i _ => N - (intOf i).toNat)
  case atStart => exact ⟨0, by omega, rfl, by rw [rsum_zero, ci_zero], hbx0, (Below.refl _ _).alloc (Nat.le_refl _) _, by simp⟩
  case round =>
    obtain ⟨j, hj, rfl, rfl, hbx, hbw, hsz⟩ := hrel
    have kc := hbx
    obtain ⟨kc0, kc1, kc2⟩ := kc
    by_cases hlt2 : j < N
    · obtain ⟨hm1, hm2⟩ : (0 : Int) ≤ (d : Int) * (j : Int) ∧ (d : Int) * (j : Int) ≤ 64 := by
        have h1 := Nat.mul_le_mul hd2 (show j ≤ 8 by omega)
        have h2 : ((d * j : Nat) : Int) = (d : Int) * (j : Int) := by simp
        omega
      have hF2 := fun w hr => hF j w hr (by omega)
      have hA2 := hA (ci (rsum j fun i => frob (d * i) u)) (ci (frob (d * j) u))
      rw [eli_ci, eli_ci] at hA2
      have hbx' := Lib.hid hbx
      have hr2 := Lib.hid ((hr.below hbw).more (Nat.le_of_lt hsz))
      have ew : IntKind.i64.wrap ((d : Int) * (j : Int)) = (d : Int) * (j : Int) := IntWalk.i64_in _ (by omega)
      clear hbx
      go_wp2_with (fail)
      go_region_held3 (fun w' => w'.cell? ⟨w.heap.size, 0, none⟩ = some (.int .i64 D.p) ∧ w'.cell? ⟨w.heap.size, 1, none⟩ = some (.int .i64 D.m) ∧ w'.cell? ⟨w.heap.size, 2, none⟩ = some (.slice A D.mod.length c)) (first | exact hbx'.out | exact hbx1.out | exact hbx2.out)
        (first
          | (go_at_call 23; refine (hF2 _ hr2.out.drew).out.mono ?_; rintro e w1 ⟨rfl, hb1⟩; have hbx1 := Lib.hid (hbx'.out.drew.below hb1 hsz); have hs1 := hb1.size)
          | (go_at_call 24; refine (hA2 _).out.mono ?_; rintro e w2 ⟨rfl, hb2⟩; have hbx2 := Lib.hid (hbx1.out.below hb2 (Nat.lt_of_lt_of_le hsz hs1))))
      clear ew
      go_wp2_with (fail)
      go_roundw
      case rel => exact ⟨j + 1, by omega, by go_num, rfl, hbx2.out, hbw.drew.trans ((hb1.mono (Nat.le_of_lt hsz)).trans (hb2.mono (Nat.le_trans (Nat.le_of_lt hsz) hs1))), Nat.lt_of_lt_of_le hsz (Nat.le_trans hs1 hb2.size)⟩
      case measure => simp [intOf]; omega
    · obtain rfl : j = N := by omega
      go_wp2_with (fail)
      go_ret
      exact ⟨ret_int (by rw [(hfin u).out]), hbw⟩
/-- The elements below k that are in the subfield of degree d. -/
noncomputable def subL (D : FD) (d k : Nat) : List Int := ((List.range k).filter fun x => decide (frob d (rel D.toDesc x) = rel D.toDesc x)).map fun x : Nat => (x : Int)
theorem subL_yes (D : FD) (d k : Nat) (h : frob d (rel D.toDesc k) = rel D.toDesc k) : subL D d (k+1) = subL D d k ++ [(k : Int)] := by
  simp [subL, List.range_succ, h]
theorem subL_no (D : FD) (d k : Nat) (h : ¬ frob d (rel D.toDesc k) = rel D.toDesc k) : subL D d (k+1) = subL D d k := by
  simp [subL, List.range_succ, h]
theorem subL_le (D : FD) (d k : Nat) : (subL D d k).length ≤ k := by
  unfold subL; rw [List.length_map]; exact Nat.le_trans (List.length_filter_le _ _) (by simp)

set_option maxHeartbeats 1000000 in
theorem Subfield7_any (D : FD) (d : Nat) (A : Option Addr) (c : Nat) (w : World) (hr : Rd w w.heap.size A (modL D.toDesc)) (hd2 : d ≤ 8) :
    Calls Try.prog 30 #[.agg #[.int .i64 D.p, .int .i64 D.m, .slice A D.mod.length c], .int .i64 d] w (GivesA w.heap.size (subL D d D.q) w) := by
  have hq3 := D.q256; have hp1 := D.p256; have hp2 := D.m8
  have hI := fun y w (hr : Rd w w.heap.size A (modL D.toDesc)) => Lib.hid (In7_any D y d A c w hr (by omega))
  have hO := fun w => Lib.hid (Order_any D.p D.m A D.mod.length c w (by omega) (by omega))
  have hqq := Lib.hid (qOf_D D.toDesc)
  have hbx0 := Bx.new w D.toDesc A D.mod.length c 24
  go_enter Try.func30, Try.ntmps30
  go_wp2_with (fail)
  go_loopw [5, 6] (fun o i wr => ∃ k : Nat, k ≤ D.q ∧ i = .int .i64 k ∧ Own wr (w.heap.size + 1) o (subL D d k) ∧ Bx wr w.heap.size D.toDesc A D.mod.length c ∧ Below w.heap.size w wr ∧ w.heap.size < wr.heap.size) (fun _ i _ => D.q - (intOf i).toNat)
  case atStart => exact ⟨0, by omega, rfl, Own.nil _ _, hbx0, (Below.refl _ _).alloc (Nat.le_refl _) _, by simp⟩
  case round =>
    obtain ⟨k, hk, rfl, hown, hbx, hbw, hsz⟩ := hrel
    have kc := hbx
    obtain ⟨kc0, kc1, kc2⟩ := kc
    by_cases hlt : k < D.q
    · go_wp2_with (fail)
      refine (hO _).out.mono ?_
      rw [hqq.out]
      rintro e w1 ⟨rfl, hb1⟩
      have hs1 := hb1.size
      have hbx1 := hbx.below hb1 hsz
      have hbw1 := hbw.trans (hb1.mono (Nat.le_of_lt hsz))
      have hown1 := hown.below hb1 (Nat.le_refl _)
      have kc := hbx1
      clear kc0 kc1 kc2
      obtain ⟨kc0, kc1, kc2⟩ := kc
      have hI2 := Lib.hid (hI k w1 ((hr.below hbw1).more (by omega))).out
      have hek := eli_nat (D := D.toDesc) hlt
      by_cases hyes : frob d (rel D.toDesc k) = rel D.toDesc k
      · have hb : Hid (decide (frob d (eli D.toDesc k) = eli D.toDesc k) = true) := by unfold Hid; rw [hek]; exact decide_eq_true hyes
        have hsub := Lib.hid (subL_yes D d k hyes)
        have hle := subL_le D d k
        clear hek hyes
        go_wp2_with (fail)
        refine hI2.out.mono ?_
        rw [hb.out]
        rintro e w2 ⟨rfl, hb2⟩
        have hs2 := hb2.size
        have hbx2 := hbx1.below hb2 (by omega)
        have hown2 := hown1.below hb2 (Nat.le_refl _)
        go_wp2_with (at_builtin; refine wpList_app1 rfl _ _ rfl (w.heap.size + 1) _ _ _ hown2 rfl rfl rfl (by omega) (by omega) ?_; intro v' w3 hown3 hb3 _ _)
        go_roundw
        case rel => exact ⟨k + 1, by omega, by go_num, by rw [hsub.out]; exact hown3, hbx2.below hb3 (by omega), hbw1.trans ((hb2.mono (by omega)).trans (hb3.mono (by omega))), by have := hb3.size; omega⟩
        case measure => simp [intOf]; omega
      · have hb : Hid (decide (frob d (eli D.toDesc k) = eli D.toDesc k) = false) := by unfold Hid; rw [hek]; exact decide_eq_false hyes
        have hsub := Lib.hid (subL_no D d k hyes)
        clear hek hyes
        go_wp2_with (fail)
        refine hI2.out.mono ?_
        rw [hb.out]
        rintro e w2 ⟨rfl, hb2⟩
        have hs2 := hb2.size
        have hbx2 := hbx1.below hb2 (by omega)
        have hown2 := hown1.below hb2 (Nat.le_refl _)
        go_wp2_with (fail)
        go_roundw
        case rel => exact ⟨k + 1, by omega, by go_num, by rw [hsub.out]; exact hown2, hbx2, hbw1.trans (hb2.mono (by omega)), by omega⟩
        case measure => simp [intOf]; omega
    · obtain rfl : k = D.q := by omega
      go_wp2_with (fail)
      refine (hO _).out.mono ?_
      rw [hqq.out]
      rintro e w1 ⟨rfl, hb1⟩
      go_wp2_with (fail)
      go_ret
      exact ⟨_, rfl, (World.ownsRow.mono (hown.below hb1 (Nat.le_refl _)) (Nat.le_succ _)), hbw.trans (hb1.mono (Nat.le_of_lt hsz))⟩
end Go.Proofs.Yteamndefbpdcjaa
