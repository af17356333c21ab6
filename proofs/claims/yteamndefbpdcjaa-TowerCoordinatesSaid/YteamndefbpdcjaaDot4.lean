/- The reference's inner product. -/
import Derived.Test.YteamndefbpdcjaaEv5
namespace Go.Proofs.Yteamndefbpdcjaa
open Go.RowKit Cw
attribute [local go_sem] Oper.semAt_some

set_option maxRecDepth 100000 in
set_option maxHeartbeats 1000000 in
theorem Dot4_any (D : Desc) (a b : List Int) (n : Nat) (ha : a.length = n) (hb : b.length = n) (A A1 A2 : Option Addr) (c c1 c2 : Nat) (w : World) (hr : Rd w w.heap.size A (modL D)) (hr1 : Rd w w.heap.size A1 a) (hr2 : Rd w w.heap.size A2 b) (hn : n ≤ maxLen) :
    Calls Try.prog 54 #[.agg #[.int .i64 D.p, .int .i64 D.m, .slice A D.mod.length c], .slice A1 n c1, .slice A2 n c2] w fun e w' => e = .returned (.int .i64 (ci (rsum n fun i => eli D (a[i]?.getD 0) * eli D (b[i]?.getD 0)))) ∧ Below w.heap.size w w' := by
  unfold maxLen at hn
  have hM := fun y z W hr => Lib.hid (Mul_any D y z A c W hr)
  have hA := fun y z W => Lib.hid (Add_any D y z A D.mod.length c W)
  have hbx0 := Bx.new w D A D.mod.length c 24
  have hB0 : Below w.heap.size w (w.alloc (.cells #[.int .i64 D.p, .int .i64 D.m, .slice A D.mod.length c] 24)) := (Below.refl _ _).alloc (Nat.le_refl _) _
  replace ha := Lib.hid ha
  replace hb := Lib.hid hb
  go_enter Try.func54, Try.ntmps54
  go_wp2_with (fail)
  go_loopw [8, 7] (fun i o wr => ∃ k : Nat, k ≤ n ∧ i = .int .i64 k ∧ o = .int .i64 (ci (rsum k fun i => eli D (a[i]?.getD 0) * eli D (b[i]?.getD 0))) ∧ Bx wr w.heap.size D A D.mod.length c ∧ Below w.heap.size w wr ∧ w.heap.size < wr.heap.size) (fun i _ _ => n - (intOf i).toNat)
  case atStart => exact ⟨0, by omega, rfl, by rw [rsum_zero, ci_zero], hbx0, hB0, by simp⟩
  case round =>
    obtain ⟨k, hk, rfl, rfl, hbx, hbw, hsz⟩ := hrel
    by_cases hlt : k < n
    · have hk0 : (0 : Int) ≤ (k : Int) := by omega
      have hk1 : (k : Int) < (n : Int) := by omega
      obtain ⟨b1, o1, rfl, hb1, hc1⟩ := hr1.at_ (by rw [ha.out]; exact hlt : k < a.length)
      obtain ⟨b2, o2, rfl, hb2, hc2⟩ := hr2.at_ (by rw [hb.out]; exact hlt : k < b.length)
      have hd1 := (hbw.cell (p := ⟨b1, o1 + k, none⟩) hb1).trans hc1
      have hd2 := (hbw.cell (p := ⟨b2, o2 + k, none⟩) hb2).trans hc2
      obtain ⟨x, hx⟩ : ∃ x, x = a[k]?.getD 0 := ⟨_, rfl⟩
      obtain ⟨y, hy⟩ : ∃ y, y = b[k]?.getD 0 := ⟨_, rfl⟩
      rw [← hx] at hd1
      rw [← hy] at hd2
      have hM2 := fun W hr => hM x y W hr
      have hA2 := fun W => (hA (ci (rsum k fun i => eli D (a[i]?.getD 0) * eli D (b[i]?.getD 0))) (ci (eli D x * eli D y)) W).out
      have hs : rsum k (fun i => eli D (a[i]?.getD 0) * eli D (b[i]?.getD 0)) + eli D x * eli D y = rsum (k + 1) (fun i => eli D (a[i]?.getD 0) * eli D (b[i]?.getD 0)) := by rw [rsum_succ, hx, hy]
      rw [eli_ci, eli_ci, hs] at hA2
      replace hA2 := fun W => Lib.hid (hA2 W)
      have hrr := (hr.below hbw).more hbw.size
      have hbo1 : b1 < wr.heap.size := Nat.lt_of_lt_of_le hb1 hbw.size
      have hbo2 : b2 < wr.heap.size := Nat.lt_of_lt_of_le hb2 hbw.size
      have hcc := Lib.hid (show _ ∧ _ ∧ _ ∧ _ ∧ _ from ⟨hbx.cells.1, hbx.cells.2.1, hbx.cells.2.2, hd1, hd2⟩)
      have hk5 : ∀ {W w1 : World} {v0 v1 v2 v3 v4 : Value}, Below W.heap.size W w1 → w.heap.size < W.heap.size → b1 < W.heap.size → b2 < W.heap.size → (W.cell? ⟨w.heap.size, 0, none⟩ = some v0 ∧ W.cell? ⟨w.heap.size, 1, none⟩ = some v1 ∧ W.cell? ⟨w.heap.size, 2, none⟩ = some v2 ∧ W.cell? ⟨b1, o1 + k, none⟩ = some v3 ∧ W.cell? ⟨b2, o2 + k, none⟩ = some v4) →
          w1.cell? ⟨w.heap.size, 0, none⟩ = some v0 ∧ w1.cell? ⟨w.heap.size, 1, none⟩ = some v1 ∧ w1.cell? ⟨w.heap.size, 2, none⟩ = some v2 ∧ w1.cell? ⟨b1, o1 + k, none⟩ = some v3 ∧ w1.cell? ⟨b2, o2 + k, none⟩ = some v4 := fun h1 h2 h3 h3' h4 =>
        have := keep3 h1 h2 ⟨h4.1, h4.2.1, h4.2.2.1⟩
        ⟨this.1, this.2.1, this.2.2, (h1.cell (p := ⟨b1, o1 + k, none⟩) h3).trans h4.2.2.2.1, (h1.cell (p := ⟨b2, o2 + k, none⟩) h3').trans h4.2.2.2.2⟩
      replace hk5 := fun {W w1 : World} {v0 v1 v2 v3 v4 : Value} a1 a2 a3 a4 a5 => Lib.hid (@hk5 W w1 v0 v1 v2 v3 v4 a1 a2 a3 a4 a5)
      clear hc1 hc2 hs hy hx hbx hd1 hd2
      go_wp2_with (fail)
      go_region_held3 (fun w' => w'.cell? ⟨w.heap.size, 0, none⟩ = some (.int .i64 D.p) ∧ w'.cell? ⟨w.heap.size, 1, none⟩ = some (.int .i64 D.m) ∧ w'.cell? ⟨w.heap.size, 2, none⟩ = some (.slice A D.mod.length c) ∧ w'.cell? ⟨b1, o1 + k, none⟩ = some (.int .i64 x) ∧ w'.cell? ⟨b2, o2 + k, none⟩ = some (.int .i64 y)) (first | exact hcc.out | exact hcc1.out | exact hcc2.out)
        (first
          | (go_at_call 25; (with_reducible refine (hM2 _ hrr.drew).out.mono ?_); rintro e w1 ⟨rfl, hb1⟩; have hcc1 := hk5 hb1 hsz hbo1 hbo2 hcc.out; have hs1 : wr.heap.size ≤ w1.heap.size := hb1.size; have hbw1 := (hbw.drew).trans (hb1.mono hbw.size))
          | (go_at_call 24; (with_reducible refine (hA2 _).out.mono ?_); rintro e w2 ⟨rfl, hb2⟩; have hcc2 := hk5 hb2 (Nat.lt_of_lt_of_le hsz hs1) (Nat.lt_of_lt_of_le hbo1 hs1) (Nat.lt_of_lt_of_le hbo2 hs1) hcc1.out; have hbw2 := hbw1.trans (hb2.mono hbw1.size)))
      have hs2 : w.heap.size < w2.heap.size := Nat.lt_of_lt_of_le (Nat.lt_of_lt_of_le hsz hs1) hb2.size
      have hbx2 : Bx w2 w.heap.size D A D.mod.length c := ⟨hcc2.out.1, hcc2.out.2.1, hcc2.out.2.2.1⟩
      go_wp2_with (fail)
      go_roundw
      case rel => exact ⟨k + 1, by omega, by go_num, rfl, hbx2, hbw2, hs2⟩
      case measure => simp [intOf]; omega
    · obtain rfl : k = n := by omega
      go_wp2_with (fail)
      go_ret
      exact ⟨rfl, hbw⟩
end Go.Proofs.Yteamndefbpdcjaa
