/- The reference's value of a polynomial. -/
import Derived.Test.YtemanlkgfhmclaaPev
import Derived.Test.YtemanlkgfhmclaaRF
import Derived.Test.YtemanlkgfhmclaaEls
namespace Go.Proofs.Ytemanlkgfhmclaa
open Go.RowKit Cw

set_option maxHeartbeats 1000000 in
theorem Eval5_any (D : Desc) (l : List Int) (x : Int) (A A1 : Option Addr) (c c1 : Nat) (w : World) (hr : Rd w w.heap.size A (modL D)) (hr1 : Rd w w.heap.size A1 l) (hl : l.length ≤ maxLen) :
    Calls Try.prog 31 #[.agg #[.int .i64 D.p, .int .i64 D.m, .slice A D.mod.length c], .slice A1 l.length c1, .int .i64 x] w fun e w' => e = .returned (.int .i64 (ci (pevI D l (eli D x)))) ∧ Below w.heap.size w w' := by
  unfold maxLen at hl
  have hM := fun y z W hr => Lib.hid (Mul_any D y z A c W hr)
  have hA := fun y z W => Lib.hid (Add_any D y z A D.mod.length c W)
  have hbx0 := Bx.new w D A D.mod.length c 24
  have hB0 : Below w.heap.size w (w.alloc (.cells #[.int .i64 D.p, .int .i64 D.m, .slice A D.mod.length c] 24)) := (Below.refl _ _).alloc (Nat.le_refl _) _
  obtain ⟨u, hu⟩ : ∃ u, u = eli D x := ⟨_, rfl⟩
  rw [← hu]
  replace hu := Lib.hid hu
  go_enter Try.func31, Try.ntmps31
  go_wp2_with (fail)
  go_loopw [9, 7, 8] (fun i o p wr => ∃ k : Nat, k ≤ l.length ∧ i = .int .i64 k ∧ o = .int .i64 (ci (rsum k fun i => eli D (l[i]?.getD 0) * pw u i)) ∧ p = .int .i64 (ci (pw u k)) ∧ Bx wr w.heap.size D A D.mod.length c ∧ Below w.heap.size w wr ∧ w.heap.size < wr.heap.size) (fun i _ _ _ => l.length - (intOf i).toNat)
  case atStart => exact ⟨0, by omega, rfl, by rw [rsum_zero, ci_zero], by rw [pw_zero, ci_one], hbx0, hB0, by simp⟩
  case round =>
    obtain ⟨k, hk, rfl, rfl, rfl, hbx, hbw, hsz⟩ := hrel
    by_cases hlt : k < l.length
    · have hk0 : (0 : Int) ≤ (k : Int) := by omega
      have hk1 : (k : Int) < (l.length : Int) := by omega
      obtain ⟨b, o, rfl, hb, hc⟩ := hr1.at_ hlt
      have hc2 := (hbw.cell (p := ⟨b, o + k, none⟩) hb).trans hc
      obtain ⟨y, hy⟩ : ∃ y, y = l[k]?.getD 0 := ⟨_, rfl⟩
      rw [← hy] at hc2
      have hM2 := fun W hr => (hM y (ci (pw u k)) W hr).out
      rw [eli_ci] at hM2
      replace hM2 := fun W hr => Lib.hid (hM2 W hr)
      have hA2 := fun W => (hA (ci (rsum k fun i => eli D (l[i]?.getD 0) * pw u i)) (ci (eli D y * pw u k)) W).out
      have hs : rsum k (fun i => eli D (l[i]?.getD 0) * pw u i) + eli D y * pw u k = rsum (k + 1) (fun i => eli D (l[i]?.getD 0) * pw u i) := by rw [rsum_succ, hy]
      rw [eli_ci, eli_ci, hs] at hA2
      replace hA2 := fun W => Lib.hid (hA2 W)
      have hM3 := fun W hr => (hM (ci (pw u k)) x W hr).out
      rw [eli_ci, ← hu.out, ← pw_succ] at hM3
      replace hM3 := fun W hr => Lib.hid (hM3 W hr)
      have hrr := (hr.below hbw).more hbw.size
      have hbo : b < wr.heap.size := Nat.lt_of_lt_of_le hb hbw.size
      have hcc : Hid (_ ∧ _ ∧ _ ∧ wr.cell? ⟨b, o + k, none⟩ = _) := Lib.hid (show _ ∧ _ ∧ _ ∧ _ from ⟨hbx.cells.1, hbx.cells.2.1, hbx.cells.2.2, hc2⟩)
      have hk4 : ∀ {W w1 : World} {v0 v1 v2 v3 : Value}, Below W.heap.size W w1 → w.heap.size < W.heap.size → b < W.heap.size → (W.cell? ⟨w.heap.size, 0, none⟩ = some v0 ∧ W.cell? ⟨w.heap.size, 1, none⟩ = some v1 ∧ W.cell? ⟨w.heap.size, 2, none⟩ = some v2 ∧ W.cell? ⟨b, o + k, none⟩ = some v3) →
          w1.cell? ⟨w.heap.size, 0, none⟩ = some v0 ∧ w1.cell? ⟨w.heap.size, 1, none⟩ = some v1 ∧ w1.cell? ⟨w.heap.size, 2, none⟩ = some v2 ∧ w1.cell? ⟨b, o + k, none⟩ = some v3 := fun h1 h2 h3 h4 =>
        have := keep3 h1 h2 ⟨h4.1, h4.2.1, h4.2.2.1⟩
        ⟨this.1, this.2.1, this.2.2, (h1.cell (p := ⟨b, o + k, none⟩) h3).trans h4.2.2.2⟩
      replace hk4 := fun {W w1 : World} {v0 v1 v2 v3 : Value} a1 a2 a3 a4 => Lib.hid (@hk4 W w1 v0 v1 v2 v3 a1 a2 a3 a4)
      clear hc hs hy hbx hc2
      go_wp2_with (fail)
      go_region_held3 (fun w' => w'.cell? ⟨w.heap.size, 0, none⟩ = some (.int .i64 D.p) ∧ w'.cell? ⟨w.heap.size, 1, none⟩ = some (.int .i64 D.m) ∧ w'.cell? ⟨w.heap.size, 2, none⟩ = some (.slice A D.mod.length c) ∧ w'.cell? ⟨b, o + k, none⟩ = some (.int .i64 y)) (first | exact hcc.out | exact hcc1.out | exact hcc2.out)
        (first
          | (go_at_call 30; (with_reducible refine (hM2 _ hrr.drew).out.mono ?_); rintro e w1 ⟨rfl, hb1⟩; have hcc1 := hk4 hb1 hsz hbo hcc.out; have hs1 : wr.heap.size ≤ w1.heap.size := hb1.size; have hbw1 := (hbw.drew).trans (hb1.mono hbw.size))
          | (go_at_call 56; (with_reducible refine (hA2 _).out.mono ?_); rintro e w2 ⟨rfl, hb2⟩; have hcc2 := hk4 hb2 (Nat.lt_of_lt_of_le hsz hs1) (Nat.lt_of_lt_of_le hbo hs1) hcc1.out; have hbw2 := hbw1.trans (hb2.mono hbw1.size)))
      have hs2 : w.heap.size < w2.heap.size := Nat.lt_of_lt_of_le (Nat.lt_of_lt_of_le hsz hs1) hb2.size
      have hbx2 : Bx w2 w.heap.size D A D.mod.length c := ⟨hcc2.out.1, hcc2.out.2.1, hcc2.out.2.2.1⟩
      have hrr2 := (hr.below hbw2).more hbw2.size
      obtain ⟨q0, q1, q2⟩ := hbx2.cells
      go_wp2_with (fail)
      (with_reducible refine (hM3 _ hrr2).out.mono ?_)
      rintro e w3 ⟨rfl, hb3⟩
      clear q0 q1 q2
      go_wp2_with (fail)
      go_roundw
      case rel => exact ⟨k + 1, by omega, by go_num, rfl, rfl, hbx2.below hb3 hs2, hbw2.trans (hb3.mono hbw2.size), Nat.lt_of_lt_of_le hs2 hb3.size⟩
      case measure => simp [intOf]; omega
    · obtain rfl : k = l.length := by omega
      go_wp2_with (fail)
      go_ret
      exact ⟨rfl, hbw⟩
end Go.Proofs.Ytemanlkgfhmclaa
