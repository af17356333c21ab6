/- The program's inner product and digits. -/
import Derived.Test.YteamndefbpdcjaaPev
namespace Go.Proofs.Yteamndefbpdcjaa
open Go.RowKit Cw
attribute [local go_sem] Oper.semAt_some

theorem keepc2 {B b1 o1 b2 o2 : Nat} {W w1 : World} {v0 v1 : Value} (hb : Below B W w1) (h1 : b1 < B) (h2 : b2 < B) (h : W.cell? ⟨b1, o1, none⟩ = some v0 ∧ W.cell? ⟨b2, o2, none⟩ = some v1) :
    w1.cell? ⟨b1, o1, none⟩ = some v0 ∧ w1.cell? ⟨b2, o2, none⟩ = some v1 :=
  ⟨(hb.cell (p := ⟨b1, o1, none⟩) h1).trans h.1, (hb.cell (p := ⟨b2, o2, none⟩) h2).trans h.2⟩

set_option maxHeartbeats 1000000 in
theorem gDot_any (D : FD) (a b : List Int) (n : Nat) (ha : a.length = n) (hb : b.length = n) (A1 A2 : Option Addr) (c1 c2 g : Nat) (w : World) (hg : GF w w.heap.size g D) (hr1 : Rd w w.heap.size A1 a) (hr2 : Rd w w.heap.size A2 b) (hn : n ≤ maxLen) :
    Calls Try.prog 75 #[.pointer (some ⟨g, 0, none⟩), .slice A1 n c1, .slice A2 n c2] w fun e w' => e = .returned (.int .i64 (ci (rsum n fun i => eli D.toDesc (a[i]?.getD 0) * eli D.toDesc (b[i]?.getD 0)))) ∧ Below w.heap.size w w' := by
  unfold maxLen at hn
  have hM := fun y z W hg => Lib.hid (gMul_any D y z g W hg)
  have hA := fun y z W hg => Lib.hid (gAdd_any D y z g W hg)
  have hmin : min (n : Int) (n : Int) = (n : Int) := Int.min_self _
  replace ha := Lib.hid ha
  replace hb := Lib.hid hb
  go_enter Try.func75, Try.ntmps75
  go_wp2_with (fail)
  go_loopw [14, 7] (fun i o wr => ∃ k : Nat, k ≤ n ∧ i = .int .i64 k ∧ o = .int .i64 (ci (rsum k fun i => eli D.toDesc (a[i]?.getD 0) * eli D.toDesc (b[i]?.getD 0))) ∧ Below w.heap.size w wr) (fun i _ _ => n - (intOf i).toNat)
  case atStart => exact ⟨0, by omega, rfl, by rw [rsum_zero, ci_zero], Below.refl _ _⟩
  case round =>
    obtain ⟨k, hk, rfl, rfl, hbw⟩ := hrel
    by_cases hlt : k < n
    · have hk0 : (0 : Int) ≤ (k : Int) := by omega
      have hk1 : (k : Int) < (n : Int) := by omega
      obtain ⟨b1, o1, rfl, hb1, hc1⟩ := hr1.at_ (by rw [ha.out]; exact hlt : k < a.length)
      obtain ⟨b2, o2, rfl, hb2, hc2⟩ := hr2.at_ (by rw [hb.out]; exact hlt : k < b.length)
      have hd1 := (hbw.cell (p := ⟨b1, o1 + k, none⟩) hb1).trans hc1
      have hd2 := (hbw.cell (p := ⟨b2, o2 + k, none⟩) hb2).trans hc2
      obtain ⟨x, hx⟩ : ∃ x, x = a[k]?.getD 0 := ⟨_, rfl⟩
      obtain ⟨y, hy⟩ : ∃ y, y = b[k]?.getD 0 := ⟨_, rfl⟩
      rw [← hx] at hd1
      rw [← hy] at hd2
      have hA2 := fun W hg => (hA (ci (rsum k fun i => eli D.toDesc (a[i]?.getD 0) * eli D.toDesc (b[i]?.getD 0))) (ci (eli D.toDesc x * eli D.toDesc y)) W hg).out
      have hs : rsum k (fun i => eli D.toDesc (a[i]?.getD 0) * eli D.toDesc (b[i]?.getD 0)) + eli D.toDesc x * eli D.toDesc y = rsum (k + 1) (fun i => eli D.toDesc (a[i]?.getD 0) * eli D.toDesc (b[i]?.getD 0)) := by rw [rsum_succ, hx, hy]
      rw [eli_ci, eli_ci, hs] at hA2
      replace hA2 := fun W hg => Lib.hid (hA2 W hg)
      have hM2 := fun W hg => hM x y W hg
      have hgr := (hg.below hbw).more hbw.size
      have hbo1 : b1 < wr.heap.size := Nat.lt_of_lt_of_le hb1 hbw.size
      have hbo2 : b2 < wr.heap.size := Nat.lt_of_lt_of_le hb2 hbw.size
      have hcc := Lib.hid (show _ ∧ _ from ⟨hd1, hd2⟩)
      clear hc1 hc2 hs hx hy
      go_wp2_with (fail)
      go_region_held3 (fun w' => w'.cell? ⟨b1, o1 + k, none⟩ = some (.int .i64 x) ∧ w'.cell? ⟨b2, o2 + k, none⟩ = some (.int .i64 y)) (first | exact hcc.out | exact hcc1.out | exact hcc2.out)
        (first
          | (go_at_call 69; (with_reducible refine (hM2 _ hgr.drew).out.mono ?_); rintro e w1 ⟨rfl, hb1'⟩; have hs1 : wr.heap.size ≤ w1.heap.size := hb1'.size; have hbt1 := (hbw.drew).trans (hb1'.mono hbw.size); have hcc1 := Lib.hid (keepc2 hb1' hbo1 hbo2 hcc.out); have hg1 := (hg.below hbt1).more hbt1.size)
          | (go_at_call 61; (with_reducible refine (hA2 _ hg1).out.mono ?_); rintro e w2 ⟨rfl, hb2'⟩; have hbt2 := hbt1.trans (hb2'.mono hbt1.size); have hcc2 := Lib.hid (keepc2 hb2' (Nat.lt_of_lt_of_le hbo1 hs1) (Nat.lt_of_lt_of_le hbo2 hs1) hcc1.out)))
      go_wp2_with (fail)
      go_roundw
      case rel => exact ⟨k + 1, by omega, by go_num, rfl, hbt2⟩
      case measure => simp [intOf]; omega
    · obtain rfl : k = n := by omega
      go_wp2_with (fail)
      go_ret
      exact ⟨rfl, hbw⟩

set_option maxHeartbeats 1000000 in
theorem gDigits_any (D : FD) (x : Int) (g : Nat) (w : World) (hg : GF w w.heap.size g D) :
    Calls Try.prog 76 #[.pointer (some ⟨g, 0, none⟩), .int .i64 x] w fun e w' => ∃ gb, e = .returned (.slice (some ⟨gb, 0, none⟩) D.m D.m) ∧ w.heap.size ≤ gb ∧ IB w' gb (dl (eli D.toDesc x)) ∧ Below w.heap.size w w' := by
  have hI := fun W hg => Lib.hid (gin_any D x g W hg)
  have hD := fun W => Lib.hid (digitsOf_ci D.toDesc (eli D.toDesc x) W)
  have k0 := Lib.hid (show _ ∧ _ from ⟨hg.c0, hg.c1⟩)
  have hgl := hg.lt
  go_enter Try.func76, Try.ntmps76
  go_wp2_with (fail)
  go_region_held3 (fun w' => w'.cell? ⟨g, 0, none⟩ = some (.int .i64 D.p) ∧ w'.cell? ⟨g, 1, none⟩ = some (.int .i64 D.m)) (first | exact k0.out | exact k2.out)
    (first
      | (go_at_call 86; (with_reducible refine (hI _ hg.drew).out.mono ?_); rintro e w1 ⟨rfl, rfl⟩)
      | (go_at_call 98; (with_reducible refine (hD _).out.mono ?_); rintro e w2 ⟨gb, rfl, hgb, hib, hb2⟩; have k2 := Lib.hid (keepc2 hb2 hgl hgl k0.out)))
  go_wp2_with (fail)
  go_ret
  exact ⟨gb, rfl, hgb, hib, (Below.refl _ w).drew.trans hb2⟩
end Go.Proofs.Yteamndefbpdcjaa
