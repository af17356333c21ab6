/- The reference's field arithmetic over a valid description: Is, In, Digits, Add, Neg, Sub, Mul. -/
import Derived.Test.YtnbkmkeiophjoaaRefA
import Derived.Test.YtnbkmkeiophjoaaP1
import Derived.Deep.RegionHeld3
namespace Go.Proofs.Ytnbkmkeiophjoaa
open Go.RowKit Cw

theorem qOf_D (D : Desc) : qOf D.p D.m = D.q := by
  have h1 := D.p2; have h2 := D.m1; have h3 := D.m8; have h4 := D.hq
  unfold qOf
  simp only [Int.toNat_natCast]
  rw [if_neg (by omega)]; rfl
def modL (D : Desc) : List Int := D.mod.map fun c : Nat => (c : Int)

set_option maxHeartbeats 400000 in
theorem Is_any (D : Desc) (x : Int) (A : Option Addr) (n c : Nat) (w : World) :
    Calls Try.prog 45 #[.agg #[.int .i64 D.p, .int .i64 D.m, .slice A n c], .int .i64 x] w fun e w' => e = .returned (.bool (decide (0 ≤ x ∧ x < D.q))) ∧ Below w.heap.size w w' := by
  have hp1 := D.p256; have hp2 := D.m8
  have hO := fun w => Lib.hid (Order_any D.p D.m A n c w (by omega) (by omega))
  have hq := Lib.hid (qOf_D D)
  have hq2 := D.q256
  by_cases h0 : 0 ≤ x
  · by_cases h1 : x < D.q
    · have hb : decide (x < (D.q : Int)) = true := by simpa using h1
      go_enter Try.func45, Try.ntmps45
      go_wp2_with (go_at_call 19; refine (hO _).out.mono ?_; rw [hq.out]; rintro e w1 ⟨rfl, hb1⟩)
      go_ret
      exact ⟨ret_bool (by simp [h0, h1]), ((Below.refl _ _).alloc (Nat.le_refl _) _).trans (hb1.mono (by simp))⟩
    · have hb : decide (x < (D.q : Int)) = false := by simpa using h1
      go_enter Try.func45, Try.ntmps45
      go_wp2_with (go_at_call 19; refine (hO _).out.mono ?_; rw [hq.out]; rintro e w1 ⟨rfl, hb1⟩)
      go_ret
      exact ⟨ret_bool (by simp [h1]), ((Below.refl _ _).alloc (Nat.le_refl _) _).trans (hb1.mono (by simp))⟩
  · go_enter Try.func45, Try.ntmps45
    go_wp2_with (fail)
    go_ret
    exact ⟨ret_bool (by simp; omega), (Below.refl _ _).alloc (Nat.le_refl _) _⟩

set_option maxHeartbeats 400000 in
theorem In_any (D : Desc) (x : Int) (A : Option Addr) (n c : Nat) (w : World) :
    Calls Try.prog 119 #[.agg #[.int .i64 D.p, .int .i64 D.m, .slice A n c], .int .i64 x] w fun e w' => e = .returned (.int .i64 (ci (eli D x))) ∧ Below w.heap.size w w' := by
  have hI := fun w => Lib.hid (Is_any D x A n c w)
  have he := Lib.hid (ci_eli (D := D) x)
  by_cases h : 0 ≤ x ∧ x < D.q
  · have hd := Lib.hid (decide_eq_true h)
    go_enter Try.func119, Try.ntmps119
    go_wp2_with (go_at_call 45; refine (hI _).out.mono ?_; rw [hd.out]; rintro e w1 ⟨rfl, hb1⟩)
    go_ret
    exact ⟨ret_int (by rw [he.out, if_pos h]), ((Below.refl _ _).alloc (Nat.le_refl _) _).trans (hb1.mono (by simp))⟩
  · have hd := Lib.hid (decide_eq_false h)
    go_enter Try.func119, Try.ntmps119
    go_wp2_with (go_at_call 45; refine (hI _).out.mono ?_; rw [hd.out]; rintro e w1 ⟨rfl, hb1⟩)
    go_ret
    exact ⟨ret_int (by rw [he.out, if_neg h]), ((Below.refl _ _).alloc (Nat.le_refl _) _).trans (hb1.mono (by simp))⟩

theorem dgi_ci (D : Desc) (x : Int) (i : Nat) (h : i < D.m) : dgi D.p (ci (eli D x)).toNat i = (di (eli D x) i : Nat) := by
  unfold dgi; rw [ci_toNat, di_rcode _ h]
def dl {D : Desc} (u : R D) : List Int := lst D.m fun i => (di u i : Nat)

set_option maxHeartbeats 800000 in
theorem Digits_any (D : Desc) (x : Int) (A : Option Addr) (n c : Nat) (w : World) :
    Calls Try.prog 86 #[.agg #[.int .i64 D.p, .int .i64 D.m, .slice A n c], .int .i64 x] w (Gives w.heap.size (dl (eli D x)) w) := by
  have hp0 := D.p2; have hp1 := D.p256; have hp2 := D.m8
  have hI := fun w => Lib.hid (In_any D x A n c w)
  have hn := ci_nonneg (eli D x); have hl := ci_le (eli D x)
  obtain ⟨y, hy⟩ := Int.eq_ofNat_of_zero_le hn
  have hd := fun w => Lib.hid (digits_any y D.p D.m w (by omega) (by omega) (by omega) (by omega))
  have he : Hid (lst D.m (dgi D.p y) = dl (eli D x)) := lst_congr fun i hi => by rw [← dgi_ci D x i hi, hy]; rfl
  have hy' := Lib.hid hy
  clear hy
  have k0 := Lib.hid (alloc3 w (.int .i64 D.p) (.int .i64 D.m) (.slice A n c) 24)
  go_enter Try.func86, Try.ntmps86
  go_wp2
  go_region_held3 (fun w' => w'.cell? ⟨w.heap.size, 0, none⟩ = some (.int .i64 D.p) ∧ w'.cell? ⟨w.heap.size, 1, none⟩ = some (.int .i64 D.m) ∧ w'.cell? ⟨w.heap.size, 2, none⟩ = some (.slice A n c)) (first | exact k0.out | exact k2.out | exact k1.out)
    (first
      | (go_at_call 119; refine (hI _).out.mono ?_; rw [hy'.out]; rintro e w1 ⟨rfl, hb1⟩; have k1 := Lib.hid (keep3 (b := w.heap.size) hb1 (by simp) k0.out); have hs1 := hb1.size; simp only [World.drew, World.size_alloc] at hs1)
      | (go_at_call 102; refine (hd _).out.mono ?_; rw [he.out]; rintro e w2 ⟨g, rfl, hg, hib, hb2⟩; have k2 := Lib.hid (keep3 (b := w.heap.size) hb2 (by omega) k1.out)))
  go_wp2
  go_ret
  exact ⟨g, by simp [dl, lst_length], by omega, hib, ((((Below.refl _ _).alloc (Nat.le_refl _) _).drew).trans (hb1.mono (by simp))).trans (hb2.mono (by omega))⟩

set_option maxHeartbeats 1000000 in
theorem Add_any (D : Desc) (x y : Int) (A : Option Addr) (n c : Nat) (w : World) :
    Calls Try.prog 46 #[.agg #[.int .i64 D.p, .int .i64 D.m, .slice A n c], .int .i64 x, .int .i64 y] w fun e w' =>
      e = .returned (.int .i64 (ci (eli D x + eli D y))) ∧ Below w.heap.size w w' := by
  have hp0 := D.p2; have hp1 := D.p256; have hp2 := D.m8
  have hD := fun z w => Lib.hid (Digits_any D z A n c w)
  generalize hu : eli D x = u
  generalize hv : eli D y = v
  have hDx := fun w => Lib.hid (hu ▸ (hD x w).out)
  have hDy := fun w => Lib.hid (hv ▸ (hD y w).out)
  clear hD hu hv
  have k0 := Lib.hid (alloc3 w (.int .i64 D.p) (.int .i64 D.m) (.slice A n c) 24)
  go_enter Try.func46, Try.ntmps46
  go_wp2_with (fail)
  refine (hDx _).out.mono ?_
  rintro e w1 ⟨g1, rfl, hg1, hib1, hb1⟩
  have k1 := Lib.hid (keep3 (b := w.heap.size) hb1 (by simp) k0.out)
  have hs1 := hb1.size
  simp only [World.size_alloc] at hs1 hg1
  have hl1 : (dl u).length = D.m := lst_length _ _
  simp only [hl1]
  obtain ⟨kc0, kc1, kc2⟩ := k1.out
  go_wp2_with (fail)
  refine (hDy _).out.mono ?_
  rintro e w2 ⟨g2, rfl, hg2, hib2, hb2⟩
  have k2 := Lib.hid (keep3 (b := w.heap.size) hb2 (by omega) k1.out)
  have hs2 := hb2.size
  have hl2 : (dl v).length = D.m := lst_length _ _
  simp only [hl2]
  have hg1l := hib1.lt
  have hib1' := hib1.below hb2 (by omega)
  have hbw2 : Below w.heap.size w w2 := (((Below.refl _ _).alloc (Nat.le_refl _) _).trans (hb1.mono (by simp))).trans (hb2.mono (by omega))
  clear kc0 kc1 kc2 hib1 hb1 hb2 k1 k0 hDx
  obtain ⟨kc0, kc1, kc2⟩ := k2.out
  go_wp2_with (fail)
  have hD2 := hDy
  clear kc0 kc1 kc2
  have hb0 : w.heap.size < g1 := by omega
  have hne : g1 < g2 := by omega
  go_loopw [9] (fun i wr => ∃ k : Nat, k ≤ D.m ∧ i = .int .i64 k ∧ IB wr g1 (mix D.m k (fun i => (di (u + v) i : Nat)) (fun i => (di u i : Nat))) ∧ IB wr g2 (dl v) ∧ Below w.heap.size w wr ∧
     Hid (wr.cell? ⟨w.heap.size, 0, none⟩ = some (.int .i64 D.p) ∧ wr.cell? ⟨w.heap.size, 1, none⟩ = some (.int .i64 D.m) ∧ wr.cell? ⟨w.heap.size, 2, none⟩ = some (.slice A n c))) (fun i _ => D.m - (intOf i).toNat)
  case atStart => exact ⟨0, by omega, rfl, by rw [mix_zero]; exact hib1', hib2, hbw2, k2⟩
  case round =>
    obtain ⟨k, hk, rfl, hi1, hi2, hbw, hkc⟩ := hrel
    by_cases hlt : k < D.m
    · have hc1 := hi1.cell (i := k) (by rw [mix_length]; exact hlt)
      rw [mix_get_at _ _ hlt] at hc1
      have hc2 := hi2.cell (i := k) (by rw [hl2]; exact hlt)
      unfold dl at hc2
      rw [lst_get _ hlt] at hc2
      have hf := hi1.frozen k
      have hset := Lib.hid (hi1.set_ k (di (u + v) k : Nat))
      have hd1 := di_lt u k
      have hd2 := di_lt v k
      obtain ⟨kc0, kc1, kc2⟩ := hkc.out
      go_wp2_with (fail)
      go_region
      all_goals go_wp2_with (fail)
      go_roundw
      case rel =>
        have h := hset.out
        rw [show ((di (u + v) k : Nat) : Int) = ((di u k : Int) + (di v k : Int)) % (D.p : Int) by rw [di_add]; simp] at h
        refine ⟨k+1, by omega, by go_num, ?_, ?_, (hbw.setCell (p := ⟨g1, k, none⟩) (Nat.le_of_lt hb0) _).drew, ?_⟩
        · rw [← mix_set]
          rw [show ((di (u + v) k : Nat) : Int) = ((di u k : Int) + (di v k : Int)) % (D.p : Int) by rw [di_add]; simp]
          exact h
        · exact hi2.far (p := ⟨g1, k, none⟩) (Nat.ne_of_gt hne) _
        · exact keep3 (B := w.heap.size + 1) ((Below.refl _ _).setCell (p := ⟨g1, k, none⟩) hb0 _).drew (by omega) hkc.out
      case measure => simp [intOf]; omega
    · obtain rfl : k = D.m := by omega
      rw [mix_full] at hi1
      obtain ⟨kc0, kc1, kc2⟩ := hkc.out
      have hV := Lib.hid (Value_any D.p D.m (di (u + v)) D.m A (some ⟨g1, 0, none⟩) n c D.m wr (by omega) hp1 hp2 (fun i _ => di_lt _ i) D.hq (hi1.rd))
      go_wp2_with (fail)
      refine hV.out.mono ?_
      rintro e w3 ⟨rfl, hb3⟩
      have hsr := hbw.size
      go_wp2_with (fail)
      go_ret
      exact ⟨rfl, hbw.trans (hb3.mono hsr)⟩
end Go.Proofs.Ytnbkmkeiophjoaa
