/- The reference's Inv, Pow; the reference of layer 7: Frobenius, Divides, In. -/
import Derived.Test.YteamndefbpdcjaaRefC
namespace Go.Proofs.Yteamndefbpdcjaa
open Go.RowKit Cw
open Cw.CField (inv)

/-- The box of a description, hidden from the walk. -/
def Bx (w : World) (b : Nat) (D : Desc) (A : Option Addr) (n c : Nat) : Prop :=
  w.cell? ⟨b, 0, none⟩ = some (.int .i64 D.p) ∧ w.cell? ⟨b, 1, none⟩ = some (.int .i64 D.m) ∧ w.cell? ⟨b, 2, none⟩ = some (.slice A n c)
theorem Bx.new (w : World) (D : Desc) (A : Option Addr) (n c : Nat) (t : TypeId) : Bx (w.alloc (.cells #[.int .i64 D.p, .int .i64 D.m, .slice A n c] t)) w.heap.size D A n c := alloc3 _ _ _ _ _
theorem Bx.below {B b : Nat} {W w1 : World} {D : Desc} {A : Option Addr} {n c : Nat} (h : Bx W b D A n c) (hb : Below B W w1) (hlt : b < B) : Bx w1 b D A n c := keep3 hb hlt h
theorem Bx.drew {b : Nat} {W : World} {D : Desc} {A : Option Addr} {n c : Nat} (h : Bx W b D A n c) : Bx W.drew b D A n c := h

set_option maxHeartbeats 1000000 in
theorem Inv_any (D : FD) (x : Int) (A : Option Addr) (c : Nat) (w : World) (hr : Rd w w.heap.size A (modL D.toDesc)) :
    Calls Try.prog 33 #[.agg #[.int .i64 D.p, .int .i64 D.m, .slice A D.mod.length c], .int .i64 x] w fun e w' =>
      e = .returned (.int .i64 (ci (inv (eli D.toDesc x)))) ∧ Below w.heap.size w w' := by
  have hq2 := D.q2; have hq3 := D.q256; have hp1 := D.p256; have hp2 := D.m8
  have hM := fun y w (hr : Rd w w.heap.size A (modL D.toDesc)) => Lib.hid (Mul_any D.toDesc x y A c w hr)
  have hO := fun w => Lib.hid (Order_any D.p D.m A D.mod.length c w (by omega) (by omega))
  have hqq := Lib.hid (qOf_D D.toDesc)
  generalize eli D.toDesc x = u at *
  have hbx0 := Bx.new w D.toDesc A D.mod.length c 24
  go_enter Try.func33, Try.ntmps33
  go_wp2_with (fail)
  go_loopw [5] (fun y wr => ∃ k : Nat, 1 ≤ k ∧ k ≤ D.q ∧ y = .int .i64 k ∧ Bx wr w.heap.size D.toDesc A D.mod.length c ∧ Below w.heap.size w wr ∧ w.heap.size < wr.heap.size ∧ Hid (∀ j, 1 ≤ j → j < k → u * eli D.toDesc j ≠ 1)) (fun y _ => D.q - (intOf y).toNat)
  case atStart => exact ⟨1, by omega, by omega, rfl, hbx0, (Below.refl _ _).alloc (Nat.le_refl _) _, by simp, fun j h1 h2 => by omega⟩
  case round =>
    obtain ⟨k, hk1, hk2, rfl, hbx, hbw, hsz, hno⟩ := hrel
    have kc := hbx
    obtain ⟨kc0, kc1, kc2⟩ := kc
    by_cases hlt : k < D.q
    · by_cases hyes : u * eli D.toDesc k = 1
      · have hci := Lib.hid (ci_eq_one.2 hyes)
        have hfin : Hid ((k : Int) = ci (inv u)) := by
          unfold Hid
          rw [← inv_unique hyes, ci_eli_in ⟨by omega, by omega⟩]
        go_wp2_with (fail)
        refine (hO _).out.mono ?_
        rw [hqq.out]
        rintro e w1 ⟨rfl, hb1⟩
        obtain ⟨kc0, kc1, kc2⟩ := hbx.below hb1 hsz
        have hs1 := hb1.size
        go_wp2_with (fail)
        refine (hM _ _ (hr.below (hbw.trans (hb1.mono (by omega))) |>.more (by omega))).out.mono ?_
        rw [hci.out]
        rintro e w2 ⟨rfl, hb2⟩
        go_wp2_with (fail)
        go_ret
        exact ⟨ret_int hfin.out, hbw.trans ((hb1.mono (by omega)).trans (hb2.mono (by omega)))⟩
      · have hci : Hid ((ci (u * eli D.toDesc k) == 1) = false) := by
          unfold Hid; rw [beq_eq_false_iff_ne]; exact fun h => hyes (ci_eq_one.1 h)
        go_wp2_with (fail)
        refine (hO _).out.mono ?_
        rw [hqq.out]
        rintro e w1 ⟨rfl, hb1⟩
        obtain ⟨kc0, kc1, kc2⟩ := hbx.below hb1 hsz
        have hs1 := hb1.size
        have hbx1 := hbx.below hb1 hsz
        go_wp2_with (fail)
        refine (hM _ _ (hr.below (hbw.trans (hb1.mono (by omega))) |>.more (by omega))).out.mono ?_
        rintro e w2 ⟨rfl, hb2⟩
        have hci' := hci.out
        go_wp2_with (fail)
        go_roundw
        case rel =>
          refine ⟨k + 1, by omega, by omega, by go_num, hbx1.below hb2 (by omega), hbw.trans ((hb1.mono (by omega)).trans (hb2.mono (by omega))), by have := hb2.size; omega, fun j h1 h2 => ?_⟩
          by_cases e : j = k
          · subst e; exact hyes
          · exact hno.out j h1 (by omega)
        case measure => simp [intOf]; omega
    · have hfin : Hid ((0 : Int) = ci (inv u)) := by
        unfold Hid
        by_cases hu : u = 0
        · rw [hu, inv_zero, ci_zero]
        · exfalso
          have h1 : inv u ≠ 0 := inv_ne_zero hu
          have h2 := ci_nonneg (inv u)
          have h3 := ci_lt (inv u)
          have h4 : ci (inv u) ≠ 0 := fun e => h1 (ci_eq_zero.1 e)
          refine hno.out (ci (inv u)).toNat (by omega) (by omega) ?_
          rw [Int.toNat_of_nonneg h2, eli_ci, mul_inv hu]
      go_wp2_with (fail)
      refine (hO _).out.mono ?_
      rw [hqq.out]
      rintro e w1 ⟨rfl, hb1⟩
      go_wp2_with (fail)
      go_ret
      exact ⟨ret_int hfin.out, hbw.trans (hb1.mono (by omega))⟩

set_option maxHeartbeats 1000000 in
theorem Pow_any (D : FD) (x : Int) (n : Nat) (A : Option Addr) (c : Nat) (w : World) (hr : Rd w w.heap.size A (modL D.toDesc)) (hn1 : 1 ≤ n) (hn2 : n ≤ 4294967296) :
    Calls Try.prog 62 #[.agg #[.int .i64 D.p, .int .i64 D.m, .slice A D.mod.length c], .int .i64 x, .int .i64 n] w fun e w' =>
      e = .returned (.tuple #[.int .i64 (ci (pw (eli D.toDesc x) n)), .int .i64 0]) ∧ Below w.heap.size w w' := by
  have hq2 := D.q2; have hq3 := D.q256; have hp1 := D.p256; have hp2 := D.m8
  have hM := fun y z w (hr : Rd w w.heap.size A (modL D.toDesc)) => Lib.hid (Mul_any D.toDesc y z A c w hr)
  have hI := fun w => Lib.hid (In_any D.toDesc x A D.mod.length c w)
  have hO := fun w => Lib.hid (Order_any D.p D.m A D.mod.length c w (by omega) (by omega))
  have hqq := qOf_D D.toDesc
  obtain ⟨k, hk⟩ : ∃ k, D.q = k + 1 := ⟨D.q - 1, by omega⟩
  rw [hk] at hqq
  have hqq := Lib.hid hqq
  generalize eli D.toDesc x = u at *
  have hbx0 := Bx.new w D.toDesc A D.mod.length c 24
  have hn0 : ((n : Int) == 0) = false := by rw [beq_eq_false_iff_ne]; omega
  by_cases hu : u = 0
  · have hci : ci u = 0 := ci_eq_zero.2 hu
    have hfin : Hid (ci (pw u n) = 0) := by unfold Hid; rw [hu, zero_pw (by omega), ci_zero]
    clear hu
    go_enter Try.func62, Try.ntmps62
    go_wp2_with (fail)
    refine (hI _).out.mono ?_
    rw [hci]
    rintro e w1 ⟨rfl, hb1⟩
    go_wp2_with (fail)
    go_ret2
    exact ⟨by rw [hfin.out]; rfl, ((Below.refl _ _).alloc (Nat.le_refl _) _).trans (hb1.mono (by simp))⟩
  · have hci : (ci u == 0) = false := by rw [beq_eq_false_iff_ne]; exact fun h => hu (ci_eq_zero.1 h)
    have hfin : Hid (pw u (n % k) = pw u n) := by
      have h := pw_mod hu n
      show pw u (n % k) = _
      rw [show k = FF.q (R D.toDesc) - 1 by show k = D.q - 1; omega]; exact h
    have hk1 : 1 ≤ k := by omega
    have hk3 : k ≤ 255 := by omega
    have hlt := Nat.mod_lt n (show 0 < k by omega)
    clear hu hk hq2 hq3
    go_enter Try.func62, Try.ntmps62
    go_wp2_with (fail)
    refine (hI _).out.mono ?_
    rintro e w1 ⟨rfl, hb1⟩
    have hbx1 := hbx0.below hb1 (by simp)
    have kc := hbx1
    obtain ⟨kc0, kc1, kc2⟩ := kc
    have hs1 := hb1.size
    simp only [World.size_alloc] at hs1
    go_wp2_with (fail)
    refine (hO _).out.mono ?_
    rw [hqq.out]
    rintro e w2 ⟨rfl, hb2⟩
    have hbx2 := hbx1.below hb2 (by omega)
    have hs2 := hb2.size
    have hbw2 : Below w.heap.size w w2 := (((Below.refl _ _).alloc (Nat.le_refl _) _).trans (hb1.mono (by simp))).trans (hb2.mono (by omega))
    clear kc0 kc1 kc2
    go_wp2_with (fail)
    rw [show ((n : Int) % (k : Int) + (k : Int)) % (k : Int) = ((n % k : Nat) : Int) by rw [Int.add_emod_right, Int.emod_emod_of_dvd _ (Int.dvd_refl _)]; rfl]
    generalize n % k = r at *
    have hr2 := hr.below hbw2
    go_loopw [9, 10] (fun o i wr => ∃ j : Nat, j ≤ r ∧ i = .int .i64 j ∧ o = .int .i64 (ci (pw u j)) ∧ Bx wr w.heap.size D.toDesc A D.mod.length c ∧ Below w.heap.size w wr ∧ w.heap.size < wr.heap.size) (fun _ i _ => r - (intOf i).toNat)
    case atStart => exact ⟨0, by omega, rfl, by rw [pw_zero, ci_one], hbx2, hbw2, by omega⟩
    case round =>
      obtain ⟨j, hj, rfl, rfl, hbx, hbw, hsz⟩ := hrel
      have kc := hbx
      obtain ⟨kc0, kc1, kc2⟩ := kc
      by_cases hlt2 : j < r
      · have hM2 := hM (ci (pw u j)) (ci u) wr ((hr.below hbw).more (by omega))
        rw [eli_ci, eli_ci] at hM2
        have hM2 := Lib.hid hM2.out
        go_wp2_with (fail)
        refine hM2.out.mono ?_
        rintro e w3 ⟨rfl, hb3⟩
        go_wp2_with (fail)
        go_roundw
        case rel => exact ⟨j + 1, by omega, by go_num, rfl, hbx.below hb3 hsz, hbw.trans (hb3.mono (by omega)), by have := hb3.size; omega⟩
        case measure => simp [intOf]; omega
      · obtain rfl : j = r := by omega
        go_wp2_with (fail)
        go_ret2
        exact ⟨by rw [← hfin.out]; rfl, hbw⟩

/-! ### layer 7's reference -/
set_option maxHeartbeats 1000000 in
theorem Frob7_any (D : FD) (x : Int) (k : Nat) (A : Option Addr) (c : Nat) (w : World) (hr : Rd w w.heap.size A (modL D.toDesc)) (hk : k ≤ 4294967296) :
    Calls Try.prog 23 #[.agg #[.int .i64 D.p, .int .i64 D.m, .slice A D.mod.length c], .int .i64 x, .int .i64 k] w fun e w' =>
      e = .returned (.int .i64 (ci (frob k (eli D.toDesc x)))) ∧ Below w.heap.size w w' := by
  have hp0 := D.p2; have hp1 := D.p256; have hp2 := D.m8
  have hI := fun w => Lib.hid (In_any D.toDesc x A D.mod.length c w)
  have hP := fun y w (hr : Rd w w.heap.size A (modL D.toDesc)) => Lib.hid (Pow_any D y D.p A c w hr (by omega) (by omega))
  generalize eli D.toDesc x = u at *
  have hbx0 := Bx.new w D.toDesc A D.mod.length c 24
  go_enter Try.func23, Try.ntmps23
  go_wp2_with (fail)
  refine (hI _).out.mono ?_
  rintro e w1 ⟨rfl, hb1⟩
  have hbx1 := hbx0.below hb1 (by simp)
  have hs1 := hb1.size
  simp only [World.size_alloc] at hs1
  have hbw1 : Below w.heap.size w w1 := ((Below.refl _ _).alloc (Nat.le_refl _) _).trans (hb1.mono (by simp))
  go_wp2_with (fail)
  go_loopw [1, 7] (fun o i wr => ∃ j : Nat, j ≤ k ∧ i = .int .i64 j ∧ o = .int .i64 (ci (frob j u)) ∧ Bx wr w.heap.size D.toDesc A D.mod.length c ∧ Below w.heap.size w wr ∧ w.heap.size < wr.heap.size) (fun _ i _ => k - (intOf i).toNat)
  case atStart => exact ⟨0, by omega, rfl, by rw [frob_zero_k], hbx1, hbw1, by omega⟩
  case round =>
    obtain ⟨j, hj, rfl, rfl, hbx, hbw, hsz⟩ := hrel
    have kc := hbx
    obtain ⟨kc0, kc1, kc2⟩ := kc
    by_cases hlt2 : j < k
    · have hM2 := hP (ci (frob j u)) wr ((hr.below hbw).more (by omega))
      rw [eli_ci] at hM2
      have hM2 := Lib.hid hM2.out
      have hfs : Hid (pw (frob j u) D.p = frob (j + 1) u) := (frob_succ j u).symm
      go_wp2_with (fail)
      refine hM2.out.mono ?_
      rw [hfs.out]
      rintro e w3 ⟨rfl, hb3⟩
      go_wp2_with (fail)
      go_roundw
      case rel => exact ⟨j + 1, by omega, by go_num, rfl, hbx.below hb3 hsz, hbw.trans (hb3.mono (by omega)), by have := hb3.size; omega⟩
      case measure => simp [intOf]; omega
    · obtain rfl : j = k := by omega
      go_wp2_with (fail)
      go_ret
      exact ⟨rfl, hbw⟩

/-- Is d a degree? -/
def divB (m : Nat) (d : Int) : Bool := decide (1 ≤ d ∧ d ≤ (m : Int) ∧ (m : Int) % d = 0)
theorem divB_nat {m : Nat} {d : Int} (h : divB m d = true) : ∃ k : Nat, d = k ∧ 1 ≤ k ∧ k ≤ m ∧ k ∣ m := by
  have h := of_decide_eq_true h
  obtain ⟨k, rfl⟩ := Int.eq_ofNat_of_zero_le (show 0 ≤ d by omega)
  refine ⟨k, rfl, by omega, by omega, ?_⟩
  exact Int.natCast_dvd_natCast.1 (Int.dvd_of_emod_eq_zero h.2.2)
theorem divB_of {m k : Nat} (h1 : 1 ≤ k) (h2 : k ∣ m) (hm : 1 ≤ m) : divB m k = true :=
  decide_eq_true ⟨by omega, by have := Nat.le_of_dvd hm h2; omega, Int.emod_eq_zero_of_dvd (Int.natCast_dvd_natCast.2 h2)⟩

set_option maxHeartbeats 1000000 in
theorem Divides_any (D : Desc) (d : Int) (A : Option Addr) (n c : Nat) (w : World) :
    Calls Try.prog 28 #[.agg #[.int .i64 D.p, .int .i64 D.m, .slice A n c], .int .i64 d] w fun e w' =>
      e = .returned (.bool (divB D.m d)) ∧ Below w.heap.size w w' := by
  have hp2 := D.m8
  by_cases h1 : 1 ≤ d
  · by_cases h2 : d ≤ D.m
    · by_cases h3 : (D.m : Int) % d = 0
      · have hb : ((D.m : Int) % d == 0) = true := beq_iff_eq.2 h3
        have hfin : Hid (divB D.m d = true) := decide_eq_true ⟨h1, h2, h3⟩
        clear h3
        go_enter Try.func28, Try.ntmps28
        go_wp2_with (fail)
        go_ret
        exact ⟨ret_bool hfin.out.symm, (Below.refl _ _).alloc (Nat.le_refl _) _⟩
      · have hb : ((D.m : Int) % d == 0) = false := beq_eq_false_iff_ne.2 h3
        have hfin : Hid (divB D.m d = false) := decide_eq_false fun h => h3 h.2.2
        clear h3
        go_enter Try.func28, Try.ntmps28
        go_wp2_with (fail)
        go_ret
        exact ⟨ret_bool hfin.out.symm, (Below.refl _ _).alloc (Nat.le_refl _) _⟩
    · have hfin : Hid (divB D.m d = false) := decide_eq_false fun h => h2 h.2.1
      go_enter Try.func28, Try.ntmps28
      go_wp2_with (fail)
      go_ret
      exact ⟨ret_bool hfin.out.symm, (Below.refl _ _).alloc (Nat.le_refl _) _⟩
  · have hfin : Hid (divB D.m d = false) := decide_eq_false fun h => h1 h.1
    go_enter Try.func28, Try.ntmps28
    go_wp2_with (fail)
    go_ret
    exact ⟨ret_bool hfin.out.symm, (Below.refl _ _).alloc (Nat.le_refl _) _⟩

theorem ci_beq {D : Desc} (u v : R D) : (ci u == ci v) = decide (u = v) := by
  by_cases h : u = v
  · rw [h]; simp
  · rw [decide_eq_false h, beq_eq_false_iff_ne]; exact fun e => h (ci_inj e)

set_option maxHeartbeats 1000000 in
theorem In7_any (D : FD) (x : Int) (k : Nat) (A : Option Addr) (c : Nat) (w : World) (hr : Rd w w.heap.size A (modL D.toDesc)) (hk : k ≤ 4294967296) :
    Calls Try.prog 36 #[.agg #[.int .i64 D.p, .int .i64 D.m, .slice A D.mod.length c], .int .i64 x, .int .i64 k] w fun e w' =>
      e = .returned (.bool (decide (frob k (eli D.toDesc x) = eli D.toDesc x))) ∧ Below w.heap.size w w' := by
  have hF := fun w hr => Lib.hid (Frob7_any D x k A c w hr hk)
  have hI := fun w => Lib.hid (In_any D.toDesc x A D.mod.length c w)
  generalize eli D.toDesc x = u at *
  have hbx0 := Lib.hid (Bx.new w D.toDesc A D.mod.length c 24)
  have hr0 := Lib.hid (hr.alloc (Nat.le_refl _) (.cells #[.int .i64 D.p, .int .i64 D.m, .slice A D.mod.length c] 24))
  have hfin := Lib.hid (ci_beq (frob k u) u)
  clear hr
  go_enter Try.func36, Try.ntmps36
  go_wp2
  go_region_held3 (fun w' => w'.cell? ⟨w.heap.size, 0, none⟩ = some (.int .i64 D.p) ∧ w'.cell? ⟨w.heap.size, 1, none⟩ = some (.int .i64 D.m) ∧ w'.cell? ⟨w.heap.size, 2, none⟩ = some (.slice A D.mod.length c)) (first | exact hbx0.out | exact hbx1.out | exact hbx2.out)
    (first
      | (go_at_call 23; refine (hF _ (hr0.out.drew.more (by simp))).out.mono ?_; rintro e w1 ⟨rfl, hb1⟩; have hbx1 := Lib.hid (hbx0.out.drew.below hb1 (by simp)))
      | (go_at_call 26; refine (hI _).out.mono ?_; rintro e w2 ⟨rfl, hb2⟩; have hbx2 := Lib.hid (hbx1.out.below hb2 (by have := hb1.size; simp at this; omega))))
  rw [hfin.out]
  have hz1 := hb1.size
  simp only [World.drew, World.size_alloc] at hz1
  go_wp2
  go_ret
  exact ⟨rfl, ((((Below.refl _ _).alloc (Nat.le_refl _) _).drew).trans (hb1.mono (by simp))).trans (hb2.mono (by omega))⟩

end Go.Proofs.Yteamndefbpdcjaa
