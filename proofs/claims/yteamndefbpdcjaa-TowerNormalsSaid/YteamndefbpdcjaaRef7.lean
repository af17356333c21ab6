/- Layer 7 of the reference: Frobenius, Divides, In. -/
import Derived.Test.YteamndefbpdcjaaRefP
namespace Go.Proofs.Yteamndefbpdcjaa
open Go.RowKit Cw
/-! ### layer 7's reference -/
set_option maxHeartbeats 1000000 in
theorem Frob7_any (D : FD) (x : Int) (k : Nat) (A : Option Addr) (c : Nat) (w : World) (hr : Rd w w.heap.size A (modL D.toDesc)) (hk : k ≤ 4294967296) :
    Calls Try.prog 23 #[.agg #[.int .i64 D.p, .int .i64 D.m, .slice A D.mod.length c], .int .i64 x, .int .i64 k] w fun e w' =>
      e = .returned (.int .i64 (ci (frob k (eli D.toDesc x)))) ∧ Below w.heap.size w w' := by
  have hp0 := D.p2; have hp1 := D.p256; have hp2 := D.m8
  have hI := fun w => Lib.hid (In_any D.toDesc x A D.mod.length c w)
  have hP := fun y w (hr : Rd w w.heap.size A (modL D.toDesc)) => Lib.hid (Pow_any D y D.p A c w hr (by omega) (by omega))
  generalize eli D.toDesc x = u at *
  have hbx0 := Bx.new w D.toDesc A D.mod.length c 24
  go_enter Try.func23, Try.ntmps23
  go_wp2_with (fail)
  refine (hI _).out.mono ?_
  rintro e w1 ⟨rfl, hb1⟩
  have hbx1 := hbx0.below hb1 (by simp)
  have hs1 := hb1.size
  simp only [World.size_alloc] at hs1
  have hbw1 : Below w.heap.size w w1 := ((Below.refl _ _).alloc (Nat.le_refl _) _).trans (hb1.mono (by simp))
  go_wp2_with (fail)
  go_loopw [1, 7] (fun o i wr => ∃ j : Nat, j ≤ k ∧ i = .int .i64 j ∧ o = .int .i64 (ci (frob j u)) ∧ Bx wr w.heap.size D.toDesc A D.mod.length c ∧ Below w.heap.size w wr ∧ w.heap.size < wr.heap.size) (fun _ i _ => k - (intOf i).toNat)
  case atStart => exact ⟨0, by omega, rfl, by rw [frob_zero_k], hbx1, hbw1, by omega⟩
  case round =>
    obtain ⟨j, hj, rfl, rfl, hbx, hbw, hsz⟩ := hrel
    have kc := hbx
    obtain ⟨kc0, kc1, kc2⟩ := kc
    by_cases hlt2 : j < k
    · have hM2 := hP (ci (frob j u)) wr ((hr.below hbw).more (by omega))
      rw [eli_ci] at hM2
      have hM2 := Lib.hid hM2.out
      have hfs : Hid (pw (frob j u) D.p = frob (j + 1) u) := (frob_succ j u).symm
      go_wp2_with (fail)
      refine hM2.out.mono ?_
      rw [hfs.out]
      rintro e w3 ⟨rfl, hb3⟩
      go_wp2_with (fail)
      go_roundw
      case rel => exact ⟨j + 1, by omega, by go_num, rfl, hbx.below hb3 hsz, hbw.trans (hb3.mono (by omega)), by have := hb3.size; omega⟩
      case measure => simp [intOf]; omega
    · obtain rfl : j = k := by omega
      go_wp2_with (fail)
      go_ret
      exact ⟨rfl, hbw⟩

/-- Is d a degree? -/
def divB (m : Nat) (d : Int) : Bool := decide (1 ≤ d ∧ d ≤ (m : Int) ∧ (m : Int) % d = 0)
theorem divB_nat {m : Nat} {d : Int} (h : divB m d = true) : ∃ k : Nat, d = k ∧ 1 ≤ k ∧ k ≤ m ∧ k ∣ m := by
  have h := of_decide_eq_true h
  obtain ⟨k, rfl⟩ := Int.eq_ofNat_of_zero_le (show 0 ≤ d by omega)
  refine ⟨k, rfl, by omega, by omega, ?_⟩
  exact Int.natCast_dvd_natCast.1 (Int.dvd_of_emod_eq_zero h.2.2)
theorem divB_of {m k : Nat} (h1 : 1 ≤ k) (h2 : k ∣ m) (hm : 1 ≤ m) : divB m k = true :=
  decide_eq_true ⟨by omega, by have := Nat.le_of_dvd hm h2; omega, Int.emod_eq_zero_of_dvd (Int.natCast_dvd_natCast.2 h2)⟩

set_option maxHeartbeats 1000000 in
theorem Divides_any (D : Desc) (d : Int) (A : Option Addr) (n c : Nat) (w : World) :
    Calls Try.prog 28 #[.agg #[.int .i64 D.p, .int .i64 D.m, .slice A n c], .int .i64 d] w fun e w' =>
      e = .returned (.bool (divB D.m d)) ∧ Below w.heap.size w w' := by
  have hp2 := D.m8
  by_cases h1 : 1 ≤ d
  · by_cases h2 : d ≤ D.m
    · by_cases h3 : (D.m : Int) % d = 0
      · have hb : ((D.m : Int) % d == 0) = true := beq_iff_eq.2 h3
        have hfin : Hid (divB D.m d = true) := decide_eq_true ⟨h1, h2, h3⟩
        clear h3
        go_enter Try.func28, Try.ntmps28
        go_wp2_with (fail)
        go_ret
        exact ⟨ret_bool hfin.out.symm, (Below.refl _ _).alloc (Nat.le_refl _) _⟩
      · have hb : ((D.m : Int) % d == 0) = false := beq_eq_false_iff_ne.2 h3
        have hfin : Hid (divB D.m d = false) := decide_eq_false fun h => h3 h.2.2
        clear h3
        go_enter Try.func28, Try.ntmps28
        go_wp2_with (fail)
        go_ret
        exact ⟨ret_bool hfin.out.symm, (Below.refl _ _).alloc (Nat.le_refl _) _⟩
    · have hfin : Hid (divB D.m d = false) := decide_eq_false fun h => h2 h.2.1
      go_enter Try.func28, Try.ntmps28
      go_wp2_with (fail)
      go_ret
      exact ⟨ret_bool hfin.out.symm, (Below.refl _ _).alloc (Nat.le_refl _) _⟩
  · have hfin : Hid (divB D.m d = false) := decide_eq_false fun h => h1 h.1
    go_enter Try.func28, Try.ntmps28
    go_wp2_with (fail)
    go_ret
    exact ⟨ret_bool hfin.out.symm, (Below.refl _ _).alloc (Nat.le_refl _) _⟩

set_option maxHeartbeats 1000000 in
theorem In7_any (D : FD) (x : Int) (k : Nat) (A : Option Addr) (c : Nat) (w : World) (hr : Rd w w.heap.size A (modL D.toDesc)) (hk : k ≤ 4294967296) :
    Calls Try.prog 36 #[.agg #[.int .i64 D.p, .int .i64 D.m, .slice A D.mod.length c], .int .i64 x, .int .i64 k] w fun e w' =>
      e = .returned (.bool (decide (frob k (eli D.toDesc x) = eli D.toDesc x))) ∧ Below w.heap.size w w' := by
  have hF := fun w hr => Lib.hid (Frob7_any D x k A c w hr hk)
  have hI := fun w => Lib.hid (In_any D.toDesc x A D.mod.length c w)
  generalize eli D.toDesc x = u at *
  have hbx0 := Lib.hid (Bx.new w D.toDesc A D.mod.length c 24)
  have hr0 := Lib.hid (hr.alloc (Nat.le_refl _) (.cells #[.int .i64 D.p, .int .i64 D.m, .slice A D.mod.length c] 24))
  have hfin := Lib.hid (ci_beq (frob k u) u)
  clear hr
  go_enter Try.func36, Try.ntmps36
  go_wp2
  go_region_held3 (fun w' => w'.cell? ⟨w.heap.size, 0, none⟩ = some (.int .i64 D.p) ∧ w'.cell? ⟨w.heap.size, 1, none⟩ = some (.int .i64 D.m) ∧ w'.cell? ⟨w.heap.size, 2, none⟩ = some (.slice A D.mod.length c)) (first | exact hbx0.out | exact hbx1.out | exact hbx2.out)
    (first
      | (go_at_call 23; refine (hF _ (hr0.out.drew.more (by simp))).out.mono ?_; rintro e w1 ⟨rfl, hb1⟩; have hbx1 := Lib.hid (hbx0.out.drew.below hb1 (by simp)))
      | (go_at_call 26; refine (hI _).out.mono ?_; rintro e w2 ⟨rfl, hb2⟩; have hbx2 := Lib.hid (hbx1.out.below hb2 (by have := hb1.size; simp at this; omega))))
  rw [hfin.out]
  have hz1 := hb1.size
  simp only [World.drew, World.size_alloc] at hz1
  go_wp2
  go_ret
  exact ⟨rfl, ((((Below.refl _ _).alloc (Nat.le_refl _) _).drew).trans (hb1.mono (by simp))).trans (hb2.mono (by omega))⟩

end Go.Proofs.Yteamndefbpdcjaa
