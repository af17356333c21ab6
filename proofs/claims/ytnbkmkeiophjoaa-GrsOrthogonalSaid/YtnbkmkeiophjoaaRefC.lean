/- The reference's field arithmetic over a valid description: Neg, Sub, Mul. -/
import Derived.Test.YtnbkmkeiophjoaaRefB
import Derived.Test.YtnbkmkeiophjoaaP1
import Derived.StillTailTactics
namespace Go.Proofs.Ytnbkmkeiophjoaa
open Go.RowKit Cw

set_option maxHeartbeats 1000000 in
theorem Neg_any (D : Desc) (x : Int) (A : Option Addr) (n c : Nat) (w : World) :
    Calls Try.prog 73 #[.agg #[.int .i64 D.p, .int .i64 D.m, .slice A n c], .int .i64 x] w fun e w' =>
      e = .returned (.int .i64 (ci (-(eli D x)))) ∧ Below w.heap.size w w' := by
  have hp0 := D.p2; have hp1 := D.p256; have hp2 := D.m8
  have hD := fun w => Lib.hid (Digits_any D x A n c w)
  generalize hu : eli D x = u
  rw [hu] at hD
  clear hu
  have k0 := Lib.hid (alloc3 w (.int .i64 D.p) (.int .i64 D.m) (.slice A n c) 24)
  go_enter Try.func73, Try.ntmps73
  go_wp2_with (fail)
  refine (hD _).out.mono ?_
  rintro e w1 ⟨g1, rfl, hg1, hib1, hb1⟩
  have k1 := Lib.hid (keep3 (b := w.heap.size) hb1 (by simp) k0.out)
  have hs1 := hb1.size
  simp only [World.size_alloc] at hs1 hg1
  have hl1 : (dl u).length = D.m := lst_length _ _
  simp only [hl1]
  have hg1l := hib1.lt
  have hbw1 : Below w.heap.size w w1 := ((Below.refl _ _).alloc (Nat.le_refl _) _).trans (hb1.mono (by simp))
  clear hb1 k0
  go_wp2_with (fail)
  have hb0 : w.heap.size < g1 := by omega
  go_loopw [6] (fun i wr => ∃ k : Nat, k ≤ D.m ∧ i = .int .i64 k ∧ IB wr g1 (mix D.m k (fun i => (di (-u) i : Nat)) (fun i => (di u i : Nat))) ∧ Below w.heap.size w wr ∧
     Hid (wr.cell? ⟨w.heap.size, 0, none⟩ = some (.int .i64 D.p) ∧ wr.cell? ⟨w.heap.size, 1, none⟩ = some (.int .i64 D.m) ∧ wr.cell? ⟨w.heap.size, 2, none⟩ = some (.slice A n c))) (fun i _ => D.m - (intOf i).toNat)
  case atStart => exact ⟨0, by omega, rfl, by rw [mix_zero]; exact hib1, hbw1, k1⟩
  case round =>
    obtain ⟨k, hk, rfl, hi1, hbw, hkc⟩ := hrel
    by_cases hlt : k < D.m
    · have hc1 := hi1.cell (i := k) (by rw [mix_length]; exact hlt)
      rw [mix_get_at _ _ hlt] at hc1
      have hf := hi1.frozen k
      have hset := Lib.hid (hi1.set_ k (di (-u) k : Nat))
      have hd1 := di_lt u k
      have hdv : Hid (((di (-u) k : Nat) : Int) = (-(di u k : Int)) % (D.p : Int)) := by
        show ((di (-u) k : Nat) : Int) = _
        rw [di_neg, Int.natCast_emod, Int.natCast_sub (Nat.le_of_lt hd1)]
        simp
      obtain ⟨kc0, kc1, kc2⟩ := hkc.out
      go_wp2_with (fail)
      go_region
      all_goals go_wp2_with (fail)
      go_roundw
      case rel =>
        have h := hset.out
        refine ⟨k+1, by omega, by go_num, ?_, (hbw.setCell (p := ⟨g1, k, none⟩) (Nat.le_of_lt hb0) _).drew, ?_⟩
        · rw [← mix_set]
          rw [hdv.out] at h ⊢
          exact h
        · exact keep3 (B := w.heap.size + 1) ((Below.refl _ _).setCell (p := ⟨g1, k, none⟩) hb0 _).drew (by omega) hkc.out
      case measure => simp [intOf]; omega
    · obtain rfl : k = D.m := by omega
      rw [mix_full] at hi1
      obtain ⟨kc0, kc1, kc2⟩ := hkc.out
      have hV := Lib.hid (Value_any D.p D.m (di (-u)) D.m A (some ⟨g1, 0, none⟩) n c D.m wr (by omega) hp1 hp2 (fun i _ => di_lt _ i) D.hq (hi1.rd))
      go_wp2_with (fail)
      refine hV.out.mono ?_
      rintro e w3 ⟨rfl, hb3⟩
      have hsr := hbw.size
      go_wp2_with (fail)
      go_ret
      exact ⟨rfl, hbw.trans (hb3.mono hsr)⟩

set_option maxHeartbeats 800000 in
theorem Sub_any (D : Desc) (x y : Int) (A : Option Addr) (n c : Nat) (w : World) :
    Calls Try.prog 70 #[.agg #[.int .i64 D.p, .int .i64 D.m, .slice A n c], .int .i64 x, .int .i64 y] w fun e w' =>
      e = .returned (.int .i64 (ci (eli D x - eli D y))) ∧ Below w.heap.size w w' := by
  have hN := fun w => Lib.hid (Neg_any D y A n c w)
  generalize hz : -(eli D y) = z
  rw [hz] at hN
  have hA := fun w => Lib.hid (Add_any D x (ci z) A n c w)
  have hfin : Hid (ci (eli D x + eli D (ci z)) = ci (eli D x - eli D y)) := by
    show ci (eli D x + eli D (ci z)) = _
    rw [eli_ci, ← hz]; rfl
  clear hz
  have k0 := Lib.hid (alloc3 w (.int .i64 D.p) (.int .i64 D.m) (.slice A n c) 24)
  go_enter Try.func70, Try.ntmps70
  go_wp2
  go_region_held3 (fun w' => w'.cell? ⟨w.heap.size, 0, none⟩ = some (.int .i64 D.p) ∧ w'.cell? ⟨w.heap.size, 1, none⟩ = some (.int .i64 D.m) ∧ w'.cell? ⟨w.heap.size, 2, none⟩ = some (.slice A n c)) (first | exact k0.out | exact k2.out | exact k1.out)
    (first
      | (go_at_call 73; refine (hN _).out.mono ?_; rintro e w1 ⟨rfl, hb1⟩; have k1 := Lib.hid (keep3 (b := w.heap.size) hb1 (by simp) k0.out); have hs1 := hb1.size; simp only [World.drew, World.size_alloc] at hs1)
      | (go_at_call 46; refine (hA _).out.mono ?_; rintro e w2 ⟨rfl, hb2⟩; have k2 := Lib.hid (keep3 (b := w.heap.size) hb2 (by omega) k1.out)))
  go_wp2
  go_ret
  exact ⟨ret_int hfin.out, ((((Below.refl _ _).alloc (Nat.le_refl _) _).drew).trans (hb1.mono (by simp))).trans (hb2.mono (by omega))⟩

theorem modL_get (D : Desc) {l : Nat} (h : l < D.mod.length) : (modL D)[l]?.getD 0 = ((D.mod.getD l 0 : Nat) : Int) := by
  simp [modL, h]
theorem modL_length (D : Desc) : (modL D).length = D.mod.length := by simp [modL]
/-- The state of Mul's loops: the digits' blocks, the product's block, the box, nothing old has turned. -/
structure MulSt (D : Desc) (u v : R D) (A : Option Addr) (n c g1 g2 g3 N : Nat) (w : World) (cf : Nat → Nat) (wr : World) : Prop where
  lt : ∀ t, cf t < D.p
  i1 : IB wr g1 (dl u)
  i2 : IB wr g2 (dl v)
  i3 : IB wr g3 (lst N fun t => (cf t : Nat))
  bw : Below w.heap.size w wr
  bx : wr.cell? ⟨w.heap.size, 0, none⟩ = some (.int .i64 D.p) ∧ wr.cell? ⟨w.heap.size, 1, none⟩ = some (.int .i64 D.m) ∧ wr.cell? ⟨w.heap.size, 2, none⟩ = some (.slice A n c)
theorem MulSt.step {D : Desc} {u v : R D} {A : Option Addr} {n c g1 g2 g3 N : Nat} {w wr : World} {cf : Nat → Nat} (h : MulSt D u v A n c g1 g2 g3 N w cf wr)
    (h1 : w.heap.size < g1) (h2 : g1 < g2) (h3 : g2 < g3) (k t : Nat) {z : Int} (hz : z = ((t % D.p : Nat) : Int)) :
    MulSt D u v A n c g1 g2 g3 N w (fup cf k (t % D.p)) (wr.setCell ⟨g3, k, none⟩ (.int .i64 z)).drew where
  lt i := by
    unfold fup
    by_cases e : i = k
    · rw [if_pos e]; exact Nat.mod_lt _ (by have := D.p2; omega)
    · rw [if_neg e]; exact h.lt i
  i1 := (h.i1.far (p := ⟨g3, k, none⟩) (by show g1 ≠ g3; omega) _).drew
  i2 := (h.i2.far (p := ⟨g3, k, none⟩) (by show g2 ≠ g3; omega) _).drew
  i3 := by
    have h4 := (h.i3.set_ k z).drew
    rw [lst_set] at h4
    have e : (fun i => if i = k then z else ((cf i : Nat) : Int)) = fun i => ((fup cf k (t % D.p) i : Nat) : Int) := funext fun i => by
      unfold fup
      by_cases e : i = k
      · rw [if_pos e, if_pos e, hz]
      · rw [if_neg e, if_neg e]
    rw [e] at h4; exact h4
  bw := (h.bw.setCell (p := ⟨g3, k, none⟩) (by show w.heap.size ≤ g3; omega) _).drew
  bx := keep3 (B := w.heap.size + 1) ((Below.refl _ _).setCell (p := ⟨g3, k, none⟩) (by show w.heap.size + 1 ≤ g3; omega) _).drew (by omega) h.bx

set_option maxRecDepth 100000 in
set_option maxHeartbeats 4000000 in
theorem Mul_any (D : Desc) (x y : Int) (A : Option Addr) (c : Nat) (w : World) (hr : Rd w w.heap.size A (modL D)) :
    Calls Try.prog 47 #[.agg #[.int .i64 D.p, .int .i64 D.m, .slice A D.mod.length c], .int .i64 x, .int .i64 y] w fun e w' =>
      e = .returned (.int .i64 (ci (eli D x * eli D y))) ∧ Below w.heap.size w w' := by
  have hp0 := D.p2; have hp1 := D.p256; have hp2 := D.m8; have hm1 := D.m1
  have hDx := fun w => Lib.hid (Digits_any D x A D.mod.length c w)
  have hDy := fun w => Lib.hid (Digits_any D y A D.mod.length c w)
  generalize eli D x = u at *
  generalize eli D y = v at *
  obtain ⟨N, hN⟩ : ∃ N : Nat, N + 1 = 2 * D.m := ⟨2 * D.m - 1, by omega⟩
  have hNe : 2 * (D.m : Int) - 1 = (N : Int) := by omega
  have hmk : ∀ w : World, (Instr.makeSlice 22 (.int .i64 (2 * (D.m : Int) - 1)) (.int .i64 (2 * (D.m : Int) - 1))).run Try.prog w =
      .ok (.slice (some ⟨w.heap.size, 0, none⟩) N N) (w.alloc (.cells (Array.replicate N (Value.int .i64 0)) 3)) := fun w => by
    rw [hNe]; exact mk_ints N (by omega) w
  have hN' := Lib.hid hN
  have hN1 : D.m ≤ N := by omega
  have hN2 : N ≤ 15 := by omega
  clear hN hNe
  have k0 := Lib.hid (alloc3 w (.int .i64 D.p) (.int .i64 D.m) (.slice A D.mod.length c) 24)
  have hl1 : (dl u).length = D.m := lst_length _ _
  have hl2 : (dl v).length = D.m := lst_length _ _
  go_enter Try.func47, Try.ntmps47
  go_wp2_with (fail)
  refine (hDx _).out.mono ?_
  rintro e w1 ⟨g1, rfl, hg1, hib1, hb1⟩
  have k1 := Lib.hid (keep3 (b := w.heap.size) hb1 (by simp) k0.out)
  have hs1 := hb1.size
  simp only [World.size_alloc] at hs1 hg1
  simp only [hl1]
  obtain ⟨kc0, kc1, kc2⟩ := k1.out
  go_wp2_with (fail)
  refine (hDy _).out.mono ?_
  rintro e w2 ⟨g2, rfl, hg2, hib2, hb2⟩
  have k2 := Lib.hid (keep3 (b := w.heap.size) hb2 (by omega) k1.out)
  have hs2 := hb2.size
  simp only [hl2]
  have hg1l := hib1.lt
  have hg2l := hib2.lt
  have hib1' := hib1.below hb2 (by omega)
  have hbw2 : Below w.heap.size w w2 := (((Below.refl _ _).alloc (Nat.le_refl _) _).trans (hb1.mono (by simp))).trans (hb2.mono (by omega))
  clear kc0 kc1 kc2 hib1 hb1 hb2 k1 k0 hDx hDy
  obtain ⟨kc0, kc1, kc2⟩ := k2.out
  have hst : Hid (MulSt D u v A D.mod.length c g1 g2 w2.heap.size N w (fun _ => 0) (w2.alloc (.cells (Array.replicate N (Value.int .i64 0)) 3))) :=
    ⟨fun _ => by omega, hib1'.alloc _, hib2.alloc _, by have := IB.newz w2 N; rw [lst_zero] at this; exact this, hbw2.alloc (by omega) _,
      keep3 (B := w2.heap.size) ((Below.refl _ _).alloc (Nat.le_refl _) _) (by omega) k2.out⟩
  have hb0 : w.heap.size < g1 := by omega
  have hne : g1 < g2 := by omega
  have hne2 : g2 < w2.heap.size := hg2l
  go_wp2_with (fail)
  clear kc0 kc1 kc2 k2 hmk
  generalize w2.heap.size = g3 at *
  go_loopw [10, 11] (fun i _ wr => ∃ (k : Nat) (cf : Nat → Nat), k ≤ D.m ∧ i = .int .i64 k ∧ Hid (MulSt D u v A D.mod.length c g1 g2 g3 N w cf wr) ∧ Hid (ev D cf N = pp u v k 0)) (fun i _ _ => D.m - (intOf i).toNat)
  case atStart => exact ⟨0, fun _ => 0, by omega, rfl, hst, by unfold Hid; rw [ev_zero, pp_zero]⟩
  case round =>
    obtain ⟨k, cf, hk, rfl, hms, hev⟩ := hrel
    obtain ⟨kc0, kc1, kc2⟩ := hms.out.bx
    by_cases hlt : k < D.m
    · go_wp2_with (fail)
      clear kc0 kc1 kc2
      obtain ⟨wo, rfl⟩ : ∃ wo : World, wo = wr := ⟨_, rfl⟩
      go_loopw [11] (fun j wr => ∃ (l : Nat) (cf : Nat → Nat), l ≤ D.m ∧ j = .int .i64 l ∧ Hid (MulSt D u v A D.mod.length c g1 g2 g3 N w cf wr) ∧ Hid (ev D cf N = pp u v k l)) (fun j _ => D.m - (intOf j).toNat)
      case atStart => exact ⟨0, cf, by omega, rfl, hms, hev⟩
      case round =>
        clear hms hev cf
        obtain ⟨l, cf, hl, rfl, hms, hev⟩ := hrel
        obtain ⟨kc0, kc1, kc2⟩ := hms.out.bx
        by_cases hlt2 : l < D.m
        · have hc3 := hms.out.i3.cell (i := k + l) (by rw [lst_length]; have := hN'.out; omega)
          rw [lst_get _ (by have := hN'.out; omega)] at hc3
          have hc1 := hms.out.i1.cell (i := k) (by rw [hl1]; exact hlt)
          have hc2 := hms.out.i2.cell (i := l) (by rw [hl2]; exact hlt2)
          unfold dl at hc1 hc2
          rw [lst_get _ hlt] at hc1
          rw [lst_get _ hlt2] at hc2
          have hf := hms.out.i3.frozen (k + l)
          have hd1 := di_lt u k
          have hd2 := di_lt v l
          have hd3 := hms.out.lt (k + l)
          have hkl : k + l < N := by have := hN'.out; omega
          obtain ⟨hm1a, hm1b⟩ : (0 : Int) ≤ (di u k : Int) * (di v l : Int) ∧ (di u k : Int) * (di v l : Int) ≤ 65536 := by
            have h1 := Nat.mul_le_mul (Nat.le_trans (Nat.le_of_lt hd1) hp1) (Nat.le_trans (Nat.le_of_lt hd2) hp1)
            have h2 : ((di u k * di v l : Nat) : Int) = (di u k : Int) * (di v l : Int) := by simp
            omega
          have hstep := Lib.hid (hms.out.step hb0 hne hne2 (k + l) (cf (k + l) + di u k * di v l) (z := ((cf (k + l) : Int) + (di u k : Int) * (di v l : Int)) % (D.p : Int)) (by simp))
          have hev2 : Hid (ev D (fup cf (k + l) ((cf (k + l) + di u k * di v l) % D.p)) N = pp u v k (l + 1)) := by
            unfold Hid; rw [ev_step _ _ hkl, hev.out, pp_step]
          clear hms hev
          go_wp2_with (fail)
          go_region
          all_goals go_wp2_with (fail)
          go_roundw
          case rel => exact ⟨l + 1, _, by omega, by go_num, hstep, hev2⟩
          case measure => simp [intOf]; omega
        · obtain rfl : l = D.m := by omega
          go_wp2_with (fail)
          go_roundw
          case rel => exact ⟨k + 1, cf, by omega, by go_num, hms, by unfold Hid; rw [hev.out, pp_row]⟩
          case measure => simp [intOf]; omega
    · obtain rfl : k = D.m := by omega
      have hev3 : Hid (ev D cf N = u * v) := by unfold Hid; rw [hev.out, pp_full]
      clear hev
      go_wp2_with (fail)
      clear kc0 kc1 kc2
      go_loopw [12, 13] (fun i _ wr => ∃ (t : Nat) (cf : Nat → Nat), t + 1 ≤ D.m ∧ i = .int .i64 ((t : Int) + (D.m : Int) - 1) ∧ Hid (MulSt D u v A D.mod.length c g1 g2 g3 N w cf wr) ∧ Hid (ev D cf (t + D.m) = u * v)) (fun i _ _ => (intOf i).toNat)
      case atStart => exact ⟨D.m - 1, cf, by omega, by congr 1; omega, hms, by have := hN'.out; rw [show D.m - 1 + D.m = N by omega]; exact hev3⟩
      case round =>
        clear hms hev3 cf
        obtain ⟨t, cf, ht, rfl, hms, hev⟩ := hrel
        obtain ⟨kc0, kc1, kc2⟩ := hms.out.bx
        cases t with
        | zero =>
          rw [Nat.zero_add] at hev
          have hV := Lib.hid (Value_any D.p D.m cf D.m A (some ⟨g3, 0, none⟩) D.mod.length c N wr.drew (by omega) hp1 hp2 (fun i _ => hms.out.lt i) D.hq
            (by have h4 := (hms.out.i3.rd).take D.m; rw [lst_take _ hN1] at h4; exact h4))
          have hsr : w.heap.size < wr.heap.size := Nat.lt_trans (Nat.lt_trans hb0 hne) (Nat.lt_trans hne2 hms.out.i3.lt)
          have hfin : Hid (((nval D.p cf D.m : Nat) : Int) = ci (u * v)) := by unfold Hid ci; rw [nval_ev _ (fun i _ => hms.out.lt i), hev.out]
          have hbw := hms.out.bw
          have hbx := Lib.hid hms.out.bx
          clear hms hev
          go_wp2_with (fail)
          go_region_held3 (fun w' => w'.cell? ⟨w.heap.size, 0, none⟩ = some (.int .i64 D.p) ∧ w'.cell? ⟨w.heap.size, 1, none⟩ = some (.int .i64 D.m) ∧ w'.cell? ⟨w.heap.size, 2, none⟩ = some (.slice A D.mod.length c)) (first | exact hbx.out | exact k2.out)
            (first
              | (go_at_call 87; refine hV.out.mono ?_; rintro e w3 ⟨rfl, hb3⟩; have k2 := Lib.hid (keep3 (b := w.heap.size) hb3 hsr hbx.out)))
          go_wp2_with (fail)
          go_ret
          exact ⟨ret_int hfin.out, hbw.drew.trans (hb3.mono (Nat.le_of_lt hsr))⟩
        | succ r =>
          rw [show ((r + 1 : Nat) : Int) + (D.m : Int) - 1 = (r : Int) + (D.m : Int) by omega]
          have hml : D.mod.length = D.m := by have := D.hlen; rw [if_neg (by omega)] at this; exact this
          obtain ⟨C, hC⟩ : ∃ C, C = cf (r + D.m) := ⟨_, rfl⟩
          have hCp : C < D.p := by rw [hC]; exact hms.out.lt _
          have hev4 : Hid (ev D cf (r + D.m) = u * v - sc (zp D.p C) * pw (Xc D) (r + D.m) + rd1 D C r 0) := by
            have h5 := hev.out
            rw [show r + 1 + D.m = r + D.m + 1 by omega, ev_succ, ← hC] at h5
            show ev D cf (r + D.m) = _
            rw [rd1_zero, add_zero, ← h5, add_sub_cancel]
          have hC' := Lib.hid hC
          clear hC hev
          have hbt : decide ((D.m : Int) ≤ (r : Int) + (D.m : Int)) = true := decide_eq_true (by omega)
          go_wp2_with (fail)
          clear kc0 kc1 kc2 hbt
          obtain ⟨wo, rfl⟩ : ∃ wo : World, wo = wr := ⟨_, rfl⟩
          go_loopw [13] (fun j wr => ∃ (l : Nat) (cf : Nat → Nat), l ≤ D.m ∧ j = .int .i64 l ∧ Hid (MulSt D u v A D.mod.length c g1 g2 g3 N w cf wr) ∧ Hid (C = cf (r + D.m)) ∧ Hid (ev D cf (r + D.m) = u * v - sc (zp D.p C) * pw (Xc D) (r + D.m) + rd1 D C r l)) (fun j _ => D.m - (intOf j).toNat)
          case atStart => exact ⟨0, cf, by omega, rfl, hms, hC', hev4⟩
          case round =>
            clear hms hev4 hC' cf
            obtain ⟨l, cf, hl, rfl, hms, hC, hev⟩ := hrel
            obtain ⟨kc0, kc1, kc2⟩ := hms.out.bx
            by_cases hlt2 : l < D.m
            · have hrl : r + l < N := by have := hN'.out; omega
              have hrm : r + D.m < N := by have := hN'.out; omega
              have hc3 := hms.out.i3.cell (i := r + l) (by rw [lst_length]; exact hrl)
              rw [lst_get _ hrl] at hc3
              have hc4 := hms.out.i3.cell (i := r + D.m) (by rw [lst_length]; exact hrm)
              rw [lst_get _ hrm, ← hC.out] at hc4
              obtain ⟨b, off, rfl, hb, hcm⟩ := hr.at_ (k := l) (by rw [modL_length, hml]; exact hlt2)
              rw [modL_get D (by rw [hml]; exact hlt2)] at hcm
              have hcm2 := (hms.out.bw.cell (p := ⟨b, off + l, none⟩) hb).trans hcm
              clear hcm
              obtain ⟨ml, hmle⟩ : ∃ ml, ml = D.mod.getD l 0 := ⟨_, rfl⟩
              have hmlp : ml < D.p := by rw [hmle]; exact D.hmod l
              rw [← hmle] at hcm2
              have hmll : l < D.mod.length := by omega
              have hf := hms.out.i3.frozen (r + l)
              have hd3 := hms.out.lt (r + l)
              obtain ⟨hm1a, hm1b⟩ : (0 : Int) ≤ ((D.p : Int) - (C : Int)) * (ml : Int) ∧ ((D.p : Int) - (C : Int)) * (ml : Int) ≤ 65536 := by
                have h1 := Nat.mul_le_mul (Nat.le_trans (Nat.sub_le D.p C) hp1) (Nat.le_trans (Nat.le_of_lt hmlp) hp1)
                have h2 : (((D.p - C) * ml : Nat) : Int) = ((D.p : Int) - (C : Int)) * (ml : Int) := by rw [Int.natCast_mul, Int.natCast_sub (Nat.le_of_lt hCp)]
                omega
              have hstep := Lib.hid (hms.out.step hb0 hne hne2 (r + l) (cf (r + l) + (D.p - C) * ml) (z := ((cf (r + l) : Int) + ((D.p : Int) - (C : Int)) * (ml : Int)) % (D.p : Int))
                (by rw [Int.natCast_emod, Int.natCast_add, Int.natCast_mul, Int.natCast_sub (Nat.le_of_lt hCp)]))
              have hev2 : Hid (ev D (fup cf (r + l) ((cf (r + l) + (D.p - C) * ml) % D.p)) (r + D.m) = u * v - sc (zp D.p C) * pw (Xc D) (r + D.m) + rd1 D C r (l + 1)) := by
                unfold Hid; rw [ev_step _ _ (by omega), hev.out, rd1_succ, hmle, add_a]
              have hC2 : Hid (C = fup cf (r + l) ((cf (r + l) + (D.p - C) * ml) % D.p) (r + D.m)) := by
                unfold Hid fup; rw [if_neg (by omega)]; exact hC.out
              clear hms hev hC hml hmle
              have hrl0 : (0 : Int) ≤ (r : Int) + (l : Int) := by omega
              have hrl1 : (r : Int) + (l : Int) < (N : Int) := by omega
              have hrl2 : ((r : Int) + (l : Int)).toNat = r + l := by omega
              have hrm0 : (0 : Int) ≤ (r : Int) + (D.m : Int) := by omega
              have hrm1 : (r : Int) + (D.m : Int) < (N : Int) := by omega
              have hrm2 : ((r : Int) + (D.m : Int)).toNat = r + D.m := by omega
              have hml3 : (l : Int) < (D.mod.length : Int) := by omega
              have e1 : IntKind.i64.wrap (r : Int) = (r : Int) := IntWalk.i64_in _ (by omega)
              have e2 : IntKind.i64.wrap ((r : Int) + (l : Int)) = (r : Int) + (l : Int) := IntWalk.i64_in _ (by omega)
              have e3 : IntKind.i64.wrap ((D.p : Int) - (C : Int)) = (D.p : Int) - (C : Int) := IntWalk.i64_in _ (by omega)
              have e4 : IntKind.i64.wrap (((D.p : Int) - (C : Int)) * (ml : Int)) = ((D.p : Int) - (C : Int)) * (ml : Int) := IntWalk.i64_in _ (by omega)
              have e5 : IntKind.i64.wrap ((cf (r + l) : Int) + ((D.p : Int) - (C : Int)) * (ml : Int)) = (cf (r + l) : Int) + ((D.p : Int) - (C : Int)) * (ml : Int) := IntWalk.i64_in _ (by omega)
              have hpz : ¬ D.p = 0 := by omega
              have hX0 : 0 ≤ (cf (r + l) : Int) + ((D.p : Int) - (C : Int)) * (ml : Int) := by omega
              have hXm := Int.emod_lt_of_pos ((cf (r + l) : Int) + ((D.p : Int) - (C : Int)) * (ml : Int)) (show (0 : Int) < D.p by omega)
              have hXn := Int.emod_nonneg ((cf (r + l) : Int) + ((D.p : Int) - (C : Int)) * (ml : Int)) (show (D.p : Int) ≠ 0 by omega)
              have e6 : ((cf (r + l) : Int) + ((D.p : Int) - (C : Int)) * (ml : Int)).tmod (D.p : Int) = ((cf (r + l) : Int) + ((D.p : Int) - (C : Int)) * (ml : Int)) % (D.p : Int) := Int.tmod_eq_emod_of_nonneg hX0
              have e7 : IntKind.i64.wrap (((cf (r + l) : Int) + ((D.p : Int) - (C : Int)) * (ml : Int)) % (D.p : Int)) = ((cf (r + l) : Int) + ((D.p : Int) - (C : Int)) * (ml : Int)) % (D.p : Int) := IntWalk.i64_in _ (by omega)
              go_wp2_with (fail)
              go_still_tail 34, (by kernel_rfl)
              change wpList _ _ _ _ _ wr.drew
              clear e1 e2 e3 e4 e5 e6 e7 hrl2 hrm2
              go_wp2_with (fail)
              go_roundw
              case rel => exact ⟨l + 1, _, by omega, by go_num, hstep, hC2, hev2⟩
              case measure => simp [intOf]; omega
            · obtain rfl : l = D.m := by omega
              go_wp2_with (fail)
              go_roundw
              case rel => exact ⟨r, cf, by omega, by first | rfl | go_num | (congr 1; omega), hms, by unfold Hid; rw [hev.out, rd1_full (Nat.le_of_lt hCp), sub_add_cancel]⟩
              case measure => simp [intOf]; omega
end Go.Proofs.Ytnbkmkeiophjoaa
