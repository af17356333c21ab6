/- The program's search for a primitive element. -/
import Derived.Test.YtnbkmkeiophjoaaPrgE
import Derived.Test.YtnbkmkeiophjoaaBx
import Derived.Deep.Onto
namespace Go.Proofs.Ytnbkmkeiophjoaa
open Go.RowKit Cw

theorem isGen_pos {D : Desc} {u : R D} (h : IsGen u) : 1 ≤ rcode u := by
  rcases Nat.eq_zero_or_pos (rcode u) with h0 | h0
  · have hu : u = 0 := rcode_inj (h0.trans rcode_zero.symm)
    have h1 := h.2
    have := D.q2
    rw [hu, zero_pw (by omega)] at h1
    exact absurd h1.symm one_ne_R
  · exact h0

theorem bx4 {B b : Nat} {W w1 : World} {D : Desc} {A : Option Addr} {n c : Nat} {p : Addr} {v : Option Value} (h : Bx W b D A n c) (hc : W.cell? p = v) (hb : Below B W w1) (h1 : b < B) (h2 : p.block < B) :
    w1.cell? ⟨b, 0, none⟩ = some (.int .i64 D.p) ∧ w1.cell? ⟨b, 1, none⟩ = some (.int .i64 D.m) ∧ w1.cell? ⟨b, 2, none⟩ = some (.slice A n c) ∧ w1.cell? p = v := by
  obtain ⟨h3, h4, h5⟩ := h.below hb h1
  exact ⟨h3, h4, h5, (hb.cell h2).trans hc⟩
theorem bx40 {b : Nat} {W : World} {D : Desc} {A : Option Addr} {n c : Nat} {p : Addr} {v : Option Value} (h : Bx W b D A n c) (hc : W.cell? p = v) :
    W.cell? ⟨b, 0, none⟩ = some (.int .i64 D.p) ∧ W.cell? ⟨b, 1, none⟩ = some (.int .i64 D.m) ∧ W.cell? ⟨b, 2, none⟩ = some (.slice A n c) ∧ W.cell? p = v :=
  ⟨h.1, h.2.1, h.2.2, hc⟩
def GenPost (D : Desc) (w : World) (e : Ending) (w' : World) : Prop :=
  ∃ v, e = .returned v ∧ Below w.heap.size w w' ∧ ((∃ u : R D, IsGen u ∧ Own w' (w.heap.size + 1) v (pwl u (D.q - 1))) ∨ ((∀ u : R D, ¬ IsGen u) ∧ v = .slice none 0 0))

set_option maxRecDepth 100000 in
set_option maxHeartbeats 2000000 in
theorem generator_any (D : Desc) (A : Option Addr) (c : Nat) (w : World) (hr : Rd w w.heap.size A (modL D)) :
    Calls Try.prog 100 #[.agg #[.int .i64 D.p, .int .i64 D.m, .slice A D.mod.length c], .int .i64 D.q] w (GenPost D w) := by
  have hq2 := D.q2; have hq3 := D.q256; have hp1 := D.p256; have hp2 := D.m8
  have hbx0 := Bx.new w D A D.mod.length c 24
  go_enter Try.func100, Try.ntmps100
  go_wp2_with (fail)
  go_loopw [5, 6] (fun x _ wr => ∃ k : Nat, 1 ≤ k ∧ k ≤ D.q ∧ x = .int .i64 k ∧ Bx wr w.heap.size D A D.mod.length c ∧ Below w.heap.size w wr ∧ w.heap.size < wr.heap.size ∧ Hid (∀ u : R D, rcode u < k → ¬ IsGen u)) (fun x _ _ => D.q - (intOf x).toNat)
  case atStart => exact ⟨1, by omega, by omega, rfl, hbx0, (Below.refl _ _).alloc (Nat.le_refl _) _, by simp, fun u hu h => by have := isGen_pos h; omega⟩
  case round =>
    obtain ⟨k, hk1, hk2, rfl, hbx, hbw, hsz, hno⟩ := hrel
    have kc := hbx
    obtain ⟨kc0, kc1, kc2⟩ := kc
    by_cases hlt : k < D.q
    · obtain ⟨u, hu⟩ : ∃ u : R D, u = rel D k := ⟨_, rfl⟩
      have huk : ci u = (k : Int) := by rw [hu, ci_rel hlt]
      have hur : rcode u = k := by rw [hu, rcode_rel hlt]
      have hP := powers_any D u A c wr ((hr.below hbw).more (by omega))
      rw [huk] at hP
      replace hP := Lib.hid hP
      replace huk := Lib.hid huk
      replace hu := Lib.hid hu
      replace hur := Lib.hid hur
      go_wp2_with (fail)
      refine hP.out.mono ?_
      rintro e w1 ⟨N, v, hpl, hps, rfl, hown, hb1⟩
      have hs1 := hb1.size
      have hbx1 := hbx.below hb1 hsz
      have hbw1 := hbw.trans (hb1.mono (Nat.le_of_lt hsz))
      have hle := hpl.le
      have hN1 := hpl.1
      obtain ⟨Av, cv, rfl, hcv, hrv, hAv⟩ := hown.form
      have hll : (pwl u N).length = N := lst_length _ _
      rw [hll] at hcv ⊢
      replace hll := Lib.hid hll
      by_cases hN : N = D.q - 1
      · have hNb : ((N : Int) == (D.q : Int) - 1) = true := by rw [beq_iff_eq]; omega
        have hN2 : D.q - 2 < N := by omega
        obtain ⟨b, off, rfl, hb, hcell⟩ := hrv.at_ (k := D.q - 2) (by rw [hll.out]; exact hN2)
        rw [show (pwl u N)[D.q - 2]?.getD 0 = ci (pw u (D.q - 2)) from lst_get _ hN2] at hcell
        have hM : ∀ W : World, Rd W W.heap.size A (modL D) → Hid (Calls Try.prog 129 #[.agg #[.int .i64 D.p, .int .i64 D.m, .slice A D.mod.length c], .int .i64 (ci (pw u (D.q - 2))), .int .i64 k] W fun e w' =>
            e = .returned (.int .i64 (ci (pw u (D.q - 1)))) ∧ Below W.heap.size W w') := fun W hW => by
          have h := multiply_any D (pw u (D.q - 2)) u A c W hW
          rw [huk.out, ← pw_succ, show D.q - 2 + 1 = D.q - 1 by omega] at h
          exact h
        have hpl' : Hid (PwList u (D.q - 1)) := by rw [hN] at hpl; exact hpl
        have hown' : Hid (Own w1 (wr.heap.size + 1) (.slice (some ⟨b, off, none⟩) N cv) (pwl u (D.q - 1))) := by have h := hown; rw [hll.out] at h; rw [← hN]; exact h
        have hr1 := Lib.hid ((hr.below hbw1).more (show w.heap.size ≤ w1.heap.size by omega))
        have hbxH := Lib.hid hbx1
        have hcellH := Lib.hid hcell
        have hq0 : (0 : Int) ≤ (D.q : Int) - 2 := by omega
        have hq1 : (D.q : Int) - 2 < (N : Int) := by omega
        have hq5 : (2 : Int) ≤ (D.q : Int) := by omega
        have hq6 : (D.q : Int) < (N : Int) + 2 := by omega
        have hq4 : ((D.q : Int) - 2).toNat = D.q - 2 := by omega
        have hnstop : Hid (¬ pw u (D.q - 1) = 1 → ∀ u : R D, rcode u < k + 1 → ¬ IsGen u) := fun hne u' hu' => by
          by_cases e : rcode u' = k
          · have : u' = u := rcode_inj (by rw [e, hur.out])
            subst this
            exact fun h => hne h.2
          · exact hno.out u' (by omega)
        have ew1 : IntKind.i64.wrap ((D.q : Int) - 1) = (D.q : Int) - 1 := IntWalk.i64_in _ (by omega)
        have ew2 : IntKind.i64.wrap ((D.q : Int) - 2) = (D.q : Int) - 2 := IntWalk.i64_in _ (by omega)
        have hsz1 : w.heap.size < w1.heap.size := Nat.lt_of_lt_of_le hsz hs1
        have hbb : b < w1.heap.size := hb
        clear hN hrv hAv hcell hown hpl hps hle hbx1 hcv
        by_cases hy : pw u (D.q - 1) = 1
        · have hcb : (ci (pw u (D.q - 1)) == 1) = true := by rw [beq_iff_eq]; exact ci_eq_one.2 hy
          replace hy := Lib.hid hy
          go_wp2_with (fail)
          go_region_held3 (fun w' => w'.cell? ⟨w.heap.size, 0, none⟩ = some (.int .i64 D.p) ∧ w'.cell? ⟨w.heap.size, 1, none⟩ = some (.int .i64 D.m) ∧ w'.cell? ⟨w.heap.size, 2, none⟩ = some (.slice A D.mod.length c) ∧ w'.cell? ⟨b, off + (D.q - 2), none⟩ = some (.int .i64 (ci (pw u (D.q - 2)))))
            (first | exact bx40 hbxH.out hcellH.out | exact k2.out)
            (first
              | (go_at_call 129; refine (hM _ hr1.out.drew).out.mono ?_; rintro e w2 ⟨rfl, hb2⟩; have k2 := Lib.hid (bx4 (W := w1.drew) hbxH.out hcellH.out hb2 hsz1 hbb)))
          clear ew1 ew2
          go_wp2_with (fail)
          go_ret
          exact ⟨_, rfl, hbw1.drew.trans (hb2.mono (Nat.le_of_lt hsz1)), .inl ⟨u, hpl'.out.gen hy.out, by
            have h6 := (hown'.out.drew.below hb2 (Nat.le_refl _))
            exact World.ownsRow.mono h6 (by omega)⟩⟩
        · have hcb : (ci (pw u (D.q - 1)) == 1) = false := by rw [beq_eq_false_iff_ne]; exact fun h => hy (ci_eq_one.1 h)
          have hng := Lib.hid (hnstop.out hy)
          clear hy
          go_wp2_with (fail)
          go_region_held3 (fun w' => w'.cell? ⟨w.heap.size, 0, none⟩ = some (.int .i64 D.p) ∧ w'.cell? ⟨w.heap.size, 1, none⟩ = some (.int .i64 D.m) ∧ w'.cell? ⟨w.heap.size, 2, none⟩ = some (.slice A D.mod.length c) ∧ w'.cell? ⟨b, off + (D.q - 2), none⟩ = some (.int .i64 (ci (pw u (D.q - 2)))))
            (first | exact bx40 hbxH.out hcellH.out | exact k2.out)
            (first
              | (go_at_call 129; refine (hM _ hr1.out.drew).out.mono ?_; rintro e w2 ⟨rfl, hb2⟩; have k2 := Lib.hid (bx4 (W := w1.drew) hbxH.out hcellH.out hb2 hsz1 hbb)))
          clear ew1 ew2
          go_wp2_with (fail)
          go_roundw
          case rel => exact ⟨k + 1, by omega, by omega, by go_num, hbxH.out.drew.below hb2 hsz1, hbw1.drew.trans (hb2.mono (Nat.le_of_lt hsz1)), Nat.lt_of_lt_of_le hsz1 hb2.size, hng⟩
          case measure => simp [intOf]; omega
      · have hNb : ((N : Int) == (D.q : Int) - 1) = false := by rw [beq_eq_false_iff_ne]; omega
        have hng : Hid (∀ u : R D, rcode u < k + 1 → ¬ IsGen u) := fun u' hu' => by
          by_cases e : rcode u' = k
          · have : u' = u := rcode_inj (by rw [e, hur.out])
            subst this
            exact fun h => hN (h.pwlist hpl hps)
          · exact hno.out u' (by omega)
        have hew : IntKind.i64.wrap ((D.q : Int) - 1) = (D.q : Int) - 1 := IntWalk.i64_in _ (by omega)
        clear hN
        go_wp2_with (fail)
        go_quiet (fail)
        clear hew
        go_wp2_with (fail)
        go_roundw
        case rel => exact ⟨k + 1, by omega, by omega, by go_num, hbx1, below_drewN' hbw1 _, Nat.lt_of_lt_of_le hsz hs1, hng⟩
        case measure => simp [intOf]; omega
    · have hk : k = D.q := by omega
      have hng : Hid (∀ u : R D, ¬ IsGen u) := fun u => hno.out u (by have := rcode_lt u; omega)
      go_wp2_with (fail)
      go_ret
      exact ⟨_, rfl, hbw, .inr ⟨hng.out, rfl⟩⟩
end Go.Proofs.Ytnbkmkeiophjoaa
