/- The reference's polynomials: FromRoots. -/
import Derived.Test.YteamndefbpdcjaaPol5m
namespace Go.Proofs.Yteamndefbpdcjaa
open Go.RowKit Cw

/-- The coefficients of the product of X - r over the first k entries of a list. -/
noncomputable def frK (F : FD) (l : List Int) (k : Nat) : List Int := lst (k + 1) fun t => ci (lcf (cfR F.toDesc l) l.length k t)
theorem frK_length (F : FD) (l : List Int) (k : Nat) : (frK F l k).length = k + 1 := lst_length _ _
theorem ldeg_le {i k : Nat} (h : k ≤ i) : ldeg i k = k := by unfold ldeg; rw [if_neg (by omega)]
theorem cfR_frK (F : FD) (l : List Int) {k : Nat} (hk : k ≤ l.length) : cfR F.toDesc (frK F l k) = lcf (cfR F.toDesc l) l.length k := funext fun i => by
  unfold frK
  by_cases hi : i < k + 1
  · show eli F.toDesc ((lst _ _)[i]?.getD 0) = _
    rw [lst_get _ hi, eli_ci]
  · rw [cfR_out _ (by rw [lst_length]; omega), lcf_high _ _ _ _ (by rw [ldeg_le hk]; omega)]
theorem frK_zero (F : FD) (l : List Int) : frK F l 0 = [1] := by
  unfold frK
  show [ci (lcf (cfR F.toDesc l) l.length 0 0)] = [1]
  have e : lcf (cfR F.toDesc l) l.length 0 0 = 1 := by
    show (if (0 : Nat) = 0 then (1 : R F.toDesc) else 0) = 1
    rw [if_pos rfl]
  rw [e, ci_one]
theorem frK_succ (F : FD) (l : List Int) {k : Nat} (hk : k < l.length) : mulI F.toDesc (frK F l k) [ci (-cfR F.toDesc l k), 1] = frK F l (k + 1) := by
  have e : conv (cfR F.toDesc (frK F l k)) (cfR F.toDesc [ci (-cfR F.toDesc l k), 1]) = lcf (cfR F.toDesc l) l.length (k + 1) := funext fun t => by
    rw [cfR_frK F l (by omega), lcf_other _ (by omega : k ≠ l.length)]
    exact conv_xm _ _ _ (eli_ci _) eli_one (fun s hs => cfR_out _ (by simpa using hs)) t
  unfold mulI
  rw [e, frK_length]
  have h1 : lcf (cfR F.toDesc l) l.length (k + 1) (k + 1) = 1 := by
    have := lcf_top (cfR F.toDesc l) l.length (k + 1)
    rwa [ldeg_le (by omega)] at this
  rw [canL_more (n := k + 1 + 1) (by simp) (fun i h2 h3 => by rw [lcf_high _ _ _ _ (by rw [ldeg_le (by omega)]; omega), ci_zero]),
    canL_full (n := k + 1) (by rw [h1, ci_one]; decide)]
  rfl

set_option maxRecDepth 100000 in
set_option maxHeartbeats 2000000 in
theorem FromRoots5_any (F : FD) (l : List Int) (A A1 : Option Addr) (c c1 : Nat) (w : World) (hr : Rd w w.heap.size A (modL F.toDesc)) (hr1 : Rd w w.heap.size A1 l) (hl : l.length ≤ 1000) :
    Calls Try.prog 71 #[.agg #[.int .i64 F.p, .int .i64 F.m, .slice A F.mod.length c], .slice A1 l.length c1] w fun e w' => ∃ A' c', e = .returned (.slice A' (frK F l l.length).length c') ∧ Rd w' w'.heap.size A' (frK F l l.length) ∧ Below w.heap.size w w' := by
  have hN := fun x W => Lib.hid (Neg_any F.toDesc x A F.mod.length c W)
  have hM := fun k B1 B2 d1 d2 W a b e => (Mul5_any F.toDesc (frK F l k) [ci (-cfR F.toDesc l k), 1] A B1 B2 c d1 d2 W a b e)
  have hbx0 := Bx.new w F.toDesc A F.mod.length c 24
  have hB0 : Below w.heap.size w (w.alloc (.cells #[.int .i64 F.p, .int .i64 F.m, .slice A F.mod.length c] 24)) := (Below.refl _ _).alloc (Nat.le_refl _) _
  obtain ⟨Y, hY⟩ : ∃ Y, Y = (w.alloc (.cells #[.int .i64 F.p, .int .i64 F.m, .slice A F.mod.length c] 24)).alloc (.cells #[.int .i64 1] 3) := ⟨_, rfl⟩
  have hB : Below w.heap.size w Y := by rw [hY]; exact hB0.alloc hB0.size _
  have hYs : w.heap.size + 1 < Y.heap.size := by rw [hY]; simp
  have hbx : Bx Y w.heap.size F.toDesc A F.mod.length c := by rw [hY]; exact hbx0.below ((Below.refl _ _).alloc (Nat.le_refl _) _) (by simp)
  have hrd : Rd Y Y.heap.size (some ⟨w.heap.size + 1, 0, none⟩) (frK F l 0) := by
    rw [frK_zero]
    exact fun _ => ⟨w.heap.size + 1, 0, rfl, hYs, fun j hj => by
      have hj4 : j < 1 := hj
      obtain rfl : j = 0 := by omega
      rw [hY]; simp [go_sem]⟩
  replace hY := Lib.hid hY
  clear hbx0 hB0
  go_enter Try.func71, Try.ntmps71
  go_wp2_with (fail)
  rw [← hY.out]
  go_loopw [6, 5] (fun i v wr => ∃ k : Nat, k ≤ l.length ∧ i = .int .i64 k ∧ (∃ A' c', v = .slice A' (frK F l k).length c' ∧ Rd wr wr.heap.size A' (frK F l k)) ∧ Bx wr w.heap.size F.toDesc A F.mod.length c ∧ Below w.heap.size w wr ∧ w.heap.size < wr.heap.size) (fun i _ _ => l.length - (intOf i).toNat)
  case atStart => exact ⟨0, by omega, rfl, ⟨_, _, by rw [frK_length], hrd⟩, hbx, hB, by omega⟩
  case round =>
    clear hrd hbx hB hYs hY
    obtain ⟨w2, rfl⟩ : ∃ w2 : World, w2 = wr := ⟨_, rfl⟩
    obtain ⟨k, hk, rfl, ⟨A', c', rfl, hrd⟩, hbx, hbw, hsz⟩ := hrel
    by_cases hlt : k < l.length
    · have hk0 : (0 : Int) ≤ (k : Int) := by omega
      have hk1 : (k : Int) < (l.length : Int) := by omega
      obtain ⟨b, o, rfl, hb, hc⟩ := hr1.at_ hlt
      have hd := (hbw.cell (p := ⟨b, o + k, none⟩) hb).trans hc
      have hM2 := hM k
      rw [frK_succ F l hlt] at hM2
      have hfl := frK_length F l k
      have hN2 := fun W => (hN (l[k]?.getD 0) W).out
      rw [show eli F.toDesc (l[k]?.getD 0) = cfR F.toDesc l k from rfl] at hN2
      have hN3 := Lib.hid (hN2 w2.drew)
      obtain ⟨y, hy⟩ : ∃ y, y = l[k]?.getD 0 := ⟨_, rfl⟩
      rw [← hy] at hd hN3
      obtain ⟨v, hv⟩ : ∃ v, v = ci (-cfR F.toDesc l k) := ⟨_, rfl⟩
      rw [← hv] at hN3 hM2
      rw [show [v, (1 : Int)].length = 2 from rfl] at hM2
      have hcc := Lib.hid (show _ ∧ _ ∧ _ ∧ _ from ⟨hbx.cells.1, hbx.cells.2.1, hbx.cells.2.2, hd⟩)
      have hb' := Nat.lt_of_lt_of_le hb hbw.size
      have hrr := (hr.below hbw).more hbw.size
      replace hfl := Lib.hid hfl
      replace hM2 := fun B1 B2 d1 d2 W a b e f g => Lib.hid (hM2 B1 B2 d1 d2 W a b e f g)
      replace hy := Lib.hid hy
      replace hv := Lib.hid hv
      clear hc hd hbx hN hN2
      go_wp2_with (fail)
      refine wp_region_held_drew (S := fun w' => w'.cell? ⟨w.heap.size, 0, none⟩ = some (.int .i64 F.p) ∧ w'.cell? ⟨w.heap.size, 1, none⟩ = some (.int .i64 F.m) ∧ w'.cell? ⟨w.heap.size, 2, none⟩ = some (.slice A F.mod.length c) ∧ w'.cell? ⟨b, o + k, none⟩ = some (.int .i64 y)) (by kernel_rfl) (by (try dsimp only); exact hcc.out) (fun hHeld => ?_)
      refine wpAnyH_take (i := 0) (oi := ⟨_, _, _, _, _, _⟩) (v := ?_) rfl (by kernel_rfl) (by kernel_rfl) (by kernel_rfl) (fun _ _ _ h => h) (Or.inl ⟨by rfl, ?_⟩) (by assumption) ?_
      rotate_left
      · intro w hSw; (try dsimp only at hSw); go_simp; try with_reducible rfl
      try simp only [Act.put, List.setIfInBounds_toArray, List.set_cons_zero, List.set_cons_succ]
      refine wpAnyH_take (i := 1) (oi := ⟨_, _, _, _, _, _⟩) (v := ?_) rfl (by kernel_rfl) (by kernel_rfl) (by kernel_rfl) (fun _ _ _ h => h) (Or.inl ⟨by rfl, ?_⟩) (by assumption) ?_
      rotate_left
      · intro w hSw; (try dsimp only at hSw); go_simp; try with_reducible rfl
      try simp only [Act.put, List.setIfInBounds_toArray, List.set_cons_zero, List.set_cons_succ]
      refine wpAnyH_take (i := 2) (oi := ⟨_, _, _, _, _, _⟩) (v := ?_) rfl (by kernel_rfl) (by kernel_rfl) (by kernel_rfl) (fun _ _ _ h => h) (Or.inl ⟨by rfl, ?_⟩) (by assumption) ?_
      rotate_left
      · intro w hSw; (try dsimp only at hSw); go_simp; try with_reducible rfl
      try simp only [Act.put, List.setIfInBounds_toArray, List.set_cons_zero, List.set_cons_succ]
      refine wpAnyH_take (i := 3) (oi := ⟨_, _, _, _, _, _⟩) (v := ?_) rfl (by kernel_rfl) (by kernel_rfl) (by kernel_rfl) (fun _ _ _ h => h) (Or.inl ⟨by rfl, ?_⟩) (by assumption) ?_
      rotate_left
      · intro w hSw; (try dsimp only at hSw); go_simp; try with_reducible rfl
      try simp only [Act.put, List.setIfInBounds_toArray, List.set_cons_zero, List.set_cons_succ]
      refine wpAnyH_take (i := 4) (oi := ⟨_, _, _, _, _, _⟩) (v := ?_) rfl (by kernel_rfl) (by kernel_rfl) (by kernel_rfl) (fun _ _ _ h => h) (Or.inl ⟨by rfl, ?_⟩) (by assumption) ?_
      rotate_left
      · intro w hSw; (try dsimp only at hSw); go_simp; try with_reducible rfl
      try simp only [Act.put, List.setIfInBounds_toArray, List.set_cons_zero, List.set_cons_succ]
      refine wpAnyH_take (i := 5) (oi := ⟨_, _, _, _, _, _⟩) (v := ?_) rfl (by kernel_rfl) (by kernel_rfl) (by kernel_rfl) (fun _ _ _ h => h) (Or.inl ⟨by rfl, ?_⟩) (by assumption) ?_
      rotate_left
      · intro w hSw; (try dsimp only at hSw); go_simp; try with_reducible rfl
      try simp only [Act.put, List.setIfInBounds_toArray, List.set_cons_zero, List.set_cons_succ]
      refine wpAnyH_take (i := 6) (oi := ⟨_, _, _, _, _, _⟩) (v := ?_) rfl (by kernel_rfl) (by kernel_rfl) (by kernel_rfl) (fun _ _ _ h => h) (Or.inl ⟨by rfl, ?_⟩) (by assumption) ?_
      rotate_left
      · intro w hSw; (try dsimp only at hSw); go_simp; try with_reducible rfl
      try simp only [Act.put, List.setIfInBounds_toArray, List.set_cons_zero, List.set_cons_succ]
      refine wpAnyH_ready (rs := [7]) (by kernel_rfl) (by simp) ?_
      refine AllReadyH.cons (o := ⟨_, _, _, _, _, _⟩) rfl (fun K hK => ?_) AllReadyH.nil
      go_simp
      go_at_call 34
      (with_reducible refine (hN3).out.mono ?_)
      rintro e w4 ⟨rfl, hb4⟩
      have hcc4 := Lib.hid (keep4 hb4 hsz hb' hcc.out)
      go_wp2_with (fail)
      refine hK.out _ _ (by (try dsimp only); exact hcc4.out) (fun hHeld => ?_)
      clear hK K
      try simp only [Act.put, List.setIfInBounds_toArray, List.set_cons_zero, List.set_cons_succ]
      have hs4 : w2.heap.size ≤ w4.heap.size := hb4.size
      have ha4 : Below w4.heap.size w4 (w4.alloc (.cells #[.int .i64 v, .int .i64 1] 3)) := (Below.refl _ _).alloc (Nat.le_refl _) _
      refine wpAnyH_ready (rs := [8]) (by kernel_rfl) (by simp) ?_
      refine AllReadyH.cons (o := ⟨_, _, _, _, _, _⟩) rfl (fun K hK => ?_) AllReadyH.nil
      go_simp
      refine hK.out _ _ (by (try dsimp only); exact keep4 ha4 (Nat.lt_of_lt_of_le hsz hs4) (Nat.lt_of_lt_of_le hb' hs4) hcc4.out) (fun hHeld => ?_)
      clear hK K
      try simp only [Act.put, List.setIfInBounds_toArray, List.set_cons_zero, List.set_cons_succ]
      obtain ⟨w5, hw5⟩ : ∃ w5, w5 = w4.alloc (.cells #[.int .i64 v, .int .i64 1] 3) := ⟨_, rfl⟩
      rw [← hw5]
      rw [← hw5] at ha4
      have hq5 : Rd w5 w5.heap.size (some ⟨w4.heap.size, 0, none⟩) [v, 1] := by rw [hw5]; exact fun _ => ⟨w4.heap.size, 0, rfl, by simp, fun j hj => by have hj4 : j < 2 := hj; rcases (by omega : j = 0 ∨ j = 1) with rfl | rfl <;> simp [go_sem]⟩
      replace hw5 := Lib.hid hw5
      have hb45 := hb4.trans (ha4.mono hb4.size)
      have hB5 := hbw.drew.trans (hb45.mono hbw.size)
      have hM5 := hM2 A' (some ⟨w4.heap.size, 0, none⟩) c' 2 w5 ((hr.below hB5).more hB5.size) ((hrd.drew.below hb45).more hb45.size) hq5 (by rw [hfl.out]; omega) (by show 2 ≤ 20000; decide)
      refine wpAnyH_ready (rs := [9]) (by kernel_rfl) (by simp) ?_
      refine AllReadyH.cons (o := ⟨_, _, _, _, _, _⟩) rfl (fun K hK => ?_) AllReadyH.nil
      go_simp
      go_at_call 91
      (with_reducible refine (hM5).out.mono ?_)
      rintro e w6 ⟨g6, rfl, hg6, hib6, hb6⟩
      go_wp2_with (fail)
      refine hK.out _ _ (by (try dsimp only); exact keep4 hb6 (Nat.lt_of_lt_of_le hsz hb45.size) (Nat.lt_of_lt_of_le hb' hb45.size) (keep4 ha4 (Nat.lt_of_lt_of_le hsz hs4) (Nat.lt_of_lt_of_le hb' hs4) hcc4.out)) (fun hHeld => ?_)
      clear hK K
      try simp only [Act.put, List.setIfInBounds_toArray, List.set_cons_zero, List.set_cons_succ]
      refine wpAnyH_take (i := 10) (oi := ⟨_, _, _, _, _, _⟩) (v := ?_) rfl (by kernel_rfl) (by kernel_rfl) (by kernel_rfl) (fun _ _ _ h => h) (Or.inl ⟨by rfl, ?_⟩) (by assumption) ?_
      rotate_left
      · intro w hSw; (try dsimp only at hSw); go_simp; try with_reducible rfl
      try simp only [Act.put, List.setIfInBounds_toArray, List.set_cons_zero, List.set_cons_succ]
      refine wpAnyH_done (by kernel_rfl) ?_ _
      have hcc6 := keep4 hb6 (Nat.lt_of_lt_of_le hsz hb45.size) (Nat.lt_of_lt_of_le hb' hb45.size) (keep4 ha4 (Nat.lt_of_lt_of_le hsz hs4) (Nat.lt_of_lt_of_le hb' hs4) hcc4.out)
      replace hcc6 := Lib.hid hcc6
      have hB6 := hB5.trans (hb6.mono hB5.size)
      have hs6 : w.heap.size < w6.heap.size := Nat.lt_of_lt_of_le (Nat.lt_of_lt_of_le hsz hb45.size) hb6.size
      go_wp2_with (fail)
      go_roundw
      case rel => exact ⟨k + 1, by omega, by go_num, ⟨_, _, rfl, hib6.rd⟩, ⟨hcc6.out.1, hcc6.out.2.1, hcc6.out.2.2.1⟩, hB6, hs6⟩
      case measure => simp [intOf]; omega
    · obtain rfl : k = l.length := by omega
      go_wp2_with (fail)
      go_ret
      exact ⟨A', c', rfl, hrd, hbw⟩
end Go.Proofs.Yteamndefbpdcjaa
