/- The reference: a description without the positions named. -/
import Derived.Test.YtnbkmkeiophjoaaGrsQ
namespace Go.Proofs.Ytnbkmkeiophjoaa
open Go.RowKit Cw
attribute [local go_sem] Oper.semAt_some

/-- What Without hands back. -/
def WoPost (D : Desc) (K : Int) (pts mul l1 : List Int) (A : Option Addr) (c : Nat) (w : World) (e : Ending) (w' : World) : Prop :=
  ∃ A4 c4 A5 c5, e = .returned (.agg #[.int .i64 D.p, .int .i64 D.m, .slice A D.mod.length c, .int .i64 (min K ((idxL l1 pts.length).length : Int)), .slice A4 (idxL l1 pts.length).length c4, .slice A5 (idxL l1 pts.length).length c5]) ∧
      Rd w' w'.heap.size A4 (selL pts l1 pts.length) ∧ Rd w' w'.heap.size A5 (selL mul l1 pts.length) ∧ Below w.heap.size w w'
set_option maxRecDepth 100000 in
set_option maxHeartbeats 8000000 in
theorem Without18_any (D : Desc) (K : Int) (pts mul l1 : List Int) (A A1 A2 Aa : Option Addr) (c c1 c2 ca : Nat) (w : World) (hr1 : Rd w w.heap.size A1 pts) (hr2 : Rd w w.heap.size A2 mul) (hra : Rd w w.heap.size Aa l1)
    (hlen : mul.length = pts.length) (h64 : pts.length ≤ 64) (hla : l1.length ≤ 1000000) :
    Calls Try.prog 49 #[.agg #[.int .i64 D.p, .int .i64 D.m, .slice A D.mod.length c, .int .i64 K, .slice A1 pts.length c1, .slice A2 mul.length c2], .slice Aa l1.length ca] w (WoPost D K pts mul l1 A c w) := by
  obtain ⟨Y, hY⟩ : ∃ Y, Y = (w.alloc (.cells #[.int .i64 D.p, .int .i64 D.m, .slice A D.mod.length c, .int .i64 K, .slice A1 pts.length c1, .slice A2 mul.length c2] 27)).alloc (.cells #[.int .i64 0, .int .i64 0, .slice none 0 0, .int .i64 0, .slice none 0 0, .slice none 0 0] 27) := ⟨_, rfl⟩
  have hBY : Below w.heap.size w Y := by rw [hY]; exact ((Below.refl _ _).alloc (Nat.le_refl _) _).alloc (by simp) _
  have hYs : Y.heap.size = w.heap.size + 1 + 1 := by rw [hY]; simp
  have kY := Lib.hid (show Y.cell? ⟨w.heap.size, 0, none⟩ = some (.int .i64 D.p) ∧ Y.cell? ⟨w.heap.size, 1, none⟩ = some (.int .i64 D.m) ∧ Y.cell? ⟨w.heap.size, 2, none⟩ = some (.slice A D.mod.length c) ∧ Y.cell? ⟨w.heap.size, 3, none⟩ = some (.int .i64 K) ∧ Y.cell? ⟨w.heap.size, 4, none⟩ = some (.slice A1 pts.length c1) ∧ Y.cell? ⟨w.heap.size, 5, none⟩ = some (.slice A2 mul.length c2) from by rw [hY]; simp [go_sem])
  have rY : Six Y (w.heap.size + 1) (.int .i64 0) (.int .i64 0) (.slice none 0 0) (.int .i64 0) (.slice none 0 0) (.slice none 0 0) := by
    rw [hY]; have := Six.new (w.alloc (.cells #[.int .i64 D.p, .int .i64 D.m, .slice A D.mod.length c, .int .i64 K, .slice A1 pts.length c1, .slice A2 mul.length c2] 27)) (.int .i64 0) (.int .i64 0) (.slice none 0 0) (.int .i64 0) (.slice none 0 0) (.slice none 0 0) 27; rw [World.size_alloc] at this; exact this
  have hwbd : w.heap.size < w.heap.size + 1 + 1 := by omega
  have hb5 : Below (w.heap.size + 1 + 1) Y (Y.alloc (.cells #[.int .i64 D.p, .int .i64 D.m, .slice A D.mod.length c, .int .i64 0, .slice none 0 0, .slice none 0 0] 27)) := (Below.refl _ _).alloc (Nat.le_of_eq hYs.symm) _
  have hP0 : Hid (PD (Y.alloc (.cells #[.int .i64 D.p, .int .i64 D.m, .slice A D.mod.length c, .int .i64 0, .slice none 0 0, .slice none 0 0] 27)) (w.heap.size + 1 + 1) (.int .i64 D.p) (.int .i64 D.m) (.slice A D.mod.length c) (.int .i64 0) (.slice none 0 0) (.slice none 0 0) (selL pts l1 0) (selL mul l1 0)) := by
    rw [← hYs]; exact ⟨Six.new Y _ _ _ _ _ _ _, Own.nil _ _, Own.nil _ _, Dis.nil, by rw [World.size_alloc]; exact Nat.lt_succ_self _⟩
  replace hlen := Lib.hid hlen
  replace rY := Lib.hid rY
  have hYsH := Lib.hid hYs
  replace hY := Lib.hid hY
  go_enter Try.func49, Try.ntmps49
  obtain ⟨q0, q1, q2, q3, q4, q5⟩ := kY.out
  go_wp2_with (fail)
  rw [← hY.out]
  clear q0 q1 q2 q3 q4 q5
  obtain ⟨bd, hbd⟩ : ∃ bd, bd = w.heap.size + 1 + 1 := ⟨_, rfl⟩
  rw [← hbd] at hP0 hb5 hwbd ⊢
  have hYbd : Y.heap.size = bd := hYs.trans hbd.symm
  have hwb1 : w.heap.size + 1 < bd := by omega
  have hne1 : bd ≠ w.heap.size + 1 := by omega
  replace hbd := Lib.hid hbd
  clear hYs
  go_loopw [6] (fun i wr => ∃ (k : Nat) (v1 v2 : Value), k ≤ pts.length ∧ i = .int .i64 k ∧ Hid (PD wr (bd) (.int .i64 D.p) (.int .i64 D.m) (.slice A D.mod.length c) (.int .i64 0) v1 v2 (selL pts l1 k) (selL mul l1 k)) ∧ Below (bd) Y wr) (fun i _ => pts.length - (intOf i).toNat)
  case atStart => exact ⟨0, _, _, by omega, rfl, hP0, hb5⟩
  case round =>
    obtain ⟨k, v1, v2, hk, rfl, hP, hbw4⟩ := hrel
    obtain ⟨w6, rfl⟩ : ∃ w6 : World, w6 = wr := ⟨_, rfl⟩
    clear hP0 hb5
    have kk6 := Lib.hid (keep6 hbw4 hwbd kY.out)
    have hB6 := hBY.trans (hbw4.mono (Nat.le_of_lt hwbd))
    obtain ⟨q0, q1, q2, q3, q4, q5⟩ := kk6.out
    by_cases hkn : k < pts.length
    · have hk0 : (0 : Int) ≤ (k : Int) := by omega
      have hk1 : (k : Int) < (pts.length : Int) := by omega
      go_wp2_with (fail)
      go_loop [8, 7] (fun j b => ∃ j' : Nat, j' ≤ l1.length ∧ j = .int .i64 j' ∧ b = .bool (decide ((k : Int) ∈ l1.take j'))) (fun j _ => l1.length - (intOf j).toNat)
      case atStart => exact ⟨0, by omega, rfl, by simp⟩
      case round =>
        obtain ⟨j, hj, rfl, rfl⟩ := hrel
        by_cases hjm : j < l1.length
        · obtain ⟨ba, oa, rfl, hba, hca⟩ := hra.at_ hjm
          have hcb := (hB6.cell (p := ⟨ba, oa + j, none⟩) hba).trans hca
          obtain ⟨x, hx⟩ : ∃ x, x = l1[j]?.getD 0 := ⟨_, rfl⟩
          rw [← hx] at hcb
          have hj0 : (0 : Int) ≤ (j : Int) := by omega
          have hj1 : (j : Int) < (l1.length : Int) := by omega
          have hmem : Hid (decide ((k : Int) ∈ l1.take (j + 1)) = (decide ((k : Int) ∈ l1.take j) || (x == (k : Int)))) := by
            unfold Hid
            rw [Bool.eq_iff_iff]
            simp only [Bool.or_eq_true, decide_eq_true_iff, beq_iff_eq]
            rw [take_succ_mem hjm, ← hx]
            exact or_congr_right ⟨fun h => h.symm, fun h => h.symm⟩
          replace hx := Lib.hid hx
          clear hca
          generalize hbe : decide ((k : Int) ∈ l1.take j) = be at *
          clear hbe
          cases be
          · go_wp2_with (fail)
            go_round
            case rel => exact ⟨j + 1, by omega, by go_num, by rw [hmem.out]; simp⟩
            case measure => simp [intOf]; omega
          · go_wp2_with (fail)
            go_round
            case rel => exact ⟨j + 1, by omega, by go_num, by rw [hmem.out]; simp⟩
            case measure => simp [intOf]; omega
        · obtain rfl : j = l1.length := by omega
          rw [List.take_length]
          by_cases hni : (k : Int) ∈ l1
          · rw [decide_eq_true hni]
            have hP2 : Hid (PD w6 (bd) (.int .i64 D.p) (.int .i64 D.m) (.slice A D.mod.length c) (.int .i64 0) v1 v2 (selL pts l1 (k + 1)) (selL mul l1 (k + 1))) := by rw [selL_yes hni, selL_yes hni]; exact hP
            clear hni hP
            go_wp2_with (fail)
            go_roundw
            case rel => exact ⟨k + 1, v1, v2, by omega, by go_num, hP2, hbw4⟩
            case measure => simp [intOf]; omega
          · rw [decide_eq_false hni]
            obtain ⟨b1, o1, rfl, hbb1, hc1⟩ := hr1.at_ hkn
            obtain ⟨b2, o2, rfl, hbb2, hc2⟩ := hr2.at_ (by rw [hlen.out]; exact hkn : k < mul.length)
            have hs1 := kk6.out.2.2.2.2.1
            have hx1 := (hB6.cell (p := ⟨b1, o1 + k, none⟩) hbb1).trans hc1
            have hs2a := kk6.out.2.2.2.2.2
            have hx2a := (hB6.cell (p := ⟨b2, o2 + k, none⟩) hbb2).trans hc2
            have hkm2 : (k : Int) < (mul.length : Int) := by rw [hlen.out]; exact hk1
            replace hni := Lib.hid hni
            clear hc1 hc2 q0 q1 q2 q3 q4 q5
            go_wp2_with (fail)
            obtain ⟨y1, hy1⟩ : ∃ y1, y1 = pts[k]?.getD 0 := ⟨_, rfl⟩
            have hka1 := Lib.hid (show w6.cell? ⟨w.heap.size, 4, none⟩ = some (.slice (some ⟨b1, o1, none⟩) pts.length c1) ∧ w6.cell? ⟨b1, o1 + k, none⟩ = some (.int .i64 y1) from ⟨hs1, by rw [hy1]; exact hx1⟩)
            have hb121 : Below w6.heap.size w6 (w6.alloc (.cells #[.int .i64 y1] 3)).drew := ((Below.refl _ w6).alloc (Nat.le_refl _) _).drew
            have hP1 : PD (w6.alloc (.cells #[.int .i64 y1] 3)).drew bd _ _ _ _ _ _ _ _ := PD.below hP.out hb121
            have hu1 := hP.out.1.2.2.2.2.1
            have hu1' := hP1.1.2.2.2.2.1
            have hlw1 : w.heap.size < w6.heap.size := Nat.lt_trans hwbd hP.out.2.2.2.2
            have hkb1 := Lib.hid (keep2c (p := ⟨w.heap.size, 4, none⟩) (q := ⟨b1, o1 + k, none⟩) hb121 hlw1 (Nat.lt_of_lt_of_le hbb1 (Nat.le_of_lt hlw1)) hka1.out)
            have hle1 : (selL pts l1 k).length + [y1].length ≤ 1000000000 := by rw [selL_length]; have := idxL_le l1 k; simp; omega
            have hcr1 : Hid (Rd (w6.alloc (.cells #[.int .i64 y1] 3)).drew (w6.heap.size + 1) (some ⟨w6.heap.size, 0, none⟩) [y1]) := cell1_rd w6 y1
            have hsz1 : bd + 1 ≤ (w6.alloc (.cells #[.int .i64 y1] 3)).drew.heap.size := Nat.le_trans hP.out.2.2.2.2 hb121.size
            have hbw1 : w.heap.size < bd + 1 := Nat.lt_succ_of_lt hwbd
            replace hy1 := Lib.hid hy1
            clear hs1 hx1
            refine wp_region_held_drew (S := fun w' => w'.cell? ⟨w.heap.size, 4, none⟩ = some (.slice (some ⟨b1, o1, none⟩) pts.length c1) ∧ w'.cell? ⟨b1, o1 + k, none⟩ = some (.int .i64 y1)) (by kernel_rfl) (by (try dsimp only); exact hka1.out) (fun hHeld => ?_)
            refine wpAnyH_take (i := 0) (oi := ⟨_, _, _, _, _, _⟩) (v := ?_) rfl (by kernel_rfl) (by kernel_rfl) (by kernel_rfl) (fun _ _ _ h => h) (Or.inl ⟨by rfl, ?_⟩) (by assumption) ?_
            rotate_left
            · intro w hSw; (try dsimp only at hSw); go_simp; try with_reducible rfl
            try simp only [Act.put, List.setIfInBounds_toArray, List.set_cons_zero, List.set_cons_succ]
            refine wpAnyH_take (i := 2) (oi := ⟨_, _, _, _, _, _⟩) (v := ?_) rfl (by kernel_rfl) (by kernel_rfl) (by kernel_rfl) (fun _ _ _ h => h) (Or.inl ⟨by rfl, ?_⟩) (by assumption) ?_
            rotate_left
            · intro w hSw; (try dsimp only at hSw); go_simp; try with_reducible rfl
            try simp only [Act.put, List.setIfInBounds_toArray, List.set_cons_zero, List.set_cons_succ]
            refine wpAnyH_take (i := 3) (oi := ⟨_, _, _, _, _, _⟩) (v := ?_) rfl (by kernel_rfl) (by kernel_rfl) (by kernel_rfl) (fun _ _ _ h => h) (Or.inl ⟨by rfl, ?_⟩) (by assumption) ?_
            rotate_left
            · intro w hSw; (try dsimp only at hSw); go_simp; try with_reducible rfl
            try simp only [Act.put, List.setIfInBounds_toArray, List.set_cons_zero, List.set_cons_succ]
            refine wpAnyH_take (i := 4) (oi := ⟨_, _, _, _, _, _⟩) (v := ?_) rfl (by kernel_rfl) (by kernel_rfl) (by kernel_rfl) (fun _ _ _ h => h) (Or.inl ⟨by rfl, ?_⟩) (by assumption) ?_
            rotate_left
            · intro w hSw; (try dsimp only at hSw); go_simp; try with_reducible rfl
            try simp only [Act.put, List.setIfInBounds_toArray, List.set_cons_zero, List.set_cons_succ]
            refine wpAnyH_take (i := 5) (oi := ⟨_, _, _, _, _, _⟩) (v := ?_) rfl (by kernel_rfl) (by kernel_rfl) (by kernel_rfl) (fun _ _ _ h => h) (Or.inl ⟨by rfl, ?_⟩) (by assumption) ?_
            rotate_left
            · intro w hSw; (try dsimp only at hSw); go_simp; try with_reducible rfl
            try simp only [Act.put, List.setIfInBounds_toArray, List.set_cons_zero, List.set_cons_succ]
            refine wpAnyH_take (i := 6) (oi := ⟨_, _, _, _, _, _⟩) (v := ?_) rfl (by kernel_rfl) (by kernel_rfl) (by kernel_rfl) (fun _ _ _ h => h) (Or.inl ⟨by rfl, ?_⟩) (by assumption) ?_
            rotate_left
            · intro w hSw; (try dsimp only at hSw); go_simp; try with_reducible rfl
            try simp only [Act.put, List.setIfInBounds_toArray, List.set_cons_zero, List.set_cons_succ]
            refine wpAnyH_ready (rs := [1, 7]) (by kernel_rfl) (by simp) ?_
            refine AllReadyH.cons (o := ⟨_, _, _, _, _, _⟩) rfl (fun K hK => ?_) ?_
            · go_simp
              refine hK.out _ _ (by (try dsimp only); first | exact hkb1.out | exact hka1.out) (fun hHeld => ?_)
              clear hK K
              try simp only [Act.put, List.setIfInBounds_toArray, List.set_cons_zero, List.set_cons_succ]
              refine wpAnyH_ready (rs := [7]) (by kernel_rfl) (by simp) ?_
              refine AllReadyH.cons (o := ⟨_, _, _, _, _, _⟩) rfl (fun K hK => ?_) AllReadyH.nil
              go_simp
              refine hK.out _ _ (by (try dsimp only); exact hkb1.out) (fun hHeld => ?_)
              clear hK K
              try simp only [Act.put, List.setIfInBounds_toArray, List.set_cons_zero, List.set_cons_succ]
              generalize (w6.alloc (.cells #[.int .i64 y1] 3)).drew = Z1 at *
              refine wpAnyH_ready (rs := [8]) (by kernel_rfl) (by simp) ?_
              refine AllReadyH.cons (o := ⟨_, _, _, _, _, _⟩) rfl (fun K hK => ?_) AllReadyH.nil
              refine step_appN (n2 := 1) rfl (.tmp 37) (.tmp 43) rfl (bd + 1) v1 (selL pts l1 k) (w6.heap.size + 1) (some ⟨w6.heap.size, 0, none⟩) 1 [y1] hP1.2.1 hcr1.out (by rfl) (by rfl) (by rfl) hle1 hsz1 ?_
              intro V1 W1 ho1 hbn1 hg1 hv1
              obtain ⟨B1, d1, e1, -, -, -⟩ := ho1.form
              rw [List.length_append, List.length_singleton] at e1
              subst e1
              have hQ1 := Lib.hid (hP1.app4 ho1 hbn1 hg1 hv1)
              have hkc1 := Lib.hid (keep2c (p := ⟨w.heap.size, 4, none⟩) (q := ⟨b1, o1 + k, none⟩) hbn1 hbw1 (Nat.lt_trans hbb1 hbw1) hkb1.out)
              obtain ⟨a0, a1, a2, a3, a4, a5, f0, f1, f2, f3, f4, f5⟩ := hP1.1.keep hbn1 (Nat.lt_succ_self _)
              have hbs1 : Below bd W1 (W1.setCell ⟨bd, 4, none⟩ (.slice B1 ((selL pts l1 k).length + 1) d1)) := (Below.refl _ _).setCell (p := ⟨bd, 4, none⟩) (Nat.le_refl _) _
              have hkd1 := Lib.hid (keep2c (p := ⟨w.heap.size, 4, none⟩) (q := ⟨b1, o1 + k, none⟩) hbs1 hwbd (Nat.lt_trans hbb1 hwbd) hkc1.out)
              refine hK.out _ _ (by (try dsimp only); exact hkc1.out) (fun hHeld => ?_)
              clear hK K
              try simp only [Act.put, List.setIfInBounds_toArray, List.set_cons_zero, List.set_cons_succ]
              refine wpAnyH_take (i := 9) (oi := ⟨_, _, _, _, _, _⟩) (v := ?_) rfl (by kernel_rfl) (by kernel_rfl) (by kernel_rfl) (fun _ _ _ h => h) (Or.inl ⟨by rfl, ?_⟩) (by assumption) ?_
              rotate_left
              · intro w hSw; (try dsimp only at hSw); go_simp; try with_reducible rfl
              try simp only [Act.put, List.setIfInBounds_toArray, List.set_cons_zero, List.set_cons_succ]
              refine wpAnyH_ready (rs := [10]) (by kernel_rfl) (by simp) ?_
              refine AllReadyH.cons (o := ⟨_, _, _, _, _, _⟩) rfl (fun K hK => ?_) AllReadyH.nil
              go_simp
              refine hK.out _ _ (by (try dsimp only); exact hkd1.out) (fun hHeld => ?_)
              clear hK K
              try simp only [Act.put, List.setIfInBounds_toArray, List.set_cons_zero, List.set_cons_succ]
              refine wpAnyH_done (by kernel_rfl) ?_ _
              clear a0 a1 a2 a3 a4 a5 f0 f1 f2 f3 f4 f5
              have hbt1 : Below bd w6 (W1.setCell ⟨bd, 4, none⟩ (.slice B1 ((selL pts l1 k).length + 1) d1)) := ((hb121.mono (Nat.le_of_lt hP.out.2.2.2.2)).trans (hbn1.mono (Nat.le_succ _))).trans hbs1
              obtain ⟨X1, hX1⟩ : ∃ X1, X1 = W1.setCell ⟨bd, 4, none⟩ (.slice B1 ((selL pts l1 k).length + 1) d1) := ⟨_, rfl⟩
              rw [← hX1] at hQ1 hbt1 ⊢
              clear hX1 hbs1 hkd1
              rw [hy1.out, ← selL_no hni.out] at hQ1
              have hs2 := (hbt1.cell (p := ⟨w.heap.size, 5, none⟩) hwbd).trans hs2a
              have hx2 := (hbt1.cell (p := ⟨b2, o2 + k, none⟩) (Nat.lt_trans hbb2 hwbd)).trans hx2a
              go_wp2_with (fail)
              obtain ⟨y2, hy2⟩ : ∃ y2, y2 = mul[k]?.getD 0 := ⟨_, rfl⟩
              have hka2 := Lib.hid (show X1.cell? ⟨w.heap.size, 5, none⟩ = some (.slice (some ⟨b2, o2, none⟩) mul.length c2) ∧ X1.cell? ⟨b2, o2 + k, none⟩ = some (.int .i64 y2) from ⟨hs2, by rw [hy2]; exact hx2⟩)
              have hb122 : Below X1.heap.size X1 (X1.alloc (.cells #[.int .i64 y2] 3)).drew := ((Below.refl _ X1).alloc (Nat.le_refl _) _).drew
              have hP2 : PD (X1.alloc (.cells #[.int .i64 y2] 3)).drew bd _ _ _ _ _ _ _ _ := PD.below hQ1.out hb122
              have hu2 := hQ1.out.1.2.2.2.2.2.1
              have hu2' := hP2.1.2.2.2.2.2.1
              have hlw2 : w.heap.size < X1.heap.size := Nat.lt_trans hwbd hQ1.out.2.2.2.2
              have hkb2 := Lib.hid (keep2c (p := ⟨w.heap.size, 5, none⟩) (q := ⟨b2, o2 + k, none⟩) hb122 hlw2 (Nat.lt_of_lt_of_le hbb2 (Nat.le_of_lt hlw2)) hka2.out)
              have hle2 : (selL mul l1 k).length + [y2].length ≤ 1000000000 := by rw [selL_length]; have := idxL_le l1 k; simp; omega
              have hcr2 : Hid (Rd (X1.alloc (.cells #[.int .i64 y2] 3)).drew (X1.heap.size + 1) (some ⟨X1.heap.size, 0, none⟩) [y2]) := cell1_rd X1 y2
              have hsz2 : bd + 1 ≤ (X1.alloc (.cells #[.int .i64 y2] 3)).drew.heap.size := Nat.le_trans hQ1.out.2.2.2.2 hb122.size
              have hbw2 : w.heap.size < bd + 1 := Nat.lt_succ_of_lt hwbd
              replace hy2 := Lib.hid hy2
              clear hs2 hx2
              refine wp_region_held_drew (S := fun w' => w'.cell? ⟨w.heap.size, 5, none⟩ = some (.slice (some ⟨b2, o2, none⟩) mul.length c2) ∧ w'.cell? ⟨b2, o2 + k, none⟩ = some (.int .i64 y2)) (by kernel_rfl) (by (try dsimp only); exact hka2.out) (fun hHeld => ?_)
              refine wpAnyH_take (i := 0) (oi := ⟨_, _, _, _, _, _⟩) (v := ?_) rfl (by kernel_rfl) (by kernel_rfl) (by kernel_rfl) (fun _ _ _ h => h) (Or.inl ⟨by rfl, ?_⟩) (by assumption) ?_
              rotate_left
              · intro w hSw; (try dsimp only at hSw); go_simp; try with_reducible rfl
              try simp only [Act.put, List.setIfInBounds_toArray, List.set_cons_zero, List.set_cons_succ]
              refine wpAnyH_take (i := 2) (oi := ⟨_, _, _, _, _, _⟩) (v := ?_) rfl (by kernel_rfl) (by kernel_rfl) (by kernel_rfl) (fun _ _ _ h => h) (Or.inl ⟨by rfl, ?_⟩) (by assumption) ?_
              rotate_left
              · intro w hSw; (try dsimp only at hSw); go_simp; try with_reducible rfl
              try simp only [Act.put, List.setIfInBounds_toArray, List.set_cons_zero, List.set_cons_succ]
              refine wpAnyH_take (i := 3) (oi := ⟨_, _, _, _, _, _⟩) (v := ?_) rfl (by kernel_rfl) (by kernel_rfl) (by kernel_rfl) (fun _ _ _ h => h) (Or.inl ⟨by rfl, ?_⟩) (by assumption) ?_
              rotate_left
              · intro w hSw; (try dsimp only at hSw); go_simp; try with_reducible rfl
              try simp only [Act.put, List.setIfInBounds_toArray, List.set_cons_zero, List.set_cons_succ]
              refine wpAnyH_take (i := 4) (oi := ⟨_, _, _, _, _, _⟩) (v := ?_) rfl (by kernel_rfl) (by kernel_rfl) (by kernel_rfl) (fun _ _ _ h => h) (Or.inl ⟨by rfl, ?_⟩) (by assumption) ?_
              rotate_left
              · intro w hSw; (try dsimp only at hSw); go_simp; try with_reducible rfl
              try simp only [Act.put, List.setIfInBounds_toArray, List.set_cons_zero, List.set_cons_succ]
              refine wpAnyH_take (i := 5) (oi := ⟨_, _, _, _, _, _⟩) (v := ?_) rfl (by kernel_rfl) (by kernel_rfl) (by kernel_rfl) (fun _ _ _ h => h) (Or.inl ⟨by rfl, ?_⟩) (by assumption) ?_
              rotate_left
              · intro w hSw; (try dsimp only at hSw); go_simp; try with_reducible rfl
              try simp only [Act.put, List.setIfInBounds_toArray, List.set_cons_zero, List.set_cons_succ]
              refine wpAnyH_take (i := 6) (oi := ⟨_, _, _, _, _, _⟩) (v := ?_) rfl (by kernel_rfl) (by kernel_rfl) (by kernel_rfl) (fun _ _ _ h => h) (Or.inl ⟨by rfl, ?_⟩) (by assumption) ?_
              rotate_left
              · intro w hSw; (try dsimp only at hSw); go_simp; try with_reducible rfl
              try simp only [Act.put, List.setIfInBounds_toArray, List.set_cons_zero, List.set_cons_succ]
              refine wpAnyH_ready (rs := [1, 7]) (by kernel_rfl) (by simp) ?_
              refine AllReadyH.cons (o := ⟨_, _, _, _, _, _⟩) rfl (fun K hK => ?_) ?_
              · go_simp
                refine hK.out _ _ (by (try dsimp only); first | exact hkb2.out | exact hka2.out) (fun hHeld => ?_)
                clear hK K
                try simp only [Act.put, List.setIfInBounds_toArray, List.set_cons_zero, List.set_cons_succ]
                refine wpAnyH_ready (rs := [7]) (by kernel_rfl) (by simp) ?_
                refine AllReadyH.cons (o := ⟨_, _, _, _, _, _⟩) rfl (fun K hK => ?_) AllReadyH.nil
                go_simp
                refine hK.out _ _ (by (try dsimp only); exact hkb2.out) (fun hHeld => ?_)
                clear hK K
                try simp only [Act.put, List.setIfInBounds_toArray, List.set_cons_zero, List.set_cons_succ]
                generalize (X1.alloc (.cells #[.int .i64 y2] 3)).drew = Z2 at *
                refine wpAnyH_ready (rs := [8]) (by kernel_rfl) (by simp) ?_
                refine AllReadyH.cons (o := ⟨_, _, _, _, _, _⟩) rfl (fun K hK => ?_) AllReadyH.nil
                refine step_appN (n2 := 1) rfl (.tmp 47) (.tmp 53) rfl (bd + 1) v2 (selL mul l1 k) (X1.heap.size + 1) (some ⟨X1.heap.size, 0, none⟩) 1 [y2] hP2.2.2.1 hcr2.out (by rfl) (by rfl) (by rfl) hle2 hsz2 ?_
                intro V2 W2 ho2 hbn2 hg2 hv2
                obtain ⟨B2, d2, e2, -, -, -⟩ := ho2.form
                rw [List.length_append, List.length_singleton] at e2
                subst e2
                have hQ2 := Lib.hid (hP2.app5 ho2 hbn2 hg2 hv2)
                have hkc2 := Lib.hid (keep2c (p := ⟨w.heap.size, 5, none⟩) (q := ⟨b2, o2 + k, none⟩) hbn2 hbw2 (Nat.lt_trans hbb2 hbw2) hkb2.out)
                obtain ⟨a0, a1, a2, a3, a4, a5, f0, f1, f2, f3, f4, f5⟩ := hP2.1.keep hbn2 (Nat.lt_succ_self _)
                have hbs2 : Below bd W2 (W2.setCell ⟨bd, 5, none⟩ (.slice B2 ((selL mul l1 k).length + 1) d2)) := (Below.refl _ _).setCell (p := ⟨bd, 5, none⟩) (Nat.le_refl _) _
                have hkd2 := Lib.hid (keep2c (p := ⟨w.heap.size, 5, none⟩) (q := ⟨b2, o2 + k, none⟩) hbs2 hwbd (Nat.lt_trans hbb2 hwbd) hkc2.out)
                refine hK.out _ _ (by (try dsimp only); exact hkc2.out) (fun hHeld => ?_)
                clear hK K
                try simp only [Act.put, List.setIfInBounds_toArray, List.set_cons_zero, List.set_cons_succ]
                refine wpAnyH_take (i := 9) (oi := ⟨_, _, _, _, _, _⟩) (v := ?_) rfl (by kernel_rfl) (by kernel_rfl) (by kernel_rfl) (fun _ _ _ h => h) (Or.inl ⟨by rfl, ?_⟩) (by assumption) ?_
                rotate_left
                · intro w hSw; (try dsimp only at hSw); go_simp; try with_reducible rfl
                try simp only [Act.put, List.setIfInBounds_toArray, List.set_cons_zero, List.set_cons_succ]
                refine wpAnyH_ready (rs := [10]) (by kernel_rfl) (by simp) ?_
                refine AllReadyH.cons (o := ⟨_, _, _, _, _, _⟩) rfl (fun K hK => ?_) AllReadyH.nil
                go_simp
                refine hK.out _ _ (by (try dsimp only); exact hkd2.out) (fun hHeld => ?_)
                clear hK K
                try simp only [Act.put, List.setIfInBounds_toArray, List.set_cons_zero, List.set_cons_succ]
                refine wpAnyH_done (by kernel_rfl) ?_ _
                clear a0 a1 a2 a3 a4 a5 f0 f1 f2 f3 f4 f5
                have hbt2 : Below bd X1 (W2.setCell ⟨bd, 5, none⟩ (.slice B2 ((selL mul l1 k).length + 1) d2)) := ((hb122.mono (Nat.le_of_lt hQ1.out.2.2.2.2)).trans (hbn2.mono (Nat.le_succ _))).trans hbs2
                obtain ⟨X2, hX2⟩ : ∃ X2, X2 = W2.setCell ⟨bd, 5, none⟩ (.slice B2 ((selL mul l1 k).length + 1) d2) := ⟨_, rfl⟩
                rw [← hX2] at hQ2 hbt2 ⊢
                clear hX2 hbs2 hkd2
                rw [hy2.out, ← selL_no hni.out] at hQ2
                go_wp2_with (fail)
                go_roundw
                case rel => exact ⟨k + 1, _, _, by omega, by go_num, hQ2, (hbw4.trans hbt1).trans hbt2⟩
                case measure => simp [intOf]; omega
              refine AllReadyH.cons (o := ⟨_, _, _, _, _, _⟩) rfl (fun K hK => ?_) AllReadyH.nil
              go_simp
              refine hK.out _ _ (by (try dsimp only); exact hkb2.out) (fun hHeld => ?_)
              clear hK K
              try simp only [Act.put, List.setIfInBounds_toArray, List.set_cons_zero, List.set_cons_succ]
              generalize (X1.alloc (.cells #[.int .i64 y2] 3)).drew = Z2 at *
              refine wpAnyH_ready (rs := [1]) (by kernel_rfl) (by simp) ?_
              refine AllReadyH.cons (o := ⟨_, _, _, _, _, _⟩) rfl (fun K hK => ?_) AllReadyH.nil
              go_simp
              refine hK.out _ _ (by (try dsimp only); first | exact hkb2.out | exact hka2.out) (fun hHeld => ?_)
              clear hK K
              try simp only [Act.put, List.setIfInBounds_toArray, List.set_cons_zero, List.set_cons_succ]
              refine wpAnyH_ready (rs := [8]) (by kernel_rfl) (by simp) ?_
              refine AllReadyH.cons (o := ⟨_, _, _, _, _, _⟩) rfl (fun K hK => ?_) AllReadyH.nil
              refine step_appN (n2 := 1) rfl (.tmp 47) (.tmp 53) rfl (bd + 1) v2 (selL mul l1 k) (X1.heap.size + 1) (some ⟨X1.heap.size, 0, none⟩) 1 [y2] hP2.2.2.1 hcr2.out (by rfl) (by rfl) (by rfl) hle2 hsz2 ?_
              intro V2 W2 ho2 hbn2 hg2 hv2
              obtain ⟨B2, d2, e2, -, -, -⟩ := ho2.form
              rw [List.length_append, List.length_singleton] at e2
              subst e2
              have hQ2 := Lib.hid (hP2.app5 ho2 hbn2 hg2 hv2)
              have hkc2 := Lib.hid (keep2c (p := ⟨w.heap.size, 5, none⟩) (q := ⟨b2, o2 + k, none⟩) hbn2 hbw2 (Nat.lt_trans hbb2 hbw2) hkb2.out)
              obtain ⟨a0, a1, a2, a3, a4, a5, f0, f1, f2, f3, f4, f5⟩ := hP2.1.keep hbn2 (Nat.lt_succ_self _)
              have hbs2 : Below bd W2 (W2.setCell ⟨bd, 5, none⟩ (.slice B2 ((selL mul l1 k).length + 1) d2)) := (Below.refl _ _).setCell (p := ⟨bd, 5, none⟩) (Nat.le_refl _) _
              have hkd2 := Lib.hid (keep2c (p := ⟨w.heap.size, 5, none⟩) (q := ⟨b2, o2 + k, none⟩) hbs2 hwbd (Nat.lt_trans hbb2 hwbd) hkc2.out)
              refine hK.out _ _ (by (try dsimp only); exact hkc2.out) (fun hHeld => ?_)
              clear hK K
              try simp only [Act.put, List.setIfInBounds_toArray, List.set_cons_zero, List.set_cons_succ]
              refine wpAnyH_take (i := 9) (oi := ⟨_, _, _, _, _, _⟩) (v := ?_) rfl (by kernel_rfl) (by kernel_rfl) (by kernel_rfl) (fun _ _ _ h => h) (Or.inl ⟨by rfl, ?_⟩) (by assumption) ?_
              rotate_left
              · intro w hSw; (try dsimp only at hSw); go_simp; try with_reducible rfl
              try simp only [Act.put, List.setIfInBounds_toArray, List.set_cons_zero, List.set_cons_succ]
              refine wpAnyH_ready (rs := [10]) (by kernel_rfl) (by simp) ?_
              refine AllReadyH.cons (o := ⟨_, _, _, _, _, _⟩) rfl (fun K hK => ?_) AllReadyH.nil
              go_simp
              refine hK.out _ _ (by (try dsimp only); exact hkd2.out) (fun hHeld => ?_)
              clear hK K
              try simp only [Act.put, List.setIfInBounds_toArray, List.set_cons_zero, List.set_cons_succ]
              refine wpAnyH_done (by kernel_rfl) ?_ _
              clear a0 a1 a2 a3 a4 a5 f0 f1 f2 f3 f4 f5
              have hbt2 : Below bd X1 (W2.setCell ⟨bd, 5, none⟩ (.slice B2 ((selL mul l1 k).length + 1) d2)) := ((hb122.mono (Nat.le_of_lt hQ1.out.2.2.2.2)).trans (hbn2.mono (Nat.le_succ _))).trans hbs2
              obtain ⟨X2, hX2⟩ : ∃ X2, X2 = W2.setCell ⟨bd, 5, none⟩ (.slice B2 ((selL mul l1 k).length + 1) d2) := ⟨_, rfl⟩
              rw [← hX2] at hQ2 hbt2 ⊢
              clear hX2 hbs2 hkd2
              rw [hy2.out, ← selL_no hni.out] at hQ2
              go_wp2_with (fail)
              go_roundw
              case rel => exact ⟨k + 1, _, _, by omega, by go_num, hQ2, (hbw4.trans hbt1).trans hbt2⟩
              case measure => simp [intOf]; omega
            refine AllReadyH.cons (o := ⟨_, _, _, _, _, _⟩) rfl (fun K hK => ?_) AllReadyH.nil
            go_simp
            refine hK.out _ _ (by (try dsimp only); exact hkb1.out) (fun hHeld => ?_)
            clear hK K
            try simp only [Act.put, List.setIfInBounds_toArray, List.set_cons_zero, List.set_cons_succ]
            generalize (w6.alloc (.cells #[.int .i64 y1] 3)).drew = Z1 at *
            refine wpAnyH_ready (rs := [1]) (by kernel_rfl) (by simp) ?_
            refine AllReadyH.cons (o := ⟨_, _, _, _, _, _⟩) rfl (fun K hK => ?_) AllReadyH.nil
            go_simp
            refine hK.out _ _ (by (try dsimp only); first | exact hkb1.out | exact hka1.out) (fun hHeld => ?_)
            clear hK K
            try simp only [Act.put, List.setIfInBounds_toArray, List.set_cons_zero, List.set_cons_succ]
            refine wpAnyH_ready (rs := [8]) (by kernel_rfl) (by simp) ?_
            refine AllReadyH.cons (o := ⟨_, _, _, _, _, _⟩) rfl (fun K hK => ?_) AllReadyH.nil
            refine step_appN (n2 := 1) rfl (.tmp 37) (.tmp 43) rfl (bd + 1) v1 (selL pts l1 k) (w6.heap.size + 1) (some ⟨w6.heap.size, 0, none⟩) 1 [y1] hP1.2.1 hcr1.out (by rfl) (by rfl) (by rfl) hle1 hsz1 ?_
            intro V1 W1 ho1 hbn1 hg1 hv1
            obtain ⟨B1, d1, e1, -, -, -⟩ := ho1.form
            rw [List.length_append, List.length_singleton] at e1
            subst e1
            have hQ1 := Lib.hid (hP1.app4 ho1 hbn1 hg1 hv1)
            have hkc1 := Lib.hid (keep2c (p := ⟨w.heap.size, 4, none⟩) (q := ⟨b1, o1 + k, none⟩) hbn1 hbw1 (Nat.lt_trans hbb1 hbw1) hkb1.out)
            obtain ⟨a0, a1, a2, a3, a4, a5, f0, f1, f2, f3, f4, f5⟩ := hP1.1.keep hbn1 (Nat.lt_succ_self _)
            have hbs1 : Below bd W1 (W1.setCell ⟨bd, 4, none⟩ (.slice B1 ((selL pts l1 k).length + 1) d1)) := (Below.refl _ _).setCell (p := ⟨bd, 4, none⟩) (Nat.le_refl _) _
            have hkd1 := Lib.hid (keep2c (p := ⟨w.heap.size, 4, none⟩) (q := ⟨b1, o1 + k, none⟩) hbs1 hwbd (Nat.lt_trans hbb1 hwbd) hkc1.out)
            refine hK.out _ _ (by (try dsimp only); exact hkc1.out) (fun hHeld => ?_)
            clear hK K
            try simp only [Act.put, List.setIfInBounds_toArray, List.set_cons_zero, List.set_cons_succ]
            refine wpAnyH_take (i := 9) (oi := ⟨_, _, _, _, _, _⟩) (v := ?_) rfl (by kernel_rfl) (by kernel_rfl) (by kernel_rfl) (fun _ _ _ h => h) (Or.inl ⟨by rfl, ?_⟩) (by assumption) ?_
            rotate_left
            · intro w hSw; (try dsimp only at hSw); go_simp; try with_reducible rfl
            try simp only [Act.put, List.setIfInBounds_toArray, List.set_cons_zero, List.set_cons_succ]
            refine wpAnyH_ready (rs := [10]) (by kernel_rfl) (by simp) ?_
            refine AllReadyH.cons (o := ⟨_, _, _, _, _, _⟩) rfl (fun K hK => ?_) AllReadyH.nil
            go_simp
            refine hK.out _ _ (by (try dsimp only); exact hkd1.out) (fun hHeld => ?_)
            clear hK K
            try simp only [Act.put, List.setIfInBounds_toArray, List.set_cons_zero, List.set_cons_succ]
            refine wpAnyH_done (by kernel_rfl) ?_ _
            clear a0 a1 a2 a3 a4 a5 f0 f1 f2 f3 f4 f5
            have hbt1 : Below bd w6 (W1.setCell ⟨bd, 4, none⟩ (.slice B1 ((selL pts l1 k).length + 1) d1)) := ((hb121.mono (Nat.le_of_lt hP.out.2.2.2.2)).trans (hbn1.mono (Nat.le_succ _))).trans hbs1
            obtain ⟨X1, hX1⟩ : ∃ X1, X1 = W1.setCell ⟨bd, 4, none⟩ (.slice B1 ((selL pts l1 k).length + 1) d1) := ⟨_, rfl⟩
            rw [← hX1] at hQ1 hbt1 ⊢
            clear hX1 hbs1 hkd1
            rw [hy1.out, ← selL_no hni.out] at hQ1
            have hs2 := (hbt1.cell (p := ⟨w.heap.size, 5, none⟩) hwbd).trans hs2a
            have hx2 := (hbt1.cell (p := ⟨b2, o2 + k, none⟩) (Nat.lt_trans hbb2 hwbd)).trans hx2a
            go_wp2_with (fail)
            obtain ⟨y2, hy2⟩ : ∃ y2, y2 = mul[k]?.getD 0 := ⟨_, rfl⟩
            have hka2 := Lib.hid (show X1.cell? ⟨w.heap.size, 5, none⟩ = some (.slice (some ⟨b2, o2, none⟩) mul.length c2) ∧ X1.cell? ⟨b2, o2 + k, none⟩ = some (.int .i64 y2) from ⟨hs2, by rw [hy2]; exact hx2⟩)
            have hb122 : Below X1.heap.size X1 (X1.alloc (.cells #[.int .i64 y2] 3)).drew := ((Below.refl _ X1).alloc (Nat.le_refl _) _).drew
            have hP2 : PD (X1.alloc (.cells #[.int .i64 y2] 3)).drew bd _ _ _ _ _ _ _ _ := PD.below hQ1.out hb122
            have hu2 := hQ1.out.1.2.2.2.2.2.1
            have hu2' := hP2.1.2.2.2.2.2.1
            have hlw2 : w.heap.size < X1.heap.size := Nat.lt_trans hwbd hQ1.out.2.2.2.2
            have hkb2 := Lib.hid (keep2c (p := ⟨w.heap.size, 5, none⟩) (q := ⟨b2, o2 + k, none⟩) hb122 hlw2 (Nat.lt_of_lt_of_le hbb2 (Nat.le_of_lt hlw2)) hka2.out)
            have hle2 : (selL mul l1 k).length + [y2].length ≤ 1000000000 := by rw [selL_length]; have := idxL_le l1 k; simp; omega
            have hcr2 : Hid (Rd (X1.alloc (.cells #[.int .i64 y2] 3)).drew (X1.heap.size + 1) (some ⟨X1.heap.size, 0, none⟩) [y2]) := cell1_rd X1 y2
            have hsz2 : bd + 1 ≤ (X1.alloc (.cells #[.int .i64 y2] 3)).drew.heap.size := Nat.le_trans hQ1.out.2.2.2.2 hb122.size
            have hbw2 : w.heap.size < bd + 1 := Nat.lt_succ_of_lt hwbd
            replace hy2 := Lib.hid hy2
            clear hs2 hx2
            refine wp_region_held_drew (S := fun w' => w'.cell? ⟨w.heap.size, 5, none⟩ = some (.slice (some ⟨b2, o2, none⟩) mul.length c2) ∧ w'.cell? ⟨b2, o2 + k, none⟩ = some (.int .i64 y2)) (by kernel_rfl) (by (try dsimp only); exact hka2.out) (fun hHeld => ?_)
            refine wpAnyH_take (i := 0) (oi := ⟨_, _, _, _, _, _⟩) (v := ?_) rfl (by kernel_rfl) (by kernel_rfl) (by kernel_rfl) (fun _ _ _ h => h) (Or.inl ⟨by rfl, ?_⟩) (by assumption) ?_
            rotate_left
            · intro w hSw; (try dsimp only at hSw); go_simp; try with_reducible rfl
            try simp only [Act.put, List.setIfInBounds_toArray, List.set_cons_zero, List.set_cons_succ]
            refine wpAnyH_take (i := 2) (oi := ⟨_, _, _, _, _, _⟩) (v := ?_) rfl (by kernel_rfl) (by kernel_rfl) (by kernel_rfl) (fun _ _ _ h => h) (Or.inl ⟨by rfl, ?_⟩) (by assumption) ?_
            rotate_left
            · intro w hSw; (try dsimp only at hSw); go_simp; try with_reducible rfl
            try simp only [Act.put, List.setIfInBounds_toArray, List.set_cons_zero, List.set_cons_succ]
            refine wpAnyH_take (i := 3) (oi := ⟨_, _, _, _, _, _⟩) (v := ?_) rfl (by kernel_rfl) (by kernel_rfl) (by kernel_rfl) (fun _ _ _ h => h) (Or.inl ⟨by rfl, ?_⟩) (by assumption) ?_
            rotate_left
            · intro w hSw; (try dsimp only at hSw); go_simp; try with_reducible rfl
            try simp only [Act.put, List.setIfInBounds_toArray, List.set_cons_zero, List.set_cons_succ]
            refine wpAnyH_take (i := 4) (oi := ⟨_, _, _, _, _, _⟩) (v := ?_) rfl (by kernel_rfl) (by kernel_rfl) (by kernel_rfl) (fun _ _ _ h => h) (Or.inl ⟨by rfl, ?_⟩) (by assumption) ?_
            rotate_left
            · intro w hSw; (try dsimp only at hSw); go_simp; try with_reducible rfl
            try simp only [Act.put, List.setIfInBounds_toArray, List.set_cons_zero, List.set_cons_succ]
            refine wpAnyH_take (i := 5) (oi := ⟨_, _, _, _, _, _⟩) (v := ?_) rfl (by kernel_rfl) (by kernel_rfl) (by kernel_rfl) (fun _ _ _ h => h) (Or.inl ⟨by rfl, ?_⟩) (by assumption) ?_
            rotate_left
            · intro w hSw; (try dsimp only at hSw); go_simp; try with_reducible rfl
            try simp only [Act.put, List.setIfInBounds_toArray, List.set_cons_zero, List.set_cons_succ]
            refine wpAnyH_take (i := 6) (oi := ⟨_, _, _, _, _, _⟩) (v := ?_) rfl (by kernel_rfl) (by kernel_rfl) (by kernel_rfl) (fun _ _ _ h => h) (Or.inl ⟨by rfl, ?_⟩) (by assumption) ?_
            rotate_left
            · intro w hSw; (try dsimp only at hSw); go_simp; try with_reducible rfl
            try simp only [Act.put, List.setIfInBounds_toArray, List.set_cons_zero, List.set_cons_succ]
            refine wpAnyH_ready (rs := [1, 7]) (by kernel_rfl) (by simp) ?_
            refine AllReadyH.cons (o := ⟨_, _, _, _, _, _⟩) rfl (fun K hK => ?_) ?_
            · go_simp
              refine hK.out _ _ (by (try dsimp only); first | exact hkb2.out | exact hka2.out) (fun hHeld => ?_)
              clear hK K
              try simp only [Act.put, List.setIfInBounds_toArray, List.set_cons_zero, List.set_cons_succ]
              refine wpAnyH_ready (rs := [7]) (by kernel_rfl) (by simp) ?_
              refine AllReadyH.cons (o := ⟨_, _, _, _, _, _⟩) rfl (fun K hK => ?_) AllReadyH.nil
              go_simp
              refine hK.out _ _ (by (try dsimp only); exact hkb2.out) (fun hHeld => ?_)
              clear hK K
              try simp only [Act.put, List.setIfInBounds_toArray, List.set_cons_zero, List.set_cons_succ]
              generalize (X1.alloc (.cells #[.int .i64 y2] 3)).drew = Z2 at *
              refine wpAnyH_ready (rs := [8]) (by kernel_rfl) (by simp) ?_
              refine AllReadyH.cons (o := ⟨_, _, _, _, _, _⟩) rfl (fun K hK => ?_) AllReadyH.nil
              refine step_appN (n2 := 1) rfl (.tmp 47) (.tmp 53) rfl (bd + 1) v2 (selL mul l1 k) (X1.heap.size + 1) (some ⟨X1.heap.size, 0, none⟩) 1 [y2] hP2.2.2.1 hcr2.out (by rfl) (by rfl) (by rfl) hle2 hsz2 ?_
              intro V2 W2 ho2 hbn2 hg2 hv2
              obtain ⟨B2, d2, e2, -, -, -⟩ := ho2.form
              rw [List.length_append, List.length_singleton] at e2
              subst e2
              have hQ2 := Lib.hid (hP2.app5 ho2 hbn2 hg2 hv2)
              have hkc2 := Lib.hid (keep2c (p := ⟨w.heap.size, 5, none⟩) (q := ⟨b2, o2 + k, none⟩) hbn2 hbw2 (Nat.lt_trans hbb2 hbw2) hkb2.out)
              obtain ⟨a0, a1, a2, a3, a4, a5, f0, f1, f2, f3, f4, f5⟩ := hP2.1.keep hbn2 (Nat.lt_succ_self _)
              have hbs2 : Below bd W2 (W2.setCell ⟨bd, 5, none⟩ (.slice B2 ((selL mul l1 k).length + 1) d2)) := (Below.refl _ _).setCell (p := ⟨bd, 5, none⟩) (Nat.le_refl _) _
              have hkd2 := Lib.hid (keep2c (p := ⟨w.heap.size, 5, none⟩) (q := ⟨b2, o2 + k, none⟩) hbs2 hwbd (Nat.lt_trans hbb2 hwbd) hkc2.out)
              refine hK.out _ _ (by (try dsimp only); exact hkc2.out) (fun hHeld => ?_)
              clear hK K
              try simp only [Act.put, List.setIfInBounds_toArray, List.set_cons_zero, List.set_cons_succ]
              refine wpAnyH_take (i := 9) (oi := ⟨_, _, _, _, _, _⟩) (v := ?_) rfl (by kernel_rfl) (by kernel_rfl) (by kernel_rfl) (fun _ _ _ h => h) (Or.inl ⟨by rfl, ?_⟩) (by assumption) ?_
              rotate_left
              · intro w hSw; (try dsimp only at hSw); go_simp; try with_reducible rfl
              try simp only [Act.put, List.setIfInBounds_toArray, List.set_cons_zero, List.set_cons_succ]
              refine wpAnyH_ready (rs := [10]) (by kernel_rfl) (by simp) ?_
              refine AllReadyH.cons (o := ⟨_, _, _, _, _, _⟩) rfl (fun K hK => ?_) AllReadyH.nil
              go_simp
              refine hK.out _ _ (by (try dsimp only); exact hkd2.out) (fun hHeld => ?_)
              clear hK K
              try simp only [Act.put, List.setIfInBounds_toArray, List.set_cons_zero, List.set_cons_succ]
              refine wpAnyH_done (by kernel_rfl) ?_ _
              clear a0 a1 a2 a3 a4 a5 f0 f1 f2 f3 f4 f5
              have hbt2 : Below bd X1 (W2.setCell ⟨bd, 5, none⟩ (.slice B2 ((selL mul l1 k).length + 1) d2)) := ((hb122.mono (Nat.le_of_lt hQ1.out.2.2.2.2)).trans (hbn2.mono (Nat.le_succ _))).trans hbs2
              obtain ⟨X2, hX2⟩ : ∃ X2, X2 = W2.setCell ⟨bd, 5, none⟩ (.slice B2 ((selL mul l1 k).length + 1) d2) := ⟨_, rfl⟩
              rw [← hX2] at hQ2 hbt2 ⊢
              clear hX2 hbs2 hkd2
              rw [hy2.out, ← selL_no hni.out] at hQ2
              go_wp2_with (fail)
              go_roundw
              case rel => exact ⟨k + 1, _, _, by omega, by go_num, hQ2, (hbw4.trans hbt1).trans hbt2⟩
              case measure => simp [intOf]; omega
            refine AllReadyH.cons (o := ⟨_, _, _, _, _, _⟩) rfl (fun K hK => ?_) AllReadyH.nil
            go_simp
            refine hK.out _ _ (by (try dsimp only); exact hkb2.out) (fun hHeld => ?_)
            clear hK K
            try simp only [Act.put, List.setIfInBounds_toArray, List.set_cons_zero, List.set_cons_succ]
            generalize (X1.alloc (.cells #[.int .i64 y2] 3)).drew = Z2 at *
            refine wpAnyH_ready (rs := [1]) (by kernel_rfl) (by simp) ?_
            refine AllReadyH.cons (o := ⟨_, _, _, _, _, _⟩) rfl (fun K hK => ?_) AllReadyH.nil
            go_simp
            refine hK.out _ _ (by (try dsimp only); first | exact hkb2.out | exact hka2.out) (fun hHeld => ?_)
            clear hK K
            try simp only [Act.put, List.setIfInBounds_toArray, List.set_cons_zero, List.set_cons_succ]
            refine wpAnyH_ready (rs := [8]) (by kernel_rfl) (by simp) ?_
            refine AllReadyH.cons (o := ⟨_, _, _, _, _, _⟩) rfl (fun K hK => ?_) AllReadyH.nil
            refine step_appN (n2 := 1) rfl (.tmp 47) (.tmp 53) rfl (bd + 1) v2 (selL mul l1 k) (X1.heap.size + 1) (some ⟨X1.heap.size, 0, none⟩) 1 [y2] hP2.2.2.1 hcr2.out (by rfl) (by rfl) (by rfl) hle2 hsz2 ?_
            intro V2 W2 ho2 hbn2 hg2 hv2
            obtain ⟨B2, d2, e2, -, -, -⟩ := ho2.form
            rw [List.length_append, List.length_singleton] at e2
            subst e2
            have hQ2 := Lib.hid (hP2.app5 ho2 hbn2 hg2 hv2)
            have hkc2 := Lib.hid (keep2c (p := ⟨w.heap.size, 5, none⟩) (q := ⟨b2, o2 + k, none⟩) hbn2 hbw2 (Nat.lt_trans hbb2 hbw2) hkb2.out)
            obtain ⟨a0, a1, a2, a3, a4, a5, f0, f1, f2, f3, f4, f5⟩ := hP2.1.keep hbn2 (Nat.lt_succ_self _)
            have hbs2 : Below bd W2 (W2.setCell ⟨bd, 5, none⟩ (.slice B2 ((selL mul l1 k).length + 1) d2)) := (Below.refl _ _).setCell (p := ⟨bd, 5, none⟩) (Nat.le_refl _) _
            have hkd2 := Lib.hid (keep2c (p := ⟨w.heap.size, 5, none⟩) (q := ⟨b2, o2 + k, none⟩) hbs2 hwbd (Nat.lt_trans hbb2 hwbd) hkc2.out)
            refine hK.out _ _ (by (try dsimp only); exact hkc2.out) (fun hHeld => ?_)
            clear hK K
            try simp only [Act.put, List.setIfInBounds_toArray, List.set_cons_zero, List.set_cons_succ]
            refine wpAnyH_take (i := 9) (oi := ⟨_, _, _, _, _, _⟩) (v := ?_) rfl (by kernel_rfl) (by kernel_rfl) (by kernel_rfl) (fun _ _ _ h => h) (Or.inl ⟨by rfl, ?_⟩) (by assumption) ?_
            rotate_left
            · intro w hSw; (try dsimp only at hSw); go_simp; try with_reducible rfl
            try simp only [Act.put, List.setIfInBounds_toArray, List.set_cons_zero, List.set_cons_succ]
            refine wpAnyH_ready (rs := [10]) (by kernel_rfl) (by simp) ?_
            refine AllReadyH.cons (o := ⟨_, _, _, _, _, _⟩) rfl (fun K hK => ?_) AllReadyH.nil
            go_simp
            refine hK.out _ _ (by (try dsimp only); exact hkd2.out) (fun hHeld => ?_)
            clear hK K
            try simp only [Act.put, List.setIfInBounds_toArray, List.set_cons_zero, List.set_cons_succ]
            refine wpAnyH_done (by kernel_rfl) ?_ _
            clear a0 a1 a2 a3 a4 a5 f0 f1 f2 f3 f4 f5
            have hbt2 : Below bd X1 (W2.setCell ⟨bd, 5, none⟩ (.slice B2 ((selL mul l1 k).length + 1) d2)) := ((hb122.mono (Nat.le_of_lt hQ1.out.2.2.2.2)).trans (hbn2.mono (Nat.le_succ _))).trans hbs2
            obtain ⟨X2, hX2⟩ : ∃ X2, X2 = W2.setCell ⟨bd, 5, none⟩ (.slice B2 ((selL mul l1 k).length + 1) d2) := ⟨_, rfl⟩
            rw [← hX2] at hQ2 hbt2 ⊢
            clear hX2 hbs2 hkd2
            rw [hy2.out, ← selL_no hni.out] at hQ2
            go_wp2_with (fail)
            go_roundw
            case rel => exact ⟨k + 1, _, _, by omega, by go_num, hQ2, (hbw4.trans hbt1).trans hbt2⟩
            case measure => simp [intOf]; omega
    · obtain rfl : k = pts.length := by omega
      obtain ⟨hsix, ho1, ho2, -, hlb4⟩ := hP.out
      obtain ⟨A4, c4, rfl, hc4, hr4, hA4⟩ := ho1.form
      obtain ⟨A5, c5, rfl, hc5, hr5, hA5⟩ := ho2.form
      rw [selL_length] at hsix
      rw [selL_length] at hsix
      obtain ⟨p0, p1, p2, p3, p4, p5, e0, e1, e2, e3, e4, e5⟩ := rY.out.keep hbw4 hwb1
      obtain ⟨a0, a1, a2, a3, a4, a5, f0, f1, f2, f3, f4, f5⟩ := hsix
      have hfin : ∀ m : Int, Below w.heap.size w (((((((w6.setCell ⟨bd, 3, none⟩ (.int .i64 m)).setCell ⟨w.heap.size + 1, 0, none⟩ (.int .i64 D.p)).setCell ⟨w.heap.size + 1, 1, none⟩ (.int .i64 D.m)).setCell ⟨w.heap.size + 1, 2, none⟩ (.slice A D.mod.length c)).setCell ⟨w.heap.size + 1, 3, none⟩ (.int .i64 m)).setCell ⟨w.heap.size + 1, 4, none⟩ (.slice A4 (idxL l1 pts.length).length c4)).setCell ⟨w.heap.size + 1, 5, none⟩ (.slice A5 (idxL l1 pts.length).length c5)) := fun m => (hB6.setCell (p := ⟨bd, 3, none⟩) (Nat.le_of_lt hwbd) _).trans ((set6 _ _ _ _ _ _).mono (Nat.le_succ _))
      have hrds : ∀ (m : Int) (AA : Option Addr) (l : List Int), (∀ a, AA = some a → a.block ≠ bd ∧ a.block ≠ w.heap.size + 1) → Rd w6 w6.heap.size AA l → Rd (((((((w6.setCell ⟨bd, 3, none⟩ (.int .i64 m)).setCell ⟨w.heap.size + 1, 0, none⟩ (.int .i64 D.p)).setCell ⟨w.heap.size + 1, 1, none⟩ (.int .i64 D.m)).setCell ⟨w.heap.size + 1, 2, none⟩ (.slice A D.mod.length c)).setCell ⟨w.heap.size + 1, 3, none⟩ (.int .i64 m)).setCell ⟨w.heap.size + 1, 4, none⟩ (.slice A4 (idxL l1 pts.length).length c4)).setCell ⟨w.heap.size + 1, 5, none⟩ (.slice A5 (idxL l1 pts.length).length c5)) (((((((w6.setCell ⟨bd, 3, none⟩ (.int .i64 m)).setCell ⟨w.heap.size + 1, 0, none⟩ (.int .i64 D.p)).setCell ⟨w.heap.size + 1, 1, none⟩ (.int .i64 D.m)).setCell ⟨w.heap.size + 1, 2, none⟩ (.slice A D.mod.length c)).setCell ⟨w.heap.size + 1, 3, none⟩ (.int .i64 m)).setCell ⟨w.heap.size + 1, 4, none⟩ (.slice A4 (idxL l1 pts.length).length c4)).setCell ⟨w.heap.size + 1, 5, none⟩ (.slice A5 (idxL l1 pts.length).length c5)).heap.size AA l := fun m AA l hA h =>
        ((h.farN (fun _ a e => (hA a e).1) 3 (.int .i64 m)).set6 (fun a e => (hA a e).2) _ _ _ _ _ _).more (by simp [World.setCell])
      have hq4 := fun m => hrds m A4 _ (fun a e => by have := (hA4 a e).1; omega) hr4
      have hq5 := fun m => hrds m A5 _ (fun a e => by have := (hA5 a e).1; omega) hr5
      clear hrds hr4 hr5 hA4 hA5
      have hnn := idxL_le l1 pts.length
      by_cases hmin : K ≤ ((idxL l1 pts.length).length : Int)
      · have hmv : min K ((idxL l1 pts.length).length : Int) = K := by omega
        go_wp2_with (fail)
        refine bodyPost_ret (v := .agg #[.int .i64 D.p, .int .i64 D.m, .slice A D.mod.length c, .int .i64 K, .slice A4 (idxL l1 pts.length).length c4, .slice A5 (idxL l1 pts.length).length c5]) (by simp [results, Try.results49, go_sem, p0, p1, p2, p3, p4, p5]) rfl ⟨A4, c4, A5, c5, by rw [hmv], hq4 K, hq5 K, hfin K⟩
      · have hmv : min K ((idxL l1 pts.length).length : Int) = (idxL l1 pts.length).length := by omega
        go_wp2_with (fail)
        refine bodyPost_ret (v := .agg #[.int .i64 D.p, .int .i64 D.m, .slice A D.mod.length c, .int .i64 (idxL l1 pts.length).length, .slice A4 (idxL l1 pts.length).length c4, .slice A5 (idxL l1 pts.length).length c5]) (by simp [results, Try.results49, go_sem, p0, p1, p2, p3, p4, p5]) rfl ⟨A4, c4, A5, c5, by rw [hmv], hq4 (idxL l1 pts.length).length, hq5 (idxL l1 pts.length).length, hfin (idxL l1 pts.length).length⟩
end Go.Proofs.Ytnbkmkeiophjoaa
