/- Layer 18 of the reference: Check. -/
import Derived.Test.YtemanlkgfhmclaaGrsB
import Derived.Test.YtemanlkgfhmclaaEv5
namespace Go.Proofs.Ytemanlkgfhmclaa
open Go.RowKit Cw

set_option maxHeartbeats 1000000 in
theorem Chk18_bad (P M K : Int) (ml pts mul : List Int) (A A1 A2 : Option Addr) (c c1 c2 : Nat) (w : World) (hP : I64 P) (hM : I64 M) (hl : ml.length ≤ maxLen) (hr : Rd w w.heap.size A ml) (hb : ¬ Good P M ml) :
    Calls Try.prog 7 #[.agg #[.int .i64 P, .int .i64 M, .slice A ml.length c, .int .i64 K, .slice A1 pts.length c1, .slice A2 mul.length c2]] w fun e w' => e = .returned (.int .i64 1) ∧ Below w.heap.size w w' := by
  have hN := fun W h => Lib.hid (Check_any P M ml A c W hP.2 hM.2 hl h)
  rw [chk_no hb] at hN
  have k0 := Lib.hid (alloc6 w (.int .i64 P) (.int .i64 M) (.slice A ml.length c) (.int .i64 K) (.slice A1 pts.length c1) (.slice A2 mul.length c2) 26)
  have hB : Below w.heap.size w (w.alloc (.cells #[.int .i64 P, .int .i64 M, .slice A ml.length c, .int .i64 K, .slice A1 pts.length c1, .slice A2 mul.length c2] 26)) := (Below.refl _ _).alloc (Nat.le_refl _) _
  have hN2 := hN _ ((hr.below hB).more hB.size)
  clear hP hM hl hb hN
  go_enter Try.func7, Try.ntmps7
  go_wp2_with (fail)
  (with_reducible refine hN2.out.mono ?_)
  rintro e w1 ⟨rfl, hb1⟩
  go_wp2_with (fail)
  go_ret
  exact ⟨rfl, hB.trans (hb1.mono hB.size)⟩

/-- keep6 and two more cells. -/
theorem keep8 {B b b1 o1 b2 o2 : Nat} {W w1 : World} {v0 v1 v2 v3 v4 v5 v6 v7 : Value} (hb : Below B W w1) (hlt : b < B) (h1 : b1 < B) (h2 : b2 < B)
    (h : W.cell? ⟨b, 0, none⟩ = some v0 ∧ W.cell? ⟨b, 1, none⟩ = some v1 ∧ W.cell? ⟨b, 2, none⟩ = some v2 ∧ W.cell? ⟨b, 3, none⟩ = some v3 ∧ W.cell? ⟨b, 4, none⟩ = some v4 ∧ W.cell? ⟨b, 5, none⟩ = some v5 ∧ W.cell? ⟨b1, o1, none⟩ = some v6 ∧ W.cell? ⟨b2, o2, none⟩ = some v7) :
    w1.cell? ⟨b, 0, none⟩ = some v0 ∧ w1.cell? ⟨b, 1, none⟩ = some v1 ∧ w1.cell? ⟨b, 2, none⟩ = some v2 ∧ w1.cell? ⟨b, 3, none⟩ = some v3 ∧ w1.cell? ⟨b, 4, none⟩ = some v4 ∧ w1.cell? ⟨b, 5, none⟩ = some v5 ∧ w1.cell? ⟨b1, o1, none⟩ = some v6 ∧ w1.cell? ⟨b2, o2, none⟩ = some v7 :=
  have k := keep6 hb hlt ⟨h.1, h.2.1, h.2.2.1, h.2.2.2.1, h.2.2.2.2.1, h.2.2.2.2.2.1⟩
  ⟨k.1, k.2.1, k.2.2.1, k.2.2.2.1, k.2.2.2.2.1, k.2.2.2.2.2, (hb.cell (p := ⟨b1, o1, none⟩) h1).trans h.2.2.2.2.2.2.1, (hb.cell (p := ⟨b2, o2, none⟩) h2).trans h.2.2.2.2.2.2.2⟩

set_option maxRecDepth 100000 in
set_option maxHeartbeats 1500000 in
theorem Chk18_D (D : Desc) (K : Int) (pts mul : List Int) (A A1 A2 : Option Addr) (c c1 c2 : Nat) (w : World) (hr : Rd w w.heap.size A (modL D)) (hg : Good D.p D.m (modL D)) (hr1 : Rd w w.heap.size A1 pts) (hr2 : Rd w w.heap.size A2 mul) (h2 : mul.length ≤ maxLen) :
    Calls Try.prog 7 #[.agg #[.int .i64 D.p, .int .i64 D.m, .slice A D.mod.length c, .int .i64 K, .slice A1 pts.length c1, .slice A2 mul.length c2]] w fun e w' => e = .returned (.int .i64 (gchkD D K pts mul)) ∧ Below w.heap.size w w' := by
  have hp1 := D.p256; have hp2 := D.m8
  have hml : (modL D).length ≤ maxLen := by rw [modL_length]; have := D.hlen; rw [this]; unfold maxLen; split <;> omega
  have hN := fun W h => Lib.hid (Check_any D.p D.m (modL D) A c W (by omega) (by omega) hml h)
  rw [chk_yes hg, modL_length] at hN
  have hI := fun x W => Is_any D x A D.mod.length c W
  have k0 := Lib.hid (alloc6 w (.int .i64 D.p) (.int .i64 D.m) (.slice A D.mod.length c) (.int .i64 K) (.slice A1 pts.length c1) (.slice A2 mul.length c2) 26)
  have hB : Below w.heap.size w (w.alloc (.cells #[.int .i64 D.p, .int .i64 D.m, .slice A D.mod.length c, .int .i64 K, .slice A1 pts.length c1, .slice A2 mul.length c2] 26)) := (Below.refl _ _).alloc (Nat.le_refl _) _
  have hN2 := hN _ ((hr.below hB).more hB.size)
  have hm2 := h2
  unfold maxLen at hm2
  clear hN hg hml
  go_enter Try.func7, Try.ntmps7
  go_wp2_with (fail)
  (with_reducible refine hN2.out.mono ?_)
  rintro e w1 ⟨rfl, hb1⟩
  have hB1 := hB.trans (hb1.mono hB.size)
  have hns : w.heap.size < w1.heap.size := by have := hb1.size; simp only [World.size_alloc] at this; omega
  have kk1 := Lib.hid (keep6 hb1 (by simp) k0.out)
  clear hb1 hN2 k0 hB
  by_cases c1' : pts.length < 1
  · have hv : Hid (gchkD D K pts mul = 4) := if_pos (.inl c1')
    go_wp2_with (fail)
    go_ret
    exact ⟨by rw [hv.out]; rfl, hB1⟩
  by_cases c2' : 64 < pts.length
  · have hv : Hid (gchkD D K pts mul = 4) := if_pos (.inr c2')
    go_wp2_with (fail)
    go_ret
    exact ⟨by rw [hv.out]; rfl, hB1⟩
  have hch0 : gchkD D K pts mul = if mul.length ≠ pts.length then 10 else if elB D pts = false ∨ elB D mul = false then 2
      else if twB pts = true then 18 else if (0 : Int) ∈ mul then 7 else if K < 0 ∨ (pts.length : Int) < K then 6 else 0 := if_neg (by omega)
  by_cases c3' : mul.length = pts.length
  rotate_left
  · have hv : Hid (gchkD D K pts mul = 10) := hch0.trans (if_pos c3')
    have hz : ((mul.length : Int) != (pts.length : Int)) = true := by rw [bne_iff_ne]; omega
    clear hch0
    obtain ⟨q0, q1, q2, q3, q4, q5⟩ := kk1.out
    go_wp2_with (fail)
    go_ret
    exact ⟨by rw [hv.out]; rfl, hB1⟩
  have hz3 : ((mul.length : Int) != (pts.length : Int)) = false := by rw [bne_eq_false_iff_eq]; omega
  rw [if_neg (not_not_intro c3')] at hch0
  replace c3' := Lib.hid c3'
  replace hch0 := Lib.hid hch0
  obtain ⟨q0, q1, q2, q3, q4, q5⟩ := kk1.out
  go_wp2_with (fail)
  clear q0 q1 q2 q3 q4 q5
  go_loopw [4] (fun i wr => ∃ k : Nat, k ≤ pts.length ∧ i = .int .i64 k ∧ Hid (∀ j, j < k → (0 ≤ pts[j]?.getD 0 ∧ pts[j]?.getD 0 < (D.q : Int)) ∧ (0 ≤ mul[j]?.getD 0 ∧ mul[j]?.getD 0 < (D.q : Int))) ∧ Hid (wr.cell? ⟨w.heap.size, 0, none⟩ = some (.int .i64 D.p) ∧ wr.cell? ⟨w.heap.size, 1, none⟩ = some (.int .i64 D.m) ∧ wr.cell? ⟨w.heap.size, 2, none⟩ = some (.slice A D.mod.length c) ∧ wr.cell? ⟨w.heap.size, 3, none⟩ = some (.int .i64 K) ∧ wr.cell? ⟨w.heap.size, 4, none⟩ = some (.slice A1 pts.length c1) ∧ wr.cell? ⟨w.heap.size, 5, none⟩ = some (.slice A2 mul.length c2)) ∧ Below w.heap.size w wr ∧ w.heap.size < wr.heap.size) (fun i _ => pts.length - (intOf i).toNat)
  case atStart => exact ⟨0, by omega, rfl, fun j hj => absurd hj (by omega), kk1, hB1, hns⟩
  case round =>
    clear kk1 hB1 hns
    obtain ⟨w2, rfl⟩ : ∃ w2 : World, w2 = wr := ⟨_, rfl⟩
    obtain ⟨k, hk, rfl, hall, kk2, hB2, hns2⟩ := hrel
    by_cases hlt : k < pts.length
    · have hk0 : (0 : Int) ≤ (k : Int) := by omega
      have hk1 : (k : Int) < (pts.length : Int) := by omega
      have hk2 : (k : Int) < (mul.length : Int) := by rw [c3'.out]; omega
      obtain ⟨b1, o1, rfl, hb1, hc1⟩ := hr1.at_ hlt
      obtain ⟨b2, o2, rfl, hb2, hc2⟩ := hr2.at_ (by rw [c3'.out]; exact hlt : k < mul.length)
      have hd1 := (hB2.cell (p := ⟨b1, o1 + k, none⟩) hb1).trans hc1
      have hd2 := (hB2.cell (p := ⟨b2, o2 + k, none⟩) hb2).trans hc2
      have hb1' := Nat.lt_of_lt_of_le hb1 hB2.size
      have hb2' := Nat.lt_of_lt_of_le hb2 hB2.size
      have hI1 := fun W => hI (pts[k]?.getD 0) W
      have hI2 := fun W => hI (mul[k]?.getD 0) W
      by_cases e1 : 0 ≤ pts[k]?.getD 0 ∧ pts[k]?.getD 0 < (D.q : Int)
      · rw [decide_eq_true e1] at hI1
        replace hI1 := fun W => Lib.hid (hI1 W)
        by_cases e2 : 0 ≤ mul[k]?.getD 0 ∧ mul[k]?.getD 0 < (D.q : Int)
        · have hall2 : Hid (∀ j, j < k + 1 → (0 ≤ pts[j]?.getD 0 ∧ pts[j]?.getD 0 < (D.q : Int)) ∧ (0 ≤ mul[j]?.getD 0 ∧ mul[j]?.getD 0 < (D.q : Int))) := fun j hj => by
            by_cases e : j = k
            · subst e; exact ⟨e1, e2⟩
            · exact hall.out j (by omega)
          rw [decide_eq_true e2] at hI2
          replace hI2 := fun W => Lib.hid (hI2 W)
          clear hc1 hc2 e1 e2
          generalize pts[k]?.getD 0 = y1 at *
          generalize mul[k]?.getD 0 = y2 at *
          have kk8 := Lib.hid (show _ ∧ _ ∧ _ ∧ _ ∧ _ ∧ _ ∧ _ ∧ _ from ⟨kk2.out.1, kk2.out.2.1, kk2.out.2.2.1, kk2.out.2.2.2.1, kk2.out.2.2.2.2.1, kk2.out.2.2.2.2.2, hd1, hd2⟩)
          clear hd1 hd2
          go_wp2_with (fail)
          refine wp_region_held_drew (S := fun w' => w'.cell? ⟨w.heap.size, 0, none⟩ = some (.int .i64 D.p) ∧ w'.cell? ⟨w.heap.size, 1, none⟩ = some (.int .i64 D.m) ∧ w'.cell? ⟨w.heap.size, 2, none⟩ = some (.slice A D.mod.length c) ∧ w'.cell? ⟨w.heap.size, 3, none⟩ = some (.int .i64 K) ∧ w'.cell? ⟨w.heap.size, 4, none⟩ = some (.slice (some ⟨b1, o1, none⟩) pts.length c1) ∧ w'.cell? ⟨w.heap.size, 5, none⟩ = some (.slice (some ⟨b2, o2, none⟩) mul.length c2) ∧ w'.cell? ⟨b1, o1 + k, none⟩ = some (.int .i64 y1) ∧ w'.cell? ⟨b2, o2 + k, none⟩ = some (.int .i64 y2)) (by kernel_rfl) (by (try dsimp only); exact kk8.out) (fun hHeld => ?_)
          refine wpAnyH_take (i := 0) (oi := ⟨_, _, _, _, _, _⟩) (v := ?_) rfl (by kernel_rfl) (by kernel_rfl) (by kernel_rfl) (fun _ _ _ h => h) (Or.inl ⟨by rfl, ?_⟩) (by assumption) ?_
          rotate_left
          · intro w hSw; (try dsimp only at hSw); go_simp; try with_reducible rfl
          try simp only [Act.put, List.setIfInBounds_toArray, List.set_cons_zero, List.set_cons_succ]
          refine wpAnyH_take (i := 1) (oi := ⟨_, _, _, _, _, _⟩) (v := ?_) rfl (by kernel_rfl) (by kernel_rfl) (by kernel_rfl) (fun _ _ _ h => h) (Or.inl ⟨by rfl, ?_⟩) (by assumption) ?_
          rotate_left
          · intro w hSw; (try dsimp only at hSw); go_simp; try with_reducible rfl
          try simp only [Act.put, List.setIfInBounds_toArray, List.set_cons_zero, List.set_cons_succ]
          refine wpAnyH_take (i := 2) (oi := ⟨_, _, _, _, _, _⟩) (v := ?_) rfl (by kernel_rfl) (by kernel_rfl) (by kernel_rfl) (fun _ _ _ h => h) (Or.inl ⟨by rfl, ?_⟩) (by assumption) ?_
          rotate_left
          · intro w hSw; (try dsimp only at hSw); go_simp; try with_reducible rfl
          try simp only [Act.put, List.setIfInBounds_toArray, List.set_cons_zero, List.set_cons_succ]
          refine wpAnyH_take (i := 3) (oi := ⟨_, _, _, _, _, _⟩) (v := ?_) rfl (by kernel_rfl) (by kernel_rfl) (by kernel_rfl) (fun _ _ _ h => h) (Or.inl ⟨by rfl, ?_⟩) (by assumption) ?_
          rotate_left
          · intro w hSw; (try dsimp only at hSw); go_simp; try with_reducible rfl
          try simp only [Act.put, List.setIfInBounds_toArray, List.set_cons_zero, List.set_cons_succ]
          refine wpAnyH_take (i := 4) (oi := ⟨_, _, _, _, _, _⟩) (v := ?_) rfl (by kernel_rfl) (by kernel_rfl) (by kernel_rfl) (fun _ _ _ h => h) (Or.inl ⟨by rfl, ?_⟩) (by assumption) ?_
          rotate_left
          · intro w hSw; (try dsimp only at hSw); go_simp; try with_reducible rfl
          try simp only [Act.put, List.setIfInBounds_toArray, List.set_cons_zero, List.set_cons_succ]
          refine wpAnyH_take (i := 5) (oi := ⟨_, _, _, _, _, _⟩) (v := ?_) rfl (by kernel_rfl) (by kernel_rfl) (by kernel_rfl) (fun _ _ _ h => h) (Or.inl ⟨by rfl, ?_⟩) (by assumption) ?_
          rotate_left
          · intro w hSw; (try dsimp only at hSw); go_simp; try with_reducible rfl
          try simp only [Act.put, List.setIfInBounds_toArray, List.set_cons_zero, List.set_cons_succ]
          refine wpAnyH_take (i := 6) (oi := ⟨_, _, _, _, _, _⟩) (v := ?_) rfl (by kernel_rfl) (by kernel_rfl) (by kernel_rfl) (fun _ _ _ h => h) (Or.inl ⟨by rfl, ?_⟩) (by assumption) ?_
          rotate_left
          · intro w hSw; (try dsimp only at hSw); go_simp; try with_reducible rfl
          try simp only [Act.put, List.setIfInBounds_toArray, List.set_cons_zero, List.set_cons_succ]
          refine wpAnyH_ready (rs := [7]) (by kernel_rfl) (by simp) ?_
          refine AllReadyH.cons (o := ⟨_, _, _, _, _, _⟩) rfl (fun K hK => ?_) AllReadyH.nil
          go_simp
          go_at_call 29
          (with_reducible refine (hI1 _).out.mono ?_)
          rintro e w3 ⟨rfl, hb3⟩
          go_wp2_with (fail)
          refine hK.out _ _ (by (try dsimp only); exact keep8 hb3 hns2 hb1' hb2' kk8.out) (fun hHeld => ?_)
          clear hK K
          try simp only [Act.put, List.setIfInBounds_toArray, List.set_cons_zero, List.set_cons_succ]
          refine wpAnyH_take (i := 8) (oi := ⟨_, _, _, _, _, _⟩) (v := ?_) rfl (by kernel_rfl) (by kernel_rfl) (by kernel_rfl) (fun _ _ _ h => h) (Or.inl ⟨by rfl, ?_⟩) (by assumption) ?_
          rotate_left
          · intro w hSw; (try dsimp only at hSw); go_simp; try with_reducible rfl
          try simp only [Act.put, List.setIfInBounds_toArray, List.set_cons_zero, List.set_cons_succ]
          refine wpAnyH_take (i := 9) (oi := ⟨_, _, _, _, _, _⟩) (v := ?_) rfl (by kernel_rfl) (by kernel_rfl) (by kernel_rfl) (fun _ _ _ h => h) (Or.inl ⟨by rfl, ?_⟩) (by assumption) ?_
          rotate_left
          · intro w hSw; (try dsimp only at hSw); go_simp; try with_reducible rfl
          try simp only [Act.put, List.setIfInBounds_toArray, List.set_cons_zero, List.set_cons_succ]
          refine wpAnyH_take (i := 10) (oi := ⟨_, _, _, _, _, _⟩) (v := ?_) rfl (by kernel_rfl) (by kernel_rfl) (by kernel_rfl) (fun _ _ _ h => h) (Or.inl ⟨by rfl, ?_⟩) (by assumption) ?_
          rotate_left
          · intro w hSw; (try dsimp only at hSw); go_simp; try with_reducible rfl
          try simp only [Act.put, List.setIfInBounds_toArray, List.set_cons_zero, List.set_cons_succ]
          refine wpAnyH_take (i := 11) (oi := ⟨_, _, _, _, _, _⟩) (v := ?_) rfl (by kernel_rfl) (by kernel_rfl) (by kernel_rfl) (fun _ _ _ h => h) (Or.inl ⟨by rfl, ?_⟩) (by assumption) ?_
          rotate_left
          · intro w hSw; (try dsimp only at hSw); go_simp; try with_reducible rfl
          try simp only [Act.put, List.setIfInBounds_toArray, List.set_cons_zero, List.set_cons_succ]
          refine wpAnyH_take (i := 12) (oi := ⟨_, _, _, _, _, _⟩) (v := ?_) rfl (by kernel_rfl) (by kernel_rfl) (by kernel_rfl) (fun _ _ _ h => h) (Or.inl ⟨by rfl, ?_⟩) (by assumption) ?_
          rotate_left
          · intro w hSw; (try dsimp only at hSw); go_simp; try with_reducible rfl
          try simp only [Act.put, List.setIfInBounds_toArray, List.set_cons_zero, List.set_cons_succ]
          refine wpAnyH_take (i := 13) (oi := ⟨_, _, _, _, _, _⟩) (v := ?_) rfl (by kernel_rfl) (by kernel_rfl) (by kernel_rfl) (fun _ _ _ h => h) (Or.inl ⟨by rfl, ?_⟩) (by assumption) ?_
          rotate_left
          · intro w hSw; (try dsimp only at hSw); go_simp; try with_reducible rfl
          try simp only [Act.put, List.setIfInBounds_toArray, List.set_cons_zero, List.set_cons_succ]
          refine wpAnyH_take (i := 14) (oi := ⟨_, _, _, _, _, _⟩) (v := ?_) rfl (by kernel_rfl) (by kernel_rfl) (by kernel_rfl) (fun _ _ _ h => h) (Or.inl ⟨by rfl, ?_⟩) (by assumption) ?_
          rotate_left
          · intro w hSw; (try dsimp only at hSw); go_simp; try with_reducible rfl
          try simp only [Act.put, List.setIfInBounds_toArray, List.set_cons_zero, List.set_cons_succ]
          refine wpAnyH_take (i := 15) (oi := ⟨_, _, _, _, _, _⟩) (v := ?_) rfl (by kernel_rfl) (by kernel_rfl) (by kernel_rfl) (fun _ _ _ h => h) (Or.inl ⟨by rfl, ?_⟩) (by assumption) ?_
          rotate_left
          · intro w hSw; (try dsimp only at hSw); go_simp; try with_reducible rfl
          try simp only [Act.put, List.setIfInBounds_toArray, List.set_cons_zero, List.set_cons_succ]
          refine wpAnyH_take (i := 16) (oi := ⟨_, _, _, _, _, _⟩) (v := ?_) rfl (by kernel_rfl) (by kernel_rfl) (by kernel_rfl) (fun _ _ _ h => h) (Or.inl ⟨by rfl, ?_⟩) (by assumption) ?_
          rotate_left
          · intro w hSw; (try dsimp only at hSw); go_simp; try with_reducible rfl
          try simp only [Act.put, List.setIfInBounds_toArray, List.set_cons_zero, List.set_cons_succ]
          refine wpAnyH_ready (rs := [17]) (by kernel_rfl) (by simp) ?_
          refine AllReadyH.cons (o := ⟨_, _, _, _, _, _⟩) rfl (fun K hK => ?_) AllReadyH.nil
          go_simp
          go_at_call 29
          (with_reducible refine (hI2 _).out.mono ?_)
          rintro e w4 ⟨rfl, hb4⟩
          go_wp2_with (fail)
          refine hK.out _ _ (by (try dsimp only); exact keep8 hb4 (Nat.lt_of_lt_of_le hns2 hb3.size) (Nat.lt_of_lt_of_le hb1' hb3.size) (Nat.lt_of_lt_of_le hb2' hb3.size) (keep8 hb3 hns2 hb1' hb2' kk8.out)) (fun hHeld => ?_)
          clear hK K
          try simp only [Act.put, List.setIfInBounds_toArray, List.set_cons_zero, List.set_cons_succ]
          refine wpAnyH_take (i := 18) (oi := ⟨_, _, _, _, _, _⟩) (v := ?_) rfl (by kernel_rfl) (by kernel_rfl) (by kernel_rfl) (fun _ _ _ h => h) (Or.inl ⟨by rfl, ?_⟩) (by assumption) ?_
          rotate_left
          · intro w hSw; (try dsimp only at hSw); go_simp; try with_reducible rfl
          try simp only [Act.put, List.setIfInBounds_toArray, List.set_cons_zero, List.set_cons_succ]
          refine wpAnyH_take (i := 19) (oi := ⟨_, _, _, _, _, _⟩) (v := ?_) rfl (by kernel_rfl) (by kernel_rfl) (by kernel_rfl) (fun _ _ _ h => h) (Or.inl ⟨by rfl, ?_⟩) (by assumption) ?_
          rotate_left
          · intro w hSw; (try dsimp only at hSw); go_simp; try with_reducible rfl
          try simp only [Act.put, List.setIfInBounds_toArray, List.set_cons_zero, List.set_cons_succ]
          refine wpAnyH_done (by kernel_rfl) ?_ _
          have hB3 := hB2.drew.trans (hb3.mono hB2.size)
          have hB4 := hB3.trans (hb4.mono hB3.size)
          have kk10 := keep8 hb4 (Nat.lt_of_lt_of_le hns2 hb3.size) (Nat.lt_of_lt_of_le hb1' hb3.size) (Nat.lt_of_lt_of_le hb2' hb3.size) (keep8 hb3 hns2 hb1' hb2' kk8.out)
          have kk11 := Lib.hid (show _ ∧ _ ∧ _ ∧ _ ∧ _ ∧ _ from ⟨kk10.1, kk10.2.1, kk10.2.2.1, kk10.2.2.2.1, kk10.2.2.2.2.1, kk10.2.2.2.2.2.1⟩)
          clear kk10
          go_wp2_with (fail)
          go_roundw
          case rel => exact ⟨k + 1, by omega, by go_num, hall2, kk11, hB4, Nat.lt_of_lt_of_le (Nat.lt_of_lt_of_le hns2 hb3.size) hb4.size⟩
          case measure => simp [intOf]; omega
        · have hv : Hid (gchkD D K pts mul = 2) := hch0.out.trans (if_pos (.inr (elB_no (by rw [c3'.out]; exact hlt) e2)))
          rw [decide_eq_false e2] at hI2
          replace hI2 := fun W => Lib.hid (hI2 W)
          clear hc1 hc2 e1 e2
          generalize pts[k]?.getD 0 = y1 at *
          generalize mul[k]?.getD 0 = y2 at *
          have kk8 := Lib.hid (show _ ∧ _ ∧ _ ∧ _ ∧ _ ∧ _ ∧ _ ∧ _ from ⟨kk2.out.1, kk2.out.2.1, kk2.out.2.2.1, kk2.out.2.2.2.1, kk2.out.2.2.2.2.1, kk2.out.2.2.2.2.2, hd1, hd2⟩)
          clear hd1 hd2
          go_wp2_with (fail)
          refine wp_region_held_drew (S := fun w' => w'.cell? ⟨w.heap.size, 0, none⟩ = some (.int .i64 D.p) ∧ w'.cell? ⟨w.heap.size, 1, none⟩ = some (.int .i64 D.m) ∧ w'.cell? ⟨w.heap.size, 2, none⟩ = some (.slice A D.mod.length c) ∧ w'.cell? ⟨w.heap.size, 3, none⟩ = some (.int .i64 K) ∧ w'.cell? ⟨w.heap.size, 4, none⟩ = some (.slice (some ⟨b1, o1, none⟩) pts.length c1) ∧ w'.cell? ⟨w.heap.size, 5, none⟩ = some (.slice (some ⟨b2, o2, none⟩) mul.length c2) ∧ w'.cell? ⟨b1, o1 + k, none⟩ = some (.int .i64 y1) ∧ w'.cell? ⟨b2, o2 + k, none⟩ = some (.int .i64 y2)) (by kernel_rfl) (by (try dsimp only); exact kk8.out) (fun hHeld => ?_)
          refine wpAnyH_take (i := 0) (oi := ⟨_, _, _, _, _, _⟩) (v := ?_) rfl (by kernel_rfl) (by kernel_rfl) (by kernel_rfl) (fun _ _ _ h => h) (Or.inl ⟨by rfl, ?_⟩) (by assumption) ?_
          rotate_left
          · intro w hSw; (try dsimp only at hSw); go_simp; try with_reducible rfl
          try simp only [Act.put, List.setIfInBounds_toArray, List.set_cons_zero, List.set_cons_succ]
          refine wpAnyH_take (i := 1) (oi := ⟨_, _, _, _, _, _⟩) (v := ?_) rfl (by kernel_rfl) (by kernel_rfl) (by kernel_rfl) (fun _ _ _ h => h) (Or.inl ⟨by rfl, ?_⟩) (by assumption) ?_
          rotate_left
          · intro w hSw; (try dsimp only at hSw); go_simp; try with_reducible rfl
          try simp only [Act.put, List.setIfInBounds_toArray, List.set_cons_zero, List.set_cons_succ]
          refine wpAnyH_take (i := 2) (oi := ⟨_, _, _, _, _, _⟩) (v := ?_) rfl (by kernel_rfl) (by kernel_rfl) (by kernel_rfl) (fun _ _ _ h => h) (Or.inl ⟨by rfl, ?_⟩) (by assumption) ?_
          rotate_left
          · intro w hSw; (try dsimp only at hSw); go_simp; try with_reducible rfl
          try simp only [Act.put, List.setIfInBounds_toArray, List.set_cons_zero, List.set_cons_succ]
          refine wpAnyH_take (i := 3) (oi := ⟨_, _, _, _, _, _⟩) (v := ?_) rfl (by kernel_rfl) (by kernel_rfl) (by kernel_rfl) (fun _ _ _ h => h) (Or.inl ⟨by rfl, ?_⟩) (by assumption) ?_
          rotate_left
          · intro w hSw; (try dsimp only at hSw); go_simp; try with_reducible rfl
          try simp only [Act.put, List.setIfInBounds_toArray, List.set_cons_zero, List.set_cons_succ]
          refine wpAnyH_take (i := 4) (oi := ⟨_, _, _, _, _, _⟩) (v := ?_) rfl (by kernel_rfl) (by kernel_rfl) (by kernel_rfl) (fun _ _ _ h => h) (Or.inl ⟨by rfl, ?_⟩) (by assumption) ?_
          rotate_left
          · intro w hSw; (try dsimp only at hSw); go_simp; try with_reducible rfl
          try simp only [Act.put, List.setIfInBounds_toArray, List.set_cons_zero, List.set_cons_succ]
          refine wpAnyH_take (i := 5) (oi := ⟨_, _, _, _, _, _⟩) (v := ?_) rfl (by kernel_rfl) (by kernel_rfl) (by kernel_rfl) (fun _ _ _ h => h) (Or.inl ⟨by rfl, ?_⟩) (by assumption) ?_
          rotate_left
          · intro w hSw; (try dsimp only at hSw); go_simp; try with_reducible rfl
          try simp only [Act.put, List.setIfInBounds_toArray, List.set_cons_zero, List.set_cons_succ]
          refine wpAnyH_take (i := 6) (oi := ⟨_, _, _, _, _, _⟩) (v := ?_) rfl (by kernel_rfl) (by kernel_rfl) (by kernel_rfl) (fun _ _ _ h => h) (Or.inl ⟨by rfl, ?_⟩) (by assumption) ?_
          rotate_left
          · intro w hSw; (try dsimp only at hSw); go_simp; try with_reducible rfl
          try simp only [Act.put, List.setIfInBounds_toArray, List.set_cons_zero, List.set_cons_succ]
          refine wpAnyH_ready (rs := [7]) (by kernel_rfl) (by simp) ?_
          refine AllReadyH.cons (o := ⟨_, _, _, _, _, _⟩) rfl (fun K hK => ?_) AllReadyH.nil
          go_simp
          go_at_call 29
          (with_reducible refine (hI1 _).out.mono ?_)
          rintro e w3 ⟨rfl, hb3⟩
          go_wp2_with (fail)
          refine hK.out _ _ (by (try dsimp only); exact keep8 hb3 hns2 hb1' hb2' kk8.out) (fun hHeld => ?_)
          clear hK K
          try simp only [Act.put, List.setIfInBounds_toArray, List.set_cons_zero, List.set_cons_succ]
          refine wpAnyH_take (i := 8) (oi := ⟨_, _, _, _, _, _⟩) (v := ?_) rfl (by kernel_rfl) (by kernel_rfl) (by kernel_rfl) (fun _ _ _ h => h) (Or.inl ⟨by rfl, ?_⟩) (by assumption) ?_
          rotate_left
          · intro w hSw; (try dsimp only at hSw); go_simp; try with_reducible rfl
          try simp only [Act.put, List.setIfInBounds_toArray, List.set_cons_zero, List.set_cons_succ]
          refine wpAnyH_take (i := 9) (oi := ⟨_, _, _, _, _, _⟩) (v := ?_) rfl (by kernel_rfl) (by kernel_rfl) (by kernel_rfl) (fun _ _ _ h => h) (Or.inl ⟨by rfl, ?_⟩) (by assumption) ?_
          rotate_left
          · intro w hSw; (try dsimp only at hSw); go_simp; try with_reducible rfl
          try simp only [Act.put, List.setIfInBounds_toArray, List.set_cons_zero, List.set_cons_succ]
          refine wpAnyH_take (i := 10) (oi := ⟨_, _, _, _, _, _⟩) (v := ?_) rfl (by kernel_rfl) (by kernel_rfl) (by kernel_rfl) (fun _ _ _ h => h) (Or.inl ⟨by rfl, ?_⟩) (by assumption) ?_
          rotate_left
          · intro w hSw; (try dsimp only at hSw); go_simp; try with_reducible rfl
          try simp only [Act.put, List.setIfInBounds_toArray, List.set_cons_zero, List.set_cons_succ]
          refine wpAnyH_take (i := 11) (oi := ⟨_, _, _, _, _, _⟩) (v := ?_) rfl (by kernel_rfl) (by kernel_rfl) (by kernel_rfl) (fun _ _ _ h => h) (Or.inl ⟨by rfl, ?_⟩) (by assumption) ?_
          rotate_left
          · intro w hSw; (try dsimp only at hSw); go_simp; try with_reducible rfl
          try simp only [Act.put, List.setIfInBounds_toArray, List.set_cons_zero, List.set_cons_succ]
          refine wpAnyH_take (i := 12) (oi := ⟨_, _, _, _, _, _⟩) (v := ?_) rfl (by kernel_rfl) (by kernel_rfl) (by kernel_rfl) (fun _ _ _ h => h) (Or.inl ⟨by rfl, ?_⟩) (by assumption) ?_
          rotate_left
          · intro w hSw; (try dsimp only at hSw); go_simp; try with_reducible rfl
          try simp only [Act.put, List.setIfInBounds_toArray, List.set_cons_zero, List.set_cons_succ]
          refine wpAnyH_take (i := 13) (oi := ⟨_, _, _, _, _, _⟩) (v := ?_) rfl (by kernel_rfl) (by kernel_rfl) (by kernel_rfl) (fun _ _ _ h => h) (Or.inl ⟨by rfl, ?_⟩) (by assumption) ?_
          rotate_left
          · intro w hSw; (try dsimp only at hSw); go_simp; try with_reducible rfl
          try simp only [Act.put, List.setIfInBounds_toArray, List.set_cons_zero, List.set_cons_succ]
          refine wpAnyH_take (i := 14) (oi := ⟨_, _, _, _, _, _⟩) (v := ?_) rfl (by kernel_rfl) (by kernel_rfl) (by kernel_rfl) (fun _ _ _ h => h) (Or.inl ⟨by rfl, ?_⟩) (by assumption) ?_
          rotate_left
          · intro w hSw; (try dsimp only at hSw); go_simp; try with_reducible rfl
          try simp only [Act.put, List.setIfInBounds_toArray, List.set_cons_zero, List.set_cons_succ]
          refine wpAnyH_take (i := 15) (oi := ⟨_, _, _, _, _, _⟩) (v := ?_) rfl (by kernel_rfl) (by kernel_rfl) (by kernel_rfl) (fun _ _ _ h => h) (Or.inl ⟨by rfl, ?_⟩) (by assumption) ?_
          rotate_left
          · intro w hSw; (try dsimp only at hSw); go_simp; try with_reducible rfl
          try simp only [Act.put, List.setIfInBounds_toArray, List.set_cons_zero, List.set_cons_succ]
          refine wpAnyH_take (i := 16) (oi := ⟨_, _, _, _, _, _⟩) (v := ?_) rfl (by kernel_rfl) (by kernel_rfl) (by kernel_rfl) (fun _ _ _ h => h) (Or.inl ⟨by rfl, ?_⟩) (by assumption) ?_
          rotate_left
          · intro w hSw; (try dsimp only at hSw); go_simp; try with_reducible rfl
          try simp only [Act.put, List.setIfInBounds_toArray, List.set_cons_zero, List.set_cons_succ]
          refine wpAnyH_ready (rs := [17]) (by kernel_rfl) (by simp) ?_
          refine AllReadyH.cons (o := ⟨_, _, _, _, _, _⟩) rfl (fun K hK => ?_) AllReadyH.nil
          go_simp
          go_at_call 29
          (with_reducible refine (hI2 _).out.mono ?_)
          rintro e w4 ⟨rfl, hb4⟩
          go_wp2_with (fail)
          refine hK.out _ _ (by (try dsimp only); exact keep8 hb4 (Nat.lt_of_lt_of_le hns2 hb3.size) (Nat.lt_of_lt_of_le hb1' hb3.size) (Nat.lt_of_lt_of_le hb2' hb3.size) (keep8 hb3 hns2 hb1' hb2' kk8.out)) (fun hHeld => ?_)
          clear hK K
          try simp only [Act.put, List.setIfInBounds_toArray, List.set_cons_zero, List.set_cons_succ]
          refine wpAnyH_take (i := 18) (oi := ⟨_, _, _, _, _, _⟩) (v := ?_) rfl (by kernel_rfl) (by kernel_rfl) (by kernel_rfl) (fun _ _ _ h => h) (Or.inl ⟨by rfl, ?_⟩) (by assumption) ?_
          rotate_left
          · intro w hSw; (try dsimp only at hSw); go_simp; try with_reducible rfl
          try simp only [Act.put, List.setIfInBounds_toArray, List.set_cons_zero, List.set_cons_succ]
          refine wpAnyH_take (i := 19) (oi := ⟨_, _, _, _, _, _⟩) (v := ?_) rfl (by kernel_rfl) (by kernel_rfl) (by kernel_rfl) (fun _ _ _ h => h) (Or.inl ⟨by rfl, ?_⟩) (by assumption) ?_
          rotate_left
          · intro w hSw; (try dsimp only at hSw); go_simp; try with_reducible rfl
          try simp only [Act.put, List.setIfInBounds_toArray, List.set_cons_zero, List.set_cons_succ]
          refine wpAnyH_done (by kernel_rfl) ?_ _
          have hB3 := hB2.drew.trans (hb3.mono hB2.size)
          have hB4 := hB3.trans (hb4.mono hB3.size)
          go_wp2_with (fail)
          go_ret
          exact ⟨by rw [hv.out]; rfl, hB4⟩
      · have hv : Hid (gchkD D K pts mul = 2) := hch0.out.trans (if_pos (.inl (elB_no hlt e1)))
        rw [decide_eq_false e1] at hI1
        replace hI1 := fun W => Lib.hid (hI1 W)
        clear hI2 hc1 hc2 e1
        generalize pts[k]?.getD 0 = y1 at *
        generalize mul[k]?.getD 0 = y2 at *
        have kk8 := Lib.hid (show _ ∧ _ ∧ _ ∧ _ ∧ _ ∧ _ ∧ _ ∧ _ from ⟨kk2.out.1, kk2.out.2.1, kk2.out.2.2.1, kk2.out.2.2.2.1, kk2.out.2.2.2.2.1, kk2.out.2.2.2.2.2, hd1, hd2⟩)
        clear hd1 hd2
        go_wp2_with (fail)
        refine wp_region_held_drew (S := fun w' => w'.cell? ⟨w.heap.size, 0, none⟩ = some (.int .i64 D.p) ∧ w'.cell? ⟨w.heap.size, 1, none⟩ = some (.int .i64 D.m) ∧ w'.cell? ⟨w.heap.size, 2, none⟩ = some (.slice A D.mod.length c) ∧ w'.cell? ⟨w.heap.size, 3, none⟩ = some (.int .i64 K) ∧ w'.cell? ⟨w.heap.size, 4, none⟩ = some (.slice (some ⟨b1, o1, none⟩) pts.length c1) ∧ w'.cell? ⟨w.heap.size, 5, none⟩ = some (.slice (some ⟨b2, o2, none⟩) mul.length c2) ∧ w'.cell? ⟨b1, o1 + k, none⟩ = some (.int .i64 y1) ∧ w'.cell? ⟨b2, o2 + k, none⟩ = some (.int .i64 y2)) (by kernel_rfl) (by (try dsimp only); exact kk8.out) (fun hHeld => ?_)
        refine wpAnyH_take (i := 0) (oi := ⟨_, _, _, _, _, _⟩) (v := ?_) rfl (by kernel_rfl) (by kernel_rfl) (by kernel_rfl) (fun _ _ _ h => h) (Or.inl ⟨by rfl, ?_⟩) (by assumption) ?_
        rotate_left
        · intro w hSw; (try dsimp only at hSw); go_simp; try with_reducible rfl
        try simp only [Act.put, List.setIfInBounds_toArray, List.set_cons_zero, List.set_cons_succ]
        refine wpAnyH_take (i := 1) (oi := ⟨_, _, _, _, _, _⟩) (v := ?_) rfl (by kernel_rfl) (by kernel_rfl) (by kernel_rfl) (fun _ _ _ h => h) (Or.inl ⟨by rfl, ?_⟩) (by assumption) ?_
        rotate_left
        · intro w hSw; (try dsimp only at hSw); go_simp; try with_reducible rfl
        try simp only [Act.put, List.setIfInBounds_toArray, List.set_cons_zero, List.set_cons_succ]
        refine wpAnyH_take (i := 2) (oi := ⟨_, _, _, _, _, _⟩) (v := ?_) rfl (by kernel_rfl) (by kernel_rfl) (by kernel_rfl) (fun _ _ _ h => h) (Or.inl ⟨by rfl, ?_⟩) (by assumption) ?_
        rotate_left
        · intro w hSw; (try dsimp only at hSw); go_simp; try with_reducible rfl
        try simp only [Act.put, List.setIfInBounds_toArray, List.set_cons_zero, List.set_cons_succ]
        refine wpAnyH_take (i := 3) (oi := ⟨_, _, _, _, _, _⟩) (v := ?_) rfl (by kernel_rfl) (by kernel_rfl) (by kernel_rfl) (fun _ _ _ h => h) (Or.inl ⟨by rfl, ?_⟩) (by assumption) ?_
        rotate_left
        · intro w hSw; (try dsimp only at hSw); go_simp; try with_reducible rfl
        try simp only [Act.put, List.setIfInBounds_toArray, List.set_cons_zero, List.set_cons_succ]
        refine wpAnyH_take (i := 4) (oi := ⟨_, _, _, _, _, _⟩) (v := ?_) rfl (by kernel_rfl) (by kernel_rfl) (by kernel_rfl) (fun _ _ _ h => h) (Or.inl ⟨by rfl, ?_⟩) (by assumption) ?_
        rotate_left
        · intro w hSw; (try dsimp only at hSw); go_simp; try with_reducible rfl
        try simp only [Act.put, List.setIfInBounds_toArray, List.set_cons_zero, List.set_cons_succ]
        refine wpAnyH_take (i := 5) (oi := ⟨_, _, _, _, _, _⟩) (v := ?_) rfl (by kernel_rfl) (by kernel_rfl) (by kernel_rfl) (fun _ _ _ h => h) (Or.inl ⟨by rfl, ?_⟩) (by assumption) ?_
        rotate_left
        · intro w hSw; (try dsimp only at hSw); go_simp; try with_reducible rfl
        try simp only [Act.put, List.setIfInBounds_toArray, List.set_cons_zero, List.set_cons_succ]
        refine wpAnyH_take (i := 6) (oi := ⟨_, _, _, _, _, _⟩) (v := ?_) rfl (by kernel_rfl) (by kernel_rfl) (by kernel_rfl) (fun _ _ _ h => h) (Or.inl ⟨by rfl, ?_⟩) (by assumption) ?_
        rotate_left
        · intro w hSw; (try dsimp only at hSw); go_simp; try with_reducible rfl
        try simp only [Act.put, List.setIfInBounds_toArray, List.set_cons_zero, List.set_cons_succ]
        refine wpAnyH_ready (rs := [7]) (by kernel_rfl) (by simp) ?_
        refine AllReadyH.cons (o := ⟨_, _, _, _, _, _⟩) rfl (fun K hK => ?_) AllReadyH.nil
        go_simp
        go_at_call 29
        (with_reducible refine (hI1 _).out.mono ?_)
        rintro e w3 ⟨rfl, hb3⟩
        go_wp2_with (fail)
        refine hK.out _ _ (by (try dsimp only); exact keep8 hb3 hns2 hb1' hb2' kk8.out) (fun hHeld => ?_)
        clear hK K
        try simp only [Act.put, List.setIfInBounds_toArray, List.set_cons_zero, List.set_cons_succ]
        refine wpAnyH_take (i := 8) (oi := ⟨_, _, _, _, _, _⟩) (v := ?_) rfl (by kernel_rfl) (by kernel_rfl) (by kernel_rfl) (fun _ _ _ h => h) (Or.inl ⟨by rfl, ?_⟩) (by assumption) ?_
        rotate_left
        · intro w hSw; (try dsimp only at hSw); go_simp; try with_reducible rfl
        try simp only [Act.put, List.setIfInBounds_toArray, List.set_cons_zero, List.set_cons_succ]
        refine wpAnyH_take (i := 9) (oi := ⟨_, _, _, _, _, _⟩) (v := ?_) rfl (by kernel_rfl) (by kernel_rfl) (by kernel_rfl) (fun _ _ _ h => h) (Or.inl ⟨by rfl, ?_⟩) (by assumption) ?_
        rotate_left
        · intro w hSw; (try dsimp only at hSw); go_simp; try with_reducible rfl
        try simp only [Act.put, List.setIfInBounds_toArray, List.set_cons_zero, List.set_cons_succ]
        refine wpAnyH_take (i := 10) (oi := ⟨_, _, _, _, _, _⟩) (v := undef) rfl (by kernel_rfl) (by kernel_rfl) (by kernel_rfl) (fun _ _ _ h => h) (Or.inr ⟨by rfl, rfl⟩) (by assumption) ?_
        try simp only [Act.put, List.setIfInBounds_toArray, List.set_cons_zero, List.set_cons_succ]
        refine wpAnyH_take (i := 11) (oi := ⟨_, _, _, _, _, _⟩) (v := undef) rfl (by kernel_rfl) (by kernel_rfl) (by kernel_rfl) (fun _ _ _ h => h) (Or.inr ⟨by rfl, rfl⟩) (by assumption) ?_
        try simp only [Act.put, List.setIfInBounds_toArray, List.set_cons_zero, List.set_cons_succ]
        refine wpAnyH_take (i := 12) (oi := ⟨_, _, _, _, _, _⟩) (v := undef) rfl (by kernel_rfl) (by kernel_rfl) (by kernel_rfl) (fun _ _ _ h => h) (Or.inr ⟨by rfl, rfl⟩) (by assumption) ?_
        try simp only [Act.put, List.setIfInBounds_toArray, List.set_cons_zero, List.set_cons_succ]
        refine wpAnyH_take (i := 13) (oi := ⟨_, _, _, _, _, _⟩) (v := undef) rfl (by kernel_rfl) (by kernel_rfl) (by kernel_rfl) (fun _ _ _ h => h) (Or.inr ⟨by rfl, rfl⟩) (by assumption) ?_
        try simp only [Act.put, List.setIfInBounds_toArray, List.set_cons_zero, List.set_cons_succ]
        refine wpAnyH_take (i := 14) (oi := ⟨_, _, _, _, _, _⟩) (v := undef) rfl (by kernel_rfl) (by kernel_rfl) (by kernel_rfl) (fun _ _ _ h => h) (Or.inr ⟨by rfl, rfl⟩) (by assumption) ?_
        try simp only [Act.put, List.setIfInBounds_toArray, List.set_cons_zero, List.set_cons_succ]
        refine wpAnyH_take (i := 15) (oi := ⟨_, _, _, _, _, _⟩) (v := undef) rfl (by kernel_rfl) (by kernel_rfl) (by kernel_rfl) (fun _ _ _ h => h) (Or.inr ⟨by rfl, rfl⟩) (by assumption) ?_
        try simp only [Act.put, List.setIfInBounds_toArray, List.set_cons_zero, List.set_cons_succ]
        refine wpAnyH_take (i := 16) (oi := ⟨_, _, _, _, _, _⟩) (v := undef) rfl (by kernel_rfl) (by kernel_rfl) (by kernel_rfl) (fun _ _ _ h => h) (Or.inr ⟨by rfl, rfl⟩) (by assumption) ?_
        try simp only [Act.put, List.setIfInBounds_toArray, List.set_cons_zero, List.set_cons_succ]
        refine wpAnyH_take (i := 17) (oi := ⟨_, _, _, _, _, _⟩) (v := undef) rfl (by kernel_rfl) (by kernel_rfl) (by kernel_rfl) (fun _ _ _ h => h) (Or.inr ⟨by rfl, rfl⟩) (by assumption) ?_
        try simp only [Act.put, List.setIfInBounds_toArray, List.set_cons_zero, List.set_cons_succ]
        refine wpAnyH_take (i := 18) (oi := ⟨_, _, _, _, _, _⟩) (v := undef) rfl (by kernel_rfl) (by kernel_rfl) (by kernel_rfl) (fun _ _ _ h => h) (Or.inr ⟨by rfl, rfl⟩) (by assumption) ?_
        try simp only [Act.put, List.setIfInBounds_toArray, List.set_cons_zero, List.set_cons_succ]
        refine wpAnyH_take (i := 19) (oi := ⟨_, _, _, _, _, _⟩) (v := ?_) rfl (by kernel_rfl) (by kernel_rfl) (by kernel_rfl) (fun _ _ _ h => h) (Or.inl ⟨by rfl, ?_⟩) (by assumption) ?_
        rotate_left
        · intro w hSw; (try dsimp only at hSw); go_simp; try with_reducible rfl
        try simp only [Act.put, List.setIfInBounds_toArray, List.set_cons_zero, List.set_cons_succ]
        refine wpAnyH_done (by kernel_rfl) ?_ _
        go_wp2_with (fail)
        go_ret
        exact ⟨by rw [hv.out]; rfl, hB2.drew.trans (hb3.mono hB2.size)⟩
    · obtain rfl : k = pts.length := by omega
      have hp1' : elB D pts = true := elB_iff.2 fun j hj => (hall.out j hj).1
      have hp2' : elB D mul = true := elB_iff.2 fun j hj => (hall.out j (by rw [← c3'.out]; exact hj)).2
      have hch1 : Hid (gchkD D K pts mul = if twB pts = true then 18 else if (0 : Int) ∈ mul then 7 else if K < 0 ∨ (pts.length : Int) < K then 6 else 0) := hch0.out.trans (if_neg (by rw [hp1', hp2']; simp))
      clear hp1' hp2' hall hch0
      go_wp2_with (fail)
      go_loopw [5, 6] (fun i _ wr => ∃ k : Nat, k ≤ pts.length ∧ i = .int .i64 k ∧ Hid (∀ i j, j < i → i < k → pts[i]?.getD 0 ≠ pts[j]?.getD 0) ∧ Hid (wr.cell? ⟨w.heap.size, 0, none⟩ = some (.int .i64 D.p) ∧ wr.cell? ⟨w.heap.size, 1, none⟩ = some (.int .i64 D.m) ∧ wr.cell? ⟨w.heap.size, 2, none⟩ = some (.slice A D.mod.length c) ∧ wr.cell? ⟨w.heap.size, 3, none⟩ = some (.int .i64 K) ∧ wr.cell? ⟨w.heap.size, 4, none⟩ = some (.slice A1 pts.length c1) ∧ wr.cell? ⟨w.heap.size, 5, none⟩ = some (.slice A2 mul.length c2)) ∧ Below w.heap.size w wr) (fun i _ _ => pts.length - (intOf i).toNat)
      case atStart => exact ⟨0, by omega, rfl, fun i j h1 h2 => absurd h2 (by omega), kk2, hB2⟩
      case round =>
        clear kk2 hB2 hns2
        obtain ⟨w3, rfl⟩ : ∃ w3 : World, w3 = wr := ⟨_, rfl⟩
        obtain ⟨k, hk, rfl, hall, kk3, hB3⟩ := hrel
        by_cases hlt : k < pts.length
        · obtain ⟨y, hy⟩ : ∃ y, y = pts[k]?.getD 0 := ⟨_, rfl⟩
          replace hy := Lib.hid hy
          go_wp2_with (fail)
          go_loopw [6] (fun i wr => ∃ j : Nat, j ≤ k ∧ i = .int .i64 j ∧ Hid (∀ t, t < j → y ≠ pts[t]?.getD 0) ∧ Hid (wr.cell? ⟨w.heap.size, 0, none⟩ = some (.int .i64 D.p) ∧ wr.cell? ⟨w.heap.size, 1, none⟩ = some (.int .i64 D.m) ∧ wr.cell? ⟨w.heap.size, 2, none⟩ = some (.slice A D.mod.length c) ∧ wr.cell? ⟨w.heap.size, 3, none⟩ = some (.int .i64 K) ∧ wr.cell? ⟨w.heap.size, 4, none⟩ = some (.slice A1 pts.length c1) ∧ wr.cell? ⟨w.heap.size, 5, none⟩ = some (.slice A2 mul.length c2)) ∧ Below w.heap.size w wr) (fun i _ => k - (intOf i).toNat)
          case atStart => exact ⟨0, by omega, rfl, fun t ht => absurd ht (by omega), kk3, hB3⟩
          case round =>
            clear kk3 hB3
            obtain ⟨w4, rfl⟩ : ∃ w4 : World, w4 = wr := ⟨_, rfl⟩
            obtain ⟨j, hj, rfl, hall3, kk4, hB4⟩ := hrel
            by_cases hlt2 : j < k
            · have hk0 : (0 : Int) ≤ (k : Int) := by omega
              have hk1 : (k : Int) < (pts.length : Int) := by omega
              have hj0 : (0 : Int) ≤ (j : Int) := by omega
              have hj1 : (j : Int) < (pts.length : Int) := by omega
              obtain ⟨b1, o1, rfl, hb1, hc1⟩ := hr1.at_ hlt
              obtain ⟨b2, o2, e2, hb2, hc2⟩ := hr1.at_ (by omega : j < pts.length)
              cases e2
              rw [← hy.out] at hc1
              obtain ⟨z, hz⟩ : ∃ z, z = pts[j]?.getD 0 := ⟨_, rfl⟩
              rw [← hz] at hc2
              replace hz := Lib.hid hz
              have hd1 := (hB4.cell (p := ⟨b1, o1 + k, none⟩) hb1).trans hc1
              have hd2 := (hB4.cell (p := ⟨b1, o1 + j, none⟩) hb2).trans hc2
              have kk8 := Lib.hid (show _ ∧ _ ∧ _ ∧ _ ∧ _ ∧ _ ∧ _ ∧ _ from ⟨kk4.out.1, kk4.out.2.1, kk4.out.2.2.1, kk4.out.2.2.2.1, kk4.out.2.2.2.2.1, kk4.out.2.2.2.2.2, hd1, hd2⟩)
              clear hc1 hc2 hd1 hd2
              by_cases hyz : y = z
              · have hv : Hid (gchkD D K pts mul = 18) := hch1.out.trans (if_pos (twB_yes hlt2 hlt (by rw [← hy.out, ← hz.out, hyz])))
                have hb : (y == z) = true := beq_iff_eq.2 hyz
                clear hyz
                go_wp2_with (fail)
                go_region_held3 (fun w' => w'.cell? ⟨w.heap.size, 0, none⟩ = some (.int .i64 D.p) ∧ w'.cell? ⟨w.heap.size, 1, none⟩ = some (.int .i64 D.m) ∧ w'.cell? ⟨w.heap.size, 2, none⟩ = some (.slice A D.mod.length c) ∧ w'.cell? ⟨w.heap.size, 3, none⟩ = some (.int .i64 K) ∧ w'.cell? ⟨w.heap.size, 4, none⟩ = some (.slice (some ⟨b1, o1, none⟩) pts.length c1) ∧ w'.cell? ⟨w.heap.size, 5, none⟩ = some (.slice A2 mul.length c2) ∧ w'.cell? ⟨b1, o1 + k, none⟩ = some (.int .i64 y) ∧ w'.cell? ⟨b1, o1 + j, none⟩ = some (.int .i64 z)) (first | exact kk8.out) (fail)
                go_wp2_with (fail)
                go_ret
                exact ⟨by rw [hv.out]; rfl, hB4.drew⟩
              · have hb : (y == z) = false := beq_eq_false_iff_ne.2 hyz
                have hall4 : Hid (∀ t, t < j + 1 → y ≠ pts[t]?.getD 0) := fun t ht => by
                  by_cases e : t = j
                  · subst e; rw [← hz.out]; exact hyz
                  · exact hall3.out t (by omega)
                clear hyz
                go_wp2_with (fail)
                go_region_held3 (fun w' => w'.cell? ⟨w.heap.size, 0, none⟩ = some (.int .i64 D.p) ∧ w'.cell? ⟨w.heap.size, 1, none⟩ = some (.int .i64 D.m) ∧ w'.cell? ⟨w.heap.size, 2, none⟩ = some (.slice A D.mod.length c) ∧ w'.cell? ⟨w.heap.size, 3, none⟩ = some (.int .i64 K) ∧ w'.cell? ⟨w.heap.size, 4, none⟩ = some (.slice (some ⟨b1, o1, none⟩) pts.length c1) ∧ w'.cell? ⟨w.heap.size, 5, none⟩ = some (.slice A2 mul.length c2) ∧ w'.cell? ⟨b1, o1 + k, none⟩ = some (.int .i64 y) ∧ w'.cell? ⟨b1, o1 + j, none⟩ = some (.int .i64 z)) (first | exact kk8.out) (fail)
                go_wp2_with (fail)
                go_roundw
                case rel => exact ⟨j + 1, by omega, by go_num, hall4, kk4, hB4.drew⟩
                case measure => simp [intOf]; omega
            · obtain rfl : j = k := by omega
              have hall2 : Hid (∀ i t, t < i → i < j + 1 → pts[i]?.getD 0 ≠ pts[t]?.getD 0) := fun i t h1 h2 => by
                by_cases e : i = j
                · subst e; rw [← hy.out]; exact hall3.out t h1
                · exact hall.out i t h1 (by omega)
              clear hy
              go_wp2_with (fail)
              go_roundw
              case rel => exact ⟨j + 1, by omega, by go_num, hall2, kk4, hB4⟩
              case measure => simp [intOf]; omega
        · obtain rfl : k = pts.length := by omega
          have hch2 : Hid (gchkD D K pts mul = if (0 : Int) ∈ mul then 7 else if K < 0 ∨ (pts.length : Int) < K then 6 else 0) := hch1.out.trans (if_neg (by rw [twB_no hall.out]; simp))
          clear hall hch1
          obtain ⟨q0, q1, q2, q3, q4, q5⟩ := kk3.out
          go_wp2_with (fail)
          go_loop [7] (fun i => ∃ k : Nat, k ≤ pts.length ∧ i = .int .i64 k ∧ Hid (∀ j, j < k → mul[j]?.getD 0 ≠ 0)) (fun i => pts.length - (intOf i).toNat)
          case atStart => exact ⟨0, by omega, rfl, fun j hj => absurd hj (by omega)⟩
          case round =>
            obtain ⟨k, hk, rfl, hall⟩ := hrel
            by_cases hlt : k < pts.length
            · have hlt' : k < mul.length := by rw [c3'.out]; exact hlt
              obtain ⟨b, o, rfl, hb, hc⟩ := hr2.at_ hlt'
              have hd := (hB3.cell (p := ⟨b, o + k, none⟩) hb).trans hc
              have hin : mul[k]?.getD 0 ∈ mul := by rw [List.getElem?_eq_getElem hlt']; exact List.getElem_mem _
              by_cases hy : mul[k]?.getD 0 = 0
              · have hv : Hid (gchkD D K pts mul = 7) := hch2.out.trans (if_pos (hy ▸ hin))
                rw [hy] at hd
                clear hin hy hc
                go_wp2_with (fail)
                go_ret
                exact ⟨by rw [hv.out]; rfl, hB3⟩
              · have hall2 : Hid (∀ j, j < k + 1 → mul[j]?.getD 0 ≠ 0) := fun j hj => by
                  by_cases e : j = k
                  · subst e; exact hy
                  · exact hall.out j (by omega)
                clear hin hc
                generalize mul[k]?.getD 0 = y at *
                have hyb : (y == 0) = false := beq_eq_false_iff_ne.2 hy
                clear hy
                go_wp2_with (fail)
                go_round
                case rel => exact ⟨k + 1, by omega, by go_num, hall2⟩
                case measure => simp [intOf]; omega
            · obtain rfl : k = pts.length := by omega
              have hno : ¬ (0 : Int) ∈ mul := fun h => by
                obtain ⟨j, hj, e⟩ := List.getElem_of_mem h
                refine hall.out j (by rw [← c3'.out]; exact hj) ?_
                rw [List.getElem?_eq_getElem hj]; exact e
              by_cases c7' : K < 0
              · have hv : Hid (gchkD D K pts mul = 6) := hch2.out.trans ((if_neg hno).trans (if_pos (.inl c7')))
                clear hno
                go_wp2_with (fail)
                go_ret
                exact ⟨by rw [hv.out]; rfl, hB3⟩
              by_cases c8' : (pts.length : Int) < K
              · have hv : Hid (gchkD D K pts mul = 6) := hch2.out.trans ((if_neg hno).trans (if_pos (.inr c8')))
                clear hno
                go_wp2_with (fail)
                go_ret
                exact ⟨by rw [hv.out]; rfl, hB3⟩
              have hv : Hid (gchkD D K pts mul = 0) := hch2.out.trans ((if_neg hno).trans (if_neg (by omega)))
              clear hno
              go_wp2_with (fail)
              go_ret
              exact ⟨by rw [hv.out]; rfl, hB3⟩
end Go.Proofs.Ytemanlkgfhmclaa
