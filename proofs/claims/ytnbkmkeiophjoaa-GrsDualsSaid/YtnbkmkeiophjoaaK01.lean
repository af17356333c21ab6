/- GrsChecks: the walk. -/
import Derived.Test.YtnbkmkeiophjoaaLaw8C
namespace Go.Proofs.Ytnbkmkeiophjoaa
open Go.RowKit Cw

/-- A law's end: true, and nothing that was there has turned. -/
def LawEnd (w : World) (e : Ending) (w' : World) : Prop := e = .returned (.bool true) ∧ Below w.heap.size w w'

set_option maxHeartbeats 1000000 in
theorem checksL_bad (P M K : Int) (ml pts mul : List Int) (A A1 A2 : Option Addr) (c c1 c2 : Nat) (w : World) (hP : I64 P) (hM : I64 M) (hl : ml.length ≤ maxLen) (hr : Rd w w.heap.size A ml) (hb : ¬ Good P M ml) (_hK : I64 K) (h1 : pts.length ≤ c1 ∧ c1 ≤ maxLen) (_h2 : mul.length ≤ c2 ∧ c2 ≤ maxLen) (_hi : ∀ x ∈ pts, I64 x) (_hj : ∀ x ∈ mul, I64 x) (_hr1 : Rd w w.heap.size A1 pts) (_hr2 : Rd w w.heap.size A2 mul) :
    Calls Try.prog 9 #[.agg #[.int .i64 P, .int .i64 M, .slice A ml.length c, .int .i64 K, .slice A1 pts.length c1, .slice A2 mul.length c2]] w (LawEnd w) := by
  have hA := fun W => Lib.hid (alive_any W)
  have hC := fun W h => Lib.hid (gCheck_bad P M K ml pts mul A A1 A2 c c1 c2 W hP hM hl h hb)
  have hR := fun W h => Lib.hid (Chk18_bad P M K ml pts mul A A1 A2 c c1 c2 W hP hM hl h hb)
  have hm1 := h1.1; have hm2 := h1.2
  unfold maxLen at hm2
  have k0 := Lib.hid (alloc6 w (.int .i64 P) (.int .i64 M) (.slice A ml.length c) (.int .i64 K) (.slice A1 pts.length c1) (.slice A2 mul.length c2) 27)
  have hB : Below w.heap.size w (w.alloc (.cells #[.int .i64 P, .int .i64 M, .slice A ml.length c, .int .i64 K, .slice A1 pts.length c1, .slice A2 mul.length c2] 27)) := (Below.refl _ _).alloc (Nat.le_refl _) _
  clear hP hM hl hb
  go_enter Try.func9, Try.ntmps9
  go_wp2_with (fail)
  refine (hA _).out.mono ?_
  rintro e w1 ⟨rfl, hb1⟩
  have kk1 := Lib.hid (keep6 hb1 (by simp) k0.out)
  have hB1 := hB.trans (hb1.mono hB.size)
  obtain ⟨q0, q1, q2, q3, q4, q5⟩ := kk1.out
  have hnz : True := trivial
  by_cases h300 : 300 < pts.length
  · go_wp2_with (fail)
    go_ret
    exact ⟨rfl, hB1⟩
  have hlt1 : w.heap.size < w1.heap.size := by have := hb1.size; simp only [World.size_alloc] at this; omega
  have hC1 := hC w1.drew (((hr.below hB1).more hB1.size)).drew
  go_wp2_with (fail)
  clear q0 q1 q2 q3 q4 q5
  refine wp_region_held_drew (S := fun w' => w'.cell? ⟨w.heap.size, 0, none⟩ = some (.int .i64 P) ∧ w'.cell? ⟨w.heap.size, 1, none⟩ = some (.int .i64 M) ∧ w'.cell? ⟨w.heap.size, 2, none⟩ = some (.slice A ml.length c) ∧ w'.cell? ⟨w.heap.size, 3, none⟩ = some (.int .i64 K) ∧ w'.cell? ⟨w.heap.size, 4, none⟩ = some (.slice A1 pts.length c1) ∧ w'.cell? ⟨w.heap.size, 5, none⟩ = some (.slice A2 mul.length c2)) (by kernel_rfl) (by (try dsimp only); exact kk1.out) (fun hHeld => ?_)
  refine wpAnyH_take (i := 0) (oi := ⟨_, _, _, _, _, _⟩) (v := ?_) rfl (by kernel_rfl) (by kernel_rfl) (by kernel_rfl) (fun _ _ _ h => h) (Or.inl ⟨by rfl, ?_⟩) (by assumption) ?_
  rotate_left
  · intro w hSw; (try dsimp only at hSw); go_simp; try with_reducible rfl
  try simp only [Act.put, List.setIfInBounds_toArray, List.set_cons_zero, List.set_cons_succ]
  refine wpAnyH_take (i := 2) (oi := ⟨_, _, _, _, _, _⟩) (v := ?_) rfl (by kernel_rfl) (by kernel_rfl) (by kernel_rfl) (fun _ _ _ h => h) (Or.inl ⟨by rfl, ?_⟩) (by assumption) ?_
  rotate_left
  · intro w hSw; (try dsimp only at hSw); go_simp; try with_reducible rfl
  try simp only [Act.put, List.setIfInBounds_toArray, List.set_cons_zero, List.set_cons_succ]
  refine wpAnyH_ready (rs := [1]) (by kernel_rfl) (by simp) ?_
  refine AllReadyH.cons (o := ⟨_, _, _, _, _, _⟩) rfl (fun K hK => ?_) AllReadyH.nil
  go_simp
  go_at_call 34
  (with_reducible refine (hC1).out.mono ?_)
  rintro e w2 ⟨rfl, hb2⟩
  go_wp2_with (fail)
  refine hK.out _ _ (by (try dsimp only); exact keep6 hb2 hlt1 kk1.out) (fun hHeld => ?_)
  clear hK K
  try simp only [Act.put, List.setIfInBounds_toArray, List.set_cons_zero, List.set_cons_succ]
  have hB2 := hB1.drew.trans (hb2.mono hB1.size)
  refine wpAnyH_ready (rs := [3]) (by kernel_rfl) (by simp) ?_
  refine AllReadyH.cons (o := ⟨_, _, _, _, _, _⟩) rfl (fun K hK => ?_) AllReadyH.nil
  go_simp
  go_at_call 23
  (with_reducible refine (hR _ ((hr.below hB2).more hB2.size)).out.mono ?_)
  rintro e w3 ⟨rfl, hb3⟩
  go_wp2_with (fail)
  refine hK.out _ _ (by (try dsimp only); exact keep6 hb3 (Nat.lt_of_lt_of_le hlt1 hb2.size) (keep6 hb2 hlt1 kk1.out)) (fun hHeld => ?_)
  clear hK K
  try simp only [Act.put, List.setIfInBounds_toArray, List.set_cons_zero, List.set_cons_succ]
  refine wpAnyH_take (i := 4) (oi := ⟨_, _, _, _, _, _⟩) (v := ?_) rfl (by kernel_rfl) (by kernel_rfl) (by kernel_rfl) (fun _ _ _ h => h) (Or.inl ⟨by rfl, ?_⟩) (by assumption) ?_
  rotate_left
  · intro w hSw; (try dsimp only at hSw); go_simp; try with_reducible rfl
  try simp only [Act.put, List.setIfInBounds_toArray, List.set_cons_zero, List.set_cons_succ]
  refine wpAnyH_take (i := 5) (oi := ⟨_, _, _, _, _, _⟩) (v := ?_) rfl (by kernel_rfl) (by kernel_rfl) (by kernel_rfl) (fun _ _ _ h => h) (Or.inl ⟨by rfl, ?_⟩) (by assumption) ?_
  rotate_left
  · intro w hSw; (try dsimp only at hSw); go_simp; try with_reducible rfl
  try simp only [Act.put, List.setIfInBounds_toArray, List.set_cons_zero, List.set_cons_succ]
  refine wpAnyH_done (by kernel_rfl) ?_ _
  go_wp2_with (fail)
  go_ret
  exact ⟨by simp, hB2.trans (hb3.mono hB2.size)⟩

set_option maxHeartbeats 1000000 in
theorem checksL_good (D : Desc) (K : Int) (pts mul : List Int) (A A1 A2 : Option Addr) (c c1 c2 : Nat) (w : World) (hr : Rd w w.heap.size A (modL D)) (hb : Good D.p D.m (modL D)) (_hK : I64 K) (h1 : pts.length ≤ c1 ∧ c1 ≤ maxLen) (h2 : mul.length ≤ c2 ∧ c2 ≤ maxLen) (_hi : ∀ x ∈ pts, I64 x) (_hj : ∀ x ∈ mul, I64 x) (hr1 : Rd w w.heap.size A1 pts) (hr2 : Rd w w.heap.size A2 mul) :
    Calls Try.prog 9 #[.agg #[.int .i64 D.p, .int .i64 D.m, .slice A D.mod.length c, .int .i64 K, .slice A1 pts.length c1, .slice A2 mul.length c2]] w (LawEnd w) := by
  have hA := fun W => Lib.hid (alive_any W)
  have hC := fun W h a b => Lib.hid (gCheck_D D K pts mul A A1 A2 c c1 c2 W h hb a b h1.1 h1.2 (Nat.le_trans h2.1 h2.2))
  have hR := fun W h a b => Lib.hid (Chk18_D D K pts mul A A1 A2 c c1 c2 W h hb a b (Nat.le_trans h2.1 h2.2))
  have hm1 := h1.1; have hm2 := h1.2
  unfold maxLen at hm2
  have k0 := Lib.hid (alloc6 w (.int .i64 D.p) (.int .i64 D.m) (.slice A D.mod.length c) (.int .i64 K) (.slice A1 pts.length c1) (.slice A2 mul.length c2) 27)
  have hB : Below w.heap.size w (w.alloc (.cells #[.int .i64 D.p, .int .i64 D.m, .slice A D.mod.length c, .int .i64 K, .slice A1 pts.length c1, .slice A2 mul.length c2] 27)) := (Below.refl _ _).alloc (Nat.le_refl _) _
  clear hb
  go_enter Try.func9, Try.ntmps9
  go_wp2_with (fail)
  refine (hA _).out.mono ?_
  rintro e w1 ⟨rfl, hb1⟩
  have kk1 := Lib.hid (keep6 hb1 (by simp) k0.out)
  have hB1 := hB.trans (hb1.mono hB.size)
  obtain ⟨q0, q1, q2, q3, q4, q5⟩ := kk1.out
  by_cases h300 : 300 < pts.length
  · go_wp2_with (fail)
    go_ret
    exact ⟨rfl, hB1⟩
  have hlt1 : w.heap.size < w1.heap.size := by have := hb1.size; simp only [World.size_alloc] at this; omega
  have hC1 := hC w1.drew (((hr.below hB1).more hB1.size)).drew (((hr1.below hB1).more hB1.size)).drew (((hr2.below hB1).more hB1.size)).drew
  go_wp2_with (fail)
  clear q0 q1 q2 q3 q4 q5
  refine wp_region_held_drew (S := fun w' => w'.cell? ⟨w.heap.size, 0, none⟩ = some (.int .i64 D.p) ∧ w'.cell? ⟨w.heap.size, 1, none⟩ = some (.int .i64 D.m) ∧ w'.cell? ⟨w.heap.size, 2, none⟩ = some (.slice A D.mod.length c) ∧ w'.cell? ⟨w.heap.size, 3, none⟩ = some (.int .i64 K) ∧ w'.cell? ⟨w.heap.size, 4, none⟩ = some (.slice A1 pts.length c1) ∧ w'.cell? ⟨w.heap.size, 5, none⟩ = some (.slice A2 mul.length c2)) (by kernel_rfl) (by (try dsimp only); exact kk1.out) (fun hHeld => ?_)
  refine wpAnyH_take (i := 0) (oi := ⟨_, _, _, _, _, _⟩) (v := ?_) rfl (by kernel_rfl) (by kernel_rfl) (by kernel_rfl) (fun _ _ _ h => h) (Or.inl ⟨by rfl, ?_⟩) (by assumption) ?_
  rotate_left
  · intro w hSw; (try dsimp only at hSw); go_simp; try with_reducible rfl
  try simp only [Act.put, List.setIfInBounds_toArray, List.set_cons_zero, List.set_cons_succ]
  refine wpAnyH_take (i := 2) (oi := ⟨_, _, _, _, _, _⟩) (v := ?_) rfl (by kernel_rfl) (by kernel_rfl) (by kernel_rfl) (fun _ _ _ h => h) (Or.inl ⟨by rfl, ?_⟩) (by assumption) ?_
  rotate_left
  · intro w hSw; (try dsimp only at hSw); go_simp; try with_reducible rfl
  try simp only [Act.put, List.setIfInBounds_toArray, List.set_cons_zero, List.set_cons_succ]
  refine wpAnyH_ready (rs := [1]) (by kernel_rfl) (by simp) ?_
  refine AllReadyH.cons (o := ⟨_, _, _, _, _, _⟩) rfl (fun K hK => ?_) AllReadyH.nil
  go_simp
  go_at_call 34
  (with_reducible refine (hC1).out.mono ?_)
  rintro e w2 ⟨rfl, hb2⟩
  go_wp2_with (fail)
  refine hK.out _ _ (by (try dsimp only); exact keep6 hb2 hlt1 kk1.out) (fun hHeld => ?_)
  clear hK K
  try simp only [Act.put, List.setIfInBounds_toArray, List.set_cons_zero, List.set_cons_succ]
  have hB2 := hB1.drew.trans (hb2.mono hB1.size)
  refine wpAnyH_ready (rs := [3]) (by kernel_rfl) (by simp) ?_
  refine AllReadyH.cons (o := ⟨_, _, _, _, _, _⟩) rfl (fun K hK => ?_) AllReadyH.nil
  go_simp
  go_at_call 23
  (with_reducible refine (hR _ ((hr.below hB2).more hB2.size) ((hr1.below hB2).more hB2.size) ((hr2.below hB2).more hB2.size)).out.mono ?_)
  rintro e w3 ⟨rfl, hb3⟩
  go_wp2_with (fail)
  refine hK.out _ _ (by (try dsimp only); exact keep6 hb3 (Nat.lt_of_lt_of_le hlt1 hb2.size) (keep6 hb2 hlt1 kk1.out)) (fun hHeld => ?_)
  clear hK K
  try simp only [Act.put, List.setIfInBounds_toArray, List.set_cons_zero, List.set_cons_succ]
  refine wpAnyH_take (i := 4) (oi := ⟨_, _, _, _, _, _⟩) (v := ?_) rfl (by kernel_rfl) (by kernel_rfl) (by kernel_rfl) (fun _ _ _ h => h) (Or.inl ⟨by rfl, ?_⟩) (by assumption) ?_
  rotate_left
  · intro w hSw; (try dsimp only at hSw); go_simp; try with_reducible rfl
  try simp only [Act.put, List.setIfInBounds_toArray, List.set_cons_zero, List.set_cons_succ]
  refine wpAnyH_take (i := 5) (oi := ⟨_, _, _, _, _, _⟩) (v := ?_) rfl (by kernel_rfl) (by kernel_rfl) (by kernel_rfl) (fun _ _ _ h => h) (Or.inl ⟨by rfl, ?_⟩) (by assumption) ?_
  rotate_left
  · intro w hSw; (try dsimp only at hSw); go_simp; try with_reducible rfl
  try simp only [Act.put, List.setIfInBounds_toArray, List.set_cons_zero, List.set_cons_succ]
  refine wpAnyH_done (by kernel_rfl) ?_ _
  go_wp2_with (fail)
  go_ret
  exact ⟨by simp, hB2.trans (hb3.mono hB2.size)⟩
end Go.Proofs.Ytnbkmkeiophjoaa
