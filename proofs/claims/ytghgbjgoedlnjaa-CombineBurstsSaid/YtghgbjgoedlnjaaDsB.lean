/- The reference's Combine, At, Of, Weight. -/
import Derived.Test.YtghgbjgoedlnjaaDsA
import Derived.Test.YtghgbjgoedlnjaaHasB
namespace Go.Proofs.Ytghgbjgoedlnjaa
open Go.RowKit Cw
attribute [local go_sem] Oper.semAt_some

/-- The combination of n rows with the coefficients g. -/
def cmb {D : Desc} (n : Nat) (g : Nat → R D) (M : Nat → Nat → R D) : Nat → R D := fun j => rsum n fun i => g i * M i j
theorem rowL_zero' (D : Desc) (n : Nat) : List.replicate n (0 : Int) = rowL D n (fun _ => 0) := by
  unfold rowL
  rw [lst_zero]
  exact lst_congr fun j _ => ci_zero.symm
set_option maxHeartbeats 2000000 in
theorem Combine9_any (D : Desc) (n m : Nat) (g : Nat → R D) (M : Nat → Nat → R D) (A A1 Ar : Option Addr) (c c1 cr : Nat) (w : World) (hr : Rd w w.heap.size A (modL D)) (hr1 : Rd w w.heap.size A1 (rowL D n g)) (hrm : RdM w w.heap.size Ar n (rowsL D m M)) (hn : n ≤ 1000) (hm : m ≤ 70000) :
    Calls Try.prog 56 #[.agg #[.int .i64 D.p, .int .i64 D.m, .slice A D.mod.length c], .slice A1 n c1, .slice Ar n cr, .int .i64 m] w fun e w' => ∃ A2 c2, e = .returned (.slice A2 m c2) ∧ Rd w' w'.heap.size A2 (rowL D m (cmb n g M)) ∧ (∀ a, A2 = some a → w.heap.size ≤ a.block) ∧ m ≤ c2 ∧ c2 ≤ maxLen ∧ Below w.heap.size w w' := by
  have hAT := fun f h a A1 A2 c1 c2 W x y z => AddTo9_any D m f h a A A1 A2 c c1 c2 W x y z hm
  have hmk := mk_ints m hm
  obtain ⟨Z, hZ⟩ : ∃ Z, Z = w.alloc (.cells #[.int .i64 D.p, .int .i64 D.m, .slice A D.mod.length c] 24) := ⟨_, rfl⟩
  have hB : Below w.heap.size w Z := by rw [hZ]; exact (Below.refl _ _).alloc (Nat.le_refl _) _
  have k0 := Lib.hid (show Z.cell? ⟨w.heap.size, 0, none⟩ = some (.int .i64 D.p) ∧ Z.cell? ⟨w.heap.size, 1, none⟩ = some (.int .i64 D.m) ∧ Z.cell? ⟨w.heap.size, 2, none⟩ = some (.slice A D.mod.length c) from by rw [hZ]; exact alloc3 w _ _ _ _)
  have hZe : Z.heap.size = w.heap.size + 1 := by rw [hZ]; simp
  obtain ⟨Y, hY⟩ : ∃ Y, Y = Z.alloc (.cells (Array.replicate m (Value.int .i64 0)) 3) := ⟨_, rfl⟩
  have hbY : Below Z.heap.size Z Y := by rw [hY]; exact (Below.refl _ _).alloc (Nat.le_refl _) _
  have hBY := hB.trans (hbY.mono hB.size)
  have hlt0 : w.heap.size < Y.heap.size := by have := hbY.size; omega
  have kY := Lib.hid (keep3 hbY (by omega) k0.out)
  have hr0 : Rd Y Y.heap.size (some ⟨w.heap.size + 1, 0, none⟩) (rowL D m (cmb 0 g M)) := by
    rw [show rowL D m (cmb 0 g M) = List.replicate m 0 from (rowL_zero' D m).symm, hY, ← hZe]; exact (IB.newz Z m).rd
  rw [hZ] at hY
  replace hZ := Lib.hid hZ
  replace hY := Lib.hid hY
  replace hZe := Lib.hid hZe
  go_enter Try.func56, Try.ntmps56
  go_wp2_with (fail)
  rw [← hY.out]
  go_loopw [10, 9] (fun iS v wr => ∃ (k : Nat) (Av : Option Addr) (cv : Nat), k ≤ n ∧ iS = .int .i64 k ∧ v = .slice Av m cv ∧ Rd wr wr.heap.size Av (rowL D m (cmb k g M)) ∧ (∀ a, Av = some a → w.heap.size ≤ a.block) ∧ m ≤ cv ∧ cv ≤ maxLen ∧ Below Y.heap.size Y wr) (fun iS _ _ => n - (intOf iS).toNat)
  case atStart => exact ⟨0, some ⟨w.heap.size + 1, 0, none⟩, m, by omega, rfl, rfl, hr0, (fun a e => by cases e; exact Nat.le_succ _), Nat.le_refl _, by unfold maxLen; omega, Below.refl _ _⟩
  case round =>
    obtain ⟨k, Av, cv, hk, rfl, rfl, hrv, hAv, hmc, hcv, hbw⟩ := hrel
    obtain ⟨w3, rfl⟩ : ∃ w3 : World, w3 = wr := ⟨_, rfl⟩
    have hB3 := hBY.trans (hbw.mono hBY.size)
    by_cases hlt : k < n
    · have hk0 : (0 : Int) ≤ (k : Int) := by omega
      have hk1 : (k : Int) < (n : Int) := by omega
      obtain ⟨b, o, Ak, ck, rfl, hb, hc, hrk, -, -⟩ := hrm.at_ hlt
      obtain ⟨b1, o1, rfl, hb1, hc1⟩ := hr1.at_ (show k < (rowL D n g).length by rw [rowL_length]; exact hlt)
      rw [rowL_get D g hlt] at hc1
      rw [show (rowsL D m M k).length = m from rowL_length _ _ _] at hc
      have hd := (hB3.cell (p := ⟨b, o + k, none⟩) hb).trans hc
      have hd1 := (hB3.cell (p := ⟨b1, o1 + k, none⟩) hb1).trans hc1
      have hgk : eli D (ci (g k)) = g k := eli_ci _
      have hst : cmb (k + 1) g M = fun j => cmb k g M j + g k * M k j := funext fun j => rsum_succ _ _
      by_cases hz : ci (g k) = 0
      · have hzz : (ci (g k) != 0) = false := by rw [bne_eq_false_iff_eq]; exact hz
        have hnx : Hid (rowL D m (cmb (k + 1) g M) = rowL D m (cmb k g M)) := by
          unfold Hid
          rw [hst, ← hgk, hz, eli_zero]
          congr 1
          exact funext fun j => by rw [zero_mul, add_zero]
        rw [← hnx.out] at hrv
        generalize ci (g k) = y at *
        clear hgk hst hz hc hc1 hd
        go_wp2_with (fail)
        go_roundw
        case rel => exact ⟨k + 1, Av, cv, by omega, by go_num, rfl, hrv, hAv, hmc, hcv, hbw⟩
        case measure => simp [intOf]; omega
      · have hzz : (ci (g k) != 0) = true := by rw [bne_iff_ne]; exact hz
        have hA3 := hAT (cmb k g M) (M k) (ci (g k)) Av Ak cv ck w3.drew ((hr.below hB3).more hB3.size).drew hrv.drew ((hrk.below hB3).more hB3.size).drew
        rw [hgk, ← hst] at hA3
        unfold Gives at hA3
        replace hA3 := Lib.hid hA3
        generalize hy : ci (g k) = y at *
        replace hy := Lib.hid hy
        have kk := Lib.hid (show (w3.cell? ⟨w.heap.size, 0, none⟩ = some (.int .i64 D.p) ∧ w3.cell? ⟨w.heap.size, 1, none⟩ = some (.int .i64 D.m) ∧ w3.cell? ⟨w.heap.size, 2, none⟩ = some (.slice A D.mod.length c)) ∧ w3.cell? ⟨b, o + k, none⟩ = some (.slice Ak m ck) ∧ w3.cell? ⟨b1, o1 + k, none⟩ = some (.int .i64 y) from ⟨keep3 hbw hlt0 kY.out, hd, hd1⟩)
        have x1 : w.heap.size < w3.heap.size := Nat.lt_of_lt_of_le hlt0 hbw.size
        have x2 : b < w3.heap.size := Nat.lt_of_lt_of_le hb hB3.size
        have x3 : b1 < w3.heap.size := Nat.lt_of_lt_of_le hb1 hB3.size
        clear hgk hst hz hc hc1
        go_wp2_with (fail)
        clear hd hd1
        refine wp_region_held_drew (S := fun w' => (w'.cell? ⟨w.heap.size, 0, none⟩ = some (.int .i64 D.p) ∧ w'.cell? ⟨w.heap.size, 1, none⟩ = some (.int .i64 D.m) ∧ w'.cell? ⟨w.heap.size, 2, none⟩ = some (.slice A D.mod.length c)) ∧ w'.cell? ⟨b, o + k, none⟩ = some (.slice Ak m ck) ∧ w'.cell? ⟨b1, o1 + k, none⟩ = some (.int .i64 y)) (by kernel_rfl) (by (try dsimp only); exact kk.out) (fun hHeld => ?_)
        refine wpAnyH_take (i := 0) (oi := ⟨_, _, _, _, _, _⟩) (v := ?_) rfl (by kernel_rfl) (by kernel_rfl) (by kernel_rfl) (fun _ _ _ h => h) (Or.inl ⟨by rfl, ?_⟩) (by assumption) ?_
        rotate_left
        · intro w hSw; (try dsimp only at hSw); go_simp; try with_reducible rfl
        try simp only [Act.put, List.setIfInBounds_toArray, List.set_cons_zero, List.set_cons_succ]
        refine wpAnyH_take (i := 1) (oi := ⟨_, _, _, _, _, _⟩) (v := ?_) rfl (by kernel_rfl) (by kernel_rfl) (by kernel_rfl) (fun _ _ _ h => h) (Or.inl ⟨by rfl, ?_⟩) (by assumption) ?_
        rotate_left
        · intro w hSw; (try dsimp only at hSw); go_simp; try with_reducible rfl
        try simp only [Act.put, List.setIfInBounds_toArray, List.set_cons_zero, List.set_cons_succ]
        refine wpAnyH_take (i := 2) (oi := ⟨_, _, _, _, _, _⟩) (v := ?_) rfl (by kernel_rfl) (by kernel_rfl) (by kernel_rfl) (fun _ _ _ h => h) (Or.inl ⟨by rfl, ?_⟩) (by assumption) ?_
        rotate_left
        · intro w hSw; (try dsimp only at hSw); go_simp; try with_reducible rfl
        try simp only [Act.put, List.setIfInBounds_toArray, List.set_cons_zero, List.set_cons_succ]
        refine wpAnyH_take (i := 3) (oi := ⟨_, _, _, _, _, _⟩) (v := ?_) rfl (by kernel_rfl) (by kernel_rfl) (by kernel_rfl) (fun _ _ _ h => h) (Or.inl ⟨by rfl, ?_⟩) (by assumption) ?_
        rotate_left
        · intro w hSw; (try dsimp only at hSw); go_simp; try with_reducible rfl
        try simp only [Act.put, List.setIfInBounds_toArray, List.set_cons_zero, List.set_cons_succ]
        refine wpAnyH_take (i := 4) (oi := ⟨_, _, _, _, _, _⟩) (v := ?_) rfl (by kernel_rfl) (by kernel_rfl) (by kernel_rfl) (fun _ _ _ h => h) (Or.inl ⟨by rfl, ?_⟩) (by assumption) ?_
        rotate_left
        · intro w hSw; (try dsimp only at hSw); go_simp; try with_reducible rfl
        try simp only [Act.put, List.setIfInBounds_toArray, List.set_cons_zero, List.set_cons_succ]
        refine wpAnyH_take (i := 5) (oi := ⟨_, _, _, _, _, _⟩) (v := ?_) rfl (by kernel_rfl) (by kernel_rfl) (by kernel_rfl) (fun _ _ _ h => h) (Or.inl ⟨by rfl, ?_⟩) (by assumption) ?_
        rotate_left
        · intro w hSw; (try dsimp only at hSw); go_simp; try with_reducible rfl
        try simp only [Act.put, List.setIfInBounds_toArray, List.set_cons_zero, List.set_cons_succ]
        refine wpAnyH_take (i := 6) (oi := ⟨_, _, _, _, _, _⟩) (v := ?_) rfl (by kernel_rfl) (by kernel_rfl) (by kernel_rfl) (fun _ _ _ h => h) (Or.inl ⟨by rfl, ?_⟩) (by assumption) ?_
        rotate_left
        · intro w hSw; (try dsimp only at hSw); go_simp; try with_reducible rfl
        try simp only [Act.put, List.setIfInBounds_toArray, List.set_cons_zero, List.set_cons_succ]
        refine wpAnyH_take (i := 7) (oi := ⟨_, _, _, _, _, _⟩) (v := ?_) rfl (by kernel_rfl) (by kernel_rfl) (by kernel_rfl) (fun _ _ _ h => h) (Or.inl ⟨by rfl, ?_⟩) (by assumption) ?_
        rotate_left
        · intro w hSw; (try dsimp only at hSw); go_simp; try with_reducible rfl
        try simp only [Act.put, List.setIfInBounds_toArray, List.set_cons_zero, List.set_cons_succ]
        refine wpAnyH_take (i := 8) (oi := ⟨_, _, _, _, _, _⟩) (v := ?_) rfl (by kernel_rfl) (by kernel_rfl) (by kernel_rfl) (fun _ _ _ h => h) (Or.inl ⟨by rfl, ?_⟩) (by assumption) ?_
        rotate_left
        · intro w hSw; (try dsimp only at hSw); go_simp; try with_reducible rfl
        try simp only [Act.put, List.setIfInBounds_toArray, List.set_cons_zero, List.set_cons_succ]
        refine wpAnyH_take (i := 9) (oi := ⟨_, _, _, _, _, _⟩) (v := ?_) rfl (by kernel_rfl) (by kernel_rfl) (by kernel_rfl) (fun _ _ _ h => h) (Or.inl ⟨by rfl, ?_⟩) (by assumption) ?_
        rotate_left
        · intro w hSw; (try dsimp only at hSw); go_simp; try with_reducible rfl
        try simp only [Act.put, List.setIfInBounds_toArray, List.set_cons_zero, List.set_cons_succ]
        refine wpAnyH_ready (rs := [10]) (by kernel_rfl) (by simp) ?_
        refine AllReadyH.cons (o := ⟨_, _, _, _, _, _⟩) rfl (fun K hK => ?_) AllReadyH.nil
        go_simp
        go_at_call 37
        (with_reducible refine (hA3).out.mono ?_)
        rintro e w4 ⟨g4, rfl, hg4, hib4, hb4⟩
        rw [rowL_length]
        go_wp2_with (fail)
        refine hK.out _ _ (by (try dsimp only); exact ⟨keep3 hb4 x1 kk.out.1, (hb4.cell (p := ⟨b, o + k, none⟩) x2).trans kk.out.2.1, (hb4.cell (p := ⟨b1, o1 + k, none⟩) x3).trans kk.out.2.2⟩) (fun hHeld => ?_)
        clear hK K
        try simp only [Act.put, List.setIfInBounds_toArray, List.set_cons_zero, List.set_cons_succ]
        refine wpAnyH_take (i := 11) (oi := ⟨_, _, _, _, _, _⟩) (v := ?_) rfl (by kernel_rfl) (by kernel_rfl) (by kernel_rfl) (fun _ _ _ h => h) (Or.inl ⟨by rfl, ?_⟩) (by assumption) ?_
        rotate_left
        · intro w hSw; (try dsimp only at hSw); go_simp; try with_reducible rfl
        try simp only [Act.put, List.setIfInBounds_toArray, List.set_cons_zero, List.set_cons_succ]
        refine wpAnyH_done (by kernel_rfl) ?_ _
        go_wp2_with (fail)
        go_roundw
        case rel => exact ⟨k + 1, some ⟨g4, 0, none⟩, m, by omega, by go_num, rfl, hib4.rd, (fun a e => by cases e; exact Nat.le_trans (Nat.le_of_lt x1) hg4), Nat.le_refl _, by unfold maxLen; omega, hbw.drew.trans (hb4.mono hbw.size)⟩
        case measure => simp [intOf]; omega
    · obtain rfl : n = k := by omega
      go_wp2_with (fail)
      go_ret
      exact ⟨Av, cv, rfl, hrv, hAv, hmc, hcv, hB3⟩

/-- The digit of v for the row p of n, in base q: the first row has the highest one. -/
def msgF (q n v p : Nat) : Nat := v / q ^ (n - 1 - p) % q
/-- The message while it is filled from its end. -/
def msgT (q n v t : Nat) : List Int := lst n fun p => if n - t ≤ p then (msgF q n v p : Int) else 0
theorem msgT_set {q n v t : Nat} (ht : t < n) : (msgT q n v t).set (n - 1 - t) ((v / q ^ t % q : Nat) : Int) = msgT q n v (t + 1) := by
  unfold msgT
  rw [lst_set]
  refine lst_congr fun p hp => ?_
  by_cases e : p = n - 1 - t
  · rw [if_pos e, if_pos (by omega), e]
    unfold msgF
    rw [show n - 1 - (n - 1 - t) = t by omega]
  · rw [if_neg e]
    by_cases h : n - t ≤ p
    · rw [if_pos h, if_pos (by omega)]
    · rw [if_neg h, if_neg (by omega)]
theorem msgT_full (D : Desc) (n v : Nat) : msgT D.q n v n = rowL D n (fun p => eli D (msgF D.q n v p : Nat)) := by
  unfold msgT rowL
  refine lst_congr fun p _ => ?_
  rw [if_pos (by omega)]
  have hq := D.q2
  have h : msgF D.q n v p < D.q := Nat.mod_lt _ (by omega)
  rw [ci_eli_in ⟨by omega, by omega⟩]
/-- The word with the index v. -/
def atF {D : Desc} (n : Nat) (M : Nat → Nat → R D) (v : Nat) : Nat → R D := cmb n (fun p => eli D (msgF D.q n v p : Nat)) M
set_option maxRecDepth 100000 in
set_option maxHeartbeats 2000000 in
theorem At12_any (D : Desc) (n m v : Nat) (M : Nat → Nat → R D) (A Ar : Option Addr) (c cr : Nat) (w : World) (hr : Rd w w.heap.size A (modL D)) (hrm : RdM w w.heap.size Ar n (rowsL D m M)) (hn : n ≤ 1000) (hm : m ≤ 70000) (hv : v ≤ 1000000) :
    Calls Try.prog 55 #[.agg #[.int .i64 D.p, .int .i64 D.m, .slice A D.mod.length c, .int .i64 m, .slice Ar n cr], .int .i64 v] w fun e w' => ∃ A2 c2, e = .returned (.slice A2 m c2) ∧ Rd w' w'.heap.size A2 (rowL D m (atF n M v)) ∧ (∀ a, A2 = some a → w.heap.size ≤ a.block) ∧ m ≤ c2 ∧ c2 ≤ maxLen ∧ Below w.heap.size w w' := by
  have hq2 := D.q2; have hq3 := D.q256; have hp1 := D.p256; have hp2 := D.m8
  have hO := fun W => Order_any D.p D.m A D.mod.length c W (by omega) (by omega)
  rw [qOf_D] at hO
  have hCo := fun g A1 c1 W a b d => Combine9_any D n m g M A A1 Ar c c1 cr W a b d hn hm
  have hmk := mk_ints n (by omega)
  obtain ⟨q, hq⟩ : ∃ q, q = D.q := ⟨_, rfl⟩
  rw [← hq] at hO hq2 hq3
  replace hO := fun W => Lib.hid (hO W)
  replace hCo := fun g A1 c1 W a b d => Lib.hid (hCo g A1 c1 W a b d)
  replace hq := Lib.hid hq
  have hqz : ¬ (q : Int) = 0 := by omega
  obtain ⟨Z, hZ⟩ : ∃ Z, Z = w.alloc (.cells #[.int .i64 D.p, .int .i64 D.m, .slice A D.mod.length c, .int .i64 m, .slice Ar n cr] 27) := ⟨_, rfl⟩
  have hB : Below w.heap.size w Z := by rw [hZ]; exact (Below.refl _ _).alloc (Nat.le_refl _) _
  have hZs : w.heap.size < Z.heap.size := by rw [hZ]; simp
  have f5 := Five.new w (.int .i64 D.p) (.int .i64 D.m) (.slice A D.mod.length c) (.int .i64 m) (.slice Ar n cr) 27
  have f5H : Hid (Five Z w.heap.size (.int .i64 D.p) (.int .i64 D.m) (.slice A D.mod.length c) (.int .i64 m) (.slice Ar n cr)) := by rw [hZ]; exact f5
  replace hZ := Lib.hid hZ
  go_enter Try.func55, Try.ntmps55
  obtain ⟨a0, a1, a2, a3, a4, -⟩ := f5
  go_wp2_with (fail)
  rw [← hZ.out]
  (with_reducible refine (hO _).out.mono ?_)
  rintro e w1 ⟨rfl, hb1⟩
  have hB1 := hB.trans (hb1.mono hB.size)
  have hs1 : w.heap.size < w1.heap.size := Nat.lt_of_lt_of_le hZs hb1.size
  have f51 := f5H.out.keep hb1 hZs
  have f51H := Lib.hid f51
  clear a0 a1 a2 a3 a4
  obtain ⟨a0, a1, a2, a3, a4, -⟩ := f51
  obtain ⟨g, hg⟩ : ∃ g, g = w1.heap.size := ⟨_, rfl⟩
  obtain ⟨Y, hY⟩ : ∃ Y, Y = w1.alloc (.cells (Array.replicate n (Value.int .i64 0)) 3) := ⟨_, rfl⟩
  have hbY : Below w1.heap.size w1 Y := by rw [hY]; exact (Below.refl _ _).alloc (Nat.le_refl _) _
  have hib0 : IB Y g (msgT q n v 0) := by
    rw [show msgT q n v 0 = List.replicate n 0 from by unfold msgT; rw [lst_zero]; exact lst_congr fun p hp => if_neg (by omega), hY, hg]; exact IB.newz w1 n
  have hYs : g < Y.heap.size := by rw [hY, hg]; simp
  have hgH := Lib.hid hg
  replace hY := Lib.hid hY
  clear hg
  go_wp2_with (fail)
  rw [← hY.out, ← hgH.out]
  clear a0 a1 a2 a3 a4
  go_loopw [7, 1] (fun iS vS wr => ∃ t z : Nat, t ≤ n ∧ iS = .int .i64 ((n : Int) - 1 - (t : Int)) ∧ vS = .int .i64 z ∧ z ≤ 1000000 ∧ Hid (z = v / q ^ t) ∧ IB wr g (msgT q n v t) ∧ Below w1.heap.size w1 wr ∧ g < wr.heap.size) (fun iS _ _ => (intOf iS + 1).toNat)
  case atStart => exact ⟨0, v, by omega, by go_num, rfl, hv, by unfold Hid; rw [Nat.pow_zero, Nat.div_one], hib0, hbY, hYs⟩
  case round =>
    obtain ⟨t, z, ht, rfl, rfl, hz6, hz, hib, hbw, hgl⟩ := hrel
    obtain ⟨w3, rfl⟩ : ∃ w3 : World, w3 = wr := ⟨_, rfl⟩
    by_cases hlt : t < n
    · obtain ⟨x, hx⟩ : ∃ x : Nat, x = n - 1 - t := ⟨_, rfl⟩
      have hxe : (n : Int) - 1 - (t : Int) = (x : Int) := by omega
      rw [hxe]
      have hset := hib.set_ x ((z % q : Nat) : Int)
      have hzq : z % q = v / q ^ t % q := by rw [hz.out]
      rw [show (msgT q n v t).set x ((z % q : Nat) : Int) = msgT q n v (t + 1) from by rw [hzq, hx]; exact msgT_set hlt] at hset
      have hfz := hib.frozen x
      have hcl := hib.cell (i := x) (by unfold msgT; rw [lst_length]; omega)
      have hzn : Hid (z / q = v / q ^ (t + 1)) := by unfold Hid; rw [hz.out, Nat.div_div_eq_div_mul, Nat.pow_succ]
      have hm1 : ((z : Int) % (q : Int)) = ((z % q : Nat) : Int) := by push_cast; rfl
      have hm2 : ((z : Int) / (q : Int)) = ((z / q : Nat) : Int) := by push_cast; rfl
      have hd6 : z / q ≤ 1000000 := Nat.le_trans (Nat.div_le_self _ _) hz6
      have hx0 : (0 : Int) ≤ (x : Int) := by omega
      have hx1 : (x : Int) < (n : Int) := by omega
      have hsB := Lib.hid (hbw.setCell (p := ⟨g, x, none⟩) (Nat.le_of_eq hgH.out.symm) (.int .i64 ((z % q : Nat) : Int)))
      have hsz : Hid (g < (w3.setCell ⟨g, x, none⟩ (.int .i64 ((z % q : Nat) : Int))).heap.size) := by unfold Hid; simp [World.setCell]; exact hgl
      replace hset := Lib.hid hset
      have hxn : Hid ((x : Int) - 1 = (n : Int) - 1 - ((t + 1 : Nat) : Int)) := by unfold Hid; omega
      have hxt : Hid (x + t + 1 = n) := by unfold Hid; omega
      clear hx hxe hzq
      obtain ⟨r, hr9⟩ : ∃ r, r = z % q := ⟨_, rfl⟩
      obtain ⟨d, hd9⟩ : ∃ d, d = z / q := ⟨_, rfl⟩
      rw [← hr9] at hset hm1 hsB hsz
      rw [← hd9] at hm2 hd6 hzn
      replace hr9 := Lib.hid hr9
      replace hd9 := Lib.hid hd9
      go_wp2_with (fail)
      go_roundw
      case rel => exact ⟨t + 1, d, by omega, by rw [← hxn.out], rfl, hd6, hzn, hset.out, hsB.out, hsz.out⟩
      case measure => simp [intOf]
    · obtain rfl : n = t := by omega
      rw [show (n : Int) - 1 - (n : Int) = -1 by omega]
      have hful := msgT_full D n v
      rw [← hq.out] at hful
      rw [hful] at hib
      have hB3 := hB1.trans (hbw.mono hB1.size)
      obtain ⟨a0, a1, a2, a3, a4, -⟩ := f51H.out.keep hbw hs1
      have hC3 := hCo (fun p => eli D (msgF q n v p : Nat)) (some ⟨g, 0, none⟩) n w3 ((hr.below hB3).more hB3.size) hib.rd ((hrm.below hB3).more hB3.size)
      rw [hq.out] at hC3
      replace hful := Lib.hid hful
      clear hib hCo
      go_wp2_with (fail)
      (with_reducible refine hC3.out.mono ?_)
      rintro e w4 ⟨A2, c2, rfl, hr4, hA2, hmc, hcm, hb4⟩
      go_wp2_with (fail)
      go_ret
      exact ⟨A2, c2, rfl, hr4, fun a e => Nat.le_trans hB3.size (hA2 a e), hmc, hcm, hB3.trans (hb4.mono hB3.size)⟩
end Go.Proofs.Ytghgbjgoedlnjaa
