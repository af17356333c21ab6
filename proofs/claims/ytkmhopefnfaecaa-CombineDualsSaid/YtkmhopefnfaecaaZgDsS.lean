/- The number of words: ref03.Exp, ref12.Size, Count. The reference's Combine, At, Of, Weight. The reference's Of, Weight, Distance. The reference's Distance. -/
import Derived.IntWalk
import Derived.Test.YtkmhopefnfaecaaZgHasB
import Derived.Test.YtkmhopefnfaecaaZgCodE
namespace Go.Proofs.Ytkmhopefnfaecaa
open Go.RowKit Cw
attribute [local go_sem] Oper.semAt_some

end Go.Proofs.Ytkmhopefnfaecaa

namespace Go.Proofs.Ytkmhopefnfaecaa
open Go.RowKit Cw
attribute [local go_sem] Oper.semAt_some

/-- The combination of n rows with the coefficients g. -/
def cmb {D : Desc} (n : Nat) (g : Nat → R D) (M : Nat → Nat → R D) : Nat → R D := fun j => rsum n fun i => g i * M i j
theorem rowL_zero' (D : Desc) (n : Nat) : List.replicate n (0 : Int) = rowL D n (fun _ => 0) := by
  unfold rowL
  rw [lst_zero]
  exact lst_congr fun j _ => ci_zero.symm
set_option maxHeartbeats 2000000 in
theorem Combine9_any (D : Desc) (n m : Nat) (g : Nat → R D) (M : Nat → Nat → R D) (A A1 Ar : Option Addr) (c c1 cr : Nat) (w : World) (hr : Rd w w.heap.size A (modL D)) (hr1 : Rd w w.heap.size A1 (rowL D n g)) (hrm : RdM w w.heap.size Ar n (rowsL D m M)) (hn : n ≤ 1000) (hm : m ≤ 70000) :
    Calls Try.prog 48 #[.agg #[.int .i64 D.p, .int .i64 D.m, .slice A D.mod.length c], .slice A1 n c1, .slice Ar n cr, .int .i64 m] w fun e w' => ∃ A2 c2, e = .returned (.slice A2 m c2) ∧ Rd w' w'.heap.size A2 (rowL D m (cmb n g M)) ∧ (∀ a, A2 = some a → w.heap.size ≤ a.block) ∧ m ≤ c2 ∧ c2 ≤ maxLen ∧ Below w.heap.size w w' := by
  have hAT := fun f h a A1 A2 c1 c2 W x y z => AddTo9_any D m f h a A A1 A2 c c1 c2 W x y z hm
  have hmk := mk_ints m hm
  obtain ⟨Z, hZ⟩ : ∃ Z, Z = w.alloc (.cells #[.int .i64 D.p, .int .i64 D.m, .slice A D.mod.length c] 24) := ⟨_, rfl⟩
  have hB : Below w.heap.size w Z := by rw [hZ]; exact (Below.refl _ _).alloc (Nat.le_refl _) _
  have k0 := Lib.hid (show Z.cell? ⟨w.heap.size, 0, none⟩ = some (.int .i64 D.p) ∧ Z.cell? ⟨w.heap.size, 1, none⟩ = some (.int .i64 D.m) ∧ Z.cell? ⟨w.heap.size, 2, none⟩ = some (.slice A D.mod.length c) from by rw [hZ]; exact alloc3 w _ _ _ _)
  have hZe : Z.heap.size = w.heap.size + 1 := by rw [hZ]; simp
  obtain ⟨Y, hY⟩ : ∃ Y, Y = Z.alloc (.cells (Array.replicate m (Value.int .i64 0)) 3) := ⟨_, rfl⟩
  have hbY : Below Z.heap.size Z Y := by rw [hY]; exact (Below.refl _ _).alloc (Nat.le_refl _) _
  have hBY := hB.trans (hbY.mono hB.size)
  have hlt0 : w.heap.size < Y.heap.size := by have := hbY.size; omega
  have kY := Lib.hid (keep3 hbY (by omega) k0.out)
  have hr0 : Rd Y Y.heap.size (some ⟨w.heap.size + 1, 0, none⟩) (rowL D m (cmb 0 g M)) := by
    rw [show rowL D m (cmb 0 g M) = List.replicate m 0 from (rowL_zero' D m).symm, hY, ← hZe]; exact (IB.newz Z m).rd
  rw [hZ] at hY
  replace hZ := Lib.hid hZ
  replace hY := Lib.hid hY
  replace hZe := Lib.hid hZe
  go_enter Try.func48, Try.ntmps48
  go_wp2_with (fail)
  rw [← hY.out]
  go_loopw [10, 9] (fun iS v wr => ∃ (k : Nat) (Av : Option Addr) (cv : Nat), k ≤ n ∧ iS = .int .i64 k ∧ v = .slice Av m cv ∧ Rd wr wr.heap.size Av (rowL D m (cmb k g M)) ∧ (∀ a, Av = some a → w.heap.size ≤ a.block) ∧ m ≤ cv ∧ cv ≤ maxLen ∧ Below Y.heap.size Y wr) (fun iS _ _ => n - (intOf iS).toNat)
  case atStart => exact ⟨0, some ⟨w.heap.size + 1, 0, none⟩, m, by omega, rfl, rfl, hr0, (fun a e => by cases e; exact Nat.le_succ _), Nat.le_refl _, by unfold maxLen; omega, Below.refl _ _⟩
  case round =>
    obtain ⟨k, Av, cv, hk, rfl, rfl, hrv, hAv, hmc, hcv, hbw⟩ := hrel
    obtain ⟨w3, rfl⟩ : ∃ w3 : World, w3 = wr := ⟨_, rfl⟩
    have hB3 := hBY.trans (hbw.mono hBY.size)
    by_cases hlt : k < n
    · have hk0 : (0 : Int) ≤ (k : Int) := by omega
      have hk1 : (k : Int) < (n : Int) := by omega
      obtain ⟨b, o, Ak, ck, rfl, hb, hc, hrk, -, -⟩ := hrm.at_ hlt
      obtain ⟨b1, o1, rfl, hb1, hc1⟩ := hr1.at_ (show k < (rowL D n g).length by rw [rowL_length]; exact hlt)
      rw [rowL_get D g hlt] at hc1
      rw [show (rowsL D m M k).length = m from rowL_length _ _ _] at hc
      have hd := (hB3.cell (p := ⟨b, o + k, none⟩) hb).trans hc
      have hd1 := (hB3.cell (p := ⟨b1, o1 + k, none⟩) hb1).trans hc1
      have hgk : eli D (ci (g k)) = g k := eli_ci _
      have hst : cmb (k + 1) g M = fun j => cmb k g M j + g k * M k j := funext fun j => rsum_succ _ _
      by_cases hz : ci (g k) = 0
      · have hzz : (ci (g k) != 0) = false := by rw [bne_eq_false_iff_eq]; exact hz
        have hnx : Hid (rowL D m (cmb (k + 1) g M) = rowL D m (cmb k g M)) := by
          unfold Hid
          rw [hst, ← hgk, hz, eli_zero]
          congr 1
          exact funext fun j => by rw [zero_mul, add_zero]
        rw [← hnx.out] at hrv
        generalize ci (g k) = y at *
        clear hgk hst hz hc hc1 hd
        go_wp2_with (fail)
        go_roundw
        case rel => exact ⟨k + 1, Av, cv, by omega, by go_num, rfl, hrv, hAv, hmc, hcv, hbw⟩
        case measure => simp [intOf]; omega
      · have hzz : (ci (g k) != 0) = true := by rw [bne_iff_ne]; exact hz
        have hA3 := hAT (cmb k g M) (M k) (ci (g k)) Av Ak cv ck w3.drew ((hr.below hB3).more hB3.size).drew hrv.drew ((hrk.below hB3).more hB3.size).drew
        rw [hgk, ← hst] at hA3
        unfold Gives at hA3
        replace hA3 := Lib.hid hA3
        generalize hy : ci (g k) = y at *
        replace hy := Lib.hid hy
        have kk := Lib.hid (show (w3.cell? ⟨w.heap.size, 0, none⟩ = some (.int .i64 D.p) ∧ w3.cell? ⟨w.heap.size, 1, none⟩ = some (.int .i64 D.m) ∧ w3.cell? ⟨w.heap.size, 2, none⟩ = some (.slice A D.mod.length c)) ∧ w3.cell? ⟨b, o + k, none⟩ = some (.slice Ak m ck) ∧ w3.cell? ⟨b1, o1 + k, none⟩ = some (.int .i64 y) from ⟨keep3 hbw hlt0 kY.out, hd, hd1⟩)
        have x1 : w.heap.size < w3.heap.size := Nat.lt_of_lt_of_le hlt0 hbw.size
        have x2 : b < w3.heap.size := Nat.lt_of_lt_of_le hb hB3.size
        have x3 : b1 < w3.heap.size := Nat.lt_of_lt_of_le hb1 hB3.size
        clear hgk hst hz hc hc1
        go_wp2_with (fail)
        clear hd hd1
        refine wp_region_held_drew (S := fun w' => (w'.cell? ⟨w.heap.size, 0, none⟩ = some (.int .i64 D.p) ∧ w'.cell? ⟨w.heap.size, 1, none⟩ = some (.int .i64 D.m) ∧ w'.cell? ⟨w.heap.size, 2, none⟩ = some (.slice A D.mod.length c)) ∧ w'.cell? ⟨b, o + k, none⟩ = some (.slice Ak m ck) ∧ w'.cell? ⟨b1, o1 + k, none⟩ = some (.int .i64 y)) (by kernel_rfl) (by (try dsimp only); exact kk.out) (fun hHeld => ?_)
        refine wpAnyH_take (i := 0) (oi := ⟨_, _, _, _, _, _⟩) (v := ?_) rfl (by kernel_rfl) (by kernel_rfl) (by kernel_rfl) (fun _ _ _ h => h) (Or.inl ⟨by rfl, ?_⟩) (by assumption) ?_
        rotate_left
        · intro w hSw; (try dsimp only at hSw); go_simp; try with_reducible rfl
        try simp only [Act.put, List.setIfInBounds_toArray, List.set_cons_zero, List.set_cons_succ]
        refine wpAnyH_take (i := 1) (oi := ⟨_, _, _, _, _, _⟩) (v := ?_) rfl (by kernel_rfl) (by kernel_rfl) (by kernel_rfl) (fun _ _ _ h => h) (Or.inl ⟨by rfl, ?_⟩) (by assumption) ?_
        rotate_left
        · intro w hSw; (try dsimp only at hSw); go_simp; try with_reducible rfl
        try simp only [Act.put, List.setIfInBounds_toArray, List.set_cons_zero, List.set_cons_succ]
        refine wpAnyH_take (i := 2) (oi := ⟨_, _, _, _, _, _⟩) (v := ?_) rfl (by kernel_rfl) (by kernel_rfl) (by kernel_rfl) (fun _ _ _ h => h) (Or.inl ⟨by rfl, ?_⟩) (by assumption) ?_
        rotate_left
        · intro w hSw; (try dsimp only at hSw); go_simp; try with_reducible rfl
        try simp only [Act.put, List.setIfInBounds_toArray, List.set_cons_zero, List.set_cons_succ]
        refine wpAnyH_take (i := 3) (oi := ⟨_, _, _, _, _, _⟩) (v := ?_) rfl (by kernel_rfl) (by kernel_rfl) (by kernel_rfl) (fun _ _ _ h => h) (Or.inl ⟨by rfl, ?_⟩) (by assumption) ?_
        rotate_left
        · intro w hSw; (try dsimp only at hSw); go_simp; try with_reducible rfl
        try simp only [Act.put, List.setIfInBounds_toArray, List.set_cons_zero, List.set_cons_succ]
        refine wpAnyH_take (i := 4) (oi := ⟨_, _, _, _, _, _⟩) (v := ?_) rfl (by kernel_rfl) (by kernel_rfl) (by kernel_rfl) (fun _ _ _ h => h) (Or.inl ⟨by rfl, ?_⟩) (by assumption) ?_
        rotate_left
        · intro w hSw; (try dsimp only at hSw); go_simp; try with_reducible rfl
        try simp only [Act.put, List.setIfInBounds_toArray, List.set_cons_zero, List.set_cons_succ]
        refine wpAnyH_take (i := 5) (oi := ⟨_, _, _, _, _, _⟩) (v := ?_) rfl (by kernel_rfl) (by kernel_rfl) (by kernel_rfl) (fun _ _ _ h => h) (Or.inl ⟨by rfl, ?_⟩) (by assumption) ?_
        rotate_left
        · intro w hSw; (try dsimp only at hSw); go_simp; try with_reducible rfl
        try simp only [Act.put, List.setIfInBounds_toArray, List.set_cons_zero, List.set_cons_succ]
        refine wpAnyH_take (i := 6) (oi := ⟨_, _, _, _, _, _⟩) (v := ?_) rfl (by kernel_rfl) (by kernel_rfl) (by kernel_rfl) (fun _ _ _ h => h) (Or.inl ⟨by rfl, ?_⟩) (by assumption) ?_
        rotate_left
        · intro w hSw; (try dsimp only at hSw); go_simp; try with_reducible rfl
        try simp only [Act.put, List.setIfInBounds_toArray, List.set_cons_zero, List.set_cons_succ]
        refine wpAnyH_take (i := 7) (oi := ⟨_, _, _, _, _, _⟩) (v := ?_) rfl (by kernel_rfl) (by kernel_rfl) (by kernel_rfl) (fun _ _ _ h => h) (Or.inl ⟨by rfl, ?_⟩) (by assumption) ?_
        rotate_left
        · intro w hSw; (try dsimp only at hSw); go_simp; try with_reducible rfl
        try simp only [Act.put, List.setIfInBounds_toArray, List.set_cons_zero, List.set_cons_succ]
        refine wpAnyH_take (i := 8) (oi := ⟨_, _, _, _, _, _⟩) (v := ?_) rfl (by kernel_rfl) (by kernel_rfl) (by kernel_rfl) (fun _ _ _ h => h) (Or.inl ⟨by rfl, ?_⟩) (by assumption) ?_
        rotate_left
        · intro w hSw; (try dsimp only at hSw); go_simp; try with_reducible rfl
        try simp only [Act.put, List.setIfInBounds_toArray, List.set_cons_zero, List.set_cons_succ]
        refine wpAnyH_take (i := 9) (oi := ⟨_, _, _, _, _, _⟩) (v := ?_) rfl (by kernel_rfl) (by kernel_rfl) (by kernel_rfl) (fun _ _ _ h => h) (Or.inl ⟨by rfl, ?_⟩) (by assumption) ?_
        rotate_left
        · intro w hSw; (try dsimp only at hSw); go_simp; try with_reducible rfl
        try simp only [Act.put, List.setIfInBounds_toArray, List.set_cons_zero, List.set_cons_succ]
        refine wpAnyH_ready (rs := [10]) (by kernel_rfl) (by simp) ?_
        refine AllReadyH.cons (o := ⟨_, _, _, _, _, _⟩) rfl (fun K hK => ?_) AllReadyH.nil
        go_simp
        go_at_call 18
        (with_reducible refine (hA3).out.mono ?_)
        rintro e w4 ⟨g4, rfl, hg4, hib4, hb4⟩
        rw [rowL_length]
        go_wp2_with (fail)
        refine hK.out _ _ (by (try dsimp only); exact ⟨keep3 hb4 x1 kk.out.1, (hb4.cell (p := ⟨b, o + k, none⟩) x2).trans kk.out.2.1, (hb4.cell (p := ⟨b1, o1 + k, none⟩) x3).trans kk.out.2.2⟩) (fun hHeld => ?_)
        clear hK K
        try simp only [Act.put, List.setIfInBounds_toArray, List.set_cons_zero, List.set_cons_succ]
        refine wpAnyH_take (i := 11) (oi := ⟨_, _, _, _, _, _⟩) (v := ?_) rfl (by kernel_rfl) (by kernel_rfl) (by kernel_rfl) (fun _ _ _ h => h) (Or.inl ⟨by rfl, ?_⟩) (by assumption) ?_
        rotate_left
        · intro w hSw; (try dsimp only at hSw); go_simp; try with_reducible rfl
        try simp only [Act.put, List.setIfInBounds_toArray, List.set_cons_zero, List.set_cons_succ]
        refine wpAnyH_done (by kernel_rfl) ?_ _
        go_wp2_with (fail)
        go_roundw
        case rel => exact ⟨k + 1, some ⟨g4, 0, none⟩, m, by omega, by go_num, rfl, hib4.rd, (fun a e => by cases e; exact Nat.le_trans (Nat.le_of_lt x1) hg4), Nat.le_refl _, by unfold maxLen; omega, hbw.drew.trans (hb4.mono hbw.size)⟩
        case measure => simp [intOf]; omega
    · obtain rfl : n = k := by omega
      go_wp2_with (fail)
      go_ret
      exact ⟨Av, cv, rfl, hrv, hAv, hmc, hcv, hB3⟩

end Go.Proofs.Ytkmhopefnfaecaa

namespace Go.Proofs.Ytkmhopefnfaecaa
open Go.RowKit Cw
attribute [local go_sem] Oper.semAt_some

/-- The word whose message begins with the entries of msg. -/
def ofF {D : Desc} (n : Nat) (M : Nat → Nat → R D) (msg : List Int) : Nat → R D := cmb n (fun i => eli D (msg[i]?.getD 0)) M
def ofT (D : Desc) (n : Nat) (msg : List Int) (t : Nat) : List Int := lst n fun p => if p < t then ci (eli D (msg[p]?.getD 0)) else 0
theorem ofT_set {D : Desc} {n t : Nat} (msg : List Int) : (ofT D n msg t).set t (ci (eli D (msg[t]?.getD 0))) = ofT D n msg (t + 1) := by
  unfold ofT
  rw [lst_set]
  refine lst_congr fun p _ => ?_
  by_cases e : p = t
  · rw [if_pos e, if_pos (by omega), e]
  · rw [if_neg e]
    by_cases h : p < t
    · rw [if_pos h, if_pos (by omega)]
    · rw [if_neg h, if_neg (by omega)]
theorem ofT_full {D : Desc} {n t : Nat} {msg : List Int} (ht : n ≤ t ∨ msg.length ≤ t) : ofT D n msg t = rowL D n (fun i => eli D (msg[i]?.getD 0)) := by
  unfold ofT rowL
  refine lst_congr fun p hp => ?_
  by_cases h : p < t
  · rw [if_pos h]
  · rw [if_neg h]
    show 0 = ci (eli D (msg[p]?.getD 0))
    rw [List.getElem?_eq_none (by omega), Option.getD_none, eli_zero, ci_zero]
set_option maxRecDepth 100000 in
set_option maxHeartbeats 2000000 in
theorem Of14_any (D : Desc) (n m : Nat) (M : Nat → Nat → R D) (msg : List Int) (A Ar A1 : Option Addr) (c cr c1 : Nat) (w : World) (hr : Rd w w.heap.size A (modL D)) (hrm : RdM w w.heap.size Ar n (rowsL D m M)) (hr1 : Rd w w.heap.size A1 msg) (hl1 : msg.length ≤ maxLen) (hn : n ≤ 1000) (hm : m ≤ 70000) :
    Calls Try.prog 15 #[.agg #[.int .i64 D.p, .int .i64 D.m, .slice A D.mod.length c, .int .i64 m, .slice Ar n cr], .slice A1 msg.length c1] w fun e w' => ∃ A2 c2, e = .returned (.slice A2 m c2) ∧ Rd w' w'.heap.size A2 (rowL D m (ofF n M msg)) ∧ (∀ a, A2 = some a → w.heap.size ≤ a.block) ∧ m ≤ c2 ∧ c2 ≤ maxLen ∧ Below w.heap.size w w' := by
  unfold maxLen at hl1
  have hI := fun x W => In_any D x A D.mod.length c W
  have hCo := fun g A1 c1 W a b d => Combine9_any D n m g M A A1 Ar c c1 cr W a b d hn hm
  have hmk := mk_ints n (by omega)
  replace hCo := fun g A1 c1 W a b d => Lib.hid (hCo g A1 c1 W a b d)
  obtain ⟨Z, hZ⟩ : ∃ Z, Z = w.alloc (.cells #[.int .i64 D.p, .int .i64 D.m, .slice A D.mod.length c, .int .i64 m, .slice Ar n cr] 27) := ⟨_, rfl⟩
  have hB : Below w.heap.size w Z := by rw [hZ]; exact (Below.refl _ _).alloc (Nat.le_refl _) _
  have f5 : Five Z w.heap.size (.int .i64 D.p) (.int .i64 D.m) (.slice A D.mod.length c) (.int .i64 m) (.slice Ar n cr) := by rw [hZ]; exact Five.new w (.int .i64 D.p) (.int .i64 D.m) (.slice A D.mod.length c) (.int .i64 m) (.slice Ar n cr) 27
  have hZe : Z.heap.size = w.heap.size + 1 := by rw [hZ]; simp
  obtain ⟨g, hg⟩ : ∃ g, g = w.heap.size + 1 := ⟨_, rfl⟩
  obtain ⟨Y, hY⟩ : ∃ Y, Y = Z.alloc (.cells (Array.replicate n (Value.int .i64 0)) 3) := ⟨_, rfl⟩
  have hbY : Below Z.heap.size Z Y := by rw [hY]; exact (Below.refl _ _).alloc (Nat.le_refl _) _
  have hBY := hB.trans (hbY.mono hB.size)
  have hib0 : IB Y g (ofT D n msg 0) := by
    rw [show ofT D n msg 0 = List.replicate n 0 from by unfold ofT; rw [lst_zero]; exact lst_congr fun p hp => if_neg (by omega), hY, hg, ← hZe]; exact IB.newz Z n
  have hYs : g < Y.heap.size := by rw [hY, hg, World.size_alloc, hZe]; omega
  have hlt0 : w.heap.size < Y.heap.size := by omega
  have f5Y := Lib.hid (f5.keep hbY (by omega))
  have hgH := Lib.hid hg
  rw [hZ] at hY
  replace hZ := Lib.hid hZ
  replace hY := Lib.hid hY
  replace hZe := Lib.hid hZe
  clear hg
  go_enter Try.func15, Try.ntmps15
  go_wp2_with (fail)
  rw [← hY.out, ← hgH.out]
  go_loopw [6] (fun iS wr => ∃ t : Nat, t ≤ n ∧ t ≤ msg.length ∧ iS = .int .i64 t ∧ IB wr g (ofT D n msg t) ∧ Below w.heap.size w wr ∧ Hid (Five wr w.heap.size (.int .i64 D.p) (.int .i64 D.m) (.slice A D.mod.length c) (.int .i64 m) (.slice Ar n cr)) ∧ g < wr.heap.size) (fun iS _ => n - (intOf iS).toNat)
  case atStart => exact ⟨0, by omega, by omega, rfl, hib0, hBY, f5Y, hYs⟩
  case round =>
    obtain ⟨t, ht, htm, rfl, hib, hB3, f53, hgl⟩ := hrel
    obtain ⟨w3, rfl⟩ : ∃ w3 : World, w3 = wr := ⟨_, rfl⟩
    have hlt3 : w.heap.size < w3.heap.size := by have := hgH.out; omega
    by_cases hlt : t < n ∧ t < msg.length
    · obtain ⟨hlt1, hlt2⟩ := hlt
      have hk0 : (0 : Int) ≤ (t : Int) := by omega
      have hk1 : (t : Int) < (n : Int) := by omega
      have hk2 : (t : Int) < (msg.length : Int) := by omega
      obtain ⟨b1, o1, rfl, hb1, hc1⟩ := hr1.at_ hlt2
      have hd1 := (hB3.cell (p := ⟨b1, o1 + t, none⟩) hb1).trans hc1
      have hset := hib.set_ t (ci (eli D (msg[t]?.getD 0)))
      rw [ofT_set] at hset
      have hfz := hib.frozen t
      have hcl := hib.cell (i := t) (by unfold ofT; rw [lst_length]; omega)
      have hI3 := hI (msg[t]?.getD 0) w3.drew
      generalize hv9 : ci (eli D (msg[t]?.getD 0)) = v9 at *
      generalize hy9 : msg[t]?.getD 0 = y at *
      replace hI3 := Lib.hid hI3
      replace hv9 := Lib.hid hv9
      replace hy9 := Lib.hid hy9
      have kk := Lib.hid (show (w3.cell? ⟨w.heap.size, 0, none⟩ = some (.int .i64 D.p) ∧ w3.cell? ⟨w.heap.size, 1, none⟩ = some (.int .i64 D.m) ∧ w3.cell? ⟨w.heap.size, 2, none⟩ = some (.slice A D.mod.length c)) ∧ w3.cell? ⟨b1, o1 + t, none⟩ = some (.int .i64 y) from ⟨⟨f53.out.1, f53.out.2.1, f53.out.2.2.1⟩, hd1⟩)
      have x3 : b1 < w3.heap.size := Nat.lt_of_lt_of_le hb1 hB3.size
      have hgw : w.heap.size < g := by have := hgH.out; omega
      have hbg : b1 ≠ g := by omega
      have hwg : w.heap.size ≠ g := by omega
      clear hc1 hset
      go_wp2_with (fail)
      clear hd1 hfz hcl
      refine wp_region_held_drew (S := fun w' => (w'.cell? ⟨w.heap.size, 0, none⟩ = some (.int .i64 D.p) ∧ w'.cell? ⟨w.heap.size, 1, none⟩ = some (.int .i64 D.m) ∧ w'.cell? ⟨w.heap.size, 2, none⟩ = some (.slice A D.mod.length c)) ∧ w'.cell? ⟨b1, o1 + t, none⟩ = some (.int .i64 y)) (by kernel_rfl) (by (try dsimp only); exact kk.out) (fun hHeld => ?_)
      refine wpAnyH_take (i := 0) (oi := ⟨_, _, _, _, _, _⟩) (v := ?_) rfl (by kernel_rfl) (by kernel_rfl) (by kernel_rfl) (fun _ _ _ h => h) (Or.inl ⟨by rfl, ?_⟩) (by assumption) ?_
      rotate_left
      · intro w hSw; (try dsimp only at hSw); go_simp; try with_reducible rfl
      try simp only [Act.put, List.setIfInBounds_toArray, List.set_cons_zero, List.set_cons_succ]
      refine wpAnyH_take (i := 1) (oi := ⟨_, _, _, _, _, _⟩) (v := ?_) rfl (by kernel_rfl) (by kernel_rfl) (by kernel_rfl) (fun _ _ _ h => h) (Or.inl ⟨by rfl, ?_⟩) (by assumption) ?_
      rotate_left
      · intro w hSw; (try dsimp only at hSw); go_simp; try with_reducible rfl
      try simp only [Act.put, List.setIfInBounds_toArray, List.set_cons_zero, List.set_cons_succ]
      refine wpAnyH_take (i := 2) (oi := ⟨_, _, _, _, _, _⟩) (v := ?_) rfl (by kernel_rfl) (by kernel_rfl) (by kernel_rfl) (fun _ _ _ h => h) (Or.inl ⟨by rfl, ?_⟩) (by assumption) ?_
      rotate_left
      · intro w hSw; (try dsimp only at hSw); go_simp; try with_reducible rfl
      try simp only [Act.put, List.setIfInBounds_toArray, List.set_cons_zero, List.set_cons_succ]
      refine wpAnyH_take (i := 3) (oi := ⟨_, _, _, _, _, _⟩) (v := ?_) rfl (by kernel_rfl) (by kernel_rfl) (by kernel_rfl) (fun _ _ _ h => h) (Or.inl ⟨by rfl, ?_⟩) (by assumption) ?_
      rotate_left
      · intro w hSw; (try dsimp only at hSw); go_simp; try with_reducible rfl
      try simp only [Act.put, List.setIfInBounds_toArray, List.set_cons_zero, List.set_cons_succ]
      refine wpAnyH_take (i := 4) (oi := ⟨_, _, _, _, _, _⟩) (v := ?_) rfl (by kernel_rfl) (by kernel_rfl) (by kernel_rfl) (fun _ _ _ h => h) (Or.inl ⟨by rfl, ?_⟩) (by assumption) ?_
      rotate_left
      · intro w hSw; (try dsimp only at hSw); go_simp; try with_reducible rfl
      try simp only [Act.put, List.setIfInBounds_toArray, List.set_cons_zero, List.set_cons_succ]
      refine wpAnyH_take (i := 5) (oi := ⟨_, _, _, _, _, _⟩) (v := ?_) rfl (by kernel_rfl) (by kernel_rfl) (by kernel_rfl) (fun _ _ _ h => h) (Or.inl ⟨by rfl, ?_⟩) (by assumption) ?_
      rotate_left
      · intro w hSw; (try dsimp only at hSw); go_simp; try with_reducible rfl
      try simp only [Act.put, List.setIfInBounds_toArray, List.set_cons_zero, List.set_cons_succ]
      refine wpAnyH_take (i := 6) (oi := ⟨_, _, _, _, _, _⟩) (v := ?_) rfl (by kernel_rfl) (by kernel_rfl) (by kernel_rfl) (fun _ _ _ h => h) (Or.inl ⟨by rfl, ?_⟩) (by assumption) ?_
      rotate_left
      · intro w hSw; (try dsimp only at hSw); go_simp; try with_reducible rfl
      try simp only [Act.put, List.setIfInBounds_toArray, List.set_cons_zero, List.set_cons_succ]
      refine wpAnyH_take (i := 7) (oi := ⟨_, _, _, _, _, _⟩) (v := ?_) rfl (by kernel_rfl) (by kernel_rfl) (by kernel_rfl) (fun _ _ _ h => h) (Or.inl ⟨by rfl, ?_⟩) (by assumption) ?_
      rotate_left
      · intro w hSw; (try dsimp only at hSw); go_simp; try with_reducible rfl
      try simp only [Act.put, List.setIfInBounds_toArray, List.set_cons_zero, List.set_cons_succ]
      refine wpAnyH_ready (rs := [8]) (by kernel_rfl) (by simp) ?_
      refine AllReadyH.cons (o := ⟨_, _, _, _, _, _⟩) rfl (fun K hK => ?_) AllReadyH.nil
      go_simp
      go_at_call 47
      (with_reducible refine (hI3).out.mono ?_)
      rintro e w4 ⟨rfl, hb4⟩
      have hib4 := (show IB w3.drew g _ from hib).below hb4 hgl
      have kk4 := Lib.hid (show (w4.cell? ⟨w.heap.size, 0, none⟩ = some (.int .i64 D.p) ∧ w4.cell? ⟨w.heap.size, 1, none⟩ = some (.int .i64 D.m) ∧ w4.cell? ⟨w.heap.size, 2, none⟩ = some (.slice A D.mod.length c)) ∧ w4.cell? ⟨b1, o1 + t, none⟩ = some (.int .i64 y) from ⟨keep3 hb4 hlt3 kk.out.1, (hb4.cell (p := ⟨b1, o1 + t, none⟩) x3).trans kk.out.2⟩)
      have hfz := hib4.frozen t
      have hcl := hib4.cell (i := t) (by unfold ofT; rw [lst_length]; omega)
      have f54 := Lib.hid ((show Five w3.drew w.heap.size _ _ _ _ _ from f53.out).keep hb4 hlt3)
      have hs4 : w3.heap.size ≤ w4.heap.size := hb4.size
      go_wp2_with (fail)
      refine hK.out _ _ (by (try dsimp only); exact kk4.out) (fun hHeld => ?_)
      clear hK K
      try simp only [Act.put, List.setIfInBounds_toArray, List.set_cons_zero, List.set_cons_succ]
      refine wpAnyH_take (i := 9) (oi := ⟨_, _, _, _, _, _⟩) (v := ?_) rfl (by kernel_rfl) (by kernel_rfl) (by kernel_rfl) (fun _ _ _ h => h) (Or.inl ⟨by rfl, ?_⟩) (by assumption) ?_
      rotate_left
      · intro w hSw; (try dsimp only at hSw); go_simp; try with_reducible rfl
      try simp only [Act.put, List.setIfInBounds_toArray, List.set_cons_zero, List.set_cons_succ]
      refine wpAnyH_ready (rs := [10]) (by kernel_rfl) (by simp) ?_
      refine AllReadyH.cons (o := ⟨_, _, _, _, _, _⟩) rfl (fun K hK => ?_) AllReadyH.nil
      go_simp
      have kk5 := Lib.hid (show ((w4.setCell ⟨g, t, none⟩ (.int .i64 v9)).cell? ⟨w.heap.size, 0, none⟩ = some (.int .i64 D.p) ∧ (w4.setCell ⟨g, t, none⟩ (.int .i64 v9)).cell? ⟨w.heap.size, 1, none⟩ = some (.int .i64 D.m) ∧ (w4.setCell ⟨g, t, none⟩ (.int .i64 v9)).cell? ⟨w.heap.size, 2, none⟩ = some (.slice A D.mod.length c)) ∧ (w4.setCell ⟨g, t, none⟩ (.int .i64 v9)).cell? ⟨b1, o1 + t, none⟩ = some (.int .i64 y) from ⟨⟨(World.cell?_setCell_far _ _ _ _ (Ne.symm hwg)).trans kk4.out.1.1, (World.cell?_setCell_far _ _ _ _ (Ne.symm hwg)).trans kk4.out.1.2.1, (World.cell?_setCell_far _ _ _ _ (Ne.symm hwg)).trans kk4.out.1.2.2⟩, (World.cell?_setCell_far _ _ _ _ (Ne.symm hbg)).trans kk4.out.2⟩)
      refine hK.out _ _ (by (try dsimp only); exact kk5.out) (fun hHeld => ?_)
      clear hK K
      try simp only [Act.put, List.setIfInBounds_toArray, List.set_cons_zero, List.set_cons_succ]
      refine wpAnyH_done (by kernel_rfl) ?_ _
      have hset := hib4.set_ t v9
      rw [← hv9.out, ← hy9.out, ofT_set, hy9.out, hv9.out] at hset
      have hBf := Lib.hid ((hB3.drew.trans (hb4.mono hB3.size)).setCell (p := ⟨g, t, none⟩) (Nat.le_of_lt hgw) (.int .i64 v9))
      have f55 := Lib.hid (f54.out.keep ((Below.refl g w4).setCell (p := ⟨g, t, none⟩) (Nat.le_refl _) (.int .i64 v9)) hgw)
      have hsz : Hid (g < (w4.setCell ⟨g, t, none⟩ (.int .i64 v9)).heap.size) := by unfold Hid; simp [World.setCell]; omega
      replace hset := Lib.hid hset
      clear hfz hcl
      go_wp2_with (fail)
      go_roundw
      case rel => exact ⟨t + 1, by omega, by omega, by go_num, hset.out, hBf.out, f55, hsz.out⟩
      case measure => simp [intOf]; omega
    · have hful := ofT_full (D := D) (n := n) (t := t) (msg := msg) (by omega)
      rw [hful] at hib
      obtain ⟨a0, a1, a2, a3, a4, -⟩ := f53.out
      have hC3 := hCo (fun i => eli D (msg[i]?.getD 0)) (some ⟨g, 0, none⟩) n w3 ((hr.below hB3).more hB3.size) hib.rd ((hrm.below hB3).more hB3.size)
      replace hful := Lib.hid hful
      clear hib hCo
      by_cases h1 : t < n
      · have h2 : ¬ t < msg.length := fun h => hlt ⟨h1, h⟩
        have h1' : (t : Int) < (n : Int) := by omega
        have h2' : ¬ (t : Int) < (msg.length : Int) := by omega
        clear hlt
        go_wp2_with (fail)
        (with_reducible refine hC3.out.mono ?_)
        rintro e w4 ⟨A2, c2, rfl, hr4, hA2, hmc, hcm, hb4⟩
        go_wp2_with (fail)
        go_ret
        exact ⟨A2, c2, rfl, hr4, fun a e => Nat.le_trans hB3.size (hA2 a e), hmc, hcm, hB3.trans (hb4.mono hB3.size)⟩
      · have h1' : ¬ (t : Int) < (n : Int) := by omega
        have hd : decide ((t : Int) < (n : Int)) = false := decide_eq_false h1'
        have hd2 : decide (t < n) = false := decide_eq_false h1
        clear hlt
        go_wp2_with (fail)
        (with_reducible refine hC3.out.mono ?_)
        rintro e w4 ⟨A2, c2, rfl, hr4, hA2, hmc, hcm, hb4⟩
        go_wp2_with (fail)
        go_ret
        exact ⟨A2, c2, rfl, hr4, fun a e => Nat.le_trans hB3.size (hA2 a e), hmc, hcm, hB3.trans (hb4.mono hB3.size)⟩

end Go.Proofs.Ytkmhopefnfaecaa

namespace Go.Proofs.Ytkmhopefnfaecaa
open Go.RowKit Cw
attribute [local go_sem] Oper.semAt_some

theorem of_vc {P M N : Int} {ml : List Int} {n : Nat} {rows : Nat → List Int} {F : FD} {m : Nat} {B : Nat → Nat → R F.toDesc} (hv : VC P M N ml n rows F m B) (msg : List Int) (A Ar A1 : Option Addr) (c cr c1 : Nat) (w : World) (hr : Rd w w.heap.size A ml) (hrm : RdM w w.heap.size Ar n rows) (hr1 : Rd w w.heap.size A1 msg) (hl1 : msg.length ≤ maxLen) :
    Calls Try.prog 15 #[.agg #[.int .i64 P, .int .i64 M, .slice A ml.length c, .int .i64 N, .slice Ar n cr], .slice A1 msg.length c1] w fun e w' => ∃ A2 c2, e = .returned (.slice A2 m c2) ∧ Rd w' w'.heap.size A2 (rowL F.toDesc m (ofF n B msg)) ∧ (∀ a, A2 = some a → w.heap.size ≤ a.block) ∧ m ≤ c2 ∧ c2 ≤ maxLen ∧ Below w.heap.size w w' := by
  have eP := hv.hP; have eM := hv.hM; have eL := hv.hl; have eN := hv.hN
  have h1 := hv.le; have h2 := hv.m64
  have hrm2 := hrm.congr hv.hr
  clear hv hrm
  subst eP eM eL eN
  rw [modL_length]
  exact Of14_any F.toDesc n m B msg A Ar A1 c cr c1 w hr hrm2 hr1 hl1 (by omega) (by omega)

end Go.Proofs.Ytkmhopefnfaecaa
