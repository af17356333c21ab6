/- The reference's polynomials: Canon. -/
import Derived.Test.YteamndefbpdcjaaP1
import Derived.Test.YteamndefbpdcjaaEv5
namespace Go.Proofs.Yteamndefbpdcjaa
open Go.RowKit Cw

/-- The coefficients of a list, as elements and as ints. -/
def cfR (D : Desc) (p : List Int) : Nat → R D := fun i => eli D (p[i]?.getD 0)
def cfI (D : Desc) (p : List Int) : Nat → Int := fun i => ci (cfR D p i)
theorem cfR_out (D : Desc) {p : List Int} {i : Nat} (h : p.length ≤ i) : cfR D p i = 0 := by
  unfold cfR; rw [List.getElem?_eq_none h]; exact eli_zero
theorem cfI_out (D : Desc) {p : List Int} {i : Nat} (h : p.length ≤ i) : cfI D p i = 0 := by
  unfold cfI; rw [cfR_out D h, ci_zero]
theorem cfR_can {D : Desc} (f : Nat → R D) (n : Nat) (h : ∀ i, n ≤ i → f i = 0) : cfR D (canL (fun i => ci (f i)) n) = f := funext fun i => by
  unfold cfR
  by_cases hi : i < n
  · rw [canL_get _ hi, eli_ci]
  · rw [canL_out _ (by omega), h i (by omega)]; exact eli_zero
/-- The canonical form of a list. -/
def canI (D : Desc) (p : List Int) : List Int := canL (cfI D p) p.length
theorem canI_le (D : Desc) (p : List Int) : (canI D p).length ≤ p.length := by unfold canI; rw [canL_length]; exact cdeg_le _ _
theorem cfR_canI (D : Desc) (p : List Int) : cfR D (canI D p) = cfR D p := cfR_can (cfR D p) p.length fun _ h => cfR_out D h
theorem keep4 {B b b1 o1 : Nat} {W w1 : World} {v0 v1 v2 v3 : Value} (hb : Below B W w1) (h2 : b < B) (h3 : b1 < B) (h4 : W.cell? ⟨b, 0, none⟩ = some v0 ∧ W.cell? ⟨b, 1, none⟩ = some v1 ∧ W.cell? ⟨b, 2, none⟩ = some v2 ∧ W.cell? ⟨b1, o1, none⟩ = some v3) :
    w1.cell? ⟨b, 0, none⟩ = some v0 ∧ w1.cell? ⟨b, 1, none⟩ = some v1 ∧ w1.cell? ⟨b, 2, none⟩ = some v2 ∧ w1.cell? ⟨b1, o1, none⟩ = some v3 :=
  have k := keep3 hb h2 ⟨h4.1, h4.2.1, h4.2.2.1⟩
  ⟨k.1, k.2.1, k.2.2, (hb.cell (p := ⟨b1, o1, none⟩) h3).trans h4.2.2.2⟩

set_option maxRecDepth 100000 in
set_option maxHeartbeats 2000000 in
theorem Canon5_any (D : Desc) (p : List Int) (A A1 : Option Addr) (c c1 : Nat) (w : World) (hr1 : Rd w w.heap.size A1 p) (hl : p.length ≤ 70000) :
    Calls Try.prog 92 #[.agg #[.int .i64 D.p, .int .i64 D.m, .slice A D.mod.length c], .slice A1 p.length c1] w (Gives w.heap.size (canI D p) w) := by
  have hI := fun x W => Lib.hid (In_any D x A D.mod.length c W)
  have hbx0 := Bx.new w D A D.mod.length c 24
  have hB0 : Below w.heap.size w (w.alloc (.cells #[.int .i64 D.p, .int .i64 D.m, .slice A D.mod.length c] 24)) := (Below.refl _ _).alloc (Nat.le_refl _) _
  obtain ⟨f, hf⟩ : ∃ f, f = cfI D p := ⟨_, rfl⟩
  have hfk : ∀ k, ci (eli D (p[k]?.getD 0)) = f k := fun k => by rw [hf]; rfl
  unfold canI
  rw [← hf]
  replace hf := Lib.hid hf
  replace hfk := Lib.hid hfk
  go_enter Try.func92, Try.ntmps92
  go_wp2_with (fail)
  go_loopw [6, 5] (fun i n wr => ∃ k : Nat, k ≤ p.length ∧ i = .int .i64 k ∧ n = .int .i64 (cdeg f k) ∧ Bx wr w.heap.size D A D.mod.length c ∧ Below w.heap.size w wr ∧ w.heap.size < wr.heap.size) (fun i _ _ => p.length - (intOf i).toNat)
  case atStart => exact ⟨0, by omega, rfl, rfl, hbx0, hB0, by simp⟩
  case round =>
    clear hbx0 hB0
    obtain ⟨w2, rfl⟩ : ∃ w2 : World, w2 = wr := ⟨_, rfl⟩
    obtain ⟨k, hk, rfl, rfl, hbx, hbw, hsz⟩ := hrel
    by_cases hlt : k < p.length
    · have hk0 : (0 : Int) ≤ (k : Int) := by omega
      have hk1 : (k : Int) < (p.length : Int) := by omega
      obtain ⟨b, o, rfl, hb, hc⟩ := hr1.at_ hlt
      have hd := (hbw.cell (p := ⟨b, o + k, none⟩) hb).trans hc
      have hI2 := fun W => (hI (p[k]?.getD 0) W).out
      rw [hfk.out] at hI2
      replace hI2 := fun W => Lib.hid (hI2 W)
      generalize p[k]?.getD 0 = y at *
      have hcc := Lib.hid (show _ ∧ _ ∧ _ ∧ _ from ⟨hbx.cells.1, hbx.cells.2.1, hbx.cells.2.2, hd⟩)
      have hb' := Nat.lt_of_lt_of_le hb hbw.size
      by_cases hz : f k = 0
      all_goals
       first
       | (have hs := Lib.hid (cdeg_yes hz); have hzb : (f k != 0) = false := by rw [bne_eq_false_iff_eq]; exact hz)
       | (have hs := Lib.hid (cdeg_no hz); have hzb : (f k != 0) = true := by rw [bne_iff_ne]; exact hz)
       clear hc hd hbx hz
       go_wp2_with (fail)
       go_region_held3 (fun w' => w'.cell? ⟨w.heap.size, 0, none⟩ = some (.int .i64 D.p) ∧ w'.cell? ⟨w.heap.size, 1, none⟩ = some (.int .i64 D.m) ∧ w'.cell? ⟨w.heap.size, 2, none⟩ = some (.slice A D.mod.length c) ∧ w'.cell? ⟨b, o + k, none⟩ = some (.int .i64 y)) (first | exact hcc.out | exact hcc1.out)
         (first
           | (go_at_call 26; (with_reducible refine (hI2 _).out.mono ?_); rintro e w3 ⟨rfl, hb3⟩; have hcc1 := Lib.hid (keep4 hb3 hsz hb' hcc.out)))
       go_wp2_with (fail)
       go_roundw
       case rel => exact ⟨k + 1, by omega, by go_num, by first | (rw [hs.out]; done) | (rw [hs.out]; go_num), ⟨hcc1.out.1, hcc1.out.2.1, hcc1.out.2.2.1⟩, hbw.drew.trans (hb3.mono hbw.size), Nat.lt_of_lt_of_le hsz hb3.size⟩
       case measure => simp [intOf]; omega
    · obtain rfl : k = p.length := by omega
      have hdl := cdeg_le f p.length
      obtain ⟨N, hN⟩ : ∃ N, N = cdeg f p.length := ⟨_, rfl⟩
      rw [← hN] at hdl ⊢
      have hmk := mk_ints N (by omega)
      have hI0 := IB.newz w2 N
      obtain ⟨g, hg⟩ : ∃ g, g = w2.heap.size := ⟨_, rfl⟩
      obtain ⟨Y, hY⟩ : ∃ Y, Y = w2.alloc (.cells (Array.replicate N (Value.int .i64 0)) 3) := ⟨_, rfl⟩
      have hib : IB Y g (upd N 0 f) := by rw [upd_zero, hY, hg]; exact hI0
      have hbY : Below w2.heap.size w2 Y := by rw [hY]; exact (Below.refl _ _).alloc (Nat.le_refl _) _
      have hYs : g < Y.heap.size := by rw [hY, hg]; simp
      have hbx1 := hbx.below hbY hsz
      have hBY := hbw.trans (hbY.mono hbw.size)
      have hgw : w.heap.size < g := by omega
      have hgl : w.heap.size ≤ g := Nat.le_of_lt hgw
      replace hN := Lib.hid hN
      replace hY := Lib.hid hY
      replace hg := Lib.hid hg
      clear hI0 hbx hbw hbY
      go_wp2_with (fail)
      rw [← hY.out]
      rw [← hg.out]
      clear hsz hY hg
      go_loopw [8] (fun i wr => ∃ k : Nat, k ≤ N ∧ i = .int .i64 k ∧ IB wr g (upd N k f) ∧ Bx wr w.heap.size D A D.mod.length c ∧ Below w.heap.size w wr) (fun i _ => N - (intOf i).toNat)
      case atStart => exact ⟨0, by omega, rfl, hib, hbx1, hBY⟩
      case round =>
        clear hib hbx1 hBY hYs
        obtain ⟨w3, rfl⟩ : ∃ w3 : World, w3 = wr := ⟨_, rfl⟩
        obtain ⟨k, hk, rfl, hib, hbx, hbw⟩ := hrel
        have hg3 := hib.lt
        by_cases hlt : k < N
        · have hk0 : (0 : Int) ≤ (k : Int) := by omega
          have hk1 : (k : Int) < (p.length : Int) := by omega
          have hk2 : (k : Int) < (N : Int) := by omega
          obtain ⟨b, o, rfl, hb, hc⟩ := hr1.at_ (by omega : k < p.length)
          have hd := (hbw.cell (p := ⟨b, o + k, none⟩) hb).trans hc
          have hI2 := fun W => (hI (p[k]?.getD 0) W).out
          rw [hfk.out] at hI2
          obtain ⟨v, hv⟩ : ∃ v, v = f k := ⟨_, rfl⟩
          rw [← hv] at hI2
          have hI3 := Lib.hid (hI2 w3.drew)
          generalize p[k]?.getD 0 = y at *
          have hsz3 : w.heap.size < w3.heap.size := by omega
          have hcc := Lib.hid (show _ ∧ _ ∧ _ ∧ _ from ⟨hbx.cells.1, hbx.cells.2.1, hbx.cells.2.2, hd⟩)
          have hb' := Nat.lt_of_lt_of_le hb hbw.size
          have hbg : b ≠ g := by omega
          have hkk : Hid (k < (upd N k f).length) := by unfold Hid; rw [upd_length]; exact hlt
          replace hv := Lib.hid hv
          clear hc hd hbx hI2 hI
          go_wp2_with (fail)
          refine wp_region_held_drew (S := fun w' => w'.cell? ⟨w.heap.size, 0, none⟩ = some (.int .i64 D.p) ∧ w'.cell? ⟨w.heap.size, 1, none⟩ = some (.int .i64 D.m) ∧ w'.cell? ⟨w.heap.size, 2, none⟩ = some (.slice A D.mod.length c) ∧ w'.cell? ⟨b, o + k, none⟩ = some (.int .i64 y)) (by kernel_rfl) (by (try dsimp only); exact hcc.out) (fun hHeld => ?_)
          refine wpAnyH_take (i := 0) (oi := ⟨_, _, _, _, _, _⟩) (v := ?_) rfl (by kernel_rfl) (by kernel_rfl) (by kernel_rfl) (fun _ _ _ h => h) (Or.inl ⟨by rfl, ?_⟩) (by assumption) ?_
          rotate_left
          · intro w hSw; (try dsimp only at hSw); go_simp; try with_reducible rfl
          try simp only [Act.put, List.setIfInBounds_toArray, List.set_cons_zero, List.set_cons_succ]
          refine wpAnyH_take (i := 1) (oi := ⟨_, _, _, _, _, _⟩) (v := ?_) rfl (by kernel_rfl) (by kernel_rfl) (by kernel_rfl) (fun _ _ _ h => h) (Or.inl ⟨by rfl, ?_⟩) (by assumption) ?_
          rotate_left
          · intro w hSw; (try dsimp only at hSw); go_simp; try with_reducible rfl
          try simp only [Act.put, List.setIfInBounds_toArray, List.set_cons_zero, List.set_cons_succ]
          refine wpAnyH_take (i := 2) (oi := ⟨_, _, _, _, _, _⟩) (v := ?_) rfl (by kernel_rfl) (by kernel_rfl) (by kernel_rfl) (fun _ _ _ h => h) (Or.inl ⟨by rfl, ?_⟩) (by assumption) ?_
          rotate_left
          · intro w hSw; (try dsimp only at hSw); go_simp; try with_reducible rfl
          try simp only [Act.put, List.setIfInBounds_toArray, List.set_cons_zero, List.set_cons_succ]
          refine wpAnyH_take (i := 3) (oi := ⟨_, _, _, _, _, _⟩) (v := ?_) rfl (by kernel_rfl) (by kernel_rfl) (by kernel_rfl) (fun _ _ _ h => h) (Or.inl ⟨by rfl, ?_⟩) (by assumption) ?_
          rotate_left
          · intro w hSw; (try dsimp only at hSw); go_simp; try with_reducible rfl
          try simp only [Act.put, List.setIfInBounds_toArray, List.set_cons_zero, List.set_cons_succ]
          refine wpAnyH_take (i := 4) (oi := ⟨_, _, _, _, _, _⟩) (v := ?_) rfl (by kernel_rfl) (by kernel_rfl) (by kernel_rfl) (fun _ _ _ h => h) (Or.inl ⟨by rfl, ?_⟩) (by assumption) ?_
          rotate_left
          · intro w hSw; (try dsimp only at hSw); go_simp; try with_reducible rfl
          try simp only [Act.put, List.setIfInBounds_toArray, List.set_cons_zero, List.set_cons_succ]
          refine wpAnyH_take (i := 5) (oi := ⟨_, _, _, _, _, _⟩) (v := ?_) rfl (by kernel_rfl) (by kernel_rfl) (by kernel_rfl) (fun _ _ _ h => h) (Or.inl ⟨by rfl, ?_⟩) (by assumption) ?_
          rotate_left
          · intro w hSw; (try dsimp only at hSw); go_simp; try with_reducible rfl
          try simp only [Act.put, List.setIfInBounds_toArray, List.set_cons_zero, List.set_cons_succ]
          refine wpAnyH_take (i := 6) (oi := ⟨_, _, _, _, _, _⟩) (v := ?_) rfl (by kernel_rfl) (by kernel_rfl) (by kernel_rfl) (fun _ _ _ h => h) (Or.inl ⟨by rfl, ?_⟩) (by assumption) ?_
          rotate_left
          · intro w hSw; (try dsimp only at hSw); go_simp; try with_reducible rfl
          try simp only [Act.put, List.setIfInBounds_toArray, List.set_cons_zero, List.set_cons_succ]
          refine wpAnyH_ready (rs := [7]) (by kernel_rfl) (by simp) ?_
          refine AllReadyH.cons (o := ⟨_, _, _, _, _, _⟩) rfl (fun K hK => ?_) AllReadyH.nil
          go_simp
          go_at_call 26
          (with_reducible refine (hI3).out.mono ?_)
          rintro e w4 ⟨rfl, hb4⟩
          go_wp2_with (fail)
          refine hK.out _ _ (by (try dsimp only); exact keep4 hb4 hsz3 hb' hcc.out) (fun hHeld => ?_)
          clear hK K
          try simp only [Act.put, List.setIfInBounds_toArray, List.set_cons_zero, List.set_cons_succ]
          have hib4 := hib.drew.below hb4 hg3
          have hcW := hib4.cell hkk.out
          have hfW := hib4.frozen k
          refine wpAnyH_take (i := 8) (oi := ⟨_, _, _, _, _, _⟩) (v := ?_) rfl (by kernel_rfl) (by kernel_rfl) (by kernel_rfl) (fun _ _ _ h => h) (Or.inl ⟨by rfl, ?_⟩) (by assumption) ?_
          rotate_left
          · intro w hSw; (try dsimp only at hSw); go_simp; try with_reducible rfl
          try simp only [Act.put, List.setIfInBounds_toArray, List.set_cons_zero, List.set_cons_succ]
          refine wpAnyH_ready (rs := [9]) (by kernel_rfl) (by simp) ?_
          refine AllReadyH.cons (o := ⟨_, _, _, _, _, _⟩) rfl (fun K hK => ?_) AllReadyH.nil
          go_simp
          refine hK.out _ _ (by (try dsimp only); exact keep4 (B := g) ((Below.refl _ _).setCell (p := ⟨g, k, none⟩) (Nat.le_refl _) _) (by omega) (by omega) (keep4 hb4 hsz3 hb' hcc.out)) (fun hHeld => ?_)
          clear hK K
          try simp only [Act.put, List.setIfInBounds_toArray, List.set_cons_zero, List.set_cons_succ]
          refine wpAnyH_done (by kernel_rfl) ?_ _
          have hB4 := hbw.drew.trans (hb4.mono hbw.size)
          have hs4 : w3.heap.size ≤ w4.heap.size := hb4.size
          have hset := hib4.set_ k v
          rw [hv.out, upd_set, ← hv.out] at hset
          have kk4 := keep4 (B := g) ((Below.refl _ _).setCell (p := ⟨g, k, none⟩) (Nat.le_refl _) (.int .i64 v)) (by omega) (by omega) (keep4 hb4 hsz3 hb' hcc.out)
          replace hset := Lib.hid hset
          replace kk4 := Lib.hid kk4
          clear hcW hfW
          go_wp2_with (fail)
          go_roundw
          case rel => exact ⟨k + 1, by omega, by go_num, hset, ⟨kk4.out.1, kk4.out.2.1, kk4.out.2.2.1⟩, hB4.setCell (p := ⟨g, k, none⟩) hgl _⟩
          case measure => simp [intOf]; omega
        · obtain rfl : k = N := by omega
          rw [upd_full] at hib
          go_wp2_with (fail)
          go_ret
          exact ⟨g, by rw [canL_length, ← hN.out]; rfl, hgl, by unfold canL; rw [← hN.out]; exact hib, hbw⟩
end Go.Proofs.Yteamndefbpdcjaa
