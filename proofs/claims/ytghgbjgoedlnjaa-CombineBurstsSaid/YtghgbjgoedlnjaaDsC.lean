/- The reference's Of, Weight, Distance. -/
import Derived.Test.YtghgbjgoedlnjaaDsB
namespace Go.Proofs.Ytghgbjgoedlnjaa
open Go.RowKit Cw
attribute [local go_sem] Oper.semAt_some

/-- The word whose message begins with the entries of msg. -/
def ofF {D : Desc} (n : Nat) (M : Nat → Nat → R D) (msg : List Int) : Nat → R D := cmb n (fun i => eli D (msg[i]?.getD 0)) M
def ofT (D : Desc) (n : Nat) (msg : List Int) (t : Nat) : List Int := lst n fun p => if p < t then ci (eli D (msg[p]?.getD 0)) else 0
theorem ofT_set {D : Desc} {n t : Nat} (msg : List Int) : (ofT D n msg t).set t (ci (eli D (msg[t]?.getD 0))) = ofT D n msg (t + 1) := by
  unfold ofT
  rw [lst_set]
  refine lst_congr fun p _ => ?_
  by_cases e : p = t
  · rw [if_pos e, if_pos (by omega), e]
  · rw [if_neg e]
    by_cases h : p < t
    · rw [if_pos h, if_pos (by omega)]
    · rw [if_neg h, if_neg (by omega)]
theorem ofT_full {D : Desc} {n t : Nat} {msg : List Int} (ht : n ≤ t ∨ msg.length ≤ t) : ofT D n msg t = rowL D n (fun i => eli D (msg[i]?.getD 0)) := by
  unfold ofT rowL
  refine lst_congr fun p hp => ?_
  by_cases h : p < t
  · rw [if_pos h]
  · rw [if_neg h]
    show 0 = ci (eli D (msg[p]?.getD 0))
    rw [List.getElem?_eq_none (by omega), Option.getD_none, eli_zero, ci_zero]
set_option maxRecDepth 100000 in
set_option maxHeartbeats 2000000 in
theorem Of14_any (D : Desc) (n m : Nat) (M : Nat → Nat → R D) (msg : List Int) (A Ar A1 : Option Addr) (c cr c1 : Nat) (w : World) (hr : Rd w w.heap.size A (modL D)) (hrm : RdM w w.heap.size Ar n (rowsL D m M)) (hr1 : Rd w w.heap.size A1 msg) (hl1 : msg.length ≤ maxLen) (hn : n ≤ 1000) (hm : m ≤ 70000) :
    Calls Try.prog 19 #[.agg #[.int .i64 D.p, .int .i64 D.m, .slice A D.mod.length c, .int .i64 m, .slice Ar n cr], .slice A1 msg.length c1] w fun e w' => ∃ A2 c2, e = .returned (.slice A2 m c2) ∧ Rd w' w'.heap.size A2 (rowL D m (ofF n M msg)) ∧ (∀ a, A2 = some a → w.heap.size ≤ a.block) ∧ m ≤ c2 ∧ c2 ≤ maxLen ∧ Below w.heap.size w w' := by
  unfold maxLen at hl1
  have hI := fun x W => In_any D x A D.mod.length c W
  have hCo := fun g A1 c1 W a b d => Combine9_any D n m g M A A1 Ar c c1 cr W a b d hn hm
  have hmk := mk_ints n (by omega)
  replace hCo := fun g A1 c1 W a b d => Lib.hid (hCo g A1 c1 W a b d)
  obtain ⟨Z, hZ⟩ : ∃ Z, Z = w.alloc (.cells #[.int .i64 D.p, .int .i64 D.m, .slice A D.mod.length c, .int .i64 m, .slice Ar n cr] 27) := ⟨_, rfl⟩
  have hB : Below w.heap.size w Z := by rw [hZ]; exact (Below.refl _ _).alloc (Nat.le_refl _) _
  have f5 : Five Z w.heap.size (.int .i64 D.p) (.int .i64 D.m) (.slice A D.mod.length c) (.int .i64 m) (.slice Ar n cr) := by rw [hZ]; exact Five.new w (.int .i64 D.p) (.int .i64 D.m) (.slice A D.mod.length c) (.int .i64 m) (.slice Ar n cr) 27
  have hZe : Z.heap.size = w.heap.size + 1 := by rw [hZ]; simp
  obtain ⟨g, hg⟩ : ∃ g, g = w.heap.size + 1 := ⟨_, rfl⟩
  obtain ⟨Y, hY⟩ : ∃ Y, Y = Z.alloc (.cells (Array.replicate n (Value.int .i64 0)) 3) := ⟨_, rfl⟩
  have hbY : Below Z.heap.size Z Y := by rw [hY]; exact (Below.refl _ _).alloc (Nat.le_refl _) _
  have hBY := hB.trans (hbY.mono hB.size)
  have hib0 : IB Y g (ofT D n msg 0) := by
    rw [show ofT D n msg 0 = List.replicate n 0 from by unfold ofT; rw [lst_zero]; exact lst_congr fun p hp => if_neg (by omega), hY, hg, ← hZe]; exact IB.newz Z n
  have hYs : g < Y.heap.size := by rw [hY, hg, World.size_alloc, hZe]; omega
  have hlt0 : w.heap.size < Y.heap.size := by omega
  have f5Y := Lib.hid (f5.keep hbY (by omega))
  have hgH := Lib.hid hg
  rw [hZ] at hY
  replace hZ := Lib.hid hZ
  replace hY := Lib.hid hY
  replace hZe := Lib.hid hZe
  clear hg
  go_enter Try.func19, Try.ntmps19
  go_wp2_with (fail)
  rw [← hY.out, ← hgH.out]
  go_loopw [6] (fun iS wr => ∃ t : Nat, t ≤ n ∧ t ≤ msg.length ∧ iS = .int .i64 t ∧ IB wr g (ofT D n msg t) ∧ Below w.heap.size w wr ∧ Hid (Five wr w.heap.size (.int .i64 D.p) (.int .i64 D.m) (.slice A D.mod.length c) (.int .i64 m) (.slice Ar n cr)) ∧ g < wr.heap.size) (fun iS _ => n - (intOf iS).toNat)
  case atStart => exact ⟨0, by omega, by omega, rfl, hib0, hBY, f5Y, hYs⟩
  case round =>
    obtain ⟨t, ht, htm, rfl, hib, hB3, f53, hgl⟩ := hrel
    obtain ⟨w3, rfl⟩ : ∃ w3 : World, w3 = wr := ⟨_, rfl⟩
    have hlt3 : w.heap.size < w3.heap.size := by have := hgH.out; omega
    by_cases hlt : t < n ∧ t < msg.length
    · obtain ⟨hlt1, hlt2⟩ := hlt
      have hk0 : (0 : Int) ≤ (t : Int) := by omega
      have hk1 : (t : Int) < (n : Int) := by omega
      have hk2 : (t : Int) < (msg.length : Int) := by omega
      obtain ⟨b1, o1, rfl, hb1, hc1⟩ := hr1.at_ hlt2
      have hd1 := (hB3.cell (p := ⟨b1, o1 + t, none⟩) hb1).trans hc1
      have hset := hib.set_ t (ci (eli D (msg[t]?.getD 0)))
      rw [ofT_set] at hset
      have hfz := hib.frozen t
      have hcl := hib.cell (i := t) (by unfold ofT; rw [lst_length]; omega)
      have hI3 := hI (msg[t]?.getD 0) w3.drew
      generalize hv9 : ci (eli D (msg[t]?.getD 0)) = v9 at *
      generalize hy9 : msg[t]?.getD 0 = y at *
      replace hI3 := Lib.hid hI3
      replace hv9 := Lib.hid hv9
      replace hy9 := Lib.hid hy9
      have kk := Lib.hid (show (w3.cell? ⟨w.heap.size, 0, none⟩ = some (.int .i64 D.p) ∧ w3.cell? ⟨w.heap.size, 1, none⟩ = some (.int .i64 D.m) ∧ w3.cell? ⟨w.heap.size, 2, none⟩ = some (.slice A D.mod.length c)) ∧ w3.cell? ⟨b1, o1 + t, none⟩ = some (.int .i64 y) from ⟨⟨f53.out.1, f53.out.2.1, f53.out.2.2.1⟩, hd1⟩)
      have x3 : b1 < w3.heap.size := Nat.lt_of_lt_of_le hb1 hB3.size
      have hgw : w.heap.size < g := by have := hgH.out; omega
      have hbg : b1 ≠ g := by omega
      have hwg : w.heap.size ≠ g := by omega
      clear hc1 hset
      go_wp2_with (fail)
      clear hd1 hfz hcl
      refine wp_region_held_drew (S := fun w' => (w'.cell? ⟨w.heap.size, 0, none⟩ = some (.int .i64 D.p) ∧ w'.cell? ⟨w.heap.size, 1, none⟩ = some (.int .i64 D.m) ∧ w'.cell? ⟨w.heap.size, 2, none⟩ = some (.slice A D.mod.length c)) ∧ w'.cell? ⟨b1, o1 + t, none⟩ = some (.int .i64 y)) (by kernel_rfl) (by (try dsimp only); exact kk.out) (fun hHeld => ?_)
      refine wpAnyH_take (i := 0) (oi := ⟨_, _, _, _, _, _⟩) (v := ?_) rfl (by kernel_rfl) (by kernel_rfl) (by kernel_rfl) (fun _ _ _ h => h) (Or.inl ⟨by rfl, ?_⟩) (by assumption) ?_
      rotate_left
      · intro w hSw; (try dsimp only at hSw); go_simp; try with_reducible rfl
      try simp only [Act.put, List.setIfInBounds_toArray, List.set_cons_zero, List.set_cons_succ]
      refine wpAnyH_take (i := 1) (oi := ⟨_, _, _, _, _, _⟩) (v := ?_) rfl (by kernel_rfl) (by kernel_rfl) (by kernel_rfl) (fun _ _ _ h => h) (Or.inl ⟨by rfl, ?_⟩) (by assumption) ?_
      rotate_left
      · intro w hSw; (try dsimp only at hSw); go_simp; try with_reducible rfl
      try simp only [Act.put, List.setIfInBounds_toArray, List.set_cons_zero, List.set_cons_succ]
      refine wpAnyH_take (i := 2) (oi := ⟨_, _, _, _, _, _⟩) (v := ?_) rfl (by kernel_rfl) (by kernel_rfl) (by kernel_rfl) (fun _ _ _ h => h) (Or.inl ⟨by rfl, ?_⟩) (by assumption) ?_
      rotate_left
      · intro w hSw; (try dsimp only at hSw); go_simp; try with_reducible rfl
      try simp only [Act.put, List.setIfInBounds_toArray, List.set_cons_zero, List.set_cons_succ]
      refine wpAnyH_take (i := 3) (oi := ⟨_, _, _, _, _, _⟩) (v := ?_) rfl (by kernel_rfl) (by kernel_rfl) (by kernel_rfl) (fun _ _ _ h => h) (Or.inl ⟨by rfl, ?_⟩) (by assumption) ?_
      rotate_left
      · intro w hSw; (try dsimp only at hSw); go_simp; try with_reducible rfl
      try simp only [Act.put, List.setIfInBounds_toArray, List.set_cons_zero, List.set_cons_succ]
      refine wpAnyH_take (i := 4) (oi := ⟨_, _, _, _, _, _⟩) (v := ?_) rfl (by kernel_rfl) (by kernel_rfl) (by kernel_rfl) (fun _ _ _ h => h) (Or.inl ⟨by rfl, ?_⟩) (by assumption) ?_
      rotate_left
      · intro w hSw; (try dsimp only at hSw); go_simp; try with_reducible rfl
      try simp only [Act.put, List.setIfInBounds_toArray, List.set_cons_zero, List.set_cons_succ]
      refine wpAnyH_take (i := 5) (oi := ⟨_, _, _, _, _, _⟩) (v := ?_) rfl (by kernel_rfl) (by kernel_rfl) (by kernel_rfl) (fun _ _ _ h => h) (Or.inl ⟨by rfl, ?_⟩) (by assumption) ?_
      rotate_left
      · intro w hSw; (try dsimp only at hSw); go_simp; try with_reducible rfl
      try simp only [Act.put, List.setIfInBounds_toArray, List.set_cons_zero, List.set_cons_succ]
      refine wpAnyH_take (i := 6) (oi := ⟨_, _, _, _, _, _⟩) (v := ?_) rfl (by kernel_rfl) (by kernel_rfl) (by kernel_rfl) (fun _ _ _ h => h) (Or.inl ⟨by rfl, ?_⟩) (by assumption) ?_
      rotate_left
      · intro w hSw; (try dsimp only at hSw); go_simp; try with_reducible rfl
      try simp only [Act.put, List.setIfInBounds_toArray, List.set_cons_zero, List.set_cons_succ]
      refine wpAnyH_take (i := 7) (oi := ⟨_, _, _, _, _, _⟩) (v := ?_) rfl (by kernel_rfl) (by kernel_rfl) (by kernel_rfl) (fun _ _ _ h => h) (Or.inl ⟨by rfl, ?_⟩) (by assumption) ?_
      rotate_left
      · intro w hSw; (try dsimp only at hSw); go_simp; try with_reducible rfl
      try simp only [Act.put, List.setIfInBounds_toArray, List.set_cons_zero, List.set_cons_succ]
      refine wpAnyH_ready (rs := [8]) (by kernel_rfl) (by simp) ?_
      refine AllReadyH.cons (o := ⟨_, _, _, _, _, _⟩) rfl (fun K hK => ?_) AllReadyH.nil
      go_simp
      go_at_call 27
      (with_reducible refine (hI3).out.mono ?_)
      rintro e w4 ⟨rfl, hb4⟩
      have hib4 := (show IB w3.drew g _ from hib).below hb4 hgl
      have kk4 := Lib.hid (show (w4.cell? ⟨w.heap.size, 0, none⟩ = some (.int .i64 D.p) ∧ w4.cell? ⟨w.heap.size, 1, none⟩ = some (.int .i64 D.m) ∧ w4.cell? ⟨w.heap.size, 2, none⟩ = some (.slice A D.mod.length c)) ∧ w4.cell? ⟨b1, o1 + t, none⟩ = some (.int .i64 y) from ⟨keep3 hb4 hlt3 kk.out.1, (hb4.cell (p := ⟨b1, o1 + t, none⟩) x3).trans kk.out.2⟩)
      have hfz := hib4.frozen t
      have hcl := hib4.cell (i := t) (by unfold ofT; rw [lst_length]; omega)
      have f54 := Lib.hid ((show Five w3.drew w.heap.size _ _ _ _ _ from f53.out).keep hb4 hlt3)
      have hs4 : w3.heap.size ≤ w4.heap.size := hb4.size
      go_wp2_with (fail)
      refine hK.out _ _ (by (try dsimp only); exact kk4.out) (fun hHeld => ?_)
      clear hK K
      try simp only [Act.put, List.setIfInBounds_toArray, List.set_cons_zero, List.set_cons_succ]
      refine wpAnyH_take (i := 9) (oi := ⟨_, _, _, _, _, _⟩) (v := ?_) rfl (by kernel_rfl) (by kernel_rfl) (by kernel_rfl) (fun _ _ _ h => h) (Or.inl ⟨by rfl, ?_⟩) (by assumption) ?_
      rotate_left
      · intro w hSw; (try dsimp only at hSw); go_simp; try with_reducible rfl
      try simp only [Act.put, List.setIfInBounds_toArray, List.set_cons_zero, List.set_cons_succ]
      refine wpAnyH_ready (rs := [10]) (by kernel_rfl) (by simp) ?_
      refine AllReadyH.cons (o := ⟨_, _, _, _, _, _⟩) rfl (fun K hK => ?_) AllReadyH.nil
      go_simp
      have kk5 := Lib.hid (show ((w4.setCell ⟨g, t, none⟩ (.int .i64 v9)).cell? ⟨w.heap.size, 0, none⟩ = some (.int .i64 D.p) ∧ (w4.setCell ⟨g, t, none⟩ (.int .i64 v9)).cell? ⟨w.heap.size, 1, none⟩ = some (.int .i64 D.m) ∧ (w4.setCell ⟨g, t, none⟩ (.int .i64 v9)).cell? ⟨w.heap.size, 2, none⟩ = some (.slice A D.mod.length c)) ∧ (w4.setCell ⟨g, t, none⟩ (.int .i64 v9)).cell? ⟨b1, o1 + t, none⟩ = some (.int .i64 y) from ⟨⟨(World.cell?_setCell_far _ _ _ _ (Ne.symm hwg)).trans kk4.out.1.1, (World.cell?_setCell_far _ _ _ _ (Ne.symm hwg)).trans kk4.out.1.2.1, (World.cell?_setCell_far _ _ _ _ (Ne.symm hwg)).trans kk4.out.1.2.2⟩, (World.cell?_setCell_far _ _ _ _ (Ne.symm hbg)).trans kk4.out.2⟩)
      refine hK.out _ _ (by (try dsimp only); exact kk5.out) (fun hHeld => ?_)
      clear hK K
      try simp only [Act.put, List.setIfInBounds_toArray, List.set_cons_zero, List.set_cons_succ]
      refine wpAnyH_done (by kernel_rfl) ?_ _
      have hset := hib4.set_ t v9
      rw [← hv9.out, ← hy9.out, ofT_set, hy9.out, hv9.out] at hset
      have hBf := Lib.hid ((hB3.drew.trans (hb4.mono hB3.size)).setCell (p := ⟨g, t, none⟩) (Nat.le_of_lt hgw) (.int .i64 v9))
      have f55 := Lib.hid (f54.out.keep ((Below.refl g w4).setCell (p := ⟨g, t, none⟩) (Nat.le_refl _) (.int .i64 v9)) hgw)
      have hsz : Hid (g < (w4.setCell ⟨g, t, none⟩ (.int .i64 v9)).heap.size) := by unfold Hid; simp [World.setCell]; omega
      replace hset := Lib.hid hset
      clear hfz hcl
      go_wp2_with (fail)
      go_roundw
      case rel => exact ⟨t + 1, by omega, by omega, by go_num, hset.out, hBf.out, f55, hsz.out⟩
      case measure => simp [intOf]; omega
    · have hful := ofT_full (D := D) (n := n) (t := t) (msg := msg) (by omega)
      rw [hful] at hib
      obtain ⟨a0, a1, a2, a3, a4, -⟩ := f53.out
      have hC3 := hCo (fun i => eli D (msg[i]?.getD 0)) (some ⟨g, 0, none⟩) n w3 ((hr.below hB3).more hB3.size) hib.rd ((hrm.below hB3).more hB3.size)
      replace hful := Lib.hid hful
      clear hib hCo
      by_cases h1 : t < n
      · have h2 : ¬ t < msg.length := fun h => hlt ⟨h1, h⟩
        have h1' : (t : Int) < (n : Int) := by omega
        have h2' : ¬ (t : Int) < (msg.length : Int) := by omega
        clear hlt
        go_wp2_with (fail)
        (with_reducible refine hC3.out.mono ?_)
        rintro e w4 ⟨A2, c2, rfl, hr4, hA2, hmc, hcm, hb4⟩
        go_wp2_with (fail)
        go_ret
        exact ⟨A2, c2, rfl, hr4, fun a e => Nat.le_trans hB3.size (hA2 a e), hmc, hcm, hB3.trans (hb4.mono hB3.size)⟩
      · have h1' : ¬ (t : Int) < (n : Int) := by omega
        have hd : decide ((t : Int) < (n : Int)) = false := decide_eq_false h1'
        have hd2 : decide (t < n) = false := decide_eq_false h1
        clear hlt
        go_wp2_with (fail)
        (with_reducible refine hC3.out.mono ?_)
        rintro e w4 ⟨A2, c2, rfl, hr4, hA2, hmc, hcm, hb4⟩
        go_wp2_with (fail)
        go_ret
        exact ⟨A2, c2, rfl, hr4, fun a e => Nat.le_trans hB3.size (hA2 a e), hmc, hcm, hB3.trans (hb4.mono hB3.size)⟩

/-- The number of entries that are not 0. -/
def wtN (l : List Int) : Nat → Nat
  | 0 => 0
  | k + 1 => wtN l k + if l[k]?.getD 0 = 0 then 0 else 1
theorem wtN_le (l : List Int) : ∀ k, wtN l k ≤ k
  | 0 => Nat.le_refl _
  | k + 1 => by
    have := wtN_le l k
    show wtN l k + (if l[k]?.getD 0 = 0 then 0 else 1) ≤ k + 1
    split <;> omega
def wtI (l : List Int) : Nat := wtN l l.length
set_option maxHeartbeats 1000000 in
theorem Weight14_any (l : List Int) (A : Option Addr) (c : Nat) (w : World) (hr : Rd w w.heap.size A l) (hl : l.length ≤ 1000000) :
    Calls Try.prog 54 #[.slice A l.length c] w fun e w' => e = .returned (.int .i64 (wtI l)) ∧ w' = w := by
  obtain ⟨V, hV⟩ : ∃ V, V = wtI l := ⟨_, rfl⟩
  rw [← hV]
  replace hV := Lib.hid hV
  go_enter Try.func54, Try.ntmps54
  go_wp2_with (fail)
  go_loop [4, 3] (fun iS oS => ∃ k x : Nat, k ≤ l.length ∧ iS = .int .i64 k ∧ oS = .int .i64 x ∧ x ≤ k ∧ Hid (x = wtN l k)) (fun iS _ => l.length - (intOf iS).toNat)
  case atStart => exact ⟨0, 0, by omega, rfl, rfl, by omega, by unfold Hid; rfl⟩
  case round =>
    obtain ⟨k, x, hk, rfl, rfl, hxk, hx⟩ := hrel
    by_cases hlt : k < l.length
    · obtain ⟨b, o, rfl, -, hc⟩ := hr.at_ hlt
      have hn : Hid (wtN l (k + 1) = x + if l[k]?.getD 0 = 0 then 0 else 1) := by unfold Hid; rw [hx.out]; rfl
      by_cases hz : l[k]?.getD 0 = 0
      · have hn2 : Hid (x = wtN l (k + 1)) := by unfold Hid; rw [hn.out, if_pos hz, Nat.add_zero]
        have hzb : (l[k]?.getD 0 != 0) = false := by rw [bne_eq_false_iff_eq]; exact hz
        generalize l[k]?.getD 0 = y at *
        clear hn hz
        go_wp2_with (fail)
        go_round
        case rel => exact ⟨k + 1, x, by omega, by go_num, rfl, by omega, hn2⟩
        case measure => simp [intOf]; omega
      · have hn2 : Hid (x + 1 = wtN l (k + 1)) := by unfold Hid; rw [hn.out, if_neg hz]
        have hzb : (l[k]?.getD 0 != 0) = true := by rw [bne_iff_ne]; exact hz
        generalize l[k]?.getD 0 = y at *
        clear hn hz
        go_wp2_with (fail)
        go_round
        case rel => exact ⟨k + 1, x + 1, by omega, by go_num, by go_num, by omega, hn2⟩
        case measure => simp [intOf]; omega
    · obtain rfl : l.length = k := by omega
      have hV2 : Hid (V = x) := by unfold Hid; rw [hV.out, hx.out]; rfl
      go_wp2_with (fail)
      go_ret
      exact ⟨by rw [hV2.out]; rfl, rfl⟩
end Go.Proofs.Ytghgbjgoedlnjaa
