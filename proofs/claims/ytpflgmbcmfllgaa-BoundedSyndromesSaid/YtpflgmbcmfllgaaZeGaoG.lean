/- Layer 38 of the program: Gao. -/
import Derived.Test.YtpflgmbcmfllgaaZeGaoE
import Derived.Test.YtpflgmbcmfllgaaZeGpoD
import Derived.Test.YtpflgmbcmfllgaaZeFrR
namespace Go.Proofs.Ytpflgmbcmfllgaa
open Go.RowKit Cw
open Cw.CField (inv)
attribute [local go_sem] Oper.semAt_some

theorem canI_one (D : Desc) : canI D [1] = [1] := by
  have h : cfI D [1] = fun i => if i = 0 then 1 else 0 := funext fun i => by
    unfold cfI
    rw [cfR_one]
    by_cases e : i = 0
    · rw [if_pos e, if_pos e, ci_one]
    · rw [if_neg e, if_neg e, ci_zero]
  unfold canI
  rw [h, List.length_singleton, canL_full (by simp)]
  rfl
theorem EI.start {F : FD} {n k : Nat} {xs l : List Int} {Y : Nat → R F.toDesc} (hn : xs.length = n) (hk : k ≤ n) (hl : LI F.toDesc (fun i => eli F.toDesc (xs[i]?.getD 0)) Y n l) :
    EI F n k (fun i => eli F.toDesc (xs[i]?.getD 0)) Y (canI F.toDesc (frK F xs n)) (canI F.toDesc l) [] [1] := by
  obtain ⟨h1, h2, h3⟩ := hl
  have h4 := canI_le F.toDesc l
  have h5 : (canI F.toDesc (frK F xs n)).length = n + 1 := canI_len F.toDesc (frK_length F xs n) (by
    rw [cfR_frK F xs (by omega), hn]
    have h := lcf_top (cfR F.toDesc xs) n n
    rw [ldeg_le (Nat.le_refl n)] at h
    rw [h]; exact one_ne)
  refine ⟨canI_canI _ _, canI_canI _ _, canI_one _, by omega, by simp, by rw [h5]; simp; omega, by omega, fun i hi => ?_, fun i hi => ?_⟩
  · rw [pevI_canI, pevI_pev (frK F xs n)]
    have h6 := pev_frK xs (eli F.toDesc (xs[i]?.getD 0))
    rw [hn] at h6
    rw [h6, (lval_roots (f := cfR F.toDesc xs) (N := n) (x := eli F.toDesc (xs[i]?.getD 0)) n (Nat.le_refl n)).2 ⟨i, hi, rfl⟩]
    show rsum 0 _ * _ = _
    rw [rsum_zero, zero_mul]
  · rw [pevI_canI, h3 i hi, pevI_one, one_mul]
/-- What Gao's decoder hands back. -/
def GaoPost (F : FD) (n k : Nat) (X Y : Nat → R F.toDesc) (w : World) (e : Ending) (w' : World) : Prop :=
  Below w.heap.size w w' ∧ ((∃ m A c, e = .returned (.tuple #[.slice A m.length c, .int .i64 0]) ∧ GaoOK F.toDesc n k X Y m ∧ Own w' w.heap.size (.slice A m.length c) m) ∨ (e = .returned (.tuple #[.slice none 0 0, .int .i64 12]) ∧ GaoNo F.toDesc n k X Y))
/-- How many of the first j values are wrong. -/
def wrK (D : Desc) (X Y : Nat → R D) (m : List Int) (j : Nat) : Nat := ((List.range j).filter fun i => ci (pevI D m (X i)) != ci (Y i)).length
theorem wrK_yes {D : Desc} {X Y : Nat → R D} {m : List Int} {j : Nat} (h : (ci (pevI D m (X j)) != ci (Y j)) = true) : wrK D X Y m (j + 1) = wrK D X Y m j + 1 := by
  unfold wrK; rw [List.range_succ, List.filter_append, List.length_append]; simp [h]
theorem wrK_no {D : Desc} {X Y : Nat → R D} {m : List Int} {j : Nat} (h : (ci (pevI D m (X j)) != ci (Y j)) = false) : wrK D X Y m (j + 1) = wrK D X Y m j := by
  unfold wrK; rw [List.range_succ, List.filter_append, List.length_append]; simp [h]
theorem wrK_le (D : Desc) (X Y : Nat → R D) (m : List Int) (j : Nat) : wrK D X Y m j ≤ j := by
  unfold wrK; have := List.length_filter_le (fun i => ci (pevI D m (X i)) != ci (Y i)) (List.range j); rwa [List.length_range] at this

set_option maxRecDepth 100000 in
set_option maxHeartbeats 8000000 in
theorem gGao_any (F : FD) (n k : Nat) (xs ys : List Int) (hn1 : xs.length = n) (hn2 : ys.length = n) (hn : n ≤ 64) (hk : k ≤ n) (hd : ∀ i j, i < n → j < n → eli F.toDesc (xs[i]?.getD 0) = eli F.toDesc (xs[j]?.getD 0) → i = j) (A1 A2 : Option Addr) (c1 c2 g : Nat) (w : World) (hg : GF w w.heap.size g F) (hr1 : Rd w w.heap.size A1 xs) (hr2 : Rd w w.heap.size A2 ys) :
    Calls Try.prog 126 #[.pointer (some ⟨g, 0, none⟩), .slice A1 n c1, .slice A2 n c2, .int .i64 (k : Int)] w (GaoPost F n k (fun i => eli F.toDesc (xs[i]?.getD 0)) (fun i => eli F.toDesc (ys[i]?.getD 0)) w) := by
  have hI := gIntp_any F xs ys n A1 A2 c1 c2 g w hg hr1 hr2 hn1 hn2 hn (fun i j hi hj e => by have := hd i j hi (by omega) e; omega)
  have hFr := fun W a b => gFromRoots_any F xs A1 c1 g W a b (by omega)
  rw [hn1] at hFr
  have hfl := frK_length F xs n
  have hst := fun l (h : LI F.toDesc (fun i => eli F.toDesc (xs[i]?.getD 0)) (fun i => eli F.toDesc (ys[i]?.getD 0)) n l) => EI.start (k := k) hn1 hk h
  obtain ⟨X, hX⟩ : ∃ X : Nat → R F.toDesc, X = fun i => eli F.toDesc (xs[i]?.getD 0) := ⟨_, rfl⟩
  obtain ⟨Y, hY⟩ : ∃ Y : Nat → R F.toDesc, Y = fun i => eli F.toDesc (ys[i]?.getD 0) := ⟨_, rfl⟩
  have hxX : Hid (∀ i, eli F.toDesc (xs[i]?.getD 0) = X i) := fun i => by rw [hX]
  have hyY : Hid (∀ i, eli F.toDesc (ys[i]?.getD 0) + eli F.toDesc 0 = Y i) := fun i => by rw [hY, eli_zero, add_zero]
  have hinj : Hid (∀ i j, i < n → j < n → X i = X j → i = j) := by rw [hX]; exact hd
  rw [← hX, ← hY] at hI hst
  rw [← hX, ← hY]
  have hEu := fun l (h : LI F.toDesc X Y n l) A3 A4 c3 c4 W a b d => gEuclid_any F n k X Y (frK F xs n) l (hst l h) (by rw [hfl]; omega) (by have := h.1; omega) hn (by omega) A3 A4 c3 c4 g W a b d
  unfold EuPost at hEu
  have hw1 : IntKind.i64.wrap ((n : Int) + (k : Int)) = (n : Int) + (k : Int) := IntWalk.i64_in _ (by omega)
  have hw2 : IntKind.i64.wrap ((n : Int) - (k : Int)) = (n : Int) - (k : Int) := IntWalk.i64_in _ (by omega)
  have hk0 : (0 : Int) ≤ (k : Int) := by omega
  have hk1 : (k : Int) ≤ (n : Int) := by omega
  replace hX := Lib.hid hX
  replace hY := Lib.hid hY
  replace hn1 := Lib.hid hn1
  replace hn2 := Lib.hid hn2
  replace hfl := Lib.hid hfl
  replace hI := Lib.hid hI
  replace hFr := fun W a b => Lib.hid (hFr W a b)
  replace hEu := fun l h A3 A4 c3 c4 W a b d => Lib.hid (hEu l h A3 A4 c3 c4 W a b d)
  clear hst hd
  unfold GaoPost
  go_enter Try.func126, Try.ntmps126
  go_wp2_with (fail)
  (with_reducible refine hI.out.mono ?_)
  rintro e w1 ⟨l, Al, cl, rfl, hrl, hLI, -, hb1⟩
  have hg1 := (hg.below hb1).more hb1.size
  have hr11 := (hr1.below hb1).more hb1.size
  have hF1 := hFr w1 hg1 hr11
  replace hLI := Lib.hid hLI
  clear hI hFr
  go_wp2_with (fail)
  (with_reducible refine hF1.out.mono ?_)
  rintro e w2 ⟨A2', c2', rfl, hrf, hb2⟩
  have hB2 := hb1.trans (hb2.mono hb1.size)
  have hg2 := (hg1.below hb2).more hb2.size
  have hE2 := hEu l hLI.out A2' Al c2' cl w2 hg2 hrf ((hrl.below hb2).more hb2.size)
  clear hF1 hEu
  go_wp2_with (fail)
  (with_reducible refine hE2.out.mono ?_)
  rintro e w3 ⟨a, b, old, t, Ab, cb, At, ct, rfl, hE, hfin, hrb, hrt, hbl, htl, hb3⟩
  have hB3 := hB2.trans (hb3.mono hB2.size)
  have hg3 := (hg2.below hb3).more hb3.size
  obtain ⟨dt, hdt⟩ : ∃ dt, t.length = dt + 1 := ⟨t.length - 1, by have := hE.lot; omega⟩
  have hD := gDivMod_any F b t dt (by rw [hE.ct]; exact hdt) Ab At cb ct g w3 hg3 hrb hrt (by omega) (by omega)
  unfold DivPost at hD
  replace hD := Lib.hid hD
  replace hE := Lib.hid hE
  replace hfin := Lib.hid hfin
  replace hdt := Lib.hid hdt
  clear hE2
  go_wp2_with (fail)
  (with_reducible refine hD.out.mono ?_)
  rintro e w4 ⟨m, r, Am, cm, Ar, cr, rfl, hom, hrr, hdv, hb4⟩
  have hB4 := hB3.trans (hb4.mono hB3.size)
  have hfind : Hid (∀ P : List Int, P.length ≤ k → 2 * wr F.toDesc n X Y P + k ≤ n → r = [] ∧ m.length ≤ k ∧ ∀ x, pevI F.toDesc m x = pevI F.toDesc P x) := fun P h1 h2 => hE.out.find hinj.out hfin.out (by have h := hdv.can; rw [hE.out.ct] at h; exact h) h1 h2
  have hml : m.length ≤ 1000 := by
    have h := hdv.can
    rw [hE.out.ct] at h
    have h3 := canI_le F.toDesc b
    by_cases h5 : t.length ≤ (canI F.toDesc b).length
    · have h4 := h.deg hE.out.cb hE.out.ct (by have := hdt.out; omega) h5
      have := hdt.out
      omega
    · have h6 := can_short h.cq (n := 0) fun s _ => ?_
      · omega
      · exact Classical.byContradiction fun h7 => by
          obtain ⟨c, hc⟩ : ∃ c, m.length = c + 1 := ⟨m.length - 1, by have := Classical.byContradiction (p := 1 ≤ m.length) fun h8 => h7 (cfR_out F.toDesc (by omega)); omega⟩
          have hlt := h.lt
          rw [hE.out.ct] at hlt
          have h9 := h.eq (c + dt)
          have htd := hdt.out
          rw [cfR_out F.toDesc (by omega), conv_lead (hc ▸ cfR_lt F.toDesc m) (htd ▸ cfR_lt F.toDesc t), cfR_out F.toDesc (p := r) (by omega), add_zero] at h9
          exact mul_ne_zero (can_lead h.cq hc) (can_lead hE.out.ct htd) h9.symm
  have hcm : Hid (canI F.toDesc m = m) := hdv.cq
  have hg4 := (hg3.below hb4).more hb4.size
  have hrm : Rd w4 w4.heap.size Am m := by obtain ⟨A', c', e', -, h', -⟩ := hom.form; cases e'; exact h'
  have hno : Hid (0 < r.length ∨ k < m.length → GaoNo F.toDesc n k X Y) := fun h P hP => Classical.byContradiction fun h2 => by
    obtain ⟨e1, e2, -⟩ := hfind.out P hP (by omega)
    rw [e1] at h
    simp at h
    omega
  clear hD hdv
  by_cases hc1 : 0 < r.length
  · have hc1' : decide ((0 : Int) < (r.length : Int)) = true := decide_eq_true (by omega)
    have hN := Lib.hid (hno.out (.inl hc1))
    go_wp2_with (fail)
    go_ret2
    exact ⟨hB4, .inr ⟨rfl, hN.out⟩⟩
  have hc1' : decide ((0 : Int) < (r.length : Int)) = false := decide_eq_false (by omega)
  have hr0 : (r.length : Int) = 0 := by omega
  by_cases hc2 : k < m.length
  · have hc2' : decide ((k : Int) < (m.length : Int)) = true := decide_eq_true (by omega)
    have hN := Lib.hid (hno.out (.inr hc2))
    clear hr0
    go_wp2_with (fail)
    go_ret2
    exact ⟨hB4, .inr ⟨rfl, hN.out⟩⟩
  have hc2' : decide ((k : Int) < (m.length : Int)) = false := decide_eq_false (by omega)
  have hmk : m.length ≤ k := by omega
  have hfin2 : Hid (∀ P : List Int, P.length ≤ k → 2 * wr F.toDesc n X Y P + k ≤ n → 2 * wr F.toDesc n X Y m + k ≤ n) := fun P h1 h2 => by
    rw [wr_congr (hfind.out P h1 h2).2.2]; exact h2
  clear hr0 hfind hno
  replace hmk := Lib.hid hmk
  have hr14 := (hr1.below hB4).more hB4.size
  have hr24 := (hr2.below hB4).more hB4.size
  have hwr : Hid (wrK F.toDesc X Y m n = wr F.toDesc n X Y m) := rfl
  go_wp2_with (fail)
  go_loopw [74, 17] (fun i v wr => ∃ j : Nat, j ≤ n ∧ i = .int .i64 j ∧ v = .int .i64 (wrK F.toDesc X Y m j : Nat) ∧ Below w4.heap.size w4 wr) (fun i _ _ => n - (intOf i).toNat)
  case atStart => exact ⟨0, by omega, rfl, rfl, Below.refl _ _⟩
  case round =>
    obtain ⟨w5, rfl⟩ : ∃ w5 : World, w5 = wr := ⟨_, rfl⟩
    obtain ⟨j, hj, rfl, rfl, hbw⟩ := hrel
    by_cases hlt : j < n
    · have hj0 : (0 : Int) ≤ (j : Int) := by omega
      have hj1 : (j : Int) < (n : Int) := by omega
      obtain ⟨b1, o1, rfl, hb1', hc1⟩ := hr14.at_ (by rw [hn1.out]; exact hlt : j < xs.length)
      obtain ⟨b2, o2, rfl, hb2', hc2⟩ := hr24.at_ (by rw [hn2.out]; exact hlt : j < ys.length)
      have hd1 := (hbw.cell (p := ⟨b1, o1 + j, none⟩) hb1').trans hc1
      have hd2 := (hbw.cell (p := ⟨b2, o2 + j, none⟩) hb2').trans hc2
      have hg5 := (hg4.below hbw).more hbw.size
      have hEv := pEval_any F m (xs[j]?.getD 0) Am cm g w5.drew hg5.drew ((hrm.below hbw).more hbw.size).drew (by unfold maxLen; omega)
      have hAd := fun W h => gAdd_any F (ys[j]?.getD 0) 0 g W h
      rw [hxX.out j] at hEv
      rw [hyY.out j] at hAd
      obtain ⟨x, hx⟩ : ∃ x, x = xs[j]?.getD 0 := ⟨_, rfl⟩
      obtain ⟨y, hy⟩ : ∃ y, y = ys[j]?.getD 0 := ⟨_, rfl⟩
      rw [← hx] at hd1 hEv
      rw [← hy] at hd2 hAd
      have hstep : Hid (((ci (pevI F.toDesc m (X j)) != ci (Y j)) = true → wrK F.toDesc X Y m (j + 1) = wrK F.toDesc X Y m j + 1) ∧ ((ci (pevI F.toDesc m (X j)) != ci (Y j)) = false → wrK F.toDesc X Y m (j + 1) = wrK F.toDesc X Y m j)) := ⟨wrK_yes, wrK_no⟩
      have hle := wrK_le F.toDesc X Y m j
      have hwk : IntKind.i64.wrap ((wrK F.toDesc X Y m j : Nat) + 1 : Int) = ((wrK F.toDesc X Y m j : Nat) : Int) + 1 := IntWalk.i64_in _ (by omega)
      obtain ⟨u1, hu1⟩ : ∃ u1, u1 = ci (pevI F.toDesc m (X j)) := ⟨_, rfl⟩
      obtain ⟨u2, hu2⟩ : ∃ u2, u2 = ci (Y j) := ⟨_, rfl⟩
      rw [← hu1] at hEv hstep
      rw [← hu2] at hAd hstep
      obtain ⟨z, hz⟩ : ∃ z, z = wrK F.toDesc X Y m j := ⟨_, rfl⟩
      rw [← hz] at hstep hwk
      rw [← hz]
      have hcc := Lib.hid hd2
      have hb25 : b2 < w5.heap.size := Nat.lt_of_lt_of_le hb2' hbw.size
      replace hEv := Lib.hid hEv
      replace hAd := fun W h => Lib.hid (hAd W h)
      replace hx := Lib.hid hx
      replace hy := Lib.hid hy
      replace hz := Lib.hid hz
      replace hu1 := Lib.hid hu1
      replace hu2 := Lib.hid hu2
      have hbuB := hbw
      clear hc1 hc2 hle hlt
      have hcase : Hid ((u1 != u2) = true ∨ (u1 != u2) = false) := by unfold Hid; cases (u1 != u2) <;> simp
      rcases hcase.out with hq | hq
      · have hz1 := Lib.hid (hstep.out.1 hq)
        go_wp2_with (fail)
        clear hd1 hd2
        refine wp_region_held_drew (S := fun w' => w'.cell? ⟨b2, o2 + j, none⟩ = some (.int .i64 y)) (by kernel_rfl) (by (try dsimp only); exact hcc.out) (fun hHeld => ?_)
        refine wpAnyH_take (i := 0) (oi := ⟨_, _, _, _, _, _⟩) (v := ?_) rfl (by kernel_rfl) (by kernel_rfl) (by kernel_rfl) (fun _ _ _ h => h) (Or.inl ⟨by rfl, ?_⟩) (by assumption) ?_
        rotate_left
        · intro w hSw; (try dsimp only at hSw); go_simp; try with_reducible rfl
        try simp only [Act.put, List.setIfInBounds_toArray, List.set_cons_zero, List.set_cons_succ]
        refine wpAnyH_take (i := 1) (oi := ⟨_, _, _, _, _, _⟩) (v := ?_) rfl (by kernel_rfl) (by kernel_rfl) (by kernel_rfl) (fun _ _ _ h => h) (Or.inl ⟨by rfl, ?_⟩) (by assumption) ?_
        rotate_left
        · intro w hSw; (try dsimp only at hSw); go_simp; try with_reducible rfl
        try simp only [Act.put, List.setIfInBounds_toArray, List.set_cons_zero, List.set_cons_succ]
        refine wpAnyH_take (i := 2) (oi := ⟨_, _, _, _, _, _⟩) (v := ?_) rfl (by kernel_rfl) (by kernel_rfl) (by kernel_rfl) (fun _ _ _ h => h) (Or.inl ⟨by rfl, ?_⟩) (by assumption) ?_
        rotate_left
        · intro w hSw; (try dsimp only at hSw); go_simp; try with_reducible rfl
        try simp only [Act.put, List.setIfInBounds_toArray, List.set_cons_zero, List.set_cons_succ]
        refine wpAnyH_take (i := 4) (oi := ⟨_, _, _, _, _, _⟩) (v := ?_) rfl (by kernel_rfl) (by kernel_rfl) (by kernel_rfl) (fun _ _ _ h => h) (Or.inl ⟨by rfl, ?_⟩) (by assumption) ?_
        rotate_left
        · intro w hSw; (try dsimp only at hSw); go_simp; try with_reducible rfl
        try simp only [Act.put, List.setIfInBounds_toArray, List.set_cons_zero, List.set_cons_succ]
        refine wpAnyH_take (i := 5) (oi := ⟨_, _, _, _, _, _⟩) (v := ?_) rfl (by kernel_rfl) (by kernel_rfl) (by kernel_rfl) (fun _ _ _ h => h) (Or.inl ⟨by rfl, ?_⟩) (by assumption) ?_
        rotate_left
        · intro w hSw; (try dsimp only at hSw); go_simp; try with_reducible rfl
        try simp only [Act.put, List.setIfInBounds_toArray, List.set_cons_zero, List.set_cons_succ]
        refine wpAnyH_take (i := 6) (oi := ⟨_, _, _, _, _, _⟩) (v := ?_) rfl (by kernel_rfl) (by kernel_rfl) (by kernel_rfl) (fun _ _ _ h => h) (Or.inl ⟨by rfl, ?_⟩) (by assumption) ?_
        rotate_left
        · intro w hSw; (try dsimp only at hSw); go_simp; try with_reducible rfl
        try simp only [Act.put, List.setIfInBounds_toArray, List.set_cons_zero, List.set_cons_succ]
        refine wpAnyH_take (i := 7) (oi := ⟨_, _, _, _, _, _⟩) (v := ?_) rfl (by kernel_rfl) (by kernel_rfl) (by kernel_rfl) (fun _ _ _ h => h) (Or.inl ⟨by rfl, ?_⟩) (by assumption) ?_
        rotate_left
        · intro w hSw; (try dsimp only at hSw); go_simp; try with_reducible rfl
        try simp only [Act.put, List.setIfInBounds_toArray, List.set_cons_zero, List.set_cons_succ]
        refine wpAnyH_take (i := 8) (oi := ⟨_, _, _, _, _, _⟩) (v := ?_) rfl (by kernel_rfl) (by kernel_rfl) (by kernel_rfl) (fun _ _ _ h => h) (Or.inl ⟨by rfl, ?_⟩) (by assumption) ?_
        rotate_left
        · intro w hSw; (try dsimp only at hSw); go_simp; try with_reducible rfl
        try simp only [Act.put, List.setIfInBounds_toArray, List.set_cons_zero, List.set_cons_succ]
        refine wpAnyH_ready (rs := [3]) (by kernel_rfl) (by simp) ?_
        refine AllReadyH.cons (o := ⟨_, _, _, _, _, _⟩) rfl (fun K hK => ?_) AllReadyH.nil
        go_simp
        go_at_call 161
        (with_reducible refine (hEv).out.mono ?_)
        rintro e w6 ⟨rfl, hb6⟩
        have hcc6 := Lib.hid ((hb6.cell (p := ⟨b2, o2 + j, none⟩) hb25).trans hcc.out)
        have hs6 : w5.heap.size ≤ w6.heap.size := hb6.size
        have hb56 : Below w5.heap.size w5 w6 := (Below.refl _ w5).drew.trans hb6
        have hA6 := hAd w6 ((hg5.below hb56).more hb56.size)
        go_wp2_with (fail)
        refine hK.out _ _ (by (try dsimp only); exact hcc6.out) (fun hHeld => ?_)
        clear hK K
        try simp only [Act.put, List.setIfInBounds_toArray, List.set_cons_zero, List.set_cons_succ]
        refine wpAnyH_ready (rs := [9]) (by kernel_rfl) (by simp) ?_
        refine AllReadyH.cons (o := ⟨_, _, _, _, _, _⟩) rfl (fun K hK => ?_) AllReadyH.nil
        go_simp
        go_at_call 144
        (with_reducible refine (hA6).out.mono ?_)
        rintro e w7 ⟨rfl, hb7⟩
        go_wp2_with (fail)
        refine hK.out _ _ (by (try dsimp only); exact (hb7.cell (p := ⟨b2, o2 + j, none⟩) (Nat.lt_of_lt_of_le hb25 hs6)).trans hcc6.out) (fun hHeld => ?_)
        clear hK K
        try simp only [Act.put, List.setIfInBounds_toArray, List.set_cons_zero, List.set_cons_succ]
        refine wpAnyH_take (i := 10) (oi := ⟨_, _, _, _, _, _⟩) (v := ?_) rfl (by kernel_rfl) (by kernel_rfl) (by kernel_rfl) (fun _ _ _ h => h) (Or.inl ⟨by rfl, ?_⟩) (by assumption) ?_
        rotate_left
        · intro w hSw; (try dsimp only at hSw); go_simp; try with_reducible rfl
        try simp only [Act.put, List.setIfInBounds_toArray, List.set_cons_zero, List.set_cons_succ]
        refine wpAnyH_done (by kernel_rfl) ?_ _
        have hb57 := hb56.trans (hb7.mono hs6)
        go_wp2_with (fail)
        go_roundw
        case rel => exact ⟨j + 1, by omega, by go_num, by rw [hz1.out]; rfl, hbw.trans (hb57.mono hbw.size)⟩
        case measure => simp [intOf]; omega
      · have hz1 := Lib.hid (hstep.out.2 hq)
        go_wp2_with (fail)
        clear hd1 hd2
        refine wp_region_held_drew (S := fun w' => w'.cell? ⟨b2, o2 + j, none⟩ = some (.int .i64 y)) (by kernel_rfl) (by (try dsimp only); exact hcc.out) (fun hHeld => ?_)
        refine wpAnyH_take (i := 0) (oi := ⟨_, _, _, _, _, _⟩) (v := ?_) rfl (by kernel_rfl) (by kernel_rfl) (by kernel_rfl) (fun _ _ _ h => h) (Or.inl ⟨by rfl, ?_⟩) (by assumption) ?_
        rotate_left
        · intro w hSw; (try dsimp only at hSw); go_simp; try with_reducible rfl
        try simp only [Act.put, List.setIfInBounds_toArray, List.set_cons_zero, List.set_cons_succ]
        refine wpAnyH_take (i := 1) (oi := ⟨_, _, _, _, _, _⟩) (v := ?_) rfl (by kernel_rfl) (by kernel_rfl) (by kernel_rfl) (fun _ _ _ h => h) (Or.inl ⟨by rfl, ?_⟩) (by assumption) ?_
        rotate_left
        · intro w hSw; (try dsimp only at hSw); go_simp; try with_reducible rfl
        try simp only [Act.put, List.setIfInBounds_toArray, List.set_cons_zero, List.set_cons_succ]
        refine wpAnyH_take (i := 2) (oi := ⟨_, _, _, _, _, _⟩) (v := ?_) rfl (by kernel_rfl) (by kernel_rfl) (by kernel_rfl) (fun _ _ _ h => h) (Or.inl ⟨by rfl, ?_⟩) (by assumption) ?_
        rotate_left
        · intro w hSw; (try dsimp only at hSw); go_simp; try with_reducible rfl
        try simp only [Act.put, List.setIfInBounds_toArray, List.set_cons_zero, List.set_cons_succ]
        refine wpAnyH_take (i := 4) (oi := ⟨_, _, _, _, _, _⟩) (v := ?_) rfl (by kernel_rfl) (by kernel_rfl) (by kernel_rfl) (fun _ _ _ h => h) (Or.inl ⟨by rfl, ?_⟩) (by assumption) ?_
        rotate_left
        · intro w hSw; (try dsimp only at hSw); go_simp; try with_reducible rfl
        try simp only [Act.put, List.setIfInBounds_toArray, List.set_cons_zero, List.set_cons_succ]
        refine wpAnyH_take (i := 5) (oi := ⟨_, _, _, _, _, _⟩) (v := ?_) rfl (by kernel_rfl) (by kernel_rfl) (by kernel_rfl) (fun _ _ _ h => h) (Or.inl ⟨by rfl, ?_⟩) (by assumption) ?_
        rotate_left
        · intro w hSw; (try dsimp only at hSw); go_simp; try with_reducible rfl
        try simp only [Act.put, List.setIfInBounds_toArray, List.set_cons_zero, List.set_cons_succ]
        refine wpAnyH_take (i := 6) (oi := ⟨_, _, _, _, _, _⟩) (v := ?_) rfl (by kernel_rfl) (by kernel_rfl) (by kernel_rfl) (fun _ _ _ h => h) (Or.inl ⟨by rfl, ?_⟩) (by assumption) ?_
        rotate_left
        · intro w hSw; (try dsimp only at hSw); go_simp; try with_reducible rfl
        try simp only [Act.put, List.setIfInBounds_toArray, List.set_cons_zero, List.set_cons_succ]
        refine wpAnyH_take (i := 7) (oi := ⟨_, _, _, _, _, _⟩) (v := ?_) rfl (by kernel_rfl) (by kernel_rfl) (by kernel_rfl) (fun _ _ _ h => h) (Or.inl ⟨by rfl, ?_⟩) (by assumption) ?_
        rotate_left
        · intro w hSw; (try dsimp only at hSw); go_simp; try with_reducible rfl
        try simp only [Act.put, List.setIfInBounds_toArray, List.set_cons_zero, List.set_cons_succ]
        refine wpAnyH_take (i := 8) (oi := ⟨_, _, _, _, _, _⟩) (v := ?_) rfl (by kernel_rfl) (by kernel_rfl) (by kernel_rfl) (fun _ _ _ h => h) (Or.inl ⟨by rfl, ?_⟩) (by assumption) ?_
        rotate_left
        · intro w hSw; (try dsimp only at hSw); go_simp; try with_reducible rfl
        try simp only [Act.put, List.setIfInBounds_toArray, List.set_cons_zero, List.set_cons_succ]
        refine wpAnyH_ready (rs := [3]) (by kernel_rfl) (by simp) ?_
        refine AllReadyH.cons (o := ⟨_, _, _, _, _, _⟩) rfl (fun K hK => ?_) AllReadyH.nil
        go_simp
        go_at_call 161
        (with_reducible refine (hEv).out.mono ?_)
        rintro e w6 ⟨rfl, hb6⟩
        have hcc6 := Lib.hid ((hb6.cell (p := ⟨b2, o2 + j, none⟩) hb25).trans hcc.out)
        have hs6 : w5.heap.size ≤ w6.heap.size := hb6.size
        have hb56 : Below w5.heap.size w5 w6 := (Below.refl _ w5).drew.trans hb6
        have hA6 := hAd w6 ((hg5.below hb56).more hb56.size)
        go_wp2_with (fail)
        refine hK.out _ _ (by (try dsimp only); exact hcc6.out) (fun hHeld => ?_)
        clear hK K
        try simp only [Act.put, List.setIfInBounds_toArray, List.set_cons_zero, List.set_cons_succ]
        refine wpAnyH_ready (rs := [9]) (by kernel_rfl) (by simp) ?_
        refine AllReadyH.cons (o := ⟨_, _, _, _, _, _⟩) rfl (fun K hK => ?_) AllReadyH.nil
        go_simp
        go_at_call 144
        (with_reducible refine (hA6).out.mono ?_)
        rintro e w7 ⟨rfl, hb7⟩
        go_wp2_with (fail)
        refine hK.out _ _ (by (try dsimp only); exact (hb7.cell (p := ⟨b2, o2 + j, none⟩) (Nat.lt_of_lt_of_le hb25 hs6)).trans hcc6.out) (fun hHeld => ?_)
        clear hK K
        try simp only [Act.put, List.setIfInBounds_toArray, List.set_cons_zero, List.set_cons_succ]
        refine wpAnyH_take (i := 10) (oi := ⟨_, _, _, _, _, _⟩) (v := ?_) rfl (by kernel_rfl) (by kernel_rfl) (by kernel_rfl) (fun _ _ _ h => h) (Or.inl ⟨by rfl, ?_⟩) (by assumption) ?_
        rotate_left
        · intro w hSw; (try dsimp only at hSw); go_simp; try with_reducible rfl
        try simp only [Act.put, List.setIfInBounds_toArray, List.set_cons_zero, List.set_cons_succ]
        refine wpAnyH_done (by kernel_rfl) ?_ _
        have hb57 := hb56.trans (hb7.mono hs6)
        go_wp2_with (fail)
        go_roundw
        case rel => exact ⟨j + 1, by omega, by go_num, by rw [hz1.out, hz.out], hbw.trans (hb57.mono hbw.size)⟩
        case measure => simp [intOf]; omega
    · obtain rfl : n = j := by omega
      rw [hwr.out]
      obtain ⟨z, hz⟩ : ∃ z, z = wr F.toDesc n X Y m := ⟨_, rfl⟩
      rw [← hz]
      have hzle : z ≤ n := by rw [hz]; exact wrK_le F.toDesc X Y m n
      have hq1 : IntKind.i64.wrap (((n : Int) - (k : Int)).tdiv 2) = (((n - k) / 2 : Nat) : Int) := by
        rw [Int.tdiv_eq_ediv_of_nonneg (by omega), IntWalk.i64_in _ (by omega)]; omega
      have hq2 : ((n : Int) - (k : Int)).tdiv 2 = (((n - k) / 2 : Nat) : Int) := by
        rw [Int.tdiv_eq_ediv_of_nonneg (by omega)]; omega
      have hown : Own w5 w.heap.size (.slice Am m.length cm) m := (hom.base (hB3.size)).below hbw (Nat.le_refl _)
      have hB5 := hB4.trans (hbw.mono hB4.size)
      by_cases hzc : 2 * z + k ≤ n
      · have hzc1 : ¬ (((n - k) / 2 : Nat) : Int) < (z : Int) := by omega
        have hok : GaoOK F.toDesc n k X Y m := ⟨hcm.out, hmk.out, by rw [← hz]; exact hzc⟩
        replace hz := Lib.hid hz
        replace hok := Lib.hid hok
        clear hzc hzle
        go_wp2_with (fail)
        go_ret2
        exact ⟨hB5, .inl ⟨m, Am, cm, rfl, hok.out, hown⟩⟩
      · have hzc1 : (((n - k) / 2 : Nat) : Int) < (z : Int) := by omega
        have hno : GaoNo F.toDesc n k X Y := fun P hP => Classical.byContradiction fun h2 => hzc (by rw [hz]; exact hfin2.out P hP (by omega))
        replace hz := Lib.hid hz
        replace hno := Lib.hid hno
        clear hzc hzle
        go_wp2_with (fail)
        go_ret2
        exact ⟨hB5, .inr ⟨rfl, hno.out⟩⟩
end Go.Proofs.Ytpflgmbcmfllgaa
