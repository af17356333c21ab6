/- The reference of layer 7: Normal. -/
import Derived.Test.YteamndefbpdcjaaNorP
namespace Go.Proofs.Yteamndefbpdcjaa
open Go.RowKit Cw
attribute [local go_sem] Oper.semAt_some

set_option maxRecDepth 100000 in
set_option maxHeartbeats 4000000 in
theorem Normal7_any (F : FD) (d n k0 : Nat) (A : Option Addr) (c : Nat) (w : World) (hr : Rd w w.heap.size A (modL F.toDesc)) (hd1 : 1 ≤ d) (hkd : d ∣ F.m) (hn : F.m / d = n) (hk0 : IsNrm F d n k0) :
    Calls Try.prog 57 #[.agg #[.int .i64 F.p, .int .i64 F.m, .slice A F.mod.length c], .int .i64 d] w fun e w' => e = .returned (.int .i64 k0) ∧ Below w.heap.size w w' := by
  have hdv := divB_of hd1 hkd F.m1
  have hd8 : d ≤ 8 := Nat.le_trans (Nat.le_of_dvd F.m1 hkd) F.m8
  have hn8 : n ≤ 8 := by rw [← hn]; exact Nat.le_trans (Nat.div_le_self _ _) F.m8
  have hn1 : 1 ≤ n := by rw [← hn]; exact Nat.div_pos (Nat.le_of_dvd F.m1 hkd) hd1
  have hfm8 := F.m8; have hfm1 := F.m1
  have hq3 := F.q256
  have hF : ∀ (x : Int) (i : Nat) (w : World), Rd w w.heap.size A (modL F.toDesc) → i ≤ 8 → Hid (Calls Try.prog 23 #[.agg #[.int .i64 F.p, .int .i64 F.m, .slice A F.mod.length c], .int .i64 x, .int .i64 ((d : Int) * (i : Int))] w fun e w' =>
      e = .returned (.int .i64 (ci (frob (d * i) (eli F.toDesc x)))) ∧ Below w.heap.size w w') := fun x i w hr hi => by
    have h := Frob7_any F x (d * i) A c w hr (by have := Nat.mul_le_mul hd8 hi; omega)
    rw [Int.natCast_mul] at h; exact h
  have hIB := fun x Al cl W a b => IsB7_any F (frobs d (eli F.toDesc x) n) d A Al c cl W a b (by rw [frobs_length]; unfold maxLen; omega)
  have hNB := fun x => nrm_bas F hdv x
  rw [hn] at hNB
  have hpos := hk0.pos hn1
  have hkq := hk0.1
  have hdq : Hid ((F.m : Int) / (d : Int) = (n : Int)) := by unfold Hid; rw [← hn]; rfl
  have hd0 : ¬ d = 0 := by omega
  have hB0 : Below w.heap.size w (w.alloc (.cells #[.int .i64 F.p, .int .i64 F.m, .slice A F.mod.length c] 24)) := (Below.refl _ _).alloc (Nat.le_refl _) _
  have hbx0 := Bx.new w F.toDesc A F.mod.length c 24
  replace hn := Lib.hid hn
  replace hdv := Lib.hid hdv
  have hk0' := Lib.hid hk0
  clear hk0
  go_enter Try.func57, Try.ntmps57
  go_wp2_with (fail)
  go_loopw [5, 6, 7] (fun xS _ _ wr => ∃ x : Nat, 1 ≤ x ∧ x ≤ k0 ∧ xS = .int .i64 x ∧ Bx wr w.heap.size F.toDesc A F.mod.length c ∧ Below w.heap.size w wr ∧ w.heap.size < wr.heap.size) (fun xS _ _ _ => k0 - (intOf xS).toNat)
  case atStart => exact ⟨1, by omega, hpos, rfl, hbx0, hB0, by simp⟩
  case round =>
    clear hbx0 hB0
    obtain ⟨w2, rfl⟩ : ∃ w2 : World, w2 = wr := ⟨_, rfl⟩
    obtain ⟨x, hx1, hx2, rfl, hbx, hbw, hsz⟩ := hrel
    have hx0 : (0 : Int) ≤ (x : Int) := by omega
    have hxq : x ≤ 256 := by omega
    obtain ⟨u, hu⟩ : ∃ u, u = eli F.toDesc (x : Int) := ⟨_, rfl⟩
    have hFx := hF x
    have hIx := hIB x
    have hNx := hNB x
    rw [← hu] at hFx hIx hNx
    have hFr := Lib.hid hFx
    replace hu := Lib.hid hu
    clear hFx
    go_wp2_with (fail)
    go_loopw [7, 6] (fun iS lS wr => ∃ i : Nat, i ≤ n ∧ iS = .int .i64 i ∧ Own wr w2.heap.size lS (frobs d u i) ∧ Below w2.heap.size w2 wr) (fun iS _ _ => n - (intOf iS).toNat)
    case atStart => exact ⟨0, by omega, rfl, Own.nil _ _, Below.refl _ _⟩
    case round =>
      obtain ⟨w3, rfl⟩ : ∃ w3 : World, w3 = wr := ⟨_, rfl⟩
      obtain ⟨i, hi, rfl, hown, hb3⟩ := hrel
      have hbx3 := hbx.below hb3 hsz
      have hB3 := hbw.trans (hb3.mono (Nat.le_of_lt hsz))
      have hsz3 := Nat.lt_of_lt_of_le hsz hb3.size
      obtain ⟨q0, q1, q2⟩ := hbx3
      have hbx3 := hbx.below hb3 hsz
      have hdq' := hdq.out
      by_cases hin : i < n
      · have i0 : (0 : Int) ≤ (i : Int) := by omega
        have i1 : (i : Int) < (n : Int) := by omega
        obtain ⟨hm1, hm2⟩ : (0 : Int) ≤ (d : Int) * (i : Int) ∧ (d : Int) * (i : Int) ≤ 64 := by
          have h1 := Nat.mul_le_mul hd8 (show i ≤ 8 by omega)
          have h2 : ((d * i : Nat) : Int) = (d : Int) * (i : Int) := by simp
          omega
        have hF3 := hFr.out i w3.drew ((hr.below hB3).more hB3.size).drew (by omega)
        have hF4 := hFr.out i w3 ((hr.below hB3).more hB3.size) (by omega)
        obtain ⟨y, hy⟩ : ∃ y, y = ci (frob (d * i) u) := ⟨_, rfl⟩
        rw [← hy] at hF3 hF4
        have hsuc : frobs d u i ++ [y] = frobs d u (i + 1) := by rw [hy]; unfold frobs; rw [lst_succ]
        have hle : (frobs d u i).length ≤ 1000000 := by rw [frobs_length]; omega
        replace hy := Lib.hid hy
        replace hsuc := Lib.hid hsuc
        clear hF3
        go_wp2_with (fail)
        (with_reducible refine hF4.out.mono ?_)
        rintro e w4 ⟨rfl, hb4⟩
        have hown4 := hown.below hb4 (Nat.le_refl _)
        clear q0 q1 q2 hdq'
        go_wp2_with (at_builtin; refine wpList_app1 rfl _ _ rfl w2.heap.size _ _ _ hown4 rfl rfl rfl hle (Nat.le_trans hb3.size hb4.size) ?_; intro v' w5 hown5 hb5 _ _)
        rw [hsuc.out] at hown5
        have hb35 := (hb3.trans (hb4.mono hb3.size)).trans hb5
        go_roundw
        case rel => exact ⟨i + 1, by omega, by go_num, hown5, hb35⟩
        case measure => simp [intOf]; omega
      · obtain rfl : i = n := by omega
        obtain ⟨Al, cl, rfl, -, hrl, -⟩ := hown.form
        have hI3 := hIx Al cl w3 ((hr.below hB3).more hB3.size) hrl
        by_cases hxk : x = k0
        · have hb : (basE F (frobs d u i) d == 0) = true := hNx.1 (by rw [hxk]; exact hk0'.out.2.1)
          rw [hb] at hI3
          replace hI3 := Lib.hid hI3
          replace hxk := Lib.hid hxk
          clear hb hNx
          go_wp2_with (fail)
          (with_reducible refine hI3.out.mono ?_)
          rintro e w4 ⟨rfl, hb4⟩
          go_wp2_with (fail)
          go_ret
          exact ⟨by rw [← hxk.out]; rfl, hB3.trans (hb4.mono hB3.size)⟩
        · have hb : (basE F (frobs d u i) d == 0) = false := hNx.2 (hk0'.out.2.2 x (by omega))
          rw [hb] at hI3
          replace hI3 := Lib.hid hI3
          have hxl : x + 1 ≤ k0 := by omega
          clear hb hNx hxk
          go_wp2_with (fail)
          (with_reducible refine hI3.out.mono ?_)
          rintro e w4 ⟨rfl, hb4⟩
          have hbx4 := hbx3.below hb4 hsz3
          have hB4 := hB3.trans (hb4.mono hB3.size)
          have hsz4 := Nat.lt_of_lt_of_le hsz3 hb4.size
          clear q0 q1 q2
          go_wp2_with (fail)
          go_roundw
          case rel => exact ⟨x + 1, by omega, by omega, by go_num, hbx4, hB4, hsz4⟩
          case measure => simp [intOf]; omega
end Go.Proofs.Yteamndefbpdcjaa
