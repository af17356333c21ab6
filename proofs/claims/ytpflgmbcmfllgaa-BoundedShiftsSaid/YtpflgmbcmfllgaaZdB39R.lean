/- The reference of layer 39: Received, Differ, Plus. -/
import Derived.Test.YtpflgmbcmfllgaaZdB39
namespace Go.Proofs.Ytpflgmbcmfllgaa
open Go.RowKit Cw
attribute [local go_sem] Oper.semAt_some

set_option maxRecDepth 100000 in
set_option maxHeartbeats 4000000 in
theorem Received39_any (D : Desc) (word er : List Int) (n : Nat) (A Aw Ae : Option Addr) (c cw ce : Nat) (w : World) (hrw : Rd w w.heap.size Aw word) (hre : Rd w w.heap.size Ae er) (hwl : word.length ≤ maxLen) (hel : er.length ≤ 1000000) :
    Calls Try.prog 33 #[.agg #[.int .i64 D.p, .int .i64 D.m, .slice A D.mod.length c], .int .i64 (n : Int), .slice Aw word.length cw, .slice Ae er.length ce] w fun e w' => e = .returned (.int .i64 (recErr D word n er)) ∧ Below w.heap.size w w' := by
  have hE := fun W a => Lib.hid (Elems18_any D word n 4 A Aw c cw W a hwl)
  obtain ⟨Z, hZ⟩ : ∃ Z, Z = w.alloc (.cells #[.int .i64 D.p, .int .i64 D.m, .slice A D.mod.length c] 24) := ⟨_, rfl⟩
  have hB : Below w.heap.size w Z := by rw [hZ]; exact (Below.refl _ _).alloc (Nat.le_refl _) _
  have hbx := Lib.hid (show Bx Z w.heap.size D A D.mod.length c from by rw [hZ]; exact Bx.new w D A D.mod.length c _)
  have hE1 := hE Z ((hrw.below hB).more hB.size)
  replace hZ := Lib.hid hZ
  clear hE hrw
  go_enter Try.func33, Try.ntmps33
  obtain ⟨q0, q1, q2⟩ := hbx.out.cells
  go_wp2_with (fail)
  rw [← hZ.out]
  go_wp2_with (fail)
  (with_reducible refine hE1.out.mono ?_)
  rintro e w1 ⟨rfl, hb1⟩
  clear q0 q1 q2
  have hB1 := hB.trans (hb1.mono hB.size)
  have hre1 := (hre.below hB1).more hB1.size
  by_cases hz : elErr D word n 4 = 0
  rotate_left
  · have hzb : (elErr D word n 4 != 0) = true := by rw [bne_iff_ne]; exact hz
    have hR : Hid (recErr D word n er = elErr D word n 4) := if_pos hz
    clear hz
    go_wp2_with (fail)
    go_ret
    exact ⟨by rw [hR.out]; rfl, hB1⟩
  rw [hz]
  have hwn : word.length = n ∧ elB D word = true := by
    unfold elErr at hz
    by_cases h1 : (word.length : Int) ≠ n
    · rw [if_pos h1] at hz; cases hz
    · rw [if_neg h1] at hz
      by_cases h2 : elB D word = false
      · rw [if_pos h2] at hz; cases hz
      · exact ⟨by omega, by cases h : elB D word with | true => rfl | false => exact absurd h h2⟩
  replace hwn := Lib.hid hwn
  clear hz hE1
  go_wp2_with (fail)
  go_loop [10] (fun i => ∃ k : Nat, k ≤ er.length ∧ i = .int .i64 k ∧ ∀ x ∈ er.take k, 0 ≤ x ∧ x < (n : Int)) (fun i => er.length - (intOf i).toNat)
  case atStart => exact ⟨0, by omega, rfl, fun x hx => by simp at hx⟩
  case round =>
    obtain ⟨k, hk, rfl, hrg⟩ := hrel
    by_cases hkm : k < er.length
    · obtain ⟨ba, oa, rfl, hba, hca⟩ := hre1.at_ hkm
      obtain ⟨x, hx⟩ : ∃ x, x = er[k]?.getD 0 := ⟨_, rfl⟩
      rw [← hx] at hca
      have hxm : x ∈ er := by rw [hx]; exact mem_get hkm
      have hk0 : (0 : Int) ≤ (k : Int) := by omega
      have hk1 : (k : Int) < (er.length : Int) := by omega
      replace hx := Lib.hid hx
      by_cases hx0 : x < 0
      · have hE : Hid (recErr D word n er = 6) := recErr_six hwn.out.1 hwn.out.2 hxm (by omega)
        go_wp2_with (fail)
        go_ret
        exact ⟨by rw [hE.out]; rfl, hB1⟩
      by_cases hx1 : (n : Int) ≤ x
      · have hE : Hid (recErr D word n er = 6) := recErr_six hwn.out.1 hwn.out.2 hxm (by omega)
        go_wp2_with (fail)
        go_ret
        exact ⟨by rw [hE.out]; rfl, hB1⟩
      have hrg2 : Hid (∀ x ∈ er.take (k + 1), 0 ≤ x ∧ x < (n : Int)) := fun z hz => by
        rcases (take_succ_mem hkm z).1 hz with h3 | h3
        · exact hrg z h3
        · rw [h3, ← hx.out]; omega
      clear hrg
      go_wp2_with (fail)
      go_round
      case rel => exact ⟨k + 1, by omega, by go_num, hrg2.out⟩
      case measure => simp [intOf]; omega
    · obtain rfl : k = er.length := by omega
      rw [List.take_length] at hrg
      replace hrg := Lib.hid hrg
      go_wp2_with (fail)
      go_loopw [11] (fun i wr => ∃ k : Nat, k ≤ er.length ∧ i = .int .i64 k ∧ (er.take k).Nodup ∧ Below w1.heap.size w1 wr) (fun i _ => er.length - (intOf i).toNat)
      case atStart => exact ⟨0, by omega, rfl, by simp, Below.refl _ _⟩
      case round =>
        obtain ⟨k, hk, rfl, hnd, hbw⟩ := hrel
        obtain ⟨w3, rfl⟩ : ∃ w3 : World, w3 = wr := ⟨_, rfl⟩
        by_cases hkm : k < er.length
        · obtain ⟨ba, oa, rfl, hba, hca⟩ := hre1.at_ hkm
          have hk0 : (0 : Int) ≤ (k : Int) := by omega
          have hk1 : (k : Int) < (er.length : Int) := by omega
          obtain ⟨x, hx⟩ : ∃ x, x = er[k]?.getD 0 := ⟨_, rfl⟩
          rw [← hx] at hca
          replace hx := Lib.hid hx
          replace hnd := Lib.hid hnd
          go_wp2_with (fail)
          go_loopw [12] (fun i wr => ∃ j : Nat, j ≤ k ∧ i = .int .i64 j ∧ ¬ x ∈ er.take j ∧ Below w1.heap.size w1 wr) (fun i _ => k - (intOf i).toNat)
          case atStart => exact ⟨0, by omega, rfl, by simp, hbw⟩
          case round =>
            clear hbw
            obtain ⟨j, hj, rfl, hnx, hbw⟩ := hrel
            obtain ⟨w4, rfl⟩ : ∃ w4 : World, w4 = wr := ⟨_, rfl⟩
            by_cases hjk : j < k
            · have hj0 : (0 : Int) ≤ (j : Int) := by omega
              have hj1 : (j : Int) < (k : Int) := by omega
              have hj2 : (j : Int) < (er.length : Int) := by omega
              have hc1 := (hbw.cell (p := ⟨ba, oa + k, none⟩) hba).trans hca
              obtain ⟨b', o', e', -, hcj⟩ := hre1.at_ (show j < er.length by omega)
              cases e'
              have hc2 := (hbw.cell (p := ⟨ba, oa + j, none⟩) hba).trans hcj
              obtain ⟨y, hy⟩ : ∃ y, y = er[j]?.getD 0 := ⟨_, rfl⟩
              rw [← hy] at hc2
              have hin : x ∈ er.take (j + 1) ↔ x ∈ er.take j ∨ x = y := by rw [hy]; exact take_succ_mem (by omega) x
              replace hy := Lib.hid hy
              clear hcj
              by_cases hxy : x = y
              · have hxb : (x == y) = true := by rw [beq_iff_eq]; exact hxy
                have hdup : ¬ er.Nodup := not_nodup_take hkm (by
                  rw [← hx.out]
                  have h1 : x ∈ er.take (j + 1) := hin.2 (.inr hxy)
                  have h2 : er.take (j + 1) = (er.take k).take (j + 1) := by rw [List.take_take, Nat.min_eq_left (by omega)]
                  rw [h2] at h1
                  exact List.mem_of_mem_take h1)
                have hE : Hid (recErr D word n er = 18) := recErr_dup hwn.out.1 hwn.out.2 hrg.out hdup
                clear hxy hdup hin hnx
                go_wp2_with (fail)
                go_quiet (fail)
                go_wp2_with (fail)
                go_ret
                exact ⟨by rw [hE.out]; rfl, hB1.trans (Below.mono ⟨hbw.os, hbw.tape, hbw.output, hbw.size, hbw.block⟩ hB1.size)⟩
              · have hxb : (x == y) = false := by rw [beq_eq_false_iff_ne]; exact hxy
                have hn2 : Hid (¬ x ∈ er.take (j + 1)) := fun h => (hin.1 h).elim hnx hxy
                clear hxy hin hnx
                go_wp2_with (fail)
                go_quiet (fail)
                go_wp2_with (fail)
                go_roundw
                case rel => exact ⟨j + 1, by omega, by go_num, hn2.out, ⟨hbw.os, hbw.tape, hbw.output, hbw.size, hbw.block⟩⟩
                case measure => simp [intOf]; omega
            · obtain rfl : j = k := by omega
              have hnd2 : Hid ((er.take (j + 1)).Nodup) := take_succ_nodup hkm hnd.out (by rw [← hx.out]; exact hnx)
              clear hnx
              go_wp2_with (fail)
              go_roundw
              case rel => exact ⟨j + 1, by omega, by go_num, hnd2.out, hbw⟩
              case measure => simp [intOf]; omega
        · obtain rfl : k = er.length := by omega
          rw [List.take_length] at hnd
          have hE : Hid (recErr D word n er = 0) := recErr_ok hwn.out.1 hwn.out.2 hrg.out hnd
          clear hnd
          go_wp2_with (fail)
          go_ret
          exact ⟨by rw [hE.out]; rfl, hB1.trans (hbw.mono hB1.size)⟩

set_option maxRecDepth 100000 in
set_option maxHeartbeats 4000000 in
theorem Plus39_any (D : Desc) (n : Nat) (a b : List Int) (hn : n ≤ 64) (ha : a.length = n) (hb : b.length = n) (A A1 A2 : Option Addr) (c c1 c2 : Nat) (w : World) (hr1 : Rd w w.heap.size A1 a) (hr2 : Rd w w.heap.size A2 b) :
    Calls Try.prog 40 #[.agg #[.int .i64 D.p, .int .i64 D.m, .slice A D.mod.length c], .slice A1 n c1, .slice A2 n c2] w (Gives w.heap.size (plusL D n a b) w) := by
  obtain ⟨f, hf⟩ : ∃ f : Nat → Int, f = fun i => ci (eli D (a[i]?.getD 0) + eli D (b[i]?.getD 0)) := ⟨_, rfl⟩
  have hfin : Hid (plusL D n a b = lst n f) := by rw [hf]; rfl
  have hmk := mk_ints n (by omega)
  obtain ⟨s, hs⟩ : ∃ s, s = w.heap.size := ⟨_, rfl⟩
  obtain ⟨X, hX⟩ : ∃ X, X = w.alloc (.cells #[.int .i64 D.p, .int .i64 D.m, .slice A D.mod.length c] 24) := ⟨_, rfl⟩
  have hbX : Below w.heap.size w X := by rw [hX]; exact (Below.refl _ _).alloc (Nat.le_refl _) _
  have hXs : X.heap.size = s + 1 := by rw [hX, hs]; simp
  have hbxX : Bx X s D A D.mod.length c := by rw [hX, hs]; exact Bx.new w D A D.mod.length c _
  obtain ⟨Y, hY⟩ : ∃ Y, Y = X.alloc (.cells (Array.replicate n (Value.int .i64 0)) 3) := ⟨_, rfl⟩
  have hib : IB Y (s + 1) (upd n 0 f) := by rw [upd_zero, hY, ← hXs]; exact IB.newz X n
  have hbY : Below X.heap.size X Y := by rw [hY]; exact (Below.refl _ _).alloc (Nat.le_refl _) _
  have hBY := hbX.trans (hbY.mono hbX.size)
  have hbxY := hbxX.below hbY (by omega)
  have hwg : w.heap.size ≤ s + 1 := by omega
  have hws : s = w.heap.size := hs
  rw [← hws] at hr1 hr2
  replace ha := Lib.hid ha
  replace hb := Lib.hid hb
  replace hf := Lib.hid hf
  replace hX := Lib.hid hX
  replace hY := Lib.hid hY
  replace hws := Lib.hid hws
  clear hbxX hbX hbY
  unfold Gives
  go_enter Try.func40, Try.ntmps40
  go_wp2_with (fail)
  rw [← hX.out]
  rw [← hY.out]
  simp only [← hs]
  replace hs := Lib.hid hs
  replace hXs := Lib.hid hXs
  go_loopw [8] (fun iS wr => ∃ i : Nat, i ≤ n ∧ iS = .int .i64 i ∧ Hid (IB wr (s + 1) (upd n i f)) ∧ Hid (Bx wr s D A D.mod.length c) ∧ Below w.heap.size w wr) (fun iS _ => n - (intOf iS).toNat)
  case atStart => exact ⟨0, by omega, rfl, hib, hbxY, hBY⟩
  case round =>
    clear hib hbxY hBY hX hY
    obtain ⟨w2, rfl⟩ : ∃ w2 : World, w2 = wr := ⟨_, rfl⟩
    obtain ⟨i, hi, rfl, hib, hbx, hbw⟩ := hrel
    have hgl := hib.out.lt
    have hwl : s < w2.heap.size := by omega
    by_cases him : i < n
    · have i0 : (0 : Int) ≤ (i : Int) := by omega
      have i1 : (i : Int) < (n : Int) := by omega
      obtain ⟨b1, o1, rfl, hb1, hc1⟩ := hr1.at_ (k := i) (by rw [ha.out]; exact him)
      obtain ⟨b2, o2, rfl, hb2, hc2⟩ := hr2.at_ (k := i) (by rw [hb.out]; exact him)
      have hA := Add_any D (a[i]?.getD 0) (b[i]?.getD 0) A D.mod.length c w2.drew
      rw [show ci (eli D (a[i]?.getD 0) + eli D (b[i]?.getD 0)) = f i from by rw [hf.out]] at hA
      obtain ⟨y1, hy1⟩ : ∃ y1, y1 = a[i]?.getD 0 := ⟨_, rfl⟩
      obtain ⟨y2, hy2⟩ : ∃ y2, y2 = b[i]?.getD 0 := ⟨_, rfl⟩
      obtain ⟨v, hv⟩ : ∃ v, v = f i := ⟨_, rfl⟩
      rw [← hy1] at hc1 hA
      rw [← hy2] at hc2 hA
      rw [← hv] at hA
      have hd1 := (hbw.cell (p := ⟨b1, o1 + i, none⟩) (hws.out ▸ hb1)).trans hc1
      have hd2 := (hbw.cell (p := ⟨b2, o2 + i, none⟩) (hws.out ▸ hb2)).trans hc2
      have hb1' : b1 < w2.heap.size := by omega
      have hb2' : b2 < w2.heap.size := by omega
      have hcc := Lib.hid (show _ ∧ _ ∧ _ from ⟨hbx.out.cells, hd1, hd2⟩)
      have hkk : Hid (i < (upd n i f).length) := by unfold Hid; rw [upd_length]; exact him
      have hg1 : s + 1 ≠ b1 := by omega
      have hg2 : s + 1 ≠ b2 := by omega
      replace hA := Lib.hid hA
      replace hy1 := Lib.hid hy1
      replace hy2 := Lib.hid hy2
      replace hv := Lib.hid hv
      clear hc1 hc2 hd1 hd2
      obtain ⟨q0, q1, q2⟩ := hbx.out.cells
      go_wp2_with (fail)
      clear q0 q1 q2
      refine wp_region_held_drew (S := fun w' => (w'.cell? ⟨s, 0, none⟩ = some (.int .i64 D.p) ∧ w'.cell? ⟨s, 1, none⟩ = some (.int .i64 D.m) ∧ w'.cell? ⟨s, 2, none⟩ = some (.slice A D.mod.length c)) ∧ w'.cell? ⟨b1, o1 + i, none⟩ = some (.int .i64 y1) ∧ w'.cell? ⟨b2, o2 + i, none⟩ = some (.int .i64 y2)) (by kernel_rfl) (by (try dsimp only); exact hcc.out) (fun hHeld => ?_)
      refine wpAnyH_take (i := 0) (oi := ⟨_, _, _, _, _, _⟩) (v := ?_) rfl (by kernel_rfl) (by kernel_rfl) (by kernel_rfl) (fun _ _ _ h => h) (Or.inl ⟨by rfl, ?_⟩) (by assumption) ?_
      rotate_left
      · intro w hSw; (try dsimp only at hSw); go_simp; try with_reducible rfl
      try simp only [Act.put, List.setIfInBounds_toArray, List.set_cons_zero, List.set_cons_succ]
      refine wpAnyH_take (i := 1) (oi := ⟨_, _, _, _, _, _⟩) (v := ?_) rfl (by kernel_rfl) (by kernel_rfl) (by kernel_rfl) (fun _ _ _ h => h) (Or.inl ⟨by rfl, ?_⟩) (by assumption) ?_
      rotate_left
      · intro w hSw; (try dsimp only at hSw); go_simp; try with_reducible rfl
      try simp only [Act.put, List.setIfInBounds_toArray, List.set_cons_zero, List.set_cons_succ]
      refine wpAnyH_take (i := 2) (oi := ⟨_, _, _, _, _, _⟩) (v := ?_) rfl (by kernel_rfl) (by kernel_rfl) (by kernel_rfl) (fun _ _ _ h => h) (Or.inl ⟨by rfl, ?_⟩) (by assumption) ?_
      rotate_left
      · intro w hSw; (try dsimp only at hSw); go_simp; try with_reducible rfl
      try simp only [Act.put, List.setIfInBounds_toArray, List.set_cons_zero, List.set_cons_succ]
      refine wpAnyH_take (i := 3) (oi := ⟨_, _, _, _, _, _⟩) (v := ?_) rfl (by kernel_rfl) (by kernel_rfl) (by kernel_rfl) (fun _ _ _ h => h) (Or.inl ⟨by rfl, ?_⟩) (by assumption) ?_
      rotate_left
      · intro w hSw; (try dsimp only at hSw); go_simp; try with_reducible rfl
      try simp only [Act.put, List.setIfInBounds_toArray, List.set_cons_zero, List.set_cons_succ]
      refine wpAnyH_take (i := 4) (oi := ⟨_, _, _, _, _, _⟩) (v := ?_) rfl (by kernel_rfl) (by kernel_rfl) (by kernel_rfl) (fun _ _ _ h => h) (Or.inl ⟨by rfl, ?_⟩) (by assumption) ?_
      rotate_left
      · intro w hSw; (try dsimp only at hSw); go_simp; try with_reducible rfl
      try simp only [Act.put, List.setIfInBounds_toArray, List.set_cons_zero, List.set_cons_succ]
      refine wpAnyH_take (i := 5) (oi := ⟨_, _, _, _, _, _⟩) (v := ?_) rfl (by kernel_rfl) (by kernel_rfl) (by kernel_rfl) (fun _ _ _ h => h) (Or.inl ⟨by rfl, ?_⟩) (by assumption) ?_
      rotate_left
      · intro w hSw; (try dsimp only at hSw); go_simp; try with_reducible rfl
      try simp only [Act.put, List.setIfInBounds_toArray, List.set_cons_zero, List.set_cons_succ]
      refine wpAnyH_take (i := 6) (oi := ⟨_, _, _, _, _, _⟩) (v := ?_) rfl (by kernel_rfl) (by kernel_rfl) (by kernel_rfl) (fun _ _ _ h => h) (Or.inl ⟨by rfl, ?_⟩) (by assumption) ?_
      rotate_left
      · intro w hSw; (try dsimp only at hSw); go_simp; try with_reducible rfl
      try simp only [Act.put, List.setIfInBounds_toArray, List.set_cons_zero, List.set_cons_succ]
      refine wpAnyH_take (i := 7) (oi := ⟨_, _, _, _, _, _⟩) (v := ?_) rfl (by kernel_rfl) (by kernel_rfl) (by kernel_rfl) (fun _ _ _ h => h) (Or.inl ⟨by rfl, ?_⟩) (by assumption) ?_
      rotate_left
      · intro w hSw; (try dsimp only at hSw); go_simp; try with_reducible rfl
      try simp only [Act.put, List.setIfInBounds_toArray, List.set_cons_zero, List.set_cons_succ]
      refine wpAnyH_take (i := 8) (oi := ⟨_, _, _, _, _, _⟩) (v := ?_) rfl (by kernel_rfl) (by kernel_rfl) (by kernel_rfl) (fun _ _ _ h => h) (Or.inl ⟨by rfl, ?_⟩) (by assumption) ?_
      rotate_left
      · intro w hSw; (try dsimp only at hSw); go_simp; try with_reducible rfl
      try simp only [Act.put, List.setIfInBounds_toArray, List.set_cons_zero, List.set_cons_succ]
      refine wpAnyH_take (i := 9) (oi := ⟨_, _, _, _, _, _⟩) (v := ?_) rfl (by kernel_rfl) (by kernel_rfl) (by kernel_rfl) (fun _ _ _ h => h) (Or.inl ⟨by rfl, ?_⟩) (by assumption) ?_
      rotate_left
      · intro w hSw; (try dsimp only at hSw); go_simp; try with_reducible rfl
      try simp only [Act.put, List.setIfInBounds_toArray, List.set_cons_zero, List.set_cons_succ]
      refine wpAnyH_take (i := 10) (oi := ⟨_, _, _, _, _, _⟩) (v := ?_) rfl (by kernel_rfl) (by kernel_rfl) (by kernel_rfl) (fun _ _ _ h => h) (Or.inl ⟨by rfl, ?_⟩) (by assumption) ?_
      rotate_left
      · intro w hSw; (try dsimp only at hSw); go_simp; try with_reducible rfl
      try simp only [Act.put, List.setIfInBounds_toArray, List.set_cons_zero, List.set_cons_succ]
      refine wpAnyH_ready (rs := [11]) (by kernel_rfl) (by simp) ?_
      refine AllReadyH.cons (o := ⟨_, _, _, _, _, _⟩) rfl (fun K hK => ?_) AllReadyH.nil
      go_simp
      go_at_call 71
      (with_reducible refine (hA).out.mono ?_)
      rintro e w3 ⟨rfl, hx3⟩
      have hb3 := (Below.refl w2.heap.size w2).drew.trans hx3
      have hcc3 := Lib.hid (show _ ∧ _ ∧ _ from ⟨keep3 hb3 hwl hcc.out.1, (hb3.cell (p := ⟨b1, o1 + i, none⟩) hb1').trans hcc.out.2.1, (hb3.cell (p := ⟨b2, o2 + i, none⟩) hb2').trans hcc.out.2.2⟩)
      have hib3 := hib.out.below hb3 hgl
      have hcW := hib3.cell hkk.out
      have hfW := hib3.frozen i
      go_wp2_with (fail)
      refine hK.out _ _ (by (try dsimp only); exact hcc3.out) (fun hHeld => ?_)
      clear hK K
      try simp only [Act.put, List.setIfInBounds_toArray, List.set_cons_zero, List.set_cons_succ]
      refine wpAnyH_take (i := 12) (oi := ⟨_, _, _, _, _, _⟩) (v := ?_) rfl (by kernel_rfl) (by kernel_rfl) (by kernel_rfl) (fun _ _ _ h => h) (Or.inl ⟨by rfl, ?_⟩) (by assumption) ?_
      rotate_left
      · intro w hSw; (try dsimp only at hSw); go_simp; try with_reducible rfl
      try simp only [Act.put, List.setIfInBounds_toArray, List.set_cons_zero, List.set_cons_succ]
      refine wpAnyH_ready (rs := [13]) (by kernel_rfl) (by simp) ?_
      refine AllReadyH.cons (o := ⟨_, _, _, _, _, _⟩) rfl (fun K hK => ?_) AllReadyH.nil
      go_simp
      refine hK.out _ _ (by (try dsimp only); exact ⟨keep3 (B := s + 1) ((Below.refl _ _).setCell (p := ⟨s + 1, i, none⟩) (Nat.le_refl _) _) (Nat.lt_succ_self s) hcc3.out.1, (World.cell?_setCell_far _ _ _ _ hg1).trans hcc3.out.2.1, (World.cell?_setCell_far _ _ _ _ hg2).trans hcc3.out.2.2⟩) (fun hHeld => ?_)
      clear hK K
      try simp only [Act.put, List.setIfInBounds_toArray, List.set_cons_zero, List.set_cons_succ]
      refine wpAnyH_done (by kernel_rfl) ?_ _
      have hset := hib3.set_ i v
      rw [hv.out, upd_set, ← hv.out] at hset
      replace hset := Lib.hid hset
      have hbs : Below w.heap.size w (w3.setCell ⟨s + 1, i, none⟩ (.int .i64 v)) := (hbw.trans (hb3.mono hbw.size)).setCell (p := ⟨s + 1, i, none⟩) hwg _
      have hbx5 : Hid (Bx (w3.setCell ⟨s + 1, i, none⟩ (.int .i64 v)) s D A D.mod.length c) := keep3 (B := s + 1) ((Below.refl _ _).setCell (p := ⟨s + 1, i, none⟩) (Nat.le_refl _) _) (Nat.lt_succ_self s) hcc3.out.1
      clear hcW hfW
      go_wp2_with (fail)
      go_roundw
      case rel => exact ⟨i + 1, by omega, by go_num, hset, hbx5, hbs⟩
      case measure => simp [intOf]; omega
    · obtain rfl : i = n := by omega
      rw [upd_full] at hib
      go_wp2_with (fail)
      go_ret
      exact ⟨s + 1, by rw [hfin.out, lst_length]; rfl, hwg, by rw [hfin.out]; exact hib.out, hbw⟩
end Go.Proofs.Ytpflgmbcmfllgaa
