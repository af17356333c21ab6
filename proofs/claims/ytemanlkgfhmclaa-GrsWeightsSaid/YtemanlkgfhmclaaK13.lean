/- GrsWeights: the walk. -/
import Derived.Test.YtemanlkgfhmclaaK0
import Derived.Test.YtemanlkgfhmclaaGrsT
import Derived.Test.YtemanlkgfhmclaaNatS
import Derived.Test.YtemanlkgfhmclaaNatD
import Derived.IntWalk
namespace Go.Proofs.Ytemanlkgfhmclaa
open Go.RowKit Cw

set_option maxHeartbeats 2000000 in
theorem weightsL_bad (P M K : Int) (ml pts mul : List Int) (A A1 A2 : Option Addr) (c c1 c2 : Nat) (w : World) (hP : I64 P) (hM : I64 M) (hl : ml.length ≤ maxLen) (hr : Rd w w.heap.size A ml) (hb : ¬ Good P M ml) (_hK : I64 K) (h1 : pts.length ≤ c1 ∧ c1 ≤ maxLen) (_h2 : mul.length ≤ c2 ∧ c2 ≤ maxLen) (_hi : ∀ x ∈ pts, I64 x) (_hj : ∀ x ∈ mul, I64 x) (_hr1 : Rd w w.heap.size A1 pts) (_hr2 : Rd w w.heap.size A2 mul) :
    Calls Try.prog 3 #[.agg #[.int .i64 P, .int .i64 M, .slice A ml.length c, .int .i64 K, .slice A1 pts.length c1, .slice A2 mul.length c2]] w (LawEnd w) := by
  have hA := fun W => Lib.hid (alive_any W)
  have hW := fun W h => Lib.hid (gWeights_bad P M K ml pts mul A A1 A2 c c1 c2 W hP hM hl h hb)
  have hC := fun W h => Lib.hid (Chk18_bad P M K ml pts mul A A1 A2 c c1 c2 W hP hM hl h hb)
  have hm1 := h1.1; have hm2 := h1.2
  unfold maxLen at hm2
  have k0 := Lib.hid (alloc6 w (.int .i64 P) (.int .i64 M) (.slice A ml.length c) (.int .i64 K) (.slice A1 pts.length c1) (.slice A2 mul.length c2) 26)
  have hB : Below w.heap.size w (w.alloc (.cells #[.int .i64 P, .int .i64 M, .slice A ml.length c, .int .i64 K, .slice A1 pts.length c1, .slice A2 mul.length c2] 26)) := (Below.refl _ _).alloc (Nat.le_refl _) _
  clear hP hM hl hb
  go_enter Try.func3, Try.ntmps3
  go_wp2_with (fail)
  refine (hA _).out.mono ?_
  rintro e w1 ⟨rfl, hb1⟩
  have kk1 := Lib.hid (keep6 hb1 (by simp) k0.out)
  have hB1 := hB.trans (hb1.mono hB.size)
  obtain ⟨q0, q1, q2, q3, q4, q5⟩ := kk1.out
  have hlt1 : w.heap.size < w1.heap.size := by have := hb1.size; simp only [World.size_alloc] at this; omega
  by_cases h24 : 24 < pts.length
  · go_wp2_with (fail)
    go_ret
    exact ⟨rfl, hB1⟩
  go_wp2_with (fail)
  refine (hW w1 ((hr.below hB1).more hB1.size)).out.mono ?_
  rintro e w2 ⟨rfl, hb2⟩
  have kk2 := Lib.hid (keep6 hb2 hlt1 kk1.out)
  have hB2 := hB1.trans (hb2.mono hB1.size)
  clear q0 q1 q2 q3 q4 q5
  obtain ⟨q0, q1, q2, q3, q4, q5⟩ := kk2.out
  go_wp2_with (fail)
  refine (hC w2 ((hr.below hB2).more hB2.size)).out.mono ?_
  rintro e w3 ⟨rfl, hb3⟩
  go_wp2_with (fail)
  go_ret
  exact ⟨rfl, hB2.trans (hb3.mono hB2.size)⟩

set_option maxRecDepth 100000 in
set_option maxHeartbeats 8000000 in
theorem weightsL_good (D : Desc) (K : Int) (pts mul : List Int) (A A1 A2 : Option Addr) (c c1 c2 : Nat) (w : World) (hr : Rd w w.heap.size A (modL D)) (hb : Good D.p D.m (modL D)) (_hK : I64 K) (h1 : pts.length ≤ c1 ∧ c1 ≤ maxLen) (h2 : mul.length ≤ c2 ∧ c2 ≤ maxLen) (_hi : ∀ x ∈ pts, I64 x) (_hj : ∀ x ∈ mul, I64 x) (hr1 : Rd w w.heap.size A1 pts) (hr2 : Rd w w.heap.size A2 mul) :
    Calls Try.prog 3 #[.agg #[.int .i64 D.p, .int .i64 D.m, .slice A D.mod.length c, .int .i64 K, .slice A1 pts.length c1, .slice A2 mul.length c2]] w (LawEnd w) := by
  obtain ⟨u, hu⟩ := gen_of_good hb
  obtain ⟨F, rfl⟩ : ∃ F : FD, F.toDesc = D := ⟨mkFD D u hu, rfl⟩
  clear hu u
  have hA := fun W => Lib.hid (alive_any W)
  have hW := fun W h a b => Lib.hid (gWeights_D F.toDesc K pts mul A A1 A2 c c1 c2 W h hb a b h1.1 h1.2 (Nat.le_trans h2.1 h2.2))
  have hC := fun W h a b => Lib.hid (Chk18_D F.toDesc K pts mul A A1 A2 c c1 c2 W h hb a b (Nat.le_trans h2.1 h2.2))
  have hO := fun W => Lib.hid (Order_any F.p F.m A F.mod.length c W (by have := F.toDesc.p256; omega) (by have := F.toDesc.m8; omega))
  rw [qOf_D] at hO
  have hm1 := h1.1; have hm2 := h1.2
  unfold maxLen at hm2
  have k0 := Lib.hid (alloc6 w (.int .i64 F.p) (.int .i64 F.m) (.slice A F.mod.length c) (.int .i64 K) (.slice A1 pts.length c1) (.slice A2 mul.length c2) 26)
  have hB : Below w.heap.size w (w.alloc (.cells #[.int .i64 F.p, .int .i64 F.m, .slice A F.mod.length c, .int .i64 K, .slice A1 pts.length c1, .slice A2 mul.length c2] 26)) := (Below.refl _ _).alloc (Nat.le_refl _) _
  clear hb
  go_enter Try.func3, Try.ntmps3
  go_wp2_with (fail)
  refine (hA _).out.mono ?_
  rintro e w1 ⟨rfl, hb1⟩
  have kk1 := Lib.hid (keep6 hb1 (by simp) k0.out)
  have hB1 := hB.trans (hb1.mono hB.size)
  obtain ⟨q0, q1, q2, q3, q4, q5⟩ := kk1.out
  have hlt1 : w.heap.size < w1.heap.size := by have := hb1.size; simp only [World.size_alloc] at this; omega
  by_cases h24 : 24 < pts.length
  · go_wp2_with (fail)
    go_ret
    exact ⟨rfl, hB1⟩
  go_wp2_with (fail)
  (with_reducible refine (hW w1 ((hr.below hB1).more hB1.size) ((hr1.below hB1).more hB1.size) ((hr2.below hB1).more hB1.size)).out.mono ?_)
  rintro e w2 ⟨hb2, ⟨hz, rfl⟩ | ⟨hz, N, X, Al, cl, hN, rfl, hX, hul⟩⟩
  · have kk2 := Lib.hid (keep6 hb2 hlt1 kk1.out)
    have hB2 := hB1.trans (hb2.mono hB1.size)
    clear q0 q1 q2 q3 q4 q5
    obtain ⟨q0, q1, q2, q3, q4, q5⟩ := kk2.out
    have hzb : (gchkD F.toDesc K pts mul != 0) = true := by rw [bne_iff_ne]; exact hz
    replace hz := Lib.hid hz
    go_wp2_with (fail)
    (with_reducible refine (hC w2 ((hr.below hB2).more hB2.size) ((hr1.below hB2).more hB2.size) ((hr2.below hB2).more hB2.size)).out.mono ?_)
    rintro e w3 ⟨rfl, hb3⟩
    go_wp2_with (fail)
    go_ret
    exact ⟨by simp, hB2.trans (hb3.mono hB2.size)⟩
  have kk2 := Lib.hid (keep6 hb2 hlt1 kk1.out)
  have hB2 := hB1.trans (hb2.mono hB1.size)
  have hlt2 : w.heap.size < w2.heap.size := Nat.lt_of_lt_of_le hlt1 hb2.size
  clear q0 q1 q2 q3 q4 q5
  obtain ⟨q0, q1, q2, q3, q4, q5⟩ := kk2.out
  rw [hz] at hC
  obtain ⟨y1, y64, hlen, -, -, -, -, hK0, hK1⟩ := gchkD_zero hz
  obtain ⟨k, rfl⟩ := Int.eq_ofNat_of_zero_le hK0
  have hN1 : (pts.length : Int) + 1 = (N : Int) := by omega
  replace hz := Lib.hid hz
  replace hN := Lib.hid hN
  replace hlen := Lib.hid hlen
  go_wp2_with (fail)
  (with_reducible refine (hC w2 ((hr.below hB2).more hB2.size) ((hr1.below hB2).more hB2.size) ((hr2.below hB2).more hB2.size)).out.mono ?_)
  rintro e w3 ⟨rfl, hb3⟩
  have kk3 := Lib.hid (keep6 hb3 hlt2 kk2.out)
  have hB3 := hB2.trans (hb3.mono hB2.size)
  have hlt3 : w.heap.size < w3.heap.size := Nat.lt_of_lt_of_le hlt2 hb3.size
  have hul3 := hul.below hb3
  clear q0 q1 q2 q3 q4 q5
  obtain ⟨q0, q1, q2, q3, q4, q5⟩ := kk3.out
  go_wp2_with (fail)
  refine (hO w3).out.mono ?_
  rintro e w4 ⟨rfl, hb4⟩
  have kk4 := Lib.hid (keep6 hb4 hlt3 kk3.out)
  have hB4 := hB3.trans (hb4.mono hB3.size)
  have hlt4 : w.heap.size < w4.heap.size := Nat.lt_of_lt_of_le hlt3 hb4.size
  have hul4 := hul3.below hb4
  clear q0 q1 q2 q3 q4 q5
  obtain ⟨q0, q1, q2, q3, q4, q5⟩ := kk4.out
  have hq2 := F.toDesc.q2
  have hq256 := F.toDesc.q256
  obtain ⟨q, hq⟩ : ∃ q, q = F.q := ⟨_, rfl⟩
  rw [← hq] at hq2 hq256 ⊢
  have hwX : w1.heap.size ≤ X := hX
  have hr4 := (hr.below hB4).more hB4.size
  have hr14 := (hr1.below hB4).more hB4.size
  have hr24 := (hr2.below hB4).more hB4.size
  replace hq := Lib.hid hq
  clear hA hW hC hO hul hul3 kk1 kk2 kk3 hB1 hB2 hB3 hb1 hb2 hb3 hb4 hB k0 hr hr1 hr2
  go_wp2_with (fail)
  go_loop [53, 7] (fun i v => ∃ j : Nat, j ≤ k ∧ i = .int .i64 (j : Int) ∧ v = .int .i64 ((q ^ j : Nat) : Int) ∧ q ^ j ≤ 600) (fun i _ => k - (intOf i).toNat)
  case atStart => exact ⟨0, Nat.zero_le _, rfl, by simp, by simp⟩
  case round =>
    obtain ⟨j, hj, rfl, rfl, h600⟩ := hrel
    by_cases hjk : j < k
    · have hji : (j : Int) < (k : Int) := by omega
      obtain ⟨V1, hV1⟩ : ∃ V1, V1 = q ^ (j + 1) := ⟨_, rfl⟩
      have hle : V1 ≤ 600 * 256 := by rw [hV1, Nat.pow_succ]; exact Nat.mul_le_mul h600 hq256
      have hpw : ((q ^ j : Nat) : Int) * (q : Int) = (V1 : Int) := by rw [hV1, Nat.pow_succ]; push_cast; rfl
      have hwr : IntKind.i64.wrap (V1 : Int) = (V1 : Int) := IntWalk.i64_in _ (by omega)
      generalize q ^ j = V0 at hpw h600 ⊢
      replace hV1 := Lib.hid hV1
      by_cases h6 : 600 < V1
      · have h6i : (600 : Int) < (V1 : Int) := by omega
        clear h6 kk4 q0 q1 q2 q3 q4 q5
        go_wp2_with (fail)
        go_ret
        exact ⟨rfl, hB4⟩
      · have h6i : ¬ (600 : Int) < (V1 : Int) := by omega
        clear kk4 q0 q1 q2 q3 q4 q5
        go_wp2_with (fail)
        exact ⟨⟨j + 1, by omega, by go_num, by rw [hV1.out], by rw [← hV1.out]; omega⟩, by simp only [intOf]; omega⟩
    · obtain rfl : k = j := by omega
      clear hj hjk
      have hlen' := hlen.out
      have h64k : k ≤ 64 := by omega
      have hNn : N = pts.length + 1 := hN.out
      have hmkN := mk_ints N (by omega)
      have hmkK := mk_ints k (by omega)
      have hibN := IB.newz w4 N
      have hbN : Below w4.heap.size w4 (w4.alloc (.cells (Array.replicate N (Value.int .i64 0)) 3)) := (Below.refl _ _).alloc (Nat.le_refl _) _
      rw [show List.replicate N (0 : Int) = cwL F k pts 0 by rw [cwL_zero, hNn]] at hibN
      obtain ⟨C, hC⟩ : ∃ C, C = w4.heap.size := ⟨_, rfl⟩
      rw [← hC] at hibN hbN
      obtain ⟨T, hT⟩ : ∃ T, T = q ^ k := ⟨_, rfl⟩
      rw [← hT] at h600 ⊢
      have hTi : (q : Int) ^ k = (T : Int) := by rw [hT]; push_cast; rfl
      have hWd := fun W A3 j h ha hb hm => Lib.hid (Word18_any F.toDesc (k : Int) pts mul (msgL F.q k j) A A1 A2 A3 c c1 c2 k W h ha hb hm hlen' y64 (by rw [msgL_length]; unfold maxLen; omega))
      simp only [msgL_length, ← hq.out] at hWd
      have hwt := fun j => word_wt (F := F) hz.out k j
      rw [← hq.out] at hwt
      have hfull := fun (w : Nat) (hw : w ≤ pts.length) => cwL_full (F := F) hz.out hw
      simp only [← hq.out, show ((k : Int)).toNat = k from rfl] at hfull
      replace hlen' := Lib.hid hlen'
      replace hNn := Lib.hid hNn
      replace hT := Lib.hid hT
      replace hC := Lib.hid hC
      go_wp2_with (fail)
      rw [← hC.out]
      go_loopw [65] (fun i wr => ∃ j : Nat, j ≤ T ∧ i = .int .i64 (j : Int) ∧ IB wr C (cwL F k pts j) ∧ Below C w4 wr) (fun i _ => T - (intOf i).toNat)
      case atStart => exact ⟨0, Nat.zero_le _, rfl, hibN, hbN⟩
      case round =>
        clear hibN hbN
        obtain ⟨j, hj, rfl, hic, hb5⟩ := hrel
        obtain ⟨w5, rfl⟩ : ∃ w5 : World, w5 = wr := ⟨_, rfl⟩
        have hbC : Below w4.heap.size w4 w5 := hC.out ▸ hb5
        have kk5 := Lib.hid (keep6 hbC hlt4 kk4.out)
        have hlt5 : w.heap.size < w5.heap.size := Nat.lt_of_lt_of_le hlt4 hbC.size
        clear q0 q1 q2 q3 q4 q5
        obtain ⟨q0, q1, q2, q3, q4, q5⟩ := kk5.out
        by_cases hjT : j < T
        · have hji : (j : Int) < (T : Int) := by omega
          have hibM := IB.newz w5 k
          have hbM : Below w5.heap.size w5 (w5.alloc (.cells (Array.replicate k (Value.int .i64 0)) 3)) := (Below.refl _ _).alloc (Nat.le_refl _) _
          obtain ⟨M, hM⟩ : ∃ M, M = w5.heap.size := ⟨_, rfl⟩
          rw [← hM] at hibM hbM
          rw [lst_zero, show lst k (fun _ => (0 : Int)) = lst k (fun s => if s < 0 then ((j / q ^ s % q : Nat) : Int) else 0) from lst_congr fun _ _ => by rw [if_neg (by omega)]] at hibM
          replace hM := Lib.hid hM
          go_wp2_with (fail)
          rw [← hM.out]
          go_loopw [74, 11] (fun i v wr => ∃ t : Nat, t ≤ k ∧ i = .int .i64 (t : Int) ∧ v = .int .i64 ((j / q ^ t : Nat) : Int) ∧ IB wr M (lst k fun s => if s < t then ((j / q ^ s % q : Nat) : Int) else 0) ∧ Below M w5 wr) (fun i _ _ => k - (intOf i).toNat)
          case atStart => exact ⟨0, Nat.zero_le _, rfl, by rw [Nat.pow_zero, Nat.div_one], hibM, hbM⟩
          case round =>
            clear hibM hbM
            obtain ⟨t, ht, rfl, rfl, him, hb6⟩ := hrel
            obtain ⟨w6, rfl⟩ : ∃ w6 : World, w6 = wr := ⟨_, rfl⟩
            by_cases htk : t < k
            · have hti : (t : Int) < (k : Int) := by omega
              have ht0 : (0 : Int) ≤ (t : Int) := by omega
              have hset := him.set_ t ((j / q ^ t % q : Nat) : Int)
              rw [lst_set, show (lst k fun s => if s = t then ((j / q ^ t % q : Nat) : Int) else if s < t then ((j / q ^ s % q : Nat) : Int) else 0) = lst k (fun s => if s < t + 1 then ((j / q ^ s % q : Nat) : Int) else 0) from lst_congr fun s _ => by
                by_cases e : s = t
                · rw [if_pos e, if_pos (by omega), e]
                · rw [if_neg e]
                  by_cases hl : s < t
                  · rw [if_pos hl, if_pos (by omega)]
                  · rw [if_neg hl, if_neg (by omega)]] at hset
              have hcM := him.cell (i := t) (by rw [lst_length]; exact htk)
              have hfM := him.frozen t
              have hbS := hb6.setCell (p := ⟨M, t, none⟩) (Nat.le_refl _) (.int .i64 ((j / q ^ t % q : Nat) : Int))
              have hd1 : j / q ^ t / q = j / q ^ (t + 1) := by rw [Nat.pow_succ, Nat.div_div_eq_div_mul]
              have hX0l : j / q ^ t ≤ 600 := Nat.le_trans (Nat.div_le_self _ _) (by omega)
              obtain ⟨X0, hX0⟩ : ∃ X0, X0 = j / q ^ t := ⟨_, rfl⟩
              rw [← hX0] at hset hbS hd1 hX0l ⊢
              obtain ⟨Y0, hY0⟩ : ∃ Y0, Y0 = X0 % q := ⟨_, rfl⟩
              obtain ⟨Z0, hZ0⟩ : ∃ Z0, Z0 = X0 / q := ⟨_, rfl⟩
              rw [← hY0] at hset hbS
              rw [← hZ0] at hd1
              have hqz : ¬ (q : Int) = 0 := by omega
              have hm1 : (X0 : Int).tmod (q : Int) = (Y0 : Int) := by rw [hY0]; rfl
              have hm2 : (X0 : Int) % (q : Int) = (Y0 : Int) := by rw [hY0]; rfl
              have hd2 : (X0 : Int).tdiv (q : Int) = (Z0 : Int) := by rw [hZ0]; rfl
              have hd3 : (X0 : Int) / (q : Int) = (Z0 : Int) := by rw [hZ0]; rfl
              have hZl : Z0 ≤ 600 := by rw [hZ0]; exact Nat.le_trans (Nat.div_le_self _ _) hX0l
              have hYl : Y0 ≤ 600 := by rw [hY0]; exact Nat.le_trans (Nat.mod_le _ _) hX0l
              replace hset := Lib.hid hset
              replace hbS := Lib.hid hbS
              replace hX0 := Lib.hid hX0
              replace hY0 := Lib.hid hY0
              replace hZ0 := Lib.hid hZ0
              replace hd1 := Lib.hid hd1
              clear him hb6 q0 q1 q2 q3 q4 q5
              go_wp2_with (fail)
              exact ⟨⟨t + 1, by omega, by go_num, by rw [← hd1.out], hset.out, hbS.out⟩, by simp only [intOf]; omega⟩
            · obtain rfl : k = t := by omega
              rw [show (lst k fun s => if s < k then ((j / q ^ s % q : Nat) : Int) else 0) = msgL q k j from lst_congr fun s hs => by rw [if_pos hs]] at him
              have hb56 : Below w5.heap.size w5 w6 := hM.out ▸ hb6
              have hb46 := hbC.trans (hb56.mono hbC.size)
              have kk6 := Lib.hid (keep6 hb46 hlt4 kk4.out)
              have hW6 := hWd w6 (some ⟨M, 0, none⟩) j ((hr4.below hb46).more hb46.size) ((hr14.below hb46).more hb46.size) ((hr24.below hb46).more hb46.size) him.rd
              have hwtl := wt_le k j (pts.map (eli F.toDesc))
              rw [List.length_map] at hwtl
              have hset := fun W h => IB.set_ (w := W) (g := C) (l := cwL F k pts j) h (wtN k j (pts.map (eli F.toDesc))) (((cnt j fun c => wtN k c (pts.map (eli F.toDesc)) = wtN k j (pts.map (eli F.toDesc)) : Nat) : Int) + 1)
              rw [cwL_set] at hset
              have hget := cwL_get F k pts j hwtl
              have hwj := hwt j
              have hcn := cnt_le j fun c => wtN k c (pts.map (eli F.toDesc)) = wtN k j (pts.map (eli F.toDesc))
              generalize (cnt j fun c => wtN k c (pts.map (eli F.toDesc)) = wtN k j (pts.map (eli F.toDesc))) = cn at hset hget hcn
              generalize wtN k j (pts.map (eli F.toDesc)) = wt at hset hget hwtl hwj
              obtain ⟨wl, hwl⟩ : ∃ wl, wl = wordL F.toDesc pts mul (msgL q k j) := ⟨_, rfl⟩
              have hwll : wl.length = pts.length := by rw [hwl]; exact wordL_length _ _ _ _
              rw [← hwl] at hW6 hwj
              clear him hb6 q0 q1 q2 q3 q4 q5
              obtain ⟨q0, q1, q2, q3, q4, q5⟩ := kk6.out
              replace hwl := Lib.hid hwl
              replace hget := Lib.hid hget
              go_wp2_with (fail)
              (with_reducible refine hW6.out.mono ?_)
              rintro e w7 ⟨g7, rfl, hg7, hib7, hb7⟩
              have hWt := Weight18_any wl (some ⟨g7, 0, none⟩) wl.length w7 hib7.rd (by rw [hwll]; unfold maxLen; omega)
              rw [hwj, hwll] at hWt
              rw [hwll]
              have hb57 := hb56.trans (hb7.mono hb56.size)
              have hic7 := hic.below hb57 hic.lt
              have hcC := hic7.cell (i := wt) (by rw [cwL_length]; omega)
              have hfC := hic7.frozen wt
              have hs7 := Lib.hid (hset w7 hic7)
              rw [hget.out] at hcC
              have hbS := Lib.hid ((hb5.trans (hb57.mono (by have := hic.lt; omega))).setCell (p := ⟨C, wt, none⟩) (Nat.le_refl _) (.int .i64 ((cn : Int) + 1)))
              have hwi : (wt : Int) < (N : Int) := by omega
              have hwi0 : (0 : Int) ≤ (wt : Int) := by omega
              replace hWt := Lib.hid hWt
              replace hwj := Lib.hid hwj
              replace hwll := Lib.hid hwll
              clear hW6 hib7 hset hic7 hic q0 q1 q2 q3 q4 q5
              go_wp2_with (fail)
              refine hWt.out.mono ?_
              rintro e w8 ⟨rfl, rfl⟩
              go_wp2_with (fail)
              exact ⟨⟨j + 1, by omega, by go_num, hs7.out, hbS.out⟩, by simp only [intOf]; omega⟩
        · obtain rfl : T = j := by omega
          have hul5 := hul4.below hbC
          clear q0 q1 q2 q3 q4 q5
          have hji : ¬ (T : Int) < (T : Int) := by omega
          have hB5 := hB4.trans (hbC.mono hB4.size)
          have hOf := fun a W h => Lib.hid (Of1_any a W h)
          clear hWd hwt hmkN hmkK
          go_wp2_with (fail)
          go_loopw [99] (fun i wr => ∃ x : Nat, x ≤ N ∧ i = .int .i64 (x : Int) ∧ Below w5.heap.size w5 wr) (fun i _ => N - (intOf i).toNat)
          case atStart => exact ⟨0, Nat.zero_le _, rfl, Below.refl _ _⟩
          case round =>
            obtain ⟨x, hx, rfl, hb6⟩ := hrel
            obtain ⟨w6, rfl⟩ : ∃ w6 : World, w6 = wr := ⟨_, rfl⟩
            by_cases hxN : x < N
            · have hxi : (x : Int) < (N : Int) := by omega
              have hx0 : (0 : Int) ≤ (x : Int) := by omega
              have hulq : UB w6.drew X N Al (fun t => nL (aW q pts.length k t)) cl := by
                have := hul5.below hb6.drew
                rw [← hq.out] at this; exact this
              have hicq : IB w6.drew C (cwL F k pts T) := hic.below hb6.drew hic.lt
              have hcl := hulq.cell hxN
              have hrl := hulq.rd x hxN
              have hcC := hicq.cell (i := x) (by rw [cwL_length]; have := hNn.out; omega)
              rw [cwL_get F k pts T (by have := hNn.out; omega), hT.out, hfull x (by have := hNn.out; omega)] at hcC
              have hal : aW q pts.length k x ≤ 600 := by
                rw [← hfull x (by have := hNn.out; omega)]
                exact Nat.le_trans (cnt_le _ _) (by rw [← hT.out]; exact h600)
              rw [nL_length] at hcl
              generalize aW q pts.length k x = a at hcl hrl hcC hal
              clear hulq hicq
              have hw1 : IntKind.u64.wrap (a : Int) = (a : Int) := by simp [IntKind.wrap, IntKind.bits, IntKind.signed]; omega
              have kkq := Lib.hid (show w6.drew.cell? ⟨X, x, none⟩ = some (.slice (Al x) (nlen a) (cl x)) ∧ w6.drew.cell? ⟨C, x, none⟩ = some (.int .i64 (a : Int)) from ⟨hcl, hcC⟩)
              have hXq : X < w6.drew.heap.size := Nat.lt_of_lt_of_le hul5.lt hb6.size
              have hCq : C < w6.drew.heap.size := Nat.lt_of_lt_of_le hic.lt hb6.size
              have hO6 := hOf a w6.drew (by omega)
              have hb6q := hb6.drew
              have hsz6 : w5.heap.size ≤ w6.drew.heap.size := hb6.size
              clear hcl hcC hOf hul5 hic hb6
              go_wp2_with (fail)
              refine wp_region_held_drew (S := fun w' => w'.cell? ⟨X, x, none⟩ = some (.slice (Al x) (nlen a) (cl x)) ∧ w'.cell? ⟨C, x, none⟩ = some (.int .i64 (a : Int))) (by kernel_rfl) (by (try dsimp only); exact kkq.out) (fun hHeld => ?_)
              revert hHeld
              generalize w6.drew = wq at *
              intro hHeld
              refine wpAnyH_take (i := 0) (oi := ⟨_, _, _, _, _, _⟩) (v := ?_) rfl (by kernel_rfl) (by kernel_rfl) (by kernel_rfl) (fun _ _ _ h => h) (Or.inl ⟨by rfl, ?_⟩) (by assumption) ?_
              rotate_left
              · intro w hSw; (try dsimp only at hSw); go_simp; try with_reducible rfl
              try simp only [Act.put, List.setIfInBounds_toArray, List.set_cons_zero, List.set_cons_succ]
              refine wpAnyH_take (i := 1) (oi := ⟨_, _, _, _, _, _⟩) (v := ?_) rfl (by kernel_rfl) (by kernel_rfl) (by kernel_rfl) (fun _ _ _ h => h) (Or.inl ⟨by rfl, ?_⟩) (by assumption) ?_
              rotate_left
              · intro w hSw; (try dsimp only at hSw); go_simp; try with_reducible rfl
              try simp only [Act.put, List.setIfInBounds_toArray, List.set_cons_zero, List.set_cons_succ]
              refine wpAnyH_take (i := 2) (oi := ⟨_, _, _, _, _, _⟩) (v := ?_) rfl (by kernel_rfl) (by kernel_rfl) (by kernel_rfl) (fun _ _ _ h => h) (Or.inl ⟨by rfl, ?_⟩) (by assumption) ?_
              rotate_left
              · intro w hSw; (try dsimp only at hSw); go_simp; try with_reducible rfl
              try simp only [Act.put, List.setIfInBounds_toArray, List.set_cons_zero, List.set_cons_succ]
              refine wpAnyH_take (i := 3) (oi := ⟨_, _, _, _, _, _⟩) (v := ?_) rfl (by kernel_rfl) (by kernel_rfl) (by kernel_rfl) (fun _ _ _ h => h) (Or.inl ⟨by rfl, ?_⟩) (by assumption) ?_
              rotate_left
              · intro w hSw; (try dsimp only at hSw); go_simp; try with_reducible rfl
              try simp only [Act.put, List.setIfInBounds_toArray, List.set_cons_zero, List.set_cons_succ]
              refine wpAnyH_take (i := 4) (oi := ⟨_, _, _, _, _, _⟩) (v := ?_) rfl (by kernel_rfl) (by kernel_rfl) (by kernel_rfl) (fun _ _ _ h => h) (Or.inl ⟨by rfl, ?_⟩) (by assumption) ?_
              rotate_left
              · intro w hSw; (try dsimp only at hSw); go_simp; try with_reducible rfl
              try simp only [Act.put, List.setIfInBounds_toArray, List.set_cons_zero, List.set_cons_succ]
              refine wpAnyH_take (i := 5) (oi := ⟨_, _, _, _, _, _⟩) (v := ?_) rfl (by kernel_rfl) (by kernel_rfl) (by kernel_rfl) (fun _ _ _ h => h) (Or.inl ⟨by rfl, ?_⟩) (by assumption) ?_
              rotate_left
              · intro w hSw; (try dsimp only at hSw); go_simp; try with_reducible rfl
              try simp only [Act.put, List.setIfInBounds_toArray, List.set_cons_zero, List.set_cons_succ]
              refine wpAnyH_take (i := 6) (oi := ⟨_, _, _, _, _, _⟩) (v := ?_) rfl (by kernel_rfl) (by kernel_rfl) (by kernel_rfl) (fun _ _ _ h => h) (Or.inl ⟨by rfl, ?_⟩) (by assumption) ?_
              rotate_left
              · intro w hSw; (try dsimp only at hSw); go_simp; try with_reducible rfl
              try simp only [Act.put, List.setIfInBounds_toArray, List.set_cons_zero, List.set_cons_succ]
              refine wpAnyH_take (i := 7) (oi := ⟨_, _, _, _, _, _⟩) (v := ?_) rfl (by kernel_rfl) (by kernel_rfl) (by kernel_rfl) (fun _ _ _ h => h) (Or.inl ⟨by rfl, ?_⟩) (by assumption) ?_
              rotate_left
              · intro w hSw; (try dsimp only at hSw); go_simp; try with_reducible rfl
              try simp only [Act.put, List.setIfInBounds_toArray, List.set_cons_zero, List.set_cons_succ]
              refine wpAnyH_take (i := 8) (oi := ⟨_, _, _, _, _, _⟩) (v := ?_) rfl (by kernel_rfl) (by kernel_rfl) (by kernel_rfl) (fun _ _ _ h => h) (Or.inl ⟨by rfl, ?_⟩) (by assumption) ?_
              rotate_left
              · intro w hSw; (try dsimp only at hSw); go_simp; try with_reducible rfl
              try simp only [Act.put, List.setIfInBounds_toArray, List.set_cons_zero, List.set_cons_succ]
              refine wpAnyH_ready (rs := [9]) (by kernel_rfl) (by simp) ?_
              refine AllReadyH.cons (o := ⟨_, _, _, _, _, _⟩) rfl (fun K hK => ?_) AllReadyH.nil
              go_simp
              go_at_call 12
              (with_reducible refine (hO6).out.mono ?_)
              rintro e7 w7 ⟨v7, rfl, ho7, hb7⟩
              obtain ⟨A7, c7, rfl, hc7, hr7⟩ := ho7.num
              have kk7 := Lib.hid (show w7.cell? ⟨X, x, none⟩ = some (.slice (Al x) (nlen a) (cl x)) ∧ w7.cell? ⟨C, x, none⟩ = some (.int .i64 (a : Int)) from ⟨(hb7.cell (p := ⟨X, x, none⟩) hXq).trans kkq.out.1, (hb7.cell (p := ⟨C, x, none⟩) hCq).trans kkq.out.2⟩)
              have hS7 := Same1_eq (nL a) (Al x) A7 (cl x) c7 w7 ((hrl.below hb7).more hb7.size) hr7 (by rw [nL_length]; exact Nat.le_trans (nlen_le (show a < nB ^ 1 by rw [Nat.pow_one, nB_lit]; omega)) (by decide))
              rw [nL_length] at hS7
              replace hS7 := Lib.hid hS7
              go_wp2_with (fail)
              refine hK.out _ _ (by (try dsimp only); exact kk7.out) (fun hHeld => ?_)
              clear hK K
              try simp only [Act.put, List.setIfInBounds_toArray, List.set_cons_zero, List.set_cons_succ]
              refine wpAnyH_ready (rs := [10]) (by kernel_rfl) (by simp) ?_
              refine AllReadyH.cons (o := ⟨_, _, _, _, _, _⟩) rfl (fun K hK => ?_) AllReadyH.nil
              go_simp
              go_at_call 11
              (with_reducible refine (hS7).out.mono ?_)
              rintro e8 w8 ⟨rfl, hb8⟩
              go_wp2_with (fail)
              refine hK.out _ _ (by (try dsimp only); exact ⟨(hb8.cell (p := ⟨X, x, none⟩) (Nat.lt_of_lt_of_le hXq hb7.size)).trans kk7.out.1, (hb8.cell (p := ⟨C, x, none⟩) (Nat.lt_of_lt_of_le hCq hb7.size)).trans kk7.out.2⟩) (fun hHeld => ?_)
              clear hK K
              try simp only [Act.put, List.setIfInBounds_toArray, List.set_cons_zero, List.set_cons_succ]
              refine wpAnyH_take (i := 11) (oi := ⟨_, _, _, _, _, _⟩) (v := ?_) rfl (by kernel_rfl) (by kernel_rfl) (by kernel_rfl) (fun _ _ _ h => h) (Or.inl ⟨by rfl, ?_⟩) (by assumption) ?_
              rotate_left
              · intro w hSw; (try dsimp only at hSw); go_simp; try with_reducible rfl
              try simp only [Act.put, List.setIfInBounds_toArray, List.set_cons_zero, List.set_cons_succ]
              refine wpAnyH_done (by kernel_rfl) ?_ _
              go_wp2_with (fail)
              exact ⟨⟨x + 1, by omega, by go_num, hb6q.trans ((hb7.trans (hb8.mono hb7.size)).mono hsz6)⟩, by simp only [intOf]; omega⟩
            · obtain rfl : N = x := by omega
              go_wp2_with (fail)
              go_ret
              exact ⟨rfl, hB5.trans (hb6.mono hB5.size)⟩
end Go.Proofs.Ytemanlkgfhmclaa
