/- TowerCoordinates: the walk. -/
import Derived.Test.YteamndefbpdcjaaL01
import Derived.Test.YteamndefbpdcjaaIsB7
import Derived.Test.YteamndefbpdcjaaDot4
namespace Go.Proofs.Yteamndefbpdcjaa
open Go.RowKit Go.Shelf Cw
attribute [local go_sem] Oper.semAt_some

set_option maxHeartbeats 1000000 in
theorem coL_bad (P M : Int) (ml : List Int) (A : Option Addr) (c : Nat) (l1 : List Int) (A1 : Option Addr) (c1 : Nat) (x2 y2 : Int) (w : World) (hP : I64 P) (hM : I64 M) (hl : ml.length ≤ maxLen) (hr : Rd w w.heap.size A ml) (hb : ¬ Good P M ml) :
    Calls Try.prog 17 #[.agg #[.int .i64 P, .int .i64 M, .slice A ml.length c], .slice A1 l1.length c1, .agg #[.int .i64 x2, .int .i64 y2]] w (LawEnd w) := by
  have hA := fun W => Lib.hid (alive_any W)
  have hM := fun W (h : Rd W W.heap.size A ml) => Lib.hid (made_bad P M ml A c W hP.2 hM.2 hl h hb)
  have hB : Below w.heap.size w ((w.alloc (.cells #[.int .i64 P, .int .i64 M, .slice A ml.length c] 24)).alloc (.cells #[.int .i64 x2, .int .i64 y2] 31)) := (((Below.refl _ _).alloc (by simp) _).alloc (by simp) _)
  have k0 := Lib.hid (show (((w.alloc (.cells #[.int .i64 P, .int .i64 M, .slice A ml.length c] 24)).alloc (.cells #[.int .i64 x2, .int .i64 y2] 31))).cell? ⟨w.heap.size, 0, none⟩ = some (.int .i64 P) ∧ (((w.alloc (.cells #[.int .i64 P, .int .i64 M, .slice A ml.length c] 24)).alloc (.cells #[.int .i64 x2, .int .i64 y2] 31))).cell? ⟨w.heap.size, 1, none⟩ = some (.int .i64 M) ∧ (((w.alloc (.cells #[.int .i64 P, .int .i64 M, .slice A ml.length c] 24)).alloc (.cells #[.int .i64 x2, .int .i64 y2] 31))).cell? ⟨w.heap.size, 2, none⟩ = some (.slice A ml.length c) from by simp [go_sem])
  have p0 := Lib.hid (show (((w.alloc (.cells #[.int .i64 P, .int .i64 M, .slice A ml.length c] 24)).alloc (.cells #[.int .i64 x2, .int .i64 y2] 31))).cell? ⟨w.heap.size + 1, 0, none⟩ = some (.int .i64 x2) ∧ (((w.alloc (.cells #[.int .i64 P, .int .i64 M, .slice A ml.length c] 24)).alloc (.cells #[.int .i64 x2, .int .i64 y2] 31))).cell? ⟨w.heap.size + 1, 1, none⟩ = some (.int .i64 y2) from by simp [go_sem])
  clear hP hl hb
  go_enter Try.func17, Try.ntmps17
  go_wp2_with (fail)
  refine (hA _).out.mono ?_
  rintro e w1 ⟨rfl, hb1⟩
  have p1 := Lib.hid (keep2 hb1 (by simp) p0.out)
  obtain ⟨ka, kb, kc⟩ := keep3 hb1 (by simp; try omega) k0.out
  have hr1 := (((hr.below hB).more hB.size).below hb1).more hb1.size
  have hB1 := hB.trans (hb1.mono hB.size)
  have hM1 := hM _ hr1
  clear hM hA
  go_wp2_with (fail)
  refine hM1.out.mono ?_
  rintro e w2 ⟨rfl, hb2⟩
  obtain ⟨pa, pb⟩ := keep2 hb2 (by have := hb1.size; simp only [World.size_alloc] at this; omega) p1.out
  go_wp2_with (fail)
  go_quiet (fail)
  go_wp2_with (fail)
  go_ret
  exact ⟨rfl, below_drewN' (hB1.trans (hb2.mono hB1.size)) _⟩

set_option maxRecDepth 100000 in
set_option maxHeartbeats 2000000 in
theorem coL_good (D : Desc) (A : Option Addr) (c : Nat) (l1 : List Int) (A1 : Option Addr) (c1 : Nat) (x2 y2 : Int) (w : World) (hlc : l1.length ≤ c1) (hlm : c1 ≤ maxLen) (hrl : Rd w w.heap.size A1 l1) (hr : Rd w w.heap.size A (modL D)) (hb : Good D.p D.m (modL D)) :
    Calls Try.prog 17 #[.agg #[.int .i64 D.p, .int .i64 D.m, .slice A D.mod.length c], .slice A1 l1.length c1, .agg #[.int .i64 x2, .int .i64 y2]] w (LawEnd w) := by
  have hp2 := D.m8; have hm1 := D.m1
  have hA := fun W => Lib.hid (alive_any W)
  have hM := fun W (h : Rd W W.heap.size A (modL D)) => Lib.hid (made_good D A c W h hb)
  have hB : Below w.heap.size w ((w.alloc (.cells #[.int .i64 D.p, .int .i64 D.m, .slice A D.mod.length c] 24)).alloc (.cells #[.int .i64 x2, .int .i64 y2] 31)) := (((Below.refl _ _).alloc (by simp) _).alloc (by simp) _)
  have k0 := Lib.hid (show (((w.alloc (.cells #[.int .i64 D.p, .int .i64 D.m, .slice A D.mod.length c] 24)).alloc (.cells #[.int .i64 x2, .int .i64 y2] 31))).cell? ⟨w.heap.size, 0, none⟩ = some (.int .i64 D.p) ∧ (((w.alloc (.cells #[.int .i64 D.p, .int .i64 D.m, .slice A D.mod.length c] 24)).alloc (.cells #[.int .i64 x2, .int .i64 y2] 31))).cell? ⟨w.heap.size, 1, none⟩ = some (.int .i64 D.m) ∧ (((w.alloc (.cells #[.int .i64 D.p, .int .i64 D.m, .slice A D.mod.length c] 24)).alloc (.cells #[.int .i64 x2, .int .i64 y2] 31))).cell? ⟨w.heap.size, 2, none⟩ = some (.slice A D.mod.length c) from by simp [go_sem])
  have p0 := Lib.hid (show (((w.alloc (.cells #[.int .i64 D.p, .int .i64 D.m, .slice A D.mod.length c] 24)).alloc (.cells #[.int .i64 x2, .int .i64 y2] 31))).cell? ⟨w.heap.size + 1, 0, none⟩ = some (.int .i64 x2) ∧ (((w.alloc (.cells #[.int .i64 D.p, .int .i64 D.m, .slice A D.mod.length c] 24)).alloc (.cells #[.int .i64 x2, .int .i64 y2] 31))).cell? ⟨w.heap.size + 1, 1, none⟩ = some (.int .i64 y2) from by simp [go_sem])
  go_enter Try.func17, Try.ntmps17
  go_wp2_with (fail)
  refine (hA _).out.mono ?_
  rintro e w1 ⟨rfl, hb1⟩
  obtain ⟨ka, kb, kc⟩ := keep3 hb1 (by simp; try omega) k0.out
  have p1 := Lib.hid (keep2 hb1 (by simp) p0.out)
  have hr1 := (((hr.below hB).more hB.size).below hb1).more hb1.size
  have hB1 := hB.trans (hb1.mono hB.size)
  have hM1 := hM _ hr1
  clear hM hA
  go_wp2_with (fail)
  refine hM1.out.mono ?_
  rintro e w2 ⟨hb2, ⟨g, F, rfl, rfl, hgl, hg⟩ | ⟨-, rfl⟩⟩
  rotate_left
  · obtain ⟨pa, pb⟩ := keep2 hb2 (by have := hb1.size; simp only [World.size_alloc] at this; omega) p1.out
    go_wp2_with (fail)
    go_quiet (fail)
    go_wp2_with (fail)
    go_ret
    exact ⟨rfl, below_drewN' (hB1.trans (hb2.mono hB1.size)) _⟩
  have hlt2 : w.heap.size < w2.heap.size := by have := hb1.size; have := hb2.size; simp only [World.size_alloc] at *; omega
  have hlt2b : w.heap.size + 1 < w2.heap.size := by have := hb1.size; have := hb2.size; simp only [World.size_alloc] at *; omega
  have kk2 := Lib.hid (keep3 hb2 (by have := hb1.size; simp only [World.size_alloc] at this; omega) ⟨ka, kb, kc⟩)
  have pk2 := Lib.hid (keep2 hb2 (by have := hb1.size; simp only [World.size_alloc] at this; omega) p1.out)
  have kp2 : Hid (w2.cell? ⟨w.heap.size, 0, none⟩ = some (.int .i64 F.p) ∧ w2.cell? ⟨w.heap.size, 1, none⟩ = some (.int .i64 F.m) ∧ w2.cell? ⟨w.heap.size, 2, none⟩ = some (.slice A F.mod.length c) ∧ w2.cell? ⟨w.heap.size + 1, 0, none⟩ = some (.int .i64 x2) ∧ w2.cell? ⟨w.heap.size + 1, 1, none⟩ = some (.int .i64 y2)) := Lib.hid (⟨kk2.out.1, kk2.out.2.1, kk2.out.2.2, pk2.out.1, pk2.out.2⟩ : _ ∧ _ ∧ _ ∧ _ ∧ _)
  have hl2 := hlt2b
  have hB2 := hB1.trans (hb2.mono hB1.size)
  have hr2 := (hr1.below hb2).more hb2.size
  have hg2 := hg
  clear ka kb kc hr1 hM1 hb hb1 hB hB1 k0 hr kk2 hlt2 hb2 hg pk2 p0 p1 hlt2b
  have hv2 := (hrl.below hB2).more hB2.size
  have hl' : l1.length ≤ maxLen := Nat.le_trans hlc hlm
  unfold maxLen at hlm
  clear hrl
  go_wp2_with (fail)
  go_region_held3 (fun w' => w'.cell? ⟨w.heap.size, 0, none⟩ = some (.int .i64 F.p) ∧ w'.cell? ⟨w.heap.size, 1, none⟩ = some (.int .i64 F.m) ∧ w'.cell? ⟨w.heap.size, 2, none⟩ = some (.slice A F.mod.length c) ∧ w'.cell? ⟨w.heap.size + 1, 0, none⟩ = some (.int .i64 x2) ∧ w'.cell? ⟨w.heap.size + 1, 1, none⟩ = some (.int .i64 y2)) (first | exact kp2.out) (fail)
  have hv3 : Rd w2.drew w2.drew.heap.size A1 l1 := hv2.drew
  clear hv2
  have hg3 : GF w2.drew w2.drew.heap.size g F := hg2.drew
  have hr3 : Rd w2.drew w2.drew.heap.size A (modL F.toDesc) := hr2.drew
  have kp3 : Hid (w2.drew.cell? ⟨w.heap.size, 0, none⟩ = some (.int .i64 F.p) ∧ w2.drew.cell? ⟨w.heap.size, 1, none⟩ = some (.int .i64 F.m) ∧ w2.drew.cell? ⟨w.heap.size, 2, none⟩ = some (.slice A F.mod.length c) ∧ w2.drew.cell? ⟨w.heap.size + 1, 0, none⟩ = some (.int .i64 x2) ∧ w2.drew.cell? ⟨w.heap.size + 1, 1, none⟩ = some (.int .i64 y2)) := kp2
  have hl3 : _ < w2.drew.heap.size := hl2
  have hB3 := hB2.drew
  clear hg2 hr2 kp2 hB2
  generalize w2.drew = w3 at *
  by_cases hl12 : l1.length ≤ 12
  · have hd12 : decide (12 < (l1.length : Int)) = false := by simp; omega
    by_cases hdv : divB F.m x2 = true
    · obtain ⟨d, rfl, hk1, hkm, hkd⟩ := divB_nat hdv
      have hV := fun W => Lib.hid (Divides_any F.toDesc d A F.mod.length c W)
      rw [hdv] at hV
      have hR := fun W a b => IsB7_any F l1 d A A1 c c1 W a b hl'
      by_cases hbp : BasP F l1 d
      · rw [basE_ok hdv hbp] at hR
        replace hR := fun W a b => Lib.hid (hR W a b)
        obtain ⟨hln, hI⟩ := hbp
        obtain ⟨n, hn⟩ : ∃ n, n = l1.length := ⟨_, rfl⟩
        have hP := fun W a b => Lib.hid (tCoor_yes F l1 d n y2 A1 c1 g W a b hk1 hkm hkd (by rw [hn]; exact hln.symm) hn.symm (by rw [hn, hln]; exact hI))
        have hIn := fun y W hr => In7_any F y d A c W hr (by omega)
        have hn12 : n ≤ 12 := by omega
        have hX := fun W => Lib.hid (In_any F.toDesc y2 A F.mod.length c W)
        rw [← hn] at hR hd12
        replace hln := Lib.hid hln
        clear hdv hI
        rw [← hn]
        replace hn := Lib.hid hn
        have hv3' := hv3
        obtain ⟨q0, q1, q2, q3, q4⟩ := kp3.out
        go_wp2_with (fail)
        (with_reducible refine (hP w3 hg3 hv3).out.mono ?_)
        rintro e w4 ⟨hb4, b, cc, rfl, hib4, hsub, hsum⟩
        have hs4 : w3.heap.size ≤ w4.heap.size := hb4.size
        have hg4 := (hg3.below hb4).more hb4.size
        have hr4 := (hr3.below hb4).more hb4.size
        have kp4 := Lib.hid (keep5 hb4 (Nat.lt_of_succ_lt hl3) hl3 kp3.out)
        have hl4 := Nat.lt_of_lt_of_le hl3 hs4
        have hB4 := (hB3).trans (hb4.mono hB3.size)
        have hv4 := (hv3'.below hb4).more hb4.size
        clear q0 q1 q2 q3 q4 hg3 hr3 hB3 kp3 hb4
        have hD := fun W a a1 a2 => Dot4_any F.toDesc (rowL F.toDesc n cc) l1 n (rowL_length _ _ _) hn.out.symm A (some ⟨b, 0, none⟩) A1 c n c1 W a a1 a2 (by unfold maxLen; omega)
        rw [show (rsum n fun i => eli F.toDesc ((rowL F.toDesc n cc)[i]?.getD 0) * eli F.toDesc (l1[i]?.getD 0)) = eli F.toDesc y2 from by
          rw [← hsum]; exact rsum_congr fun i hi => by rw [rowL_get _ _ hi, eli_ci]; rfl] at hD
        replace hsub := Lib.hid hsub
        replace hsum := Lib.hid hsum
        clear hv3 hv3'
        obtain ⟨q0, q1, q2, q3, q4⟩ := kp4.out
        go_wp2_with (fail)
        (with_reducible refine (hV w4).out.mono ?_)
        rintro e w5 ⟨rfl, hb5⟩
        have hs5 : w4.heap.size ≤ w5.heap.size := hb5.size
        have hg5 := (hg4.below hb5).more hb5.size
        have hr5 := (hr4.below hb5).more hb5.size
        have kp5 := Lib.hid (keep5 hb5 (Nat.lt_of_succ_lt hl4) hl4 kp4.out)
        have hl5 := Nat.lt_of_lt_of_le hl4 hs5
        have hB5 := (hB4).trans (hb5.mono hB4.size)
        have hv5 := (hv4.below hb5).more hb5.size
        have hib5 := hib4.below hb5 hib4.lt
        clear q0 q1 q2 q3 q4 hg4 hr4 hB4 kp4 hb5
        obtain ⟨q0, q1, q2, q3, q4⟩ := kp5.out
        go_wp2_with (fail)
        (with_reducible refine (hR w5 hr5 hv5).out.mono ?_)
        rintro e w6 ⟨rfl, hb6⟩
        have hs6 : w5.heap.size ≤ w6.heap.size := hb6.size
        have hg6 := (hg5.below hb6).more hb6.size
        have hr6 := (hr5.below hb6).more hb6.size
        have kp6 := Lib.hid (keep5 hb6 (Nat.lt_of_succ_lt hl5) hl5 kp5.out)
        have hl6 := Nat.lt_of_lt_of_le hl5 hs6
        have hB6 := (hB5).trans (hb6.mono hB5.size)
        have hv6 := (hv5.below hb6).more hb6.size
        have hib6 := hib5.below hb6 hib5.lt
        clear q0 q1 q2 q3 q4 hg5 hr5 hB5 kp5 hb6
        clear hv4 hv5 hib4 hib5
        go_wp2_with (fail)
        go_loopw [73] (fun i wr => ∃ k : Nat, k ≤ n ∧ i = .int .i64 k ∧ Below w6.heap.size w6 wr) (fun i _ => n - (intOf i).toNat)
        case atStart => exact ⟨0, by omega, rfl, Below.refl _ _⟩
        case round =>
          obtain ⟨w8, rfl⟩ : ∃ w8 : World, w8 = wr := ⟨_, rfl⟩
          obtain ⟨k, hk, rfl, hb8⟩ := hrel
          have hg8 := (hg6.below hb8).more hb8.size
          have hr8 := (hr6.below hb8).more hb8.size
          have kp8 := Lib.hid (keep5 hb8 (Nat.lt_of_succ_lt hl6) hl6 kp6.out)
          have hl8 := Nat.lt_of_lt_of_le hl6 hb8.size
          have hB8 := hB6.trans (hb8.mono hB6.size)
          have hib8 := hib6.below hb8 hib6.lt
          have hv8 := (hv6.below hb8).more hb8.size
          by_cases hkn : k < n
          · have hck := hib8.cell (i := k) (by rw [rowL_length]; exact hkn)
            rw [rowL_get _ _ hkn] at hck
            have hIs := fun W => Is_any F.toDesc (ci (cc k)) A F.mod.length c W
            rw [decide_eq_true (show 0 ≤ ci (cc k) ∧ ci (cc k) < F.q from ⟨ci_nonneg _, ci_lt _⟩)] at hIs
            have hIn2 := hIn (ci (cc k))
            rw [eli_ci, decide_eq_true (show frob d (cc k) = cc k from hsub.out k hkn)] at hIn2
            obtain ⟨y, hy⟩ : ∃ y, y = ci (cc k) := ⟨_, rfl⟩
            rw [← hy] at hck hIs hIn2
            replace hy := Lib.hid hy
            replace hIs := fun W => Lib.hid (hIs W)
            replace hIn2 := fun W a => Lib.hid (hIn2 W a)
            obtain ⟨q0, q1, q2, q3, q4⟩ := kp8.out
            go_wp2_with (fail)
            (with_reducible refine (hIs w8).out.mono ?_)
            rintro e w9 ⟨rfl, hb9⟩
            have hs9 : w8.heap.size ≤ w9.heap.size := hb9.size
            have hg9 := (hg8.below hb9).more hb9.size
            have hr9 := (hr8.below hb9).more hb9.size
            have kp9 := Lib.hid (keep5 hb9 (Nat.lt_of_succ_lt hl8) hl8 kp8.out)
            have hl9 := Nat.lt_of_lt_of_le hl8 hs9
            have hB9 := (hB8).trans (hb9.mono hB8.size)
            have hb69 := hb8.trans (hb9.mono hb8.size)
            clear q0 q1 q2 q3 q4 hg8 hr8 hB8 kp8 hb9
            obtain ⟨q0, q1, q2, q3, q4⟩ := kp9.out
            go_wp2_with (fail)
            (with_reducible refine (hIn2 w9 hr9).out.mono ?_)
            rintro e w10 ⟨rfl, hb10⟩
            have hs10 : w9.heap.size ≤ w10.heap.size := hb10.size
            have hg10 := (hg9.below hb10).more hb10.size
            have hr10 := (hr9.below hb10).more hb10.size
            have kp10 := Lib.hid (keep5 hb10 (Nat.lt_of_succ_lt hl9) hl9 kp9.out)
            have hl10 := Nat.lt_of_lt_of_le hl9 hs10
            have hB10 := (hB9).trans (hb10.mono hB9.size)
            have hb610 := hb69.trans (hb10.mono hb69.size)
            clear q0 q1 q2 q3 q4 hg9 hr9 hB9 kp9 hb10
            clear hck
            go_wp2_with (fail)
            go_roundw
            case rel => exact ⟨k + 1, by omega, by go_num, hb610⟩
            case measure => simp [intOf]; omega
          · obtain rfl : k = n := by omega
            have hrd : Rd w8.drew w8.drew.heap.size A (modL F.toDesc) := hr8.drew
            have hvd : Rd w8.drew w8.drew.heap.size A1 l1 := hv8.drew
            have hid : Rd w8.drew w8.drew.heap.size (some ⟨b, 0, none⟩) (rowL F.toDesc k cc) := hib8.rd.drew
            have hD8 := Lib.hid (hD w8.drew hrd hid hvd)
            go_wp2_with (fail)
            go_region_held3 (fun w' => w'.cell? ⟨w.heap.size, 0, none⟩ = some (.int .i64 F.p) ∧ w'.cell? ⟨w.heap.size, 1, none⟩ = some (.int .i64 F.m) ∧ w'.cell? ⟨w.heap.size, 2, none⟩ = some (.slice A F.mod.length c) ∧ w'.cell? ⟨w.heap.size + 1, 0, none⟩ = some (.int .i64 d) ∧ w'.cell? ⟨w.heap.size + 1, 1, none⟩ = some (.int .i64 y2)) (first | exact kp8.out | exact kp9.out | exact kp10.out)
              (first
                | (go_at_call 54; (with_reducible refine (hD8).out.mono ?_); rintro e w9 ⟨rfl, hb9⟩; have hs9 : w8.heap.size ≤ w9.heap.size := hb9.size; have hg9 := (hg8.drew.below hb9).more hb9.size; have hr9 := (hr8.drew.below hb9).more hb9.size; have kp9 := Lib.hid (keep5 hb9 (Nat.lt_of_succ_lt hl8) hl8 kp8.out); have hl9 := Nat.lt_of_lt_of_le hl8 hs9; have hB9 := (hB8.drew).trans (hb9.mono hB8.size))
                | (go_at_call 26; (with_reducible refine (hX w9).out.mono ?_); rintro e w10 ⟨rfl, hb10⟩; have hs10 : w9.heap.size ≤ w10.heap.size := hb10.size; have hg10 := (hg9.below hb10).more hb10.size; have hr10 := (hr9.below hb10).more hb10.size; have kp10 := Lib.hid (keep5 hb10 (Nat.lt_of_succ_lt hl9) hl9 kp9.out); have hl10 := Nat.lt_of_lt_of_le hl9 hs10; have hB10 := (hB9).trans (hb10.mono hB9.size)))
            clear hg8 hr8 hB8 kp8 hb9 hg9 hr9 hB9 kp9 hb10
            go_wp2_with (fail)
            go_ret
            exact ⟨by simp, hB10⟩
      · rw [basE_bad hdv hbp] at hR
        have hP := fun W a b => Lib.hid (tCoor_no F l1 d y2 9 A1 c1 g W a b hl' (basE_bad hdv hbp) (by decide))
        replace hR := fun W a b => Lib.hid (hR W a b)
        clear hdv hbp
        have hv3' := hv3
        obtain ⟨q0, q1, q2, q3, q4⟩ := kp3.out
        go_wp2_with (fail)
        (with_reducible refine (hP w3 hg3 hv3).out.mono ?_)
        rintro e w4 ⟨rfl, hb4⟩
        have hs4 : w3.heap.size ≤ w4.heap.size := hb4.size
        have hg4 := (hg3.below hb4).more hb4.size
        have hr4 := (hr3.below hb4).more hb4.size
        have kp4 := Lib.hid (keep5 hb4 (Nat.lt_of_succ_lt hl3) hl3 kp3.out)
        have hl4 := Nat.lt_of_lt_of_le hl3 hs4
        have hB4 := (hB3).trans (hb4.mono hB3.size)
        have hv4 := (hv3'.below hb4).more hb4.size
        clear q0 q1 q2 q3 q4 hg3 hr3 hB3 kp3 hb4
        obtain ⟨q0, q1, q2, q3, q4⟩ := kp4.out
        go_wp2_with (fail)
        (with_reducible refine (hV w4).out.mono ?_)
        rintro e w5 ⟨rfl, hb5⟩
        have hs5 : w4.heap.size ≤ w5.heap.size := hb5.size
        have hg5 := (hg4.below hb5).more hb5.size
        have hr5 := (hr4.below hb5).more hb5.size
        have kp5 := Lib.hid (keep5 hb5 (Nat.lt_of_succ_lt hl4) hl4 kp4.out)
        have hl5 := Nat.lt_of_lt_of_le hl4 hs5
        have hB5 := (hB4).trans (hb5.mono hB4.size)
        have hv5 := (hv4.below hb5).more hb5.size
        clear q0 q1 q2 q3 q4 hg4 hr4 hB4 kp4 hb5
        obtain ⟨q0, q1, q2, q3, q4⟩ := kp5.out
        go_wp2_with (fail)
        (with_reducible refine (hR w5 hr5 hv5).out.mono ?_)
        rintro e w6 ⟨rfl, hb6⟩
        have hs6 : w5.heap.size ≤ w6.heap.size := hb6.size
        have hg6 := (hg5.below hb6).more hb6.size
        have hr6 := (hr5.below hb6).more hb6.size
        have kp6 := Lib.hid (keep5 hb6 (Nat.lt_of_succ_lt hl5) hl5 kp5.out)
        have hl6 := Nat.lt_of_lt_of_le hl5 hs6
        have hB6 := (hB5).trans (hb6.mono hB5.size)
        clear q0 q1 q2 q3 q4 hg5 hr5 hB5 kp5 hb6
        go_wp2_with (fail)
        go_ret
        exact ⟨rfl, hB6⟩
    · rw [Bool.not_eq_true] at hdv
      have hV := fun W => Lib.hid (Divides_any F.toDesc x2 A F.mod.length c W)
      rw [hdv] at hV
      have hP := fun W a b => Lib.hid (tCoor_no F l1 x2 y2 6 A1 c1 g W a b hl' (basE_no hdv) (by decide))
      clear hdv
      obtain ⟨q0, q1, q2, q3, q4⟩ := kp3.out
      go_wp2_with (fail)
      (with_reducible refine (hP w3 hg3 hv3).out.mono ?_)
      rintro e w4 ⟨rfl, hb4⟩
      have hs4 : w3.heap.size ≤ w4.heap.size := hb4.size
      have hg4 := (hg3.below hb4).more hb4.size
      have hr4 := (hr3.below hb4).more hb4.size
      have kp4 := Lib.hid (keep5 hb4 (Nat.lt_of_succ_lt hl3) hl3 kp3.out)
      have hl4 := Nat.lt_of_lt_of_le hl3 hs4
      have hB4 := (hB3).trans (hb4.mono hB3.size)
      clear q0 q1 q2 q3 q4 hg3 hr3 hB3 kp3 hb4
      obtain ⟨q0, q1, q2, q3, q4⟩ := kp4.out
      go_wp2_with (fail)
      (with_reducible refine (hV w4).out.mono ?_)
      rintro e w5 ⟨rfl, hb5⟩
      have hs5 : w4.heap.size ≤ w5.heap.size := hb5.size
      have hg5 := (hg4.below hb5).more hb5.size
      have hr5 := (hr4.below hb5).more hb5.size
      have kp5 := Lib.hid (keep5 hb5 (Nat.lt_of_succ_lt hl4) hl4 kp4.out)
      have hl5 := Nat.lt_of_lt_of_le hl4 hs5
      have hB5 := (hB4).trans (hb5.mono hB4.size)
      clear q0 q1 q2 q3 q4 hg4 hr4 hB4 kp4 hb5
      go_wp2_with (fail)
      go_ret
      exact ⟨rfl, hB5⟩
  · have hd12 : decide (12 < (l1.length : Int)) = true := by simp; omega
    obtain ⟨q0, q1, q2, q3, q4⟩ := kp3.out
    go_wp2_with (fail)
    go_ret
    exact ⟨rfl, hB3⟩
end Go.Proofs.Yteamndefbpdcjaa
