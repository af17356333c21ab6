/- GrsPunctures: the walk over a field. -/
import Derived.Test.YtnbkmkeiophjoaaK10E
namespace Go.Proofs.Ytnbkmkeiophjoaa
open Go.RowKit Cw
attribute [local go_sem] Oper.semAt_some

set_option maxRecDepth 100000 in
set_option maxHeartbeats 8000000 in
theorem puncturesL_good (D : Desc) (K : Int) (pts mul : List Int) (A A1 A2 : Option Addr) (c c1 c2 : Nat) (l1 : List Int) (Aa : Option Addr) (ca : Nat) (w : World) (hr : Rd w w.heap.size A (modL D)) (hb : Good D.p D.m (modL D)) (_hK : I64 K) (h1 : pts.length ≤ c1 ∧ c1 ≤ maxLen) (h2 : mul.length ≤ c2 ∧ c2 ≤ maxLen) (_hi : ∀ x ∈ pts, I64 x) (_hj : ∀ x ∈ mul, I64 x) (hr1 : Rd w w.heap.size A1 pts) (hr2 : Rd w w.heap.size A2 mul)
    (h3 : l1.length ≤ ca) (h3' : ca ≤ maxLen) (hra : Rd w w.heap.size Aa l1) :
    Calls Try.prog 14 #[.agg #[.int .i64 D.p, .int .i64 D.m, .slice A D.mod.length c, .int .i64 K, .slice A1 pts.length c1, .slice A2 mul.length c2], .slice Aa l1.length ca] w (LawEnd w) := by
  by_cases hE : punErr (gchkD D K pts mul) pts.length l1 ≠ 0
  · have hx := punL_err D.p D.m K (modL D) pts mul A A1 A2 c c1 c2 l1 Aa ca (gchkD D K pts mul) w (fun W hb1 h30 => ?_) (fun W hb1 => ?_) hE hra h1 h3 h3'
    · rw [modL_length] at hx; exact hx
    · rw [modL_length]
      refine (gPun_D D K pts mul A A1 A2 c c1 c2 l1 Aa ca W ((hr.below hb1).more hb1.size) hb ((hr1.below hb1).more hb1.size) ((hr2.below hb1).more hb1.size) h1.1 h1.2 (Nat.le_trans h2.1 h2.2) ((hra.below hb1).more hb1.size) (by omega)).mono ?_
      rintro e W' ⟨hbx, ⟨-, rfl⟩ | ⟨h0, -⟩⟩
      · exact ⟨rfl, hbx⟩
      · exact absurd h0 hE
    · rw [modL_length]; exact Chk18_D D K pts mul A A1 A2 c c1 c2 W ((hr.below hb1).more hb1.size) hb ((hr1.below hb1).more hb1.size) ((hr2.below hb1).more hb1.size) (Nat.le_trans h2.1 h2.2)
  replace hE := Classical.not_not.1 hE
  obtain ⟨hg0, hrgA, hdA, hlA⟩ := punErr_zero hE
  obtain ⟨hp1, hp64, hlen, -, -, -, -, hK0, hKn⟩ := gchkD_zero hg0
  obtain ⟨kn, rfl⟩ : ∃ kn : Nat, K = kn := ⟨K.toNat, by omega⟩
  have hpos := idxL_pos hrgA hdA hlA
  have hile := idxL_le l1 pts.length
  have hchk2 := pun_chk hg0 hpos
  obtain ⟨mn, hmn⟩ : ∃ mn : Nat, mn = min kn (idxL l1 pts.length).length := ⟨_, rfl⟩
  have hmnI : (min (kn : Int) ((idxL l1 pts.length).length : Int)) = (mn : Int) := by omega
  rw [hmnI] at hchk2
  have hA := fun W => Lib.hid (alive_any W)
  have hD := fun W a b d f h => gPun_D D kn pts mul A A1 A2 c c1 c2 l1 Aa ca W a hb b d h1.1 h1.2 (Nat.le_trans h2.1 h2.2) f h
  unfold PunPost at hD
  rw [hE, hmnI] at hD
  replace hD := fun W a b d f h => Lib.hid (hD W a b d f h)
  have hC := fun W a b d => Chk18_D D kn pts mul A A1 A2 c c1 c2 W a hb b d (Nat.le_trans h2.1 h2.2)
  rw [hg0] at hC
  replace hC := fun W a b d => Lib.hid (hC W a b d)
  have hEc := fun A3 A4 A5 c3 c4 c5 W a b d hc hc' => gCode_D D mn (selL pts l1 pts.length) (selL mul l1 pts.length) A3 A4 A5 c3 c4 c5 W a hb b d (by rw [selL_length]; exact hc) hc' (by rw [selL_length]; unfold maxLen; omega)
  unfold GCodePost at hEc
  rw [selL_length, selL_length, hchk2, Int.toNat_natCast] at hEc
  replace hEc := fun A3 A4 A5 c3 c4 c5 W a b d hc hc' => Lib.hid (hEc A3 A4 A5 c3 c4 c5 W a b d hc hc')
  have hWo := fun W a b d => Without18_any D kn pts mul l1 A A1 A2 Aa c c1 c2 ca W a b d hlen hp64
  unfold WoPost at hWo
  rw [hmnI] at hWo
  replace hWo := fun W a b d h => Lib.hid (hWo W a b d h)
  have hR := fun W a b d => Lib.hid (Rows18_any D kn pts mul A A1 A2 c c1 c2 W a b d hlen hp64 (by omega))
  have hm1 := h1.1; have hm2 := h1.2; have hm3 := h3'
  unfold maxLen at hm2 hm3
  have hgH := Lib.hid hg0
  have hposH := Lib.hid hpos
  replace hmn := Lib.hid hmn
  replace hlen := Lib.hid hlen
  have hrg : Hid (∀ y ∈ l1, 0 ≤ y ∧ y < (pts.length : Int)) := hrgA
  replace hdA := Lib.hid hdA
  clear hE hg0 hrgA hchk2 hb hmnI
  have k0 := Lib.hid (alloc6 w (.int .i64 D.p) (.int .i64 D.m) (.slice A D.mod.length c) (.int .i64 (kn : Int)) (.slice A1 pts.length c1) (.slice A2 mul.length c2) 27)
  have hB : Below w.heap.size w (w.alloc (.cells #[.int .i64 D.p, .int .i64 D.m, .slice A D.mod.length c, .int .i64 (kn : Int), .slice A1 pts.length c1, .slice A2 mul.length c2] 27)) := (Below.refl _ _).alloc (Nat.le_refl _) _
  go_enter Try.func14, Try.ntmps14
  go_wp2_with (fail)
  refine (hA _).out.mono ?_
  rintro e w1 ⟨rfl, hb1⟩
  have kk1 := Lib.hid (keep6 hb1 (by simp) k0.out)
  have hB1 := hB.trans (hb1.mono hB.size)
  have hlt1 : w.heap.size < w1.heap.size := by have := hb1.size; simp only [World.size_alloc] at this; omega
  obtain ⟨q0, q1, q2, q3, q4, q5⟩ := kk1.out
  by_cases h24 : 24 < pts.length
  · go_wp2_with (fail)
    go_ret
    exact ⟨rfl, hB1⟩
  by_cases h30 : 30 < l1.length
  · go_wp2_with (fail)
    go_ret
    exact ⟨rfl, hB1⟩
  go_wp2_with (fail)
  (with_reducible refine (hD w1 ((hr.below hB1).more hB1.size) ((hr1.below hB1).more hB1.size) ((hr2.below hB1).more hB1.size) ((hra.below hB1).more hB1.size) (by omega)).out.mono ?_)
  rintro e w2 ⟨hb2, ⟨hne, -⟩ | ⟨-, A3, c3, A4, c4, A5, c5, rfl, hr3, hr4, hr5, hc4, hc4'⟩⟩
  · exact absurd rfl hne
  have hB2 := hB1.trans (hb2.mono hB1.size)
  have kk2 := Lib.hid (keep6 hb2 hlt1 kk1.out)
  have hlt2 : w.heap.size < w2.heap.size := Nat.lt_of_lt_of_le hlt1 hb2.size
  obtain ⟨X3, hX3⟩ : ∃ X3, X3 = w2.alloc (.cells #[.int .i64 D.p, .int .i64 D.m, .slice A3 D.mod.length c3, .int .i64 (mn : Int), .slice A4 (idxL l1 pts.length).length c4, .slice A5 (idxL l1 pts.length).length c5] 27) := ⟨_, rfl⟩
  have hb3 : Below w2.heap.size w2 X3 := by rw [hX3]; exact (Below.refl _ _).alloc (Nat.le_refl _) _
  have k6 := alloc6 w2 (.int .i64 D.p) (.int .i64 D.m) (.slice A3 D.mod.length c3) (.int .i64 (mn : Int)) (.slice A4 (idxL l1 pts.length).length c4) (.slice A5 (idxL l1 pts.length).length c5) 27
  have hlt3 : w2.heap.size < X3.heap.size := by rw [hX3]; simp
  rw [← hX3] at k6
  replace hX3 := Lib.hid hX3
  replace k6 := Lib.hid k6
  have hB3 := hB2.trans (hb3.mono hB2.size)
  clear q0 q1 q2 q3 q4 q5
  obtain ⟨q0, q1, q2, q3, q4, q5⟩ := kk2.out
  go_wp2_with (fail)
  rw [← hX3.out]
  (with_reducible refine (hC X3 ((hr.below hB3).more hB3.size) ((hr1.below hB3).more hB3.size) ((hr2.below hB3).more hB3.size)).out.mono ?_)
  rintro e w4 ⟨rfl, hb4⟩
  have k64 := Lib.hid (keep6 hb4 hlt3 k6.out)
  have hb24 := hb3.trans (hb4.mono hb3.size)
  have hB4 := hB3.trans (hb4.mono hB3.size)
  have kk4 := Lib.hid (keep6 hb24 hlt2 kk2.out)
  have hlt4 : w.heap.size < w4.heap.size := Nat.lt_of_lt_of_le hlt2 hb24.size
  have hlt24 : w2.heap.size < w4.heap.size := Nat.lt_of_lt_of_le hlt3 hb4.size
  have hmk := mk_bools pts.length (by omega)
  have hbb5 := BB.newz w4 pts.length
  obtain ⟨X5, hX5⟩ : ∃ X5, X5 = w4.alloc (.cells (Array.replicate pts.length (Value.bool false)) 4) := ⟨_, rfl⟩
  have hb5 : Below w4.heap.size w4 X5 := by rw [hX5]; exact (Below.refl _ _).alloc (Nat.le_refl _) _
  have hlt5 : w4.heap.size < X5.heap.size := by rw [hX5]; simp
  rw [← hX5] at hbb5
  replace hbb5 := Lib.hid hbb5
  replace hX5 := Lib.hid hX5
  have hB5 := hB4.trans (hb5.mono hB4.size)
  have kk5 := Lib.hid (keep6 hb5 hlt4 kk4.out)
  have k65 := Lib.hid (keep6 hb5 hlt24 k64.out)
  have hra5 := (hra.below hB5).more hB5.size
  clear q0 q1 q2 q3 q4 q5
  obtain ⟨q0, q1, q2, q3, q4, q5⟩ := kk4.out
  go_wp2_with (fail)
  rw [← hX5.out]
  clear q0 q1 q2 q3 q4 q5 hmk
  have hml : Hid ((modL D).length ≤ maxLen) := by have := D.hlen; have := D.m8; unfold Hid; rw [modL_length, D.hlen]; unfold maxLen; split <;> omega
  go_loop [9, 7] (fun i e => ∃ k : Nat, k ≤ l1.length ∧ i = .int .i64 k ∧ e = .int .i64 0) (fun i _ => l1.length - (intOf i).toNat)
  case atStart => exact ⟨0, by omega, rfl, rfl⟩
  case round =>
    obtain ⟨k, hk, rfl, rfl⟩ := hrel
    by_cases hkm : k < l1.length
    · obtain ⟨ba, oa, rfl, hba, hca⟩ := hra5.at_ hkm
      obtain ⟨x, hx⟩ : ∃ x, x = l1[k]?.getD 0 := ⟨_, rfl⟩
      rw [← hx] at hca
      have hxr := hrg.out x (by rw [hx]; exact mem_get hkm)
      have hk0 : (0 : Int) ≤ (k : Int) := by omega
      have hk1 : (k : Int) < (l1.length : Int) := by omega
      have hx0 : ¬ x < 0 := by omega
      have hx1 : ¬ (pts.length : Int) ≤ x := by omega
      replace hx := Lib.hid hx
      go_wp2_with (fail)
      go_round
      case rel => exact ⟨k + 1, by omega, by go_num, rfl⟩
      case measure => simp [intOf]; omega
    · obtain rfl : k = l1.length := by omega
      go_wp2_with (fail)
      go_loopw [11, 10] (fun i t wr => ∃ k : Nat, k ≤ l1.length ∧ i = .int .i64 k ∧ t = .bool (decide (¬ (l1.take k).Nodup)) ∧ Hid (BB wr w4.heap.size pts.length (fun i => decide ((i : Int) ∈ l1.take k))) ∧ Below w4.heap.size w4 wr ∧ w4.heap.size < wr.heap.size) (fun i _ _ => l1.length - (intOf i).toNat)
      case atStart => exact ⟨0, by omega, rfl, by simp, by rw [show (fun i : Nat => decide ((i : Int) ∈ l1.take 0)) = fun _ => false from funext fun i => by simp]; exact hbb5, hb5, hlt5⟩
      case round =>
        obtain ⟨k, hk, rfl, rfl, hbb, hbw, hlw⟩ := hrel
        obtain ⟨w6, rfl⟩ : ∃ w6 : World, w6 = wr := ⟨_, rfl⟩
        have hB6 := hB4.trans (hbw.mono hB4.size)
        by_cases hkm : k < l1.length
        · obtain ⟨ba, oa, rfl, hba, hca⟩ := hra.at_ hkm
          have hcb := (hB6.cell (p := ⟨ba, oa + k, none⟩) hba).trans hca
          obtain ⟨xn, hxn⟩ : ∃ xn : Nat, l1[k]?.getD 0 = (xn : Int) := ⟨(l1[k]?.getD 0).toNat, by have := hrg.out _ (mem_get hkm); omega⟩
          have hxl : xn < pts.length := by have := hrg.out _ (mem_get hkm); omega
          rw [hxn] at hcb
          have hcs := hbb.out.cell hxl
          have hf := hbb.out.frozen xn
          have hx0 : (0 : Int) ≤ (xn : Int) := by omega
          have hx1 : (xn : Int) < (pts.length : Int) := by omega
          have hk0 : (0 : Int) ≤ (k : Int) := by omega
          have hk1 : (k : Int) < (l1.length : Int) := by omega
          have htw := Lib.hid (dup_step hkm hxn)
          have hbb2 := Lib.hid (hbb.out.set_ xn true)
          rw [seen_step hkm hxn] at hbb2
          have hbw2 : Below w4.heap.size w4 (w6.setCell ⟨w4.heap.size, xn, none⟩ (.bool true)) := hbw.setCell (p := ⟨w4.heap.size, xn, none⟩) (Nat.le_refl _) _
          have hlw2 : w4.heap.size < (w6.setCell ⟨w4.heap.size, xn, none⟩ (.bool true)).heap.size := Nat.lt_of_lt_of_le hlw (grown_set _ _ _).size
          replace hxn := Lib.hid hxn
          generalize decide ((xn : Int) ∈ l1.take k) = de at *
          generalize decide (¬ (l1.take k).Nodup) = be at *
          clear hca
          cases be
          · go_wp2_with (fail)
            go_roundw
            case rel => exact ⟨k + 1, by omega, by go_num, by rw [htw.out]; simp, hbb2, hbw2, hlw2⟩
            case measure => simp [intOf]; omega
          · go_wp2_with (fail)
            go_roundw
            case rel => exact ⟨k + 1, by omega, by go_num, by rw [htw.out]; simp, hbb2, hbw2, hlw2⟩
            case measure => simp [intOf]; omega
        · obtain rfl : k = l1.length := by omega
          rw [List.take_length] at hbb ⊢
          have kk6 := Lib.hid (keep6 hbw hlt4 kk4.out)
          have k66 := Lib.hid (keep6 hbw hlt24 k64.out)
          rw [decide_eq_false (p := ¬ l1.Nodup) (fun h => h hdA.out)]
          have hlb : ((l1.length : Int) == (pts.length : Int)) = false := by rw [beq_eq_false_iff_ne]; omega
          have hcc : Hid ((w6.cell? ⟨w.heap.size, 0, none⟩ = some (.int .i64 D.p) ∧ w6.cell? ⟨w.heap.size, 1, none⟩ = some (.int .i64 D.m) ∧ w6.cell? ⟨w.heap.size, 2, none⟩ = some (.slice A D.mod.length c) ∧ w6.cell? ⟨w.heap.size, 3, none⟩ = some (.int .i64 (kn : Int)) ∧ w6.cell? ⟨w.heap.size, 4, none⟩ = some (.slice A1 pts.length c1) ∧ w6.cell? ⟨w.heap.size, 5, none⟩ = some (.slice A2 mul.length c2)) ∧ (w6.cell? ⟨w2.heap.size, 0, none⟩ = some (.int .i64 D.p) ∧ w6.cell? ⟨w2.heap.size, 1, none⟩ = some (.int .i64 D.m) ∧ w6.cell? ⟨w2.heap.size, 2, none⟩ = some (.slice A3 D.mod.length c3) ∧ w6.cell? ⟨w2.heap.size, 3, none⟩ = some (.int .i64 (mn : Int)) ∧ w6.cell? ⟨w2.heap.size, 4, none⟩ = some (.slice A4 (idxL l1 pts.length).length c4) ∧ w6.cell? ⟨w2.heap.size, 5, none⟩ = some (.slice A5 (idxL l1 pts.length).length c5))) := ⟨kk6.out, k66.out⟩
          have hlw6 : w.heap.size < w6.heap.size := Nat.lt_trans hlt4 hlw
          have hl26 : w2.heap.size < w6.heap.size := Nat.lt_trans hlt24 hlw
          have hk9 : ∀ {W W' : World}, Below W.heap.size W W' → w6.heap.size ≤ W.heap.size → Hid ((W.cell? ⟨w.heap.size, 0, none⟩ = some (.int .i64 D.p) ∧ W.cell? ⟨w.heap.size, 1, none⟩ = some (.int .i64 D.m) ∧ W.cell? ⟨w.heap.size, 2, none⟩ = some (.slice A D.mod.length c) ∧ W.cell? ⟨w.heap.size, 3, none⟩ = some (.int .i64 (kn : Int)) ∧ W.cell? ⟨w.heap.size, 4, none⟩ = some (.slice A1 pts.length c1) ∧ W.cell? ⟨w.heap.size, 5, none⟩ = some (.slice A2 mul.length c2)) ∧ (W.cell? ⟨w2.heap.size, 0, none⟩ = some (.int .i64 D.p) ∧ W.cell? ⟨w2.heap.size, 1, none⟩ = some (.int .i64 D.m) ∧ W.cell? ⟨w2.heap.size, 2, none⟩ = some (.slice A3 D.mod.length c3) ∧ W.cell? ⟨w2.heap.size, 3, none⟩ = some (.int .i64 (mn : Int)) ∧ W.cell? ⟨w2.heap.size, 4, none⟩ = some (.slice A4 (idxL l1 pts.length).length c4) ∧ W.cell? ⟨w2.heap.size, 5, none⟩ = some (.slice A5 (idxL l1 pts.length).length c5))) → Hid ((W'.cell? ⟨w.heap.size, 0, none⟩ = some (.int .i64 D.p) ∧ W'.cell? ⟨w.heap.size, 1, none⟩ = some (.int .i64 D.m) ∧ W'.cell? ⟨w.heap.size, 2, none⟩ = some (.slice A D.mod.length c) ∧ W'.cell? ⟨w.heap.size, 3, none⟩ = some (.int .i64 (kn : Int)) ∧ W'.cell? ⟨w.heap.size, 4, none⟩ = some (.slice A1 pts.length c1) ∧ W'.cell? ⟨w.heap.size, 5, none⟩ = some (.slice A2 mul.length c2)) ∧ (W'.cell? ⟨w2.heap.size, 0, none⟩ = some (.int .i64 D.p) ∧ W'.cell? ⟨w2.heap.size, 1, none⟩ = some (.int .i64 D.m) ∧ W'.cell? ⟨w2.heap.size, 2, none⟩ = some (.slice A3 D.mod.length c3) ∧ W'.cell? ⟨w2.heap.size, 3, none⟩ = some (.int .i64 (mn : Int)) ∧ W'.cell? ⟨w2.heap.size, 4, none⟩ = some (.slice A4 (idxL l1 pts.length).length c4) ∧ W'.cell? ⟨w2.heap.size, 5, none⟩ = some (.slice A5 (idxL l1 pts.length).length c5))) := fun {W W'} hbb hss h =>
            ⟨keep6 hbb (Nat.lt_of_lt_of_le hlw6 hss) h.out.1, keep6 hbb (Nat.lt_of_lt_of_le hl26 hss) h.out.2⟩
          replace hk9 := fun {W W' : World} a b c => Lib.hid (@hk9 W W' a b c)
          have hb26 := hb24.trans (hbw.mono hb24.size)
          have hWo6 := hWo w6.drew ((hr1.below hB6).more hB6.size).drew ((hr2.below hB6).more hB6.size).drew ((hra.below hB6).more hB6.size).drew (by omega)
          have hSs := fun A7 A8 c7 c8 W a b d e f g => Same18_eq D.p D.m mn (modL D) (selL pts l1 pts.length) (selL mul l1 pts.length) A3 A4 A5 c3 c4 c5 A A7 A8 c c7 c8 W a b d e f g hml.out (by rw [selL_length]; unfold maxLen; omega) (by rw [selL_length]; unfold maxLen; omega)
          rw [modL_length, selL_length, selL_length] at hSs
          replace hSs := fun A7 A8 c7 c8 W a b d e f g => Lib.hid (hSs A7 A8 c7 c8 W a b d e f g)
          obtain ⟨s0, s1, s2, s3, s4, s5⟩ := kk6.out
          go_wp2_with (fail)
          clear s0 s1 s2 s3 s4 s5
          refine wp_region_held_drew (S := fun w' => (w'.cell? ⟨w.heap.size, 0, none⟩ = some (.int .i64 D.p) ∧ w'.cell? ⟨w.heap.size, 1, none⟩ = some (.int .i64 D.m) ∧ w'.cell? ⟨w.heap.size, 2, none⟩ = some (.slice A D.mod.length c) ∧ w'.cell? ⟨w.heap.size, 3, none⟩ = some (.int .i64 (kn : Int)) ∧ w'.cell? ⟨w.heap.size, 4, none⟩ = some (.slice A1 pts.length c1) ∧ w'.cell? ⟨w.heap.size, 5, none⟩ = some (.slice A2 mul.length c2)) ∧ (w'.cell? ⟨w2.heap.size, 0, none⟩ = some (.int .i64 D.p) ∧ w'.cell? ⟨w2.heap.size, 1, none⟩ = some (.int .i64 D.m) ∧ w'.cell? ⟨w2.heap.size, 2, none⟩ = some (.slice A3 D.mod.length c3) ∧ w'.cell? ⟨w2.heap.size, 3, none⟩ = some (.int .i64 (mn : Int)) ∧ w'.cell? ⟨w2.heap.size, 4, none⟩ = some (.slice A4 (idxL l1 pts.length).length c4) ∧ w'.cell? ⟨w2.heap.size, 5, none⟩ = some (.slice A5 (idxL l1 pts.length).length c5))) (by kernel_rfl) (by (try dsimp only); exact hcc.out) (fun hHeld => ?_)
          refine wpAnyH_take (i := 0) (oi := ⟨_, _, _, _, _, _⟩) (v := ?_) rfl (by kernel_rfl) (by kernel_rfl) (by kernel_rfl) (fun _ _ _ h => h) (Or.inl ⟨by rfl, ?_⟩) (by assumption) ?_
          rotate_left
          · intro w hSw; (try dsimp only at hSw); go_simp; try with_reducible rfl
          try simp only [Act.put, List.setIfInBounds_toArray, List.set_cons_zero, List.set_cons_succ]
          refine wpAnyH_take (i := 1) (oi := ⟨_, _, _, _, _, _⟩) (v := ?_) rfl (by kernel_rfl) (by kernel_rfl) (by kernel_rfl) (fun _ _ _ h => h) (Or.inl ⟨by rfl, ?_⟩) (by assumption) ?_
          rotate_left
          · intro w hSw; (try dsimp only at hSw); go_simp; try with_reducible rfl
          try simp only [Act.put, List.setIfInBounds_toArray, List.set_cons_zero, List.set_cons_succ]
          refine wpAnyH_take (i := 2) (oi := ⟨_, _, _, _, _, _⟩) (v := ?_) rfl (by kernel_rfl) (by kernel_rfl) (by kernel_rfl) (fun _ _ _ h => h) (Or.inl ⟨by rfl, ?_⟩) (by assumption) ?_
          rotate_left
          · intro w hSw; (try dsimp only at hSw); go_simp; try with_reducible rfl
          try simp only [Act.put, List.setIfInBounds_toArray, List.set_cons_zero, List.set_cons_succ]
          refine wpAnyH_take (i := 3) (oi := ⟨_, _, _, _, _, _⟩) (v := ?_) rfl (by kernel_rfl) (by kernel_rfl) (by kernel_rfl) (fun _ _ _ h => h) (Or.inl ⟨by rfl, ?_⟩) (by assumption) ?_
          rotate_left
          · intro w hSw; (try dsimp only at hSw); go_simp; try with_reducible rfl
          try simp only [Act.put, List.setIfInBounds_toArray, List.set_cons_zero, List.set_cons_succ]
          refine wpAnyH_take (i := 4) (oi := ⟨_, _, _, _, _, _⟩) (v := ?_) rfl (by kernel_rfl) (by kernel_rfl) (by kernel_rfl) (fun _ _ _ h => h) (Or.inl ⟨by rfl, ?_⟩) (by assumption) ?_
          rotate_left
          · intro w hSw; (try dsimp only at hSw); go_simp; try with_reducible rfl
          try simp only [Act.put, List.setIfInBounds_toArray, List.set_cons_zero, List.set_cons_succ]
          refine wpAnyH_take (i := 5) (oi := ⟨_, _, _, _, _, _⟩) (v := ?_) rfl (by kernel_rfl) (by kernel_rfl) (by kernel_rfl) (fun _ _ _ h => h) (Or.inl ⟨by rfl, ?_⟩) (by assumption) ?_
          rotate_left
          · intro w hSw; (try dsimp only at hSw); go_simp; try with_reducible rfl
          try simp only [Act.put, List.setIfInBounds_toArray, List.set_cons_zero, List.set_cons_succ]
          refine wpAnyH_ready (rs := [6]) (by kernel_rfl) (by simp) ?_
          refine AllReadyH.cons (o := ⟨_, _, _, _, _, _⟩) rfl (fun K hK => ?_) AllReadyH.nil
          go_simp
          go_at_call 49
          (with_reducible refine (hWo6).out.mono ?_)
          rintro e w7 ⟨A7, c7, A8, c8, rfl, hr7, hr8, hb7⟩
          have hcc7 := (hk9 (W := w6.drew) hb7 (Nat.le_refl _) hcc).out
          have hs7 : w6.heap.size ≤ w7.heap.size := hb7.size
          have hb67 : Below w6.heap.size w6 w7 := (Below.refl _ w6).drew.trans hb7
          have hb27 := hb26.trans (hb67.mono hb26.size)
          have hB7 := hB6.trans (hb67.mono hB6.size)
          have hSs7 := hSs A7 A8 c7 c8 w7 ((hr3.below hb27).more hb27.size) ((hr4.below hb27).more hb27.size) ((hr5.below hb27).more hb27.size) ((hr.below hB7).more hB7.size) hr7 hr8
          go_wp2_with (fail)
          refine hK.out _ _ (by (try dsimp only); exact hcc7.out) (fun hHeld => ?_)
          clear hK K
          try simp only [Act.put, List.setIfInBounds_toArray, List.set_cons_zero, List.set_cons_succ]
          refine wpAnyH_ready (rs := [7]) (by kernel_rfl) (by simp) ?_
          refine AllReadyH.cons (o := ⟨_, _, _, _, _, _⟩) rfl (fun K hK => ?_) AllReadyH.nil
          go_simp
          go_at_call 22
          (with_reducible refine (hSs7).out.mono ?_)
          rintro e w8 ⟨rfl, hb8⟩
          have hcc8 := (hk9 hb8 hs7 hcc7).out
          go_wp2_with (fail)
          refine hK.out _ _ (by (try dsimp only); exact hcc8.out) (fun hHeld => ?_)
          clear hK K
          try simp only [Act.put, List.setIfInBounds_toArray, List.set_cons_zero, List.set_cons_succ]
          refine wpAnyH_take (i := 8) (oi := ⟨_, _, _, _, _, _⟩) (v := ?_) rfl (by kernel_rfl) (by kernel_rfl) (by kernel_rfl) (fun _ _ _ h => h) (Or.inl ⟨by rfl, ?_⟩) (by assumption) ?_
          rotate_left
          · intro w hSw; (try dsimp only at hSw); go_simp; try with_reducible rfl
          try simp only [Act.put, List.setIfInBounds_toArray, List.set_cons_zero, List.set_cons_succ]
          refine wpAnyH_take (i := 9) (oi := ⟨_, _, _, _, _, _⟩) (v := ?_) rfl (by kernel_rfl) (by kernel_rfl) (by kernel_rfl) (fun _ _ _ h => h) (Or.inl ⟨by rfl, ?_⟩) (by assumption) ?_
          rotate_left
          · intro w hSw; (try dsimp only at hSw); go_simp; try with_reducible rfl
          try simp only [Act.put, List.setIfInBounds_toArray, List.set_cons_zero, List.set_cons_succ]
          refine wpAnyH_done (by kernel_rfl) ?_ _
          have hb68 := hb67.trans (hb8.mono hs7)
          have hB8 := hB6.trans (hb68.mono hB6.size)
          have hs8 : w6.heap.size ≤ w8.heap.size := hb68.size
          have hbb8 := Lib.hid (hbb.out.below hb68 hlw)
          obtain ⟨s0, s1, s2, s3, s4, s5⟩ := hcc8.out.1
          clear hSs hSs7 hWo6 hcc hcc7 hr7 hr8
          go_wp2_with (fail)
          (with_reducible refine (hR w8 ((hr.below hB8).more hB8.size) ((hr1.below hB8).more hB8.size) ((hr2.below hB8).more hB8.size)).out.mono ?_)
          rintro e w9 ⟨v9, rfl, hown9, hb9⟩
          obtain ⟨A9, c9, rfl, hrw9⟩ := hown9.rd
          rw [rowsW_eq] at hrw9
          have hcc9 := (hk9 hb9 hs8 hcc8).out
          have hs9 : w6.heap.size ≤ w9.heap.size := Nat.le_trans hs8 hb9.size
          have hb69 := hb68.trans (hb9.mono hs8)
          have hB9 := hB6.trans (hb69.mono hB6.size)
          have hbb9 := Lib.hid (hbb.out.below hb69 hlw)
          have hlg9 : w4.heap.size < w9.heap.size := Nat.lt_of_lt_of_le hlw hs9
          clear s0 s1 s2 s3 s4 s5 hown9 hbb8 hcc8 hbb
          go_wp2_with (fail)
          go_loopw [130, 12] (fun i v wr => ∃ k : Nat, k ≤ kn ∧ i = .int .i64 k ∧ OwnM wr w9.heap.size v k (rowsL D (idxL l1 pts.length).length (gM D (selL pts l1 pts.length) (selL mul l1 pts.length))) ∧ Below w9.heap.size w9 wr) (fun i _ _ => kn - (intOf i).toNat)
          case atStart => exact ⟨0, by omega, rfl, OwnM.nil _ _ _, Below.refl _ _⟩
          case round =>
            obtain ⟨k, hk, rfl, hown, hbw9⟩ := hrel
            obtain ⟨wo, rfl⟩ : ∃ wo : World, wo = wr := ⟨_, rfl⟩
            have hso : w9.heap.size ≤ wo.heap.size := hbw9.size
            by_cases hkn : k < kn
            · have hk0 : (0 : Int) ≤ (k : Int) := by omega
              have hk1 : (k : Int) < (kn : Int) := by omega
              obtain ⟨b9, o9, B9, d9, rfl, hb9', hc9', hr9', -, -⟩ := hrw9.at_ hkn
              have hd9 := (hbw9.cell (p := ⟨b9, o9 + k, none⟩) hb9').trans hc9'
              have hsel := Lib.hid (selL_row D pts mul l1 k)
              obtain ⟨row, hrow⟩ : ∃ row, row = rowsL D pts.length (gM D pts mul) k := ⟨_, rfl⟩
              rw [← hrow] at hd9 hr9' hsel
              have hrl : row.length = pts.length := by rw [hrow, rowsL, rowL_length]
              rw [hrl] at hd9
              replace hrow := Lib.hid hrow
              replace hrl := Lib.hid hrl
              have hr9o := (hr9'.below hbw9).more hbw9.size
              obtain ⟨Av, cv, rfl⟩ := hown.size
              clear hc9' hr9'
              go_wp2_with (fail)
              clear hd9
              go_loopw [136, 15] (fun j v wr => ∃ j' : Nat, j' ≤ pts.length ∧ j = .int .i64 j' ∧ Own wr wo.heap.size v (selL row l1 j') ∧ Below wo.heap.size wo wr) (fun j _ _ => pts.length - (intOf j).toNat)
              case atStart => exact ⟨0, by omega, rfl, Own.nil _ _, Below.refl _ _⟩
              case round =>
                obtain ⟨j, hj, rfl, ho, hbi⟩ := hrel
                obtain ⟨wi, rfl⟩ : ∃ wi : World, wi = wr := ⟨_, rfl⟩
                have hbbi := (hbb9.out.below hbw9 hlg9).below hbi (Nat.lt_of_lt_of_le hlg9 hso)
                have hszi := hbi.size
                by_cases hjn : j < pts.length
                · obtain ⟨br, orr, rfl, hbr, hcr⟩ := hr9o.at_ (by rw [hrl.out]; exact hjn : j < row.length)
                  have hcr2 := (hbi.cell (p := ⟨br, orr + j, none⟩) hbr).trans hcr
                  have hcs := hbbi.cell hjn
                  obtain ⟨y, hy⟩ : ∃ y, y = row[j]?.getD 0 := ⟨_, rfl⟩
                  rw [← hy] at hcr2
                  have hj0 : (0 : Int) ≤ (j : Int) := by omega
                  have hj1 : (j : Int) < (pts.length : Int) := by omega
                  replace hy := Lib.hid hy
                  clear hcr
                  by_cases hni : (j : Int) ∈ l1
                  · rw [decide_eq_true hni] at hcs
                    rw [← selL_yes (l := row) hni] at ho
                    clear hni
                    go_wp2_with (fail)
                    go_roundw
                    case rel => exact ⟨j + 1, by omega, by go_num, ho, hbi⟩
                    case measure => simp [intOf]; omega
                  · rw [decide_eq_false hni] at hcs
                    have hle : (selL row l1 j).length ≤ 1000000 := by rw [selL_length]; have := idxL_le l1 j; omega
                    obtain ⟨Au, cu, rfl, -, -, -⟩ := ho.form
                    replace hni := Lib.hid hni
                    go_wp2_with (at_builtin; refine wpList_app1 rfl (.tmp 146) (.tmp 148) rfl wo.heap.size _ _ _ ho rfl rfl rfl hle hszi ?_; intro v' w' ho' hb' hg' hv')
                    rw [hy.out, ← selL_no hni.out] at ho'
                    go_roundw
                    case rel => exact ⟨j + 1, by omega, by go_num, ho', hbi.trans hb'⟩
                    case measure => simp [intOf]; omega
                · obtain rfl : j = pts.length := by omega
                  rw [hsel.out] at ho
                  obtain ⟨Au, cu, rfl, hcu, hru, hAu⟩ := ho.form
                  have hcm := Own.capM ho
                  obtain ⟨hs, e1, e2, e3⟩ := hown.below (W := wo.heap.size) hbi (Nat.le_refl _)
                  go_wp2_with (at_builtin; refine wpList_app1V rfl (.tmp 151) (.tmp 153) rfl w9.heap.size _ hs _ rfl e2 rfl rfl rfl (by rw [e1]; omega) (Nat.le_trans hso hszi) ?_; intro v3 W3 ho3 hb3 hg3 hv3)
                  have hsn := OwnM.snoc e1 e3 hru hcu hcm (fun hne a e => ⟨fun e2' => by have h1 := (hAu a e).1; have h2 := (World.ownsRow.lt (hown.choose_spec.2.1) _ e2').2; omega, by have h1 := (hAu a e).1; omega⟩) ho3 hg3 hv3
                  go_roundw
                  case rel => exact ⟨k + 1, by omega, by go_num, hsn, (hbw9.trans (hbi.mono hso)).trans hb3⟩
                  case measure => simp [intOf]; omega
            · obtain rfl : kn = k := by omega
              obtain ⟨A12, c12, rfl, hrm12⟩ := hown.rd
              have hBo := hB9.trans (hbw9.mono hB9.size)
              have hb69o := hb69.trans (hbw9.mono hs9)
              have hb2o := hb26.trans (hb69o.mono hb26.size)
              have hcco := (hk9 hbw9 hs9 hcc9).out
              have hs6o : w6.heap.size ≤ wo.heap.size := Nat.le_trans hs9 hso
              obtain ⟨s0, s1, s2, s3, s4, s5⟩ := hcco.out.2
              go_wp2_with (fail)
              (with_reducible refine (hEc A3 A4 A5 c3 c4 c5 wo ((hr3.below hb2o).more hb2o.size) ((hr4.below hb2o).more hb2o.size) ((hr5.below hb2o).more hb2o.size) hc4 hc4').out.mono ?_)
              rintro e w13 ⟨hb13, ⟨hne, -⟩ | ⟨-, F, hF, A14, c14, Al14, rfl, hr14, hrm14⟩⟩
              · exact absurd rfl hne
              subst hF
              clear s0 s1 s2 s3 s4 s5
              obtain ⟨hrk1, hrk2⟩ := pun_rows hgH.out hposH.out
              have hrk3 := pun_rk hgH.out hposH.out
              rw [← hmn.out] at hrk1 hrk2 hrk3
              rw [hrk3] at hrm14 ⊢
              have hrm15 : RdM w13 w13.heap.size Al14 mn (rowsL F.toDesc (idxL l1 pts.length).length (elS kn (gM F.toDesc (selL pts l1 pts.length) (selL mul l1 pts.length)) (idxL l1 pts.length).length).1) := hrm14.congr fun i hi => hrk2 i hi
              have hMk := fun W a b => Make12_any F kn (idxL l1 pts.length).length (gM F.toDesc (selL pts l1 pts.length) (selL mul l1 pts.length)) A A12 c c12 W a b (by omega) (by omega)
              unfold MakePost at hMk
              rw [hrk1] at hMk
              replace hMk := fun W a b => Lib.hid (hMk W a b)
              have hSa := fun A6 A8 c6 c8 W a b d e' => (Same12_eq F.p F.m (idxL l1 pts.length).length (modL F.toDesc) mn (rowsL F.toDesc (idxL l1 pts.length).length (elS kn (gM F.toDesc (selL pts l1 pts.length) (selL mul l1 pts.length)) (idxL l1 pts.length).length).1) A14 A6 Al14 A8 c14 c6 mn c8 W a b hml.out d e' (by have := hmn.out; omega) (fun i _ => by rw [rowsL, rowL_length]; omega))
              rw [modL_length] at hSa
              replace hSa := fun A6 A8 c6 c8 W a b d e' => Lib.hid (hSa A6 A8 c6 c8 W a b d e')
              have hB13 := hBo.trans (hb13.mono hBo.size)
              have hs13 : w6.heap.size ≤ w13.heap.size := Nat.le_trans hs6o hb13.size
              have hcc13 := (hk9 hb13 hs6o hcco).out
              have hlw13 : w.heap.size < w13.heap.size := Nat.lt_of_lt_of_le hlw6 hs13
              have hl213 : w2.heap.size < w13.heap.size := Nat.lt_of_lt_of_le hl26 hs13
              obtain ⟨X16, hX16⟩ : ∃ X16, X16 = w13.alloc (.cells #[.int .i64 F.p, .int .i64 F.m, .slice A14 F.mod.length c14, .int .i64 (idxL l1 pts.length).length, .slice Al14 mn mn] 55) := ⟨_, rfl⟩
              have hb16 : Below w13.heap.size w13 X16 := by rw [hX16]; exact (Below.refl _ _).alloc (Nat.le_refl _) _
              have k16 := Five.new w13 (.int .i64 F.p) (.int .i64 F.m) (.slice A14 F.mod.length c14) (.int .i64 (idxL l1 pts.length).length) (.slice Al14 mn mn) 55
              have hlt16 : w13.heap.size < X16.heap.size := by rw [hX16]; simp
              rw [← hX16] at k16
              replace hX16 := Lib.hid hX16
              have hcc16 : Hid (((X16.cell? ⟨w.heap.size, 0, none⟩ = some (.int .i64 F.p) ∧ X16.cell? ⟨w.heap.size, 1, none⟩ = some (.int .i64 F.m) ∧ X16.cell? ⟨w.heap.size, 2, none⟩ = some (.slice A F.mod.length c) ∧ X16.cell? ⟨w.heap.size, 3, none⟩ = some (.int .i64 (kn : Int)) ∧ X16.cell? ⟨w.heap.size, 4, none⟩ = some (.slice A1 pts.length c1) ∧ X16.cell? ⟨w.heap.size, 5, none⟩ = some (.slice A2 mul.length c2)) ∧ (X16.cell? ⟨w2.heap.size, 0, none⟩ = some (.int .i64 F.p) ∧ X16.cell? ⟨w2.heap.size, 1, none⟩ = some (.int .i64 F.m) ∧ X16.cell? ⟨w2.heap.size, 2, none⟩ = some (.slice A3 F.mod.length c3) ∧ X16.cell? ⟨w2.heap.size, 3, none⟩ = some (.int .i64 (mn : Int)) ∧ X16.cell? ⟨w2.heap.size, 4, none⟩ = some (.slice A4 (idxL l1 pts.length).length c4) ∧ X16.cell? ⟨w2.heap.size, 5, none⟩ = some (.slice A5 (idxL l1 pts.length).length c5))) ∧ X16.cell? ⟨w13.heap.size, 0, none⟩ = some (.int .i64 F.p) ∧ X16.cell? ⟨w13.heap.size, 1, none⟩ = some (.int .i64 F.m) ∧ X16.cell? ⟨w13.heap.size, 2, none⟩ = some (.slice A14 F.mod.length c14) ∧ X16.cell? ⟨w13.heap.size, 3, none⟩ = some (.int .i64 (idxL l1 pts.length).length) ∧ X16.cell? ⟨w13.heap.size, 4, none⟩ = some (.slice Al14 mn mn)) := ⟨⟨keep6 hb16 hlw13 hcc13.out.1, keep6 hb16 hl213 hcc13.out.2⟩, k16.1, k16.2.1, k16.2.2.1, k16.2.2.2.1, k16.2.2.2.2.1⟩
              have hk17 : ∀ {W W' : World}, Below W.heap.size W W' → X16.heap.size ≤ W.heap.size → Hid (((W.cell? ⟨w.heap.size, 0, none⟩ = some (.int .i64 F.p) ∧ W.cell? ⟨w.heap.size, 1, none⟩ = some (.int .i64 F.m) ∧ W.cell? ⟨w.heap.size, 2, none⟩ = some (.slice A F.mod.length c) ∧ W.cell? ⟨w.heap.size, 3, none⟩ = some (.int .i64 (kn : Int)) ∧ W.cell? ⟨w.heap.size, 4, none⟩ = some (.slice A1 pts.length c1) ∧ W.cell? ⟨w.heap.size, 5, none⟩ = some (.slice A2 mul.length c2)) ∧ (W.cell? ⟨w2.heap.size, 0, none⟩ = some (.int .i64 F.p) ∧ W.cell? ⟨w2.heap.size, 1, none⟩ = some (.int .i64 F.m) ∧ W.cell? ⟨w2.heap.size, 2, none⟩ = some (.slice A3 F.mod.length c3) ∧ W.cell? ⟨w2.heap.size, 3, none⟩ = some (.int .i64 (mn : Int)) ∧ W.cell? ⟨w2.heap.size, 4, none⟩ = some (.slice A4 (idxL l1 pts.length).length c4) ∧ W.cell? ⟨w2.heap.size, 5, none⟩ = some (.slice A5 (idxL l1 pts.length).length c5))) ∧ W.cell? ⟨w13.heap.size, 0, none⟩ = some (.int .i64 F.p) ∧ W.cell? ⟨w13.heap.size, 1, none⟩ = some (.int .i64 F.m) ∧ W.cell? ⟨w13.heap.size, 2, none⟩ = some (.slice A14 F.mod.length c14) ∧ W.cell? ⟨w13.heap.size, 3, none⟩ = some (.int .i64 (idxL l1 pts.length).length) ∧ W.cell? ⟨w13.heap.size, 4, none⟩ = some (.slice Al14 mn mn)) → Hid (((W'.cell? ⟨w.heap.size, 0, none⟩ = some (.int .i64 F.p) ∧ W'.cell? ⟨w.heap.size, 1, none⟩ = some (.int .i64 F.m) ∧ W'.cell? ⟨w.heap.size, 2, none⟩ = some (.slice A F.mod.length c) ∧ W'.cell? ⟨w.heap.size, 3, none⟩ = some (.int .i64 (kn : Int)) ∧ W'.cell? ⟨w.heap.size, 4, none⟩ = some (.slice A1 pts.length c1) ∧ W'.cell? ⟨w.heap.size, 5, none⟩ = some (.slice A2 mul.length c2)) ∧ (W'.cell? ⟨w2.heap.size, 0, none⟩ = some (.int .i64 F.p) ∧ W'.cell? ⟨w2.heap.size, 1, none⟩ = some (.int .i64 F.m) ∧ W'.cell? ⟨w2.heap.size, 2, none⟩ = some (.slice A3 F.mod.length c3) ∧ W'.cell? ⟨w2.heap.size, 3, none⟩ = some (.int .i64 (mn : Int)) ∧ W'.cell? ⟨w2.heap.size, 4, none⟩ = some (.slice A4 (idxL l1 pts.length).length c4) ∧ W'.cell? ⟨w2.heap.size, 5, none⟩ = some (.slice A5 (idxL l1 pts.length).length c5))) ∧ W'.cell? ⟨w13.heap.size, 0, none⟩ = some (.int .i64 F.p) ∧ W'.cell? ⟨w13.heap.size, 1, none⟩ = some (.int .i64 F.m) ∧ W'.cell? ⟨w13.heap.size, 2, none⟩ = some (.slice A14 F.mod.length c14) ∧ W'.cell? ⟨w13.heap.size, 3, none⟩ = some (.int .i64 (idxL l1 pts.length).length) ∧ W'.cell? ⟨w13.heap.size, 4, none⟩ = some (.slice Al14 mn mn)) := fun {W W'} hbb hss h => by
                have hx0 : w13.heap.size < W.heap.size := Nat.lt_of_lt_of_le hlt16 hss
                obtain ⟨⟨ua, ub⟩, u0, u1, u2, u3, u4⟩ := h.out
                exact Lib.hid ⟨⟨keep6 hbb (Nat.lt_trans hlw13 hx0) ua, keep6 hbb (Nat.lt_trans hl213 hx0) ub⟩, (hbb.cell (p := ⟨w13.heap.size, 0, none⟩) hx0).trans u0, (hbb.cell (p := ⟨w13.heap.size, 1, none⟩) hx0).trans u1, (hbb.cell (p := ⟨w13.heap.size, 2, none⟩) hx0).trans u2, (hbb.cell (p := ⟨w13.heap.size, 3, none⟩) hx0).trans u3, (hbb.cell (p := ⟨w13.heap.size, 4, none⟩) hx0).trans u4⟩
              replace hk17 := fun {W W' : World} a b c => Lib.hid (@hk17 W W' a b c)
              have hB16 := hB13.trans (hb16.mono hB13.size)
              have hbo16 := hb13.trans (hb16.mono hb13.size)
              have hMk16 := hMk X16.drew ((hr.below hB16).more hB16.size).drew ((hrm12.below hbo16).more hbo16.size).drew
              have hr1416 := (hr14.below hb16).more hb16.size
              have hrm1516 := (hrm15.below hb16).more hb16.size
              obtain ⟨⟨⟨s0, s1, s2, s3, s4, s5⟩, t0, t1, t2, t3, t4, t5⟩, u0, u1, u2, u3, u4⟩ := hcc16.out
              clear s0 s1 s2 s3 s4 s5 t0 t1 t2 t3 t4 t5 u0 u1 u2 u3 u4 k16 hcc13 hcco hrm14 hrm15 hr14 hr3 hr4 hr5 hEc hMk
              go_wp2_with (fail)
              rw [← hX16.out]
              refine wp_region_held_drew (S := fun w' => ((w'.cell? ⟨w.heap.size, 0, none⟩ = some (.int .i64 F.p) ∧ w'.cell? ⟨w.heap.size, 1, none⟩ = some (.int .i64 F.m) ∧ w'.cell? ⟨w.heap.size, 2, none⟩ = some (.slice A F.mod.length c) ∧ w'.cell? ⟨w.heap.size, 3, none⟩ = some (.int .i64 (kn : Int)) ∧ w'.cell? ⟨w.heap.size, 4, none⟩ = some (.slice A1 pts.length c1) ∧ w'.cell? ⟨w.heap.size, 5, none⟩ = some (.slice A2 mul.length c2)) ∧ (w'.cell? ⟨w2.heap.size, 0, none⟩ = some (.int .i64 F.p) ∧ w'.cell? ⟨w2.heap.size, 1, none⟩ = some (.int .i64 F.m) ∧ w'.cell? ⟨w2.heap.size, 2, none⟩ = some (.slice A3 F.mod.length c3) ∧ w'.cell? ⟨w2.heap.size, 3, none⟩ = some (.int .i64 (mn : Int)) ∧ w'.cell? ⟨w2.heap.size, 4, none⟩ = some (.slice A4 (idxL l1 pts.length).length c4) ∧ w'.cell? ⟨w2.heap.size, 5, none⟩ = some (.slice A5 (idxL l1 pts.length).length c5))) ∧ w'.cell? ⟨w13.heap.size, 0, none⟩ = some (.int .i64 F.p) ∧ w'.cell? ⟨w13.heap.size, 1, none⟩ = some (.int .i64 F.m) ∧ w'.cell? ⟨w13.heap.size, 2, none⟩ = some (.slice A14 F.mod.length c14) ∧ w'.cell? ⟨w13.heap.size, 3, none⟩ = some (.int .i64 (idxL l1 pts.length).length) ∧ w'.cell? ⟨w13.heap.size, 4, none⟩ = some (.slice Al14 mn mn)) (by kernel_rfl) (by (try dsimp only); exact hcc16.out) (fun hHeld => ?_)
              refine wpAnyH_take (i := 0) (oi := ⟨_, _, _, _, _, _⟩) (v := ?_) rfl (by kernel_rfl) (by kernel_rfl) (by kernel_rfl) (fun _ _ _ h => h) (Or.inl ⟨by rfl, ?_⟩) (by assumption) ?_
              rotate_left
              · intro w hSw; (try dsimp only at hSw); go_simp; try with_reducible rfl
              try simp only [Act.put, List.setIfInBounds_toArray, List.set_cons_zero, List.set_cons_succ]
              refine wpAnyH_take (i := 1) (oi := ⟨_, _, _, _, _, _⟩) (v := ?_) rfl (by kernel_rfl) (by kernel_rfl) (by kernel_rfl) (fun _ _ _ h => h) (Or.inl ⟨by rfl, ?_⟩) (by assumption) ?_
              rotate_left
              · intro w hSw; (try dsimp only at hSw); go_simp; try with_reducible rfl
              try simp only [Act.put, List.setIfInBounds_toArray, List.set_cons_zero, List.set_cons_succ]
              refine wpAnyH_take (i := 2) (oi := ⟨_, _, _, _, _, _⟩) (v := ?_) rfl (by kernel_rfl) (by kernel_rfl) (by kernel_rfl) (fun _ _ _ h => h) (Or.inl ⟨by rfl, ?_⟩) (by assumption) ?_
              rotate_left
              · intro w hSw; (try dsimp only at hSw); go_simp; try with_reducible rfl
              try simp only [Act.put, List.setIfInBounds_toArray, List.set_cons_zero, List.set_cons_succ]
              refine wpAnyH_take (i := 3) (oi := ⟨_, _, _, _, _, _⟩) (v := ?_) rfl (by kernel_rfl) (by kernel_rfl) (by kernel_rfl) (fun _ _ _ h => h) (Or.inl ⟨by rfl, ?_⟩) (by assumption) ?_
              rotate_left
              · intro w hSw; (try dsimp only at hSw); go_simp; try with_reducible rfl
              try simp only [Act.put, List.setIfInBounds_toArray, List.set_cons_zero, List.set_cons_succ]
              refine wpAnyH_take (i := 4) (oi := ⟨_, _, _, _, _, _⟩) (v := ?_) rfl (by kernel_rfl) (by kernel_rfl) (by kernel_rfl) (fun _ _ _ h => h) (Or.inl ⟨by rfl, ?_⟩) (by assumption) ?_
              rotate_left
              · intro w hSw; (try dsimp only at hSw); go_simp; try with_reducible rfl
              try simp only [Act.put, List.setIfInBounds_toArray, List.set_cons_zero, List.set_cons_succ]
              refine wpAnyH_take (i := 5) (oi := ⟨_, _, _, _, _, _⟩) (v := ?_) rfl (by kernel_rfl) (by kernel_rfl) (by kernel_rfl) (fun _ _ _ h => h) (Or.inl ⟨by rfl, ?_⟩) (by assumption) ?_
              rotate_left
              · intro w hSw; (try dsimp only at hSw); go_simp; try with_reducible rfl
              try simp only [Act.put, List.setIfInBounds_toArray, List.set_cons_zero, List.set_cons_succ]
              refine wpAnyH_take (i := 6) (oi := ⟨_, _, _, _, _, _⟩) (v := ?_) rfl (by kernel_rfl) (by kernel_rfl) (by kernel_rfl) (fun _ _ _ h => h) (Or.inl ⟨by rfl, ?_⟩) (by assumption) ?_
              rotate_left
              · intro w hSw; (try dsimp only at hSw); go_simp; try with_reducible rfl
              try simp only [Act.put, List.setIfInBounds_toArray, List.set_cons_zero, List.set_cons_succ]
              refine wpAnyH_take (i := 7) (oi := ⟨_, _, _, _, _, _⟩) (v := ?_) rfl (by kernel_rfl) (by kernel_rfl) (by kernel_rfl) (fun _ _ _ h => h) (Or.inl ⟨by rfl, ?_⟩) (by assumption) ?_
              rotate_left
              · intro w hSw; (try dsimp only at hSw); go_simp; try with_reducible rfl
              try simp only [Act.put, List.setIfInBounds_toArray, List.set_cons_zero, List.set_cons_succ]
              refine wpAnyH_take (i := 8) (oi := ⟨_, _, _, _, _, _⟩) (v := ?_) rfl (by kernel_rfl) (by kernel_rfl) (by kernel_rfl) (fun _ _ _ h => h) (Or.inl ⟨by rfl, ?_⟩) (by assumption) ?_
              rotate_left
              · intro w hSw; (try dsimp only at hSw); go_simp; try with_reducible rfl
              try simp only [Act.put, List.setIfInBounds_toArray, List.set_cons_zero, List.set_cons_succ]
              refine wpAnyH_take (i := 9) (oi := ⟨_, _, _, _, _, _⟩) (v := ?_) rfl (by kernel_rfl) (by kernel_rfl) (by kernel_rfl) (fun _ _ _ h => h) (Or.inl ⟨by rfl, ?_⟩) (by assumption) ?_
              rotate_left
              · intro w hSw; (try dsimp only at hSw); go_simp; try with_reducible rfl
              try simp only [Act.put, List.setIfInBounds_toArray, List.set_cons_zero, List.set_cons_succ]
              refine wpAnyH_ready (rs := [10]) (by kernel_rfl) (by simp) ?_
              refine AllReadyH.cons (o := ⟨_, _, _, _, _, _⟩) rfl (fun K hK => ?_) AllReadyH.nil
              go_simp
              go_at_call 41
              (with_reducible refine (hMk16).out.mono ?_)
              rintro e w17 ⟨A6, c6, Al6, cl6, rfl, hr6, -, hrm6, hb17⟩
              have hcc17 := (hk17 (W := X16.drew) hb17 (Nat.le_refl _) hcc16).out
              have hs17 : X16.heap.size ≤ w17.heap.size := hb17.size
              have hb1617 : Below X16.heap.size X16 w17 := (Below.refl _ X16).drew.trans hb17
              have hB17 := hB16.trans (hb1617.mono hB16.size)
              have hSa17 := hSa A6 Al6 c6 cl6 w17 ((hr1416.below hb1617).more hb1617.size) hr6 ((hrm1516.below hb1617).more hb1617.size) hrm6.rdm
              go_wp2_with (fail)
              refine hK.out _ _ (by (try dsimp only); exact hcc17.out) (fun hHeld => ?_)
              clear hK K
              try simp only [Act.put, List.setIfInBounds_toArray, List.set_cons_zero, List.set_cons_succ]
              refine wpAnyH_ready (rs := [11]) (by kernel_rfl) (by simp) ?_
              refine AllReadyH.cons (o := ⟨_, _, _, _, _, _⟩) rfl (fun K hK => ?_) AllReadyH.nil
              go_simp
              go_at_call 38
              (with_reducible refine (hSa17).out.mono ?_)
              rintro e w18 ⟨rfl, hb18⟩
              go_wp2_with (fail)
              refine hK.out _ _ (by (try dsimp only); exact (hk17 hb18 hs17 hcc17).out.out) (fun hHeld => ?_)
              clear hK K
              try simp only [Act.put, List.setIfInBounds_toArray, List.set_cons_zero, List.set_cons_succ]
              refine wpAnyH_take (i := 12) (oi := ⟨_, _, _, _, _, _⟩) (v := ?_) rfl (by kernel_rfl) (by kernel_rfl) (by kernel_rfl) (fun _ _ _ h => h) (Or.inl ⟨by rfl, ?_⟩) (by assumption) ?_
              rotate_left
              · intro w hSw; (try dsimp only at hSw); go_simp; try with_reducible rfl
              try simp only [Act.put, List.setIfInBounds_toArray, List.set_cons_zero, List.set_cons_succ]
              refine wpAnyH_take (i := 13) (oi := ⟨_, _, _, _, _, _⟩) (v := ?_) rfl (by kernel_rfl) (by kernel_rfl) (by kernel_rfl) (fun _ _ _ h => h) (Or.inl ⟨by rfl, ?_⟩) (by assumption) ?_
              rotate_left
              · intro w hSw; (try dsimp only at hSw); go_simp; try with_reducible rfl
              try simp only [Act.put, List.setIfInBounds_toArray, List.set_cons_zero, List.set_cons_succ]
              refine wpAnyH_done (by kernel_rfl) ?_ _
              go_wp2_with (fail)
              go_ret
              exact ⟨by simp, hB17.trans (hb18.mono hB17.size)⟩
end Go.Proofs.Ytnbkmkeiophjoaa
