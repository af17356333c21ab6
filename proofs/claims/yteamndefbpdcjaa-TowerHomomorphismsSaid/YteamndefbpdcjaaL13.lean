/- TowerHomomorphisms: the walk. -/
import Derived.Test.YteamndefbpdcjaaL01
import Derived.Test.YteamndefbpdcjaaEmbT
import Derived.Test.YteamndefbpdcjaaEmbR
import Derived.Test.YteamndefbpdcjaaL12
namespace Go.Proofs.Yteamndefbpdcjaa
open Go.RowKit Go.Shelf Cw
attribute [local go_sem] Oper.semAt_some

theorem keepL {B b i j k l : Nat} {W w1 : World} {u v x y : Value} (hb : Below B W w1) (hlt : b < B) (h : W.cell? ⟨b, i, none⟩ = some u ∧ W.cell? ⟨b, j, none⟩ = some v ∧ W.cell? ⟨b, k, none⟩ = some x ∧ W.cell? ⟨b, l, none⟩ = some y) :
    w1.cell? ⟨b, i, none⟩ = some u ∧ w1.cell? ⟨b, j, none⟩ = some v ∧ w1.cell? ⟨b, k, none⟩ = some x ∧ w1.cell? ⟨b, l, none⟩ = some y :=
  ⟨(hb.cell (p := ⟨b, i, none⟩) hlt).trans h.1, (hb.cell (p := ⟨b, j, none⟩) hlt).trans h.2.1, (hb.cell (p := ⟨b, k, none⟩) hlt).trans h.2.2.1, (hb.cell (p := ⟨b, l, none⟩) hlt).trans h.2.2.2⟩

set_option maxRecDepth 100000 in
set_option maxHeartbeats 4000000 in
theorem thL (P0 M0 : Int) (ml0 : List Int) (A0 : Option Addr) (c0 : Nat) (P1 M1 : Int) (ml1 : List Int) (A1 : Option Addr) (c1 : Nat) (x2 y2 : Int) (w : World) (hP0 : I64 P0) (hM0 : I64 M0) (hl0 : ml0.length ≤ maxLen) (hr0 : Rd w w.heap.size A0 ml0) (hP1 : I64 P1) (hM1 : I64 M1) (hl1 : ml1.length ≤ maxLen) (hr1 : Rd w w.heap.size A1 ml1) (_hx2 : I64 x2) (_hy2 : I64 y2) :
    Calls Try.prog 15 #[.agg #[.int .i64 P0, .int .i64 M0, .slice A0 ml0.length c0], .agg #[.int .i64 P1, .int .i64 M1, .slice A1 ml1.length c1], .agg #[.int .i64 x2, .int .i64 y2]] w (LawEnd w) := by
  have hA := fun W => Lib.hid (alive_any W)
  have hMd := fun W h => Lib.hid (made_any P1 M1 ml1 A1 c1 W hP1 hM1 hl1 h)
  obtain ⟨w0, hZ⟩ : ∃ Z, Z = ((w.alloc (.cells #[.int .i64 P0, .int .i64 M0, .slice A0 ml0.length c0] 24)).alloc (.cells #[.int .i64 P1, .int .i64 M1, .slice A1 ml1.length c1] 24)).alloc (.cells #[.int .i64 x2, .int .i64 y2] 31) := ⟨_, rfl⟩
  have hB0 : Below w.heap.size w w0 := by rw [hZ]; exact (((Below.refl _ _).alloc (Nat.le_refl _) _).alloc (by simp) _).alloc (by simp; omega) _
  have hL0 : w.heap.size + 2 < w0.heap.size := by rw [hZ]; simp
  have kp0 : Hid (Box6 w0 w.heap.size (.int .i64 P0) (.int .i64 M0) (.slice A0 ml0.length c0) (.int .i64 P1) (.int .i64 M1) (.slice A1 ml1.length c1)) := by unfold Hid Box6; rw [hZ]; simp [go_sem]
  have kv0 : Hid (w0.cell? ⟨w.heap.size + 2, 0, none⟩ = some (.int .i64 x2) ∧ w0.cell? ⟨w.heap.size + 2, 1, none⟩ = some (.int .i64 y2)) := by unfold Hid; rw [hZ]; simp [go_sem]
  have hz0 := (hr0.below hB0).more hB0.size
  have hy0 := (hr1.below hB0).more hB0.size
  clear hP1 hM1 hl1 hr0 hr1
  replace hZ := Lib.hid hZ
  go_enter Try.func15, Try.ntmps15
  go_wp2_with (fail)
  rw [← hZ.out]
  (with_reducible refine (hA _).out.mono ?_)
  rintro e w1 ⟨rfl, hb1⟩
  have hs1 : w0.heap.size ≤ w1.heap.size := hb1.size
  have hy1 := (hy0.below hb1).more hb1.size
  have hz1 := (hz0.below hb1).more hb1.size
  have kp1 := Lib.hid (kp0.out.keep hb1 (Nat.lt_of_succ_lt hL0))
  have kv1 := Lib.hid (keep2 hb1 hL0 kv0.out)
  have hL1 := Nat.lt_of_lt_of_le hL0 hs1
  have hB1 := hB0.trans (hb1.mono hB0.size)
  have hM1 := hMd w1 hy1
  clear hMd hA hB0 kp0 hb1 hZ hz0 hy0 hL0 hs1 kv0
  have hh := kp1.out
  unfold Box6 at hh
  obtain ⟨q0, q1, q2, q3, q4, q5⟩ := hh
  obtain ⟨q6, q7⟩ := kv1.out
  go_wp2_with (fail)
  (with_reducible refine hM1.out.mono ?_)
  rintro e w2 ⟨hb2, ⟨g, F, rfl, rfl, rfl, rfl, hgl, hg2⟩ | rfl⟩
  rotate_left
  · clear q0 q1 q2 q3 q4 q5 q6 q7
    go_wp2_with (fail)
    go_ret
    exact ⟨rfl, hB1.trans (hb2.mono hB1.size)⟩
  clear q0 q1 q2 q3 q4 q5 q6 q7
  have hs2 : w1.heap.size ≤ w2.heap.size := hb2.size
  have hr2 := (hy1.below hb2).more hb2.size
  have hz2 := (hz1.below hb2).more hb2.size
  have kp2 := Lib.hid (kp1.out.keep hb2 (Nat.lt_of_succ_lt hL1))
  have kv2 := Lib.hid (keep2 hb2 hL1 kv1.out)
  have hl2 := Nat.lt_of_lt_of_le hL1 hs2
  have hB2 := hB1.trans (hb2.mono hB1.size)
  clear hM1 hy1 hz1 kp1 hB1 hb2 hL1 hs2 kv1
  rw [modL_length] at kp2
  have hfm8 := F.m8; have hfm1 := F.m1; have hfp := F.p256
  by_cases hgd : Good P0 M0 ml0
  · have hgd2 := hgd
    obtain ⟨D, rfl, rfl, rfl, -⟩ := hgd
    obtain ⟨u, hu⟩ := gen_of_good hgd2
    obtain ⟨S, rfl⟩ : ∃ S : FD, S.toDesc = D := ⟨mkFD D u hu, rfl⟩
    clear hu u
    rw [modL_length] at kp2
    have hsm8 := S.m8; have hsm1 := S.m1; have hsp := S.p256
    have hC := fun W h => Lib.hid (Check_any S.p S.m (modL S.toDesc) A0 c0 W (by omega) (by omega) (by rw [modL_length]; have := S.hlen; unfold maxLen; split at this <;> omega) h)
    rw [chk_yes hgd2, modL_length] at hC
    by_cases hno : S.p = F.p ∧ divB F.m S.m = true
    · obtain ⟨hp, hd⟩ := hno
      have hdv : S.m ∣ F.m := by obtain ⟨d, e, -, -, h⟩ := divB_nat hd; rw [Int.ofNat.inj e]; exact h
      obtain ⟨rt, hrt⟩ := isRt_ex hp hdv
      have hE := fun W a b => Lib.hid (tEmbed_yes S F rt A0 c0 g W a b hgd2 hp hd hrt)
      have hpp : ((S.p : Int) != (F.p : Int)) = false := by rw [hp]; simp
      have hmz : Hid ((F.m : Int) % (S.m : Int) = 0) := Int.emod_eq_zero_of_dvd (Int.natCast_dvd_natCast.2 hdv)
      have hchr : nsm S.p (1 : R F.toDesc) = 0 := by rw [hp]; exact char_R
      have hlen := embL_length S F rt
      have hsq := S.q256; have hfq := F.q256
      have hO := fun W => Lib.hid (Order_any S.p S.m A0 S.mod.length c0 W (by omega) (by omega))
      rw [qOf_D] at hO
      have hIn := fun x W => Lib.hid (In_any S.toDesc x A0 S.mod.length c0 W)
      obtain ⟨ua, hua⟩ : ∃ ua, ua = eli S.toDesc x2 := ⟨_, rfl⟩
      obtain ⟨ub, hub⟩ : ∃ ub, ub = eli S.toDesc y2 := ⟨_, rfl⟩
      have hIa := hIn x2; have hIb := hIn y2
      rw [← hua] at hIa
      rw [← hub] at hIb
      have hAs := fun W => Lib.hid (Add_any S.toDesc (ci ua) (ci ub) A0 S.mod.length c0 W)
      rw [eli_ci, eli_ci] at hAs
      have hMs := fun W h => Lib.hid (Mul_any S.toDesc (ci ua) (ci ub) A0 c0 W h)
      rw [eli_ci, eli_ci] at hMs
      have hAf := fun W => Lib.hid (Add_any F.toDesc (ci (phi S F (rel F.toDesc rt) ua)) (ci (phi S F (rel F.toDesc rt) ub)) A1 F.mod.length c1 W)
      rw [eli_ci, eli_ci, ← phi_add hchr] at hAf
      have hMf := fun W h => Lib.hid (Mul_any F.toDesc (ci (phi S F (rel F.toDesc rt) ua)) (ci (phi S F (rel F.toDesc rt) ub)) A1 c1 W h)
      rw [eli_ci, eli_ci, ← phi_mul hchr hrt.2.1] at hMf
      have hget : ∀ v : R S.toDesc, (embL S F rt)[rcode v]?.getD 0 = ci (phi S F (rel F.toDesc rt) v) := fun v => by rw [embL_get S F rt (rcode_lt v), rel_rcode]
      have hga := hget ua; have hgb := hget ub; have hgs := hget (ua + ub); have hgp := hget (ua * ub)
      obtain ⟨ya, hya⟩ : ∃ y, y = ci (phi S F (rel F.toDesc rt) ua) := ⟨_, rfl⟩
      obtain ⟨yb, hyb⟩ : ∃ y, y = ci (phi S F (rel F.toDesc rt) ub) := ⟨_, rfl⟩
      obtain ⟨ys, hys⟩ : ∃ y, y = ci (phi S F (rel F.toDesc rt) (ua + ub)) := ⟨_, rfl⟩
      obtain ⟨yp, hyp⟩ : ∃ y, y = ci (phi S F (rel F.toDesc rt) (ua * ub)) := ⟨_, rfl⟩
      rw [← hya] at hga; rw [← hyb] at hgb; rw [← hys] at hgs; rw [← hyp] at hgp
      rw [← hya, ← hyb, ← hys] at hAf
      rw [← hya, ← hyb, ← hyp] at hMf
      have hna := rcode_lt ua; have hnb := rcode_lt ub; have hns := rcode_lt (ua + ub); have hnp := rcode_lt (ua * ub)
      have eci : ∀ v : R S.toDesc, ci v = ((rcode v : Nat) : Int) := fun v => rfl
      rw [eci] at hIa hIb
      rw [eci ua, eci ub, eci (ua + ub)] at hAs
      rw [eci ua, eci ub, eci (ua * ub)] at hMs
      obtain ⟨na, hna2⟩ : ∃ n, n = rcode ua := ⟨_, rfl⟩
      obtain ⟨nb, hnb2⟩ : ∃ n, n = rcode ub := ⟨_, rfl⟩
      obtain ⟨ns, hns2⟩ : ∃ n, n = rcode (ua + ub) := ⟨_, rfl⟩
      obtain ⟨np, hnp2⟩ : ∃ n, n = rcode (ua * ub) := ⟨_, rfl⟩
      rw [← hna2] at hna hga hIa hAs hMs
      rw [← hnb2] at hnb hgb hIb hAs hMs
      rw [← hns2] at hns hgs hAs
      rw [← hnp2] at hnp hgp hMs
      generalize embL S F rt = l at *
      clear hget hrt hdv hd hua hub hya hyb hys hyp hna2 hnb2 hns2 hnp2 eci hchr hIn ua ub
      have hpz : ((S.p : Int) == (F.p : Int)) = true := by rw [hp]; simp
      replace hp := Lib.hid hp
      replace hlen := Lib.hid hlen
      replace hga := Lib.hid hga
      replace hgb := Lib.hid hgb
      replace hgs := Lib.hid hgs
      replace hgp := Lib.hid hgp
      have hmz2 := hmz.out
      have hll : l.length ≤ 256 := by rw [hlen.out]; exact hsq
      have hh := kp2.out
      unfold Box6 at hh
      obtain ⟨q0, q1, q2, q3, q4, q5⟩ := hh
      obtain ⟨q6, q7⟩ := kv2.out
      go_wp2_with (fail)
      (with_reducible refine (hC w2 hz2).out.mono ?_)
      rintro e w3 ⟨rfl, hb3⟩
      have hs3 : w2.heap.size ≤ w3.heap.size := hb3.size
      have hg3 := (hg2.below hb3).more hb3.size
      have hr3 := (hr2.below hb3).more hb3.size
      have hz3 := (hz2.below hb3).more hb3.size
      have kp3 := Lib.hid (kp2.out.keep hb3 (Nat.lt_of_succ_lt hl2))
      have kv3 := Lib.hid (keep2 hb3 hl2 kv2.out)
      have hl3 := Nat.lt_of_lt_of_le hl2 hs3
      have hB3 := (hB2).trans (hb3.mono hB2.size)
      clear q0 q1 q2 q3 q4 q5 q6 q7 hg2 hr2 hz2 hB2 kp2 hb3 kv2
      have hh := kp3.out
      unfold Box6 at hh
      obtain ⟨q0, q1, q2, q3, q4, q5⟩ := hh
      obtain ⟨q6, q7⟩ := kv3.out
      go_wp2_with (fail)
      (with_reducible refine (hE w3 hg3 hz3).out.mono ?_)
      rintro e w4 ⟨v, rfl, hown, hb4⟩
      have hs4 : w3.heap.size ≤ w4.heap.size := hb4.size
      have hg4 := (hg3.below hb4).more hb4.size
      have hr4 := (hr3.below hb4).more hb4.size
      have hz4 := (hz3.below hb4).more hb4.size
      have kp4 := Lib.hid (kp3.out.keep hb4 (Nat.lt_of_succ_lt hl3))
      have kv4 := Lib.hid (keep2 hb4 hl3 kv3.out)
      have hl4 := Nat.lt_of_lt_of_le hl3 hs4
      have hB4 := (hB3).trans (hb4.mono hB3.size)
      clear q0 q1 q2 q3 q4 q5 q6 q7 hg3 hr3 hz3 hB3 kp3 hb4 kv3
      obtain ⟨Av, cv, rfl, -, hv4, -⟩ := hown.form
      clear hE hown hmz2 hpp hmz hpz
      have hzq : ((l.length : Int) != (S.q : Int)) = false := by rw [hlen.out]; simp
      have hh := kp4.out
      unfold Box6 at hh
      obtain ⟨q0, q1, q2, q3, q4, q5⟩ := hh
      obtain ⟨q6, q7⟩ := kv4.out
      go_wp2_with (fail)
      (with_reducible refine (hO w4).out.mono ?_)
      rintro e w5 ⟨rfl, hb5⟩
      have hs5 : w4.heap.size ≤ w5.heap.size := hb5.size
      have hg5 := (hg4.below hb5).more hb5.size
      have hr5 := (hr4.below hb5).more hb5.size
      have hz5 := (hz4.below hb5).more hb5.size
      have kp5 := Lib.hid (kp4.out.keep hb5 (Nat.lt_of_succ_lt hl4))
      have kv5 := Lib.hid (keep2 hb5 hl4 kv4.out)
      have hl5 := Nat.lt_of_lt_of_le hl4 hs5
      have hB5 := (hB4).trans (hb5.mono hB4.size)
      have hv5 := (hv4.below hb5).more hb5.size
      clear q0 q1 q2 q3 q4 q5 q6 q7 hg4 hr4 hz4 hB4 kp4 hb5 kv4
      clear hv4 hO
      have hcc5 := Lib.hid (show (w5.cell? ⟨w.heap.size, 0, none⟩ = some (.int .i64 S.p) ∧ w5.cell? ⟨w.heap.size, 1, none⟩ = some (.int .i64 S.m) ∧ w5.cell? ⟨w.heap.size, 2, none⟩ = some (.slice A0 S.mod.length c0) ∧ w5.cell? ⟨w.heap.size + 1, 0, none⟩ = some (.int .i64 F.p) ∧ w5.cell? ⟨w.heap.size + 1, 1, none⟩ = some (.int .i64 F.m) ∧ w5.cell? ⟨w.heap.size + 1, 2, none⟩ = some (.slice A1 F.mod.length c1)) ∧ (w5.cell? ⟨w.heap.size + 2, 0, none⟩ = some (.int .i64 x2) ∧ w5.cell? ⟨w.heap.size + 2, 1, none⟩ = some (.int .i64 y2)) from ⟨kp5.out, kv5.out⟩)
      go_wp2_with (fail)
      refine wp_region_held_drew (S := fun w' => (w'.cell? ⟨w.heap.size, 0, none⟩ = some (.int .i64 S.p) ∧ w'.cell? ⟨w.heap.size, 1, none⟩ = some (.int .i64 S.m) ∧ w'.cell? ⟨w.heap.size, 2, none⟩ = some (.slice A0 S.mod.length c0) ∧ w'.cell? ⟨w.heap.size + 1, 0, none⟩ = some (.int .i64 F.p) ∧ w'.cell? ⟨w.heap.size + 1, 1, none⟩ = some (.int .i64 F.m) ∧ w'.cell? ⟨w.heap.size + 1, 2, none⟩ = some (.slice A1 F.mod.length c1)) ∧ (w'.cell? ⟨w.heap.size + 2, 0, none⟩ = some (.int .i64 x2) ∧ w'.cell? ⟨w.heap.size + 2, 1, none⟩ = some (.int .i64 y2))) (by kernel_rfl) (by (try dsimp only); exact hcc5.out) (fun hHeld => ?_)
      refine wpAnyH_take (i := 0) (oi := ⟨_, _, _, _, _, _⟩) (v := ?_) rfl (by kernel_rfl) (by kernel_rfl) (by kernel_rfl) (fun _ _ _ h => h) (Or.inl ⟨by rfl, ?_⟩) (by assumption) ?_
      rotate_left
      · intro w hSw; (try dsimp only at hSw); go_simp; try with_reducible rfl
      try simp only [Act.put, List.setIfInBounds_toArray, List.set_cons_zero, List.set_cons_succ]
      refine wpAnyH_take (i := 1) (oi := ⟨_, _, _, _, _, _⟩) (v := ?_) rfl (by kernel_rfl) (by kernel_rfl) (by kernel_rfl) (fun _ _ _ h => h) (Or.inl ⟨by rfl, ?_⟩) (by assumption) ?_
      rotate_left
      · intro w hSw; (try dsimp only at hSw); go_simp; try with_reducible rfl
      try simp only [Act.put, List.setIfInBounds_toArray, List.set_cons_zero, List.set_cons_succ]
      refine wpAnyH_take (i := 2) (oi := ⟨_, _, _, _, _, _⟩) (v := ?_) rfl (by kernel_rfl) (by kernel_rfl) (by kernel_rfl) (fun _ _ _ h => h) (Or.inl ⟨by rfl, ?_⟩) (by assumption) ?_
      rotate_left
      · intro w hSw; (try dsimp only at hSw); go_simp; try with_reducible rfl
      try simp only [Act.put, List.setIfInBounds_toArray, List.set_cons_zero, List.set_cons_succ]
      refine wpAnyH_take (i := 4) (oi := ⟨_, _, _, _, _, _⟩) (v := ?_) rfl (by kernel_rfl) (by kernel_rfl) (by kernel_rfl) (fun _ _ _ h => h) (Or.inl ⟨by rfl, ?_⟩) (by assumption) ?_
      rotate_left
      · intro w hSw; (try dsimp only at hSw); go_simp; try with_reducible rfl
      try simp only [Act.put, List.setIfInBounds_toArray, List.set_cons_zero, List.set_cons_succ]
      refine wpAnyH_take (i := 5) (oi := ⟨_, _, _, _, _, _⟩) (v := ?_) rfl (by kernel_rfl) (by kernel_rfl) (by kernel_rfl) (fun _ _ _ h => h) (Or.inl ⟨by rfl, ?_⟩) (by assumption) ?_
      rotate_left
      · intro w hSw; (try dsimp only at hSw); go_simp; try with_reducible rfl
      try simp only [Act.put, List.setIfInBounds_toArray, List.set_cons_zero, List.set_cons_succ]
      refine wpAnyH_take (i := 6) (oi := ⟨_, _, _, _, _, _⟩) (v := ?_) rfl (by kernel_rfl) (by kernel_rfl) (by kernel_rfl) (fun _ _ _ h => h) (Or.inl ⟨by rfl, ?_⟩) (by assumption) ?_
      rotate_left
      · intro w hSw; (try dsimp only at hSw); go_simp; try with_reducible rfl
      try simp only [Act.put, List.setIfInBounds_toArray, List.set_cons_zero, List.set_cons_succ]
      refine wpAnyH_ready (rs := [3]) (by kernel_rfl) (by simp) ?_
      refine AllReadyH.cons (o := ⟨_, _, _, _, _, _⟩) rfl (fun K hK => ?_) AllReadyH.nil
      go_simp
      go_at_call 26
      (with_reducible refine (hIa w5.drew).out.mono ?_)
      rintro e w6 ⟨rfl, hx6⟩
      have hb6 := (Below.refl w5.heap.size w5).drew.trans hx6
      have hs6 : w5.heap.size ≤ w6.heap.size := hb6.size
      have hg6 := (hg5.below hb6).more hb6.size
      have hr6 := (hr5.below hb6).more hb6.size
      have hz6 := (hz5.below hb6).more hb6.size
      have kp6 := Lib.hid (kp5.out.keep hb6 (Nat.lt_of_succ_lt hl5))
      have kv6 := Lib.hid (keep2 hb6 hl5 kv5.out)
      have hl6 := Nat.lt_of_lt_of_le hl5 hs6
      have hB6 := (hB5).trans (hb6.mono hB5.size)
      have hv6 := (hv5.below hb6).more hb6.size
      go_wp2_with (fail)
      refine hK.out _ _ (by (try dsimp only); exact ⟨kp6.out, kv6.out⟩) (fun hHeld => ?_)
      clear hK K
      try simp only [Act.put, List.setIfInBounds_toArray, List.set_cons_zero, List.set_cons_succ]
      refine wpAnyH_ready (rs := [7]) (by kernel_rfl) (by simp) ?_
      refine AllReadyH.cons (o := ⟨_, _, _, _, _, _⟩) rfl (fun K hK => ?_) AllReadyH.nil
      go_simp
      go_at_call 26
      (with_reducible refine (hIb w6).out.mono ?_)
      rintro e w7 ⟨rfl, hb7⟩
      have hs7 : w6.heap.size ≤ w7.heap.size := hb7.size
      have hg7 := (hg6.below hb7).more hb7.size
      have hr7 := (hr6.below hb7).more hb7.size
      have hz7 := (hz6.below hb7).more hb7.size
      have kp7 := Lib.hid (kp6.out.keep hb7 (Nat.lt_of_succ_lt hl6))
      have kv7 := Lib.hid (keep2 hb7 hl6 kv6.out)
      have hl7 := Nat.lt_of_lt_of_le hl6 hs7
      have hB7 := (hB6).trans (hb7.mono hB6.size)
      have hv7 := (hv6.below hb7).more hb7.size
      go_wp2_with (fail)
      refine hK.out _ _ (by (try dsimp only); exact ⟨kp7.out, kv7.out⟩) (fun hHeld => ?_)
      clear hK K
      try simp only [Act.put, List.setIfInBounds_toArray, List.set_cons_zero, List.set_cons_succ]
      refine wpAnyH_take (i := 8) (oi := ⟨_, _, _, _, _, _⟩) (v := ?_) rfl (by kernel_rfl) (by kernel_rfl) (by kernel_rfl) (fun _ _ _ h => h) (Or.inl ⟨by rfl, ?_⟩) (by assumption) ?_
      rotate_left
      · intro w hSw; (try dsimp only at hSw); go_simp; try with_reducible rfl
      try simp only [Act.put, List.setIfInBounds_toArray, List.set_cons_zero, List.set_cons_succ]
      refine wpAnyH_take (i := 9) (oi := ⟨_, _, _, _, _, _⟩) (v := ?_) rfl (by kernel_rfl) (by kernel_rfl) (by kernel_rfl) (fun _ _ _ h => h) (Or.inl ⟨by rfl, ?_⟩) (by assumption) ?_
      rotate_left
      · intro w hSw; (try dsimp only at hSw); go_simp; try with_reducible rfl
      try simp only [Act.put, List.setIfInBounds_toArray, List.set_cons_zero, List.set_cons_succ]
      refine wpAnyH_done (by kernel_rfl) ?_ _
      have hlna : na < l.length := by rw [hlen.out]; exact hna
      have hlnb : nb < l.length := by rw [hlen.out]; exact hnb
      have hlns : ns < l.length := by rw [hlen.out]; exact hns
      have hlnp : np < l.length := by rw [hlen.out]; exact hnp
      obtain ⟨bl, ol, rfl, hbl, hca⟩ := hv7.at_ hlna
      obtain ⟨b2, o2, e2, -, hcb⟩ := hv7.at_ hlnb
      cases e2
      obtain ⟨b2, o2, e2, -, hcs⟩ := hv7.at_ hlns
      cases e2
      obtain ⟨b2, o2, e2, -, hcp⟩ := hv7.at_ hlnp
      cases e2
      rw [hga.out] at hca
      rw [hgb.out] at hcb
      rw [hgs.out] at hcs
      rw [hgp.out] at hcp
      have kl7 := Lib.hid (show (w7.cell? ⟨bl, ol + na, none⟩ = some (.int .i64 ya) ∧ w7.cell? ⟨bl, ol + nb, none⟩ = some (.int .i64 yb) ∧ w7.cell? ⟨bl, ol + ns, none⟩ = some (.int .i64 ys) ∧ w7.cell? ⟨bl, ol + np, none⟩ = some (.int .i64 yp)) from ⟨hca, hcb, hcs, hcp⟩)
      have i1 : (0 : Int) ≤ na := by omega
      have i2 : (0 : Int) ≤ nb := by omega
      have i3 : (0 : Int) ≤ ns := by omega
      have i4 : (0 : Int) ≤ np := by omega
      have j1 : (na : Int) < (l.length : Int) := by omega
      have j2 : (nb : Int) < (l.length : Int) := by omega
      have j3 : (ns : Int) < (l.length : Int) := by omega
      have j4 : (np : Int) < (l.length : Int) := by omega
      clear hca hcb hcs hcp hcc5 hzq
      go_wp2_with (fail)
      have hbl7 := hbl
      refine wp_region_held_drew (S := fun w' => (w'.cell? ⟨w.heap.size, 0, none⟩ = some (.int .i64 S.p) ∧ w'.cell? ⟨w.heap.size, 1, none⟩ = some (.int .i64 S.m) ∧ w'.cell? ⟨w.heap.size, 2, none⟩ = some (.slice A0 S.mod.length c0) ∧ w'.cell? ⟨w.heap.size + 1, 0, none⟩ = some (.int .i64 F.p) ∧ w'.cell? ⟨w.heap.size + 1, 1, none⟩ = some (.int .i64 F.m) ∧ w'.cell? ⟨w.heap.size + 1, 2, none⟩ = some (.slice A1 F.mod.length c1)) ∧ (w'.cell? ⟨bl, ol + na, none⟩ = some (.int .i64 ya) ∧ w'.cell? ⟨bl, ol + nb, none⟩ = some (.int .i64 yb) ∧ w'.cell? ⟨bl, ol + ns, none⟩ = some (.int .i64 ys) ∧ w'.cell? ⟨bl, ol + np, none⟩ = some (.int .i64 yp))) (by kernel_rfl) (by (try dsimp only); exact ⟨kp7.out, kl7.out⟩) (fun hHeld => ?_)
      refine wpAnyH_take (i := 0) (oi := ⟨_, _, _, _, _, _⟩) (v := ?_) rfl (by kernel_rfl) (by kernel_rfl) (by kernel_rfl) (fun _ _ _ h => h) (Or.inl ⟨by rfl, ?_⟩) (by assumption) ?_
      rotate_left
      · intro w hSw; (try dsimp only at hSw); go_simp; try with_reducible rfl
      try simp only [Act.put, List.setIfInBounds_toArray, List.set_cons_zero, List.set_cons_succ]
      refine wpAnyH_take (i := 1) (oi := ⟨_, _, _, _, _, _⟩) (v := ?_) rfl (by kernel_rfl) (by kernel_rfl) (by kernel_rfl) (fun _ _ _ h => h) (Or.inl ⟨by rfl, ?_⟩) (by assumption) ?_
      rotate_left
      · intro w hSw; (try dsimp only at hSw); go_simp; try with_reducible rfl
      try simp only [Act.put, List.setIfInBounds_toArray, List.set_cons_zero, List.set_cons_succ]
      refine wpAnyH_take (i := 2) (oi := ⟨_, _, _, _, _, _⟩) (v := ?_) rfl (by kernel_rfl) (by kernel_rfl) (by kernel_rfl) (fun _ _ _ h => h) (Or.inl ⟨by rfl, ?_⟩) (by assumption) ?_
      rotate_left
      · intro w hSw; (try dsimp only at hSw); go_simp; try with_reducible rfl
      try simp only [Act.put, List.setIfInBounds_toArray, List.set_cons_zero, List.set_cons_succ]
      refine wpAnyH_take (i := 3) (oi := ⟨_, _, _, _, _, _⟩) (v := ?_) rfl (by kernel_rfl) (by kernel_rfl) (by kernel_rfl) (fun _ _ _ h => h) (Or.inl ⟨by rfl, ?_⟩) (by assumption) ?_
      rotate_left
      · intro w hSw; (try dsimp only at hSw); go_simp; try with_reducible rfl
      try simp only [Act.put, List.setIfInBounds_toArray, List.set_cons_zero, List.set_cons_succ]
      refine wpAnyH_take (i := 7) (oi := ⟨_, _, _, _, _, _⟩) (v := ?_) rfl (by kernel_rfl) (by kernel_rfl) (by kernel_rfl) (fun _ _ _ h => h) (Or.inl ⟨by rfl, ?_⟩) (by assumption) ?_
      rotate_left
      · intro w hSw; (try dsimp only at hSw); go_simp; try with_reducible rfl
      try simp only [Act.put, List.setIfInBounds_toArray, List.set_cons_zero, List.set_cons_succ]
      refine wpAnyH_take (i := 8) (oi := ⟨_, _, _, _, _, _⟩) (v := ?_) rfl (by kernel_rfl) (by kernel_rfl) (by kernel_rfl) (fun _ _ _ h => h) (Or.inl ⟨by rfl, ?_⟩) (by assumption) ?_
      rotate_left
      · intro w hSw; (try dsimp only at hSw); go_simp; try with_reducible rfl
      try simp only [Act.put, List.setIfInBounds_toArray, List.set_cons_zero, List.set_cons_succ]
      refine wpAnyH_take (i := 9) (oi := ⟨_, _, _, _, _, _⟩) (v := ?_) rfl (by kernel_rfl) (by kernel_rfl) (by kernel_rfl) (fun _ _ _ h => h) (Or.inl ⟨by rfl, ?_⟩) (by assumption) ?_
      rotate_left
      · intro w hSw; (try dsimp only at hSw); go_simp; try with_reducible rfl
      try simp only [Act.put, List.setIfInBounds_toArray, List.set_cons_zero, List.set_cons_succ]
      refine wpAnyH_take (i := 10) (oi := ⟨_, _, _, _, _, _⟩) (v := ?_) rfl (by kernel_rfl) (by kernel_rfl) (by kernel_rfl) (fun _ _ _ h => h) (Or.inl ⟨by rfl, ?_⟩) (by assumption) ?_
      rotate_left
      · intro w hSw; (try dsimp only at hSw); go_simp; try with_reducible rfl
      try simp only [Act.put, List.setIfInBounds_toArray, List.set_cons_zero, List.set_cons_succ]
      refine wpAnyH_take (i := 11) (oi := ⟨_, _, _, _, _, _⟩) (v := ?_) rfl (by kernel_rfl) (by kernel_rfl) (by kernel_rfl) (fun _ _ _ h => h) (Or.inl ⟨by rfl, ?_⟩) (by assumption) ?_
      rotate_left
      · intro w hSw; (try dsimp only at hSw); go_simp; try with_reducible rfl
      try simp only [Act.put, List.setIfInBounds_toArray, List.set_cons_zero, List.set_cons_succ]
      refine wpAnyH_take (i := 12) (oi := ⟨_, _, _, _, _, _⟩) (v := ?_) rfl (by kernel_rfl) (by kernel_rfl) (by kernel_rfl) (fun _ _ _ h => h) (Or.inl ⟨by rfl, ?_⟩) (by assumption) ?_
      rotate_left
      · intro w hSw; (try dsimp only at hSw); go_simp; try with_reducible rfl
      try simp only [Act.put, List.setIfInBounds_toArray, List.set_cons_zero, List.set_cons_succ]
      refine wpAnyH_take (i := 13) (oi := ⟨_, _, _, _, _, _⟩) (v := ?_) rfl (by kernel_rfl) (by kernel_rfl) (by kernel_rfl) (fun _ _ _ h => h) (Or.inl ⟨by rfl, ?_⟩) (by assumption) ?_
      rotate_left
      · intro w hSw; (try dsimp only at hSw); go_simp; try with_reducible rfl
      try simp only [Act.put, List.setIfInBounds_toArray, List.set_cons_zero, List.set_cons_succ]
      refine wpAnyH_take (i := 14) (oi := ⟨_, _, _, _, _, _⟩) (v := ?_) rfl (by kernel_rfl) (by kernel_rfl) (by kernel_rfl) (fun _ _ _ h => h) (Or.inl ⟨by rfl, ?_⟩) (by assumption) ?_
      rotate_left
      · intro w hSw; (try dsimp only at hSw); go_simp; try with_reducible rfl
      try simp only [Act.put, List.setIfInBounds_toArray, List.set_cons_zero, List.set_cons_succ]
      refine wpAnyH_take (i := 15) (oi := ⟨_, _, _, _, _, _⟩) (v := ?_) rfl (by kernel_rfl) (by kernel_rfl) (by kernel_rfl) (fun _ _ _ h => h) (Or.inl ⟨by rfl, ?_⟩) (by assumption) ?_
      rotate_left
      · intro w hSw; (try dsimp only at hSw); go_simp; try with_reducible rfl
      try simp only [Act.put, List.setIfInBounds_toArray, List.set_cons_zero, List.set_cons_succ]
      refine wpAnyH_ready (rs := [4]) (by kernel_rfl) (by simp) ?_
      refine AllReadyH.cons (o := ⟨_, _, _, _, _, _⟩) rfl (fun K hK => ?_) AllReadyH.nil
      go_simp
      go_at_call 24
      (with_reducible refine (hAs w7.drew).out.mono ?_)
      rintro e w8 ⟨rfl, hx8⟩
      have hb8 := (Below.refl w7.heap.size w7).drew.trans hx8
      have hs8 : w7.heap.size ≤ w8.heap.size := hb8.size
      have hg8 := (hg7.below hb8).more hb8.size
      have hr8 := (hr7.below hb8).more hb8.size
      have hz8 := (hz7.below hb8).more hb8.size
      have kp8 := Lib.hid (kp7.out.keep hb8 (Nat.lt_of_succ_lt hl7))
      have kv8 := Lib.hid (keep2 hb8 hl7 kv7.out)
      have hl8 := Nat.lt_of_lt_of_le hl7 hs8
      have hB8 := (hB7).trans (hb8.mono hB7.size)
      have kl8 := Lib.hid (keepL hb8 hbl7 kl7.out)
      have hbl8 := Nat.lt_of_lt_of_le hbl7 hs8
      go_wp2_with (fail)
      refine hK.out _ _ (by (try dsimp only); exact ⟨kp8.out, kl8.out⟩) (fun hHeld => ?_)
      clear hK K
      try simp only [Act.put, List.setIfInBounds_toArray, List.set_cons_zero, List.set_cons_succ]
      refine wpAnyH_take (i := 5) (oi := ⟨_, _, _, _, _, _⟩) (v := ?_) rfl (by kernel_rfl) (by kernel_rfl) (by kernel_rfl) (fun _ _ _ h => h) (Or.inl ⟨by rfl, ?_⟩) (by assumption) ?_
      rotate_left
      · intro w hSw; (try dsimp only at hSw); go_simp; try with_reducible rfl
      try simp only [Act.put, List.setIfInBounds_toArray, List.set_cons_zero, List.set_cons_succ]
      refine wpAnyH_take (i := 6) (oi := ⟨_, _, _, _, _, _⟩) (v := ?_) rfl (by kernel_rfl) (by kernel_rfl) (by kernel_rfl) (fun _ _ _ h => h) (Or.inl ⟨by rfl, ?_⟩) (by assumption) ?_
      rotate_left
      · intro w hSw; (try dsimp only at hSw); go_simp; try with_reducible rfl
      try simp only [Act.put, List.setIfInBounds_toArray, List.set_cons_zero, List.set_cons_succ]
      refine wpAnyH_ready (rs := [16]) (by kernel_rfl) (by simp) ?_
      refine AllReadyH.cons (o := ⟨_, _, _, _, _, _⟩) rfl (fun K hK => ?_) AllReadyH.nil
      go_simp
      go_at_call 24
      (with_reducible refine (hAf w8).out.mono ?_)
      rintro e w9 ⟨rfl, hb9⟩
      have hs9 : w8.heap.size ≤ w9.heap.size := hb9.size
      have hg9 := (hg8.below hb9).more hb9.size
      have hr9 := (hr8.below hb9).more hb9.size
      have hz9 := (hz8.below hb9).more hb9.size
      have kp9 := Lib.hid (kp8.out.keep hb9 (Nat.lt_of_succ_lt hl8))
      have kv9 := Lib.hid (keep2 hb9 hl8 kv8.out)
      have hl9 := Nat.lt_of_lt_of_le hl8 hs9
      have hB9 := (hB8).trans (hb9.mono hB8.size)
      have kl9 := Lib.hid (keepL hb9 hbl8 kl8.out)
      have hbl9 := Nat.lt_of_lt_of_le hbl8 hs9
      go_wp2_with (fail)
      refine hK.out _ _ (by (try dsimp only); exact ⟨kp9.out, kl9.out⟩) (fun hHeld => ?_)
      clear hK K
      try simp only [Act.put, List.setIfInBounds_toArray, List.set_cons_zero, List.set_cons_succ]
      refine wpAnyH_take (i := 17) (oi := ⟨_, _, _, _, _, _⟩) (v := ?_) rfl (by kernel_rfl) (by kernel_rfl) (by kernel_rfl) (fun _ _ _ h => h) (Or.inl ⟨by rfl, ?_⟩) (by assumption) ?_
      rotate_left
      · intro w hSw; (try dsimp only at hSw); go_simp; try with_reducible rfl
      try simp only [Act.put, List.setIfInBounds_toArray, List.set_cons_zero, List.set_cons_succ]
      refine wpAnyH_take (i := 18) (oi := ⟨_, _, _, _, _, _⟩) (v := ?_) rfl (by kernel_rfl) (by kernel_rfl) (by kernel_rfl) (fun _ _ _ h => h) (Or.inl ⟨by rfl, ?_⟩) (by assumption) ?_
      rotate_left
      · intro w hSw; (try dsimp only at hSw); go_simp; try with_reducible rfl
      try simp only [Act.put, List.setIfInBounds_toArray, List.set_cons_zero, List.set_cons_succ]
      refine wpAnyH_take (i := 19) (oi := ⟨_, _, _, _, _, _⟩) (v := ?_) rfl (by kernel_rfl) (by kernel_rfl) (by kernel_rfl) (fun _ _ _ h => h) (Or.inl ⟨by rfl, ?_⟩) (by assumption) ?_
      rotate_left
      · intro w hSw; (try dsimp only at hSw); go_simp; try with_reducible rfl
      try simp only [Act.put, List.setIfInBounds_toArray, List.set_cons_zero, List.set_cons_succ]
      refine wpAnyH_take (i := 20) (oi := ⟨_, _, _, _, _, _⟩) (v := ?_) rfl (by kernel_rfl) (by kernel_rfl) (by kernel_rfl) (fun _ _ _ h => h) (Or.inl ⟨by rfl, ?_⟩) (by assumption) ?_
      rotate_left
      · intro w hSw; (try dsimp only at hSw); go_simp; try with_reducible rfl
      try simp only [Act.put, List.setIfInBounds_toArray, List.set_cons_zero, List.set_cons_succ]
      refine wpAnyH_take (i := 21) (oi := ⟨_, _, _, _, _, _⟩) (v := ?_) rfl (by kernel_rfl) (by kernel_rfl) (by kernel_rfl) (fun _ _ _ h => h) (Or.inl ⟨by rfl, ?_⟩) (by assumption) ?_
      rotate_left
      · intro w hSw; (try dsimp only at hSw); go_simp; try with_reducible rfl
      try simp only [Act.put, List.setIfInBounds_toArray, List.set_cons_zero, List.set_cons_succ]
      refine wpAnyH_take (i := 22) (oi := ⟨_, _, _, _, _, _⟩) (v := ?_) rfl (by kernel_rfl) (by kernel_rfl) (by kernel_rfl) (fun _ _ _ h => h) (Or.inl ⟨by rfl, ?_⟩) (by assumption) ?_
      rotate_left
      · intro w hSw; (try dsimp only at hSw); go_simp; try with_reducible rfl
      try simp only [Act.put, List.setIfInBounds_toArray, List.set_cons_zero, List.set_cons_succ]
      refine wpAnyH_take (i := 26) (oi := ⟨_, _, _, _, _, _⟩) (v := ?_) rfl (by kernel_rfl) (by kernel_rfl) (by kernel_rfl) (fun _ _ _ h => h) (Or.inl ⟨by rfl, ?_⟩) (by assumption) ?_
      rotate_left
      · intro w hSw; (try dsimp only at hSw); go_simp; try with_reducible rfl
      try simp only [Act.put, List.setIfInBounds_toArray, List.set_cons_zero, List.set_cons_succ]
      refine wpAnyH_take (i := 27) (oi := ⟨_, _, _, _, _, _⟩) (v := ?_) rfl (by kernel_rfl) (by kernel_rfl) (by kernel_rfl) (fun _ _ _ h => h) (Or.inl ⟨by rfl, ?_⟩) (by assumption) ?_
      rotate_left
      · intro w hSw; (try dsimp only at hSw); go_simp; try with_reducible rfl
      try simp only [Act.put, List.setIfInBounds_toArray, List.set_cons_zero, List.set_cons_succ]
      refine wpAnyH_take (i := 28) (oi := ⟨_, _, _, _, _, _⟩) (v := ?_) rfl (by kernel_rfl) (by kernel_rfl) (by kernel_rfl) (fun _ _ _ h => h) (Or.inl ⟨by rfl, ?_⟩) (by assumption) ?_
      rotate_left
      · intro w hSw; (try dsimp only at hSw); go_simp; try with_reducible rfl
      try simp only [Act.put, List.setIfInBounds_toArray, List.set_cons_zero, List.set_cons_succ]
      refine wpAnyH_take (i := 29) (oi := ⟨_, _, _, _, _, _⟩) (v := ?_) rfl (by kernel_rfl) (by kernel_rfl) (by kernel_rfl) (fun _ _ _ h => h) (Or.inl ⟨by rfl, ?_⟩) (by assumption) ?_
      rotate_left
      · intro w hSw; (try dsimp only at hSw); go_simp; try with_reducible rfl
      try simp only [Act.put, List.setIfInBounds_toArray, List.set_cons_zero, List.set_cons_succ]
      refine wpAnyH_take (i := 30) (oi := ⟨_, _, _, _, _, _⟩) (v := ?_) rfl (by kernel_rfl) (by kernel_rfl) (by kernel_rfl) (fun _ _ _ h => h) (Or.inl ⟨by rfl, ?_⟩) (by assumption) ?_
      rotate_left
      · intro w hSw; (try dsimp only at hSw); go_simp; try with_reducible rfl
      try simp only [Act.put, List.setIfInBounds_toArray, List.set_cons_zero, List.set_cons_succ]
      refine wpAnyH_take (i := 31) (oi := ⟨_, _, _, _, _, _⟩) (v := ?_) rfl (by kernel_rfl) (by kernel_rfl) (by kernel_rfl) (fun _ _ _ h => h) (Or.inl ⟨by rfl, ?_⟩) (by assumption) ?_
      rotate_left
      · intro w hSw; (try dsimp only at hSw); go_simp; try with_reducible rfl
      try simp only [Act.put, List.setIfInBounds_toArray, List.set_cons_zero, List.set_cons_succ]
      refine wpAnyH_take (i := 32) (oi := ⟨_, _, _, _, _, _⟩) (v := ?_) rfl (by kernel_rfl) (by kernel_rfl) (by kernel_rfl) (fun _ _ _ h => h) (Or.inl ⟨by rfl, ?_⟩) (by assumption) ?_
      rotate_left
      · intro w hSw; (try dsimp only at hSw); go_simp; try with_reducible rfl
      try simp only [Act.put, List.setIfInBounds_toArray, List.set_cons_zero, List.set_cons_succ]
      refine wpAnyH_take (i := 33) (oi := ⟨_, _, _, _, _, _⟩) (v := ?_) rfl (by kernel_rfl) (by kernel_rfl) (by kernel_rfl) (fun _ _ _ h => h) (Or.inl ⟨by rfl, ?_⟩) (by assumption) ?_
      rotate_left
      · intro w hSw; (try dsimp only at hSw); go_simp; try with_reducible rfl
      try simp only [Act.put, List.setIfInBounds_toArray, List.set_cons_zero, List.set_cons_succ]
      refine wpAnyH_take (i := 34) (oi := ⟨_, _, _, _, _, _⟩) (v := ?_) rfl (by kernel_rfl) (by kernel_rfl) (by kernel_rfl) (fun _ _ _ h => h) (Or.inl ⟨by rfl, ?_⟩) (by assumption) ?_
      rotate_left
      · intro w hSw; (try dsimp only at hSw); go_simp; try with_reducible rfl
      try simp only [Act.put, List.setIfInBounds_toArray, List.set_cons_zero, List.set_cons_succ]
      refine wpAnyH_ready (rs := [23]) (by kernel_rfl) (by simp) ?_
      refine AllReadyH.cons (o := ⟨_, _, _, _, _, _⟩) rfl (fun K hK => ?_) AllReadyH.nil
      go_simp
      go_at_call 25
      (with_reducible refine (hMs w9 hz9).out.mono ?_)
      rintro e w10 ⟨rfl, hb10⟩
      have hs10 : w9.heap.size ≤ w10.heap.size := hb10.size
      have hg10 := (hg9.below hb10).more hb10.size
      have hr10 := (hr9.below hb10).more hb10.size
      have hz10 := (hz9.below hb10).more hb10.size
      have kp10 := Lib.hid (kp9.out.keep hb10 (Nat.lt_of_succ_lt hl9))
      have kv10 := Lib.hid (keep2 hb10 hl9 kv9.out)
      have hl10 := Nat.lt_of_lt_of_le hl9 hs10
      have hB10 := (hB9).trans (hb10.mono hB9.size)
      have kl10 := Lib.hid (keepL hb10 hbl9 kl9.out)
      have hbl10 := Nat.lt_of_lt_of_le hbl9 hs10
      go_wp2_with (fail)
      refine hK.out _ _ (by (try dsimp only); exact ⟨kp10.out, kl10.out⟩) (fun hHeld => ?_)
      clear hK K
      try simp only [Act.put, List.setIfInBounds_toArray, List.set_cons_zero, List.set_cons_succ]
      refine wpAnyH_take (i := 24) (oi := ⟨_, _, _, _, _, _⟩) (v := ?_) rfl (by kernel_rfl) (by kernel_rfl) (by kernel_rfl) (fun _ _ _ h => h) (Or.inl ⟨by rfl, ?_⟩) (by assumption) ?_
      rotate_left
      · intro w hSw; (try dsimp only at hSw); go_simp; try with_reducible rfl
      try simp only [Act.put, List.setIfInBounds_toArray, List.set_cons_zero, List.set_cons_succ]
      refine wpAnyH_take (i := 25) (oi := ⟨_, _, _, _, _, _⟩) (v := ?_) rfl (by kernel_rfl) (by kernel_rfl) (by kernel_rfl) (fun _ _ _ h => h) (Or.inl ⟨by rfl, ?_⟩) (by assumption) ?_
      rotate_left
      · intro w hSw; (try dsimp only at hSw); go_simp; try with_reducible rfl
      try simp only [Act.put, List.setIfInBounds_toArray, List.set_cons_zero, List.set_cons_succ]
      refine wpAnyH_ready (rs := [35]) (by kernel_rfl) (by simp) ?_
      refine AllReadyH.cons (o := ⟨_, _, _, _, _, _⟩) rfl (fun K hK => ?_) AllReadyH.nil
      go_simp
      go_at_call 25
      (with_reducible refine (hMf w10 hr10).out.mono ?_)
      rintro e w11 ⟨rfl, hb11⟩
      have hs11 : w10.heap.size ≤ w11.heap.size := hb11.size
      have hg11 := (hg10.below hb11).more hb11.size
      have hr11 := (hr10.below hb11).more hb11.size
      have hz11 := (hz10.below hb11).more hb11.size
      have kp11 := Lib.hid (kp10.out.keep hb11 (Nat.lt_of_succ_lt hl10))
      have kv11 := Lib.hid (keep2 hb11 hl10 kv10.out)
      have hl11 := Nat.lt_of_lt_of_le hl10 hs11
      have hB11 := (hB10).trans (hb11.mono hB10.size)
      have kl11 := Lib.hid (keepL hb11 hbl10 kl10.out)
      have hbl11 := Nat.lt_of_lt_of_le hbl10 hs11
      go_wp2_with (fail)
      refine hK.out _ _ (by (try dsimp only); exact ⟨kp11.out, kl11.out⟩) (fun hHeld => ?_)
      clear hK K
      try simp only [Act.put, List.setIfInBounds_toArray, List.set_cons_zero, List.set_cons_succ]
      refine wpAnyH_take (i := 36) (oi := ⟨_, _, _, _, _, _⟩) (v := ?_) rfl (by kernel_rfl) (by kernel_rfl) (by kernel_rfl) (fun _ _ _ h => h) (Or.inl ⟨by rfl, ?_⟩) (by assumption) ?_
      rotate_left
      · intro w hSw; (try dsimp only at hSw); go_simp; try with_reducible rfl
      try simp only [Act.put, List.setIfInBounds_toArray, List.set_cons_zero, List.set_cons_succ]
      refine wpAnyH_take (i := 37) (oi := ⟨_, _, _, _, _, _⟩) (v := ?_) rfl (by kernel_rfl) (by kernel_rfl) (by kernel_rfl) (fun _ _ _ h => h) (Or.inl ⟨by rfl, ?_⟩) (by assumption) ?_
      rotate_left
      · intro w hSw; (try dsimp only at hSw); go_simp; try with_reducible rfl
      try simp only [Act.put, List.setIfInBounds_toArray, List.set_cons_zero, List.set_cons_succ]
      refine wpAnyH_take (i := 38) (oi := ⟨_, _, _, _, _, _⟩) (v := ?_) rfl (by kernel_rfl) (by kernel_rfl) (by kernel_rfl) (fun _ _ _ h => h) (Or.inl ⟨by rfl, ?_⟩) (by assumption) ?_
      rotate_left
      · intro w hSw; (try dsimp only at hSw); go_simp; try with_reducible rfl
      try simp only [Act.put, List.setIfInBounds_toArray, List.set_cons_zero, List.set_cons_succ]
      refine wpAnyH_done (by kernel_rfl) ?_ _
      go_wp2_with (fail)
      go_ret
      exact ⟨rfl, hB11⟩
    · by_cases hp : S.p = F.p
      · have hpp : ((S.p : Int) != (F.p : Int)) = false := by rw [hp]; simp
        obtain ⟨r, hr⟩ : ∃ r, r = F.m % S.m := ⟨_, rfl⟩
        have hr1 : 1 ≤ r := by
          rcases Nat.eq_zero_or_pos r with h | h
          · exact absurd ⟨hp, divB_of hsm1 (Nat.dvd_of_mod_eq_zero (by rw [← hr]; exact h)) hfm1⟩ hno
          · exact h
        have hmz : Hid ((F.m : Int) % (S.m : Int) = (r : Int)) := by unfold Hid; rw [hr]; rfl
        have hrz : ((r : Int) != 0) = true := by rw [bne_iff_ne]; omega
        clear hr hno hgd2
        replace hp := Lib.hid hp
        have hmz2 := hmz.out
        have hh := kp2.out
        unfold Box6 at hh
        obtain ⟨q0, q1, q2, q3, q4, q5⟩ := hh
        obtain ⟨q6, q7⟩ := kv2.out
        go_wp2_with (fail)
        (with_reducible refine (hC w2 hz2).out.mono ?_)
        rintro e w3 ⟨rfl, hb3⟩
        have hs3 : w2.heap.size ≤ w3.heap.size := hb3.size
        have hg3 := (hg2.below hb3).more hb3.size
        have hr3 := (hr2.below hb3).more hb3.size
        have hz3 := (hz2.below hb3).more hb3.size
        have kp3 := Lib.hid (kp2.out.keep hb3 (Nat.lt_of_succ_lt hl2))
        have kv3 := Lib.hid (keep2 hb3 hl2 kv2.out)
        have hl3 := Nat.lt_of_lt_of_le hl2 hs3
        have hB3 := (hB2).trans (hb3.mono hB2.size)
        clear q0 q1 q2 q3 q4 q5 q6 q7 hg2 hr2 hz2 hB2 kp2 hb3 kv2
        have hh := kp3.out
        unfold Box6 at hh
        obtain ⟨q0, q1, q2, q3, q4, q5⟩ := hh
        obtain ⟨q6, q7⟩ := kv3.out
        go_wp2_with (fail)
        go_ret
        exact ⟨rfl, hB3⟩
      · have hpp : ((S.p : Int) != (F.p : Int)) = true := by rw [bne_iff_ne]; omega
        clear hno hgd2
        have hh := kp2.out
        unfold Box6 at hh
        obtain ⟨q0, q1, q2, q3, q4, q5⟩ := hh
        obtain ⟨q6, q7⟩ := kv2.out
        go_wp2_with (fail)
        (with_reducible refine (hC w2 hz2).out.mono ?_)
        rintro e w3 ⟨rfl, hb3⟩
        have hs3 : w2.heap.size ≤ w3.heap.size := hb3.size
        have hg3 := (hg2.below hb3).more hb3.size
        have hr3 := (hr2.below hb3).more hb3.size
        have hz3 := (hz2.below hb3).more hb3.size
        have kp3 := Lib.hid (kp2.out.keep hb3 (Nat.lt_of_succ_lt hl2))
        have kv3 := Lib.hid (keep2 hb3 hl2 kv2.out)
        have hl3 := Nat.lt_of_lt_of_le hl2 hs3
        have hB3 := (hB2).trans (hb3.mono hB2.size)
        clear q0 q1 q2 q3 q4 q5 q6 q7 hg2 hr2 hz2 hB2 kp2 hb3 kv2
        have hh := kp3.out
        unfold Box6 at hh
        obtain ⟨q0, q1, q2, q3, q4, q5⟩ := hh
        obtain ⟨q6, q7⟩ := kv3.out
        go_wp2_with (fail)
        go_ret
        exact ⟨rfl, hB3⟩
  · have hC := fun W h => Lib.hid (Check_any P0 M0 ml0 A0 c0 W hP0.2 hM0.2 hl0 h)
    rw [chk_no hgd] at hC
    clear hgd hP0 hM0
    have hh := kp2.out
    unfold Box6 at hh
    obtain ⟨q0, q1, q2, q3, q4, q5⟩ := hh
    obtain ⟨q6, q7⟩ := kv2.out
    go_wp2_with (fail)
    (with_reducible refine (hC w2 hz2).out.mono ?_)
    rintro e w3 ⟨rfl, hb3⟩
    have hs3 : w2.heap.size ≤ w3.heap.size := hb3.size
    have hg3 := (hg2.below hb3).more hb3.size
    have hr3 := (hr2.below hb3).more hb3.size
    have hz3 := (hz2.below hb3).more hb3.size
    have kp3 := Lib.hid (kp2.out.keep hb3 (Nat.lt_of_succ_lt hl2))
    have kv3 := Lib.hid (keep2 hb3 hl2 kv2.out)
    have hl3 := Nat.lt_of_lt_of_le hl2 hs3
    have hB3 := (hB2).trans (hb3.mono hB2.size)
    clear q0 q1 q2 q3 q4 q5 q6 q7 hg2 hr2 hz2 hB2 kp2 hb3 kv2
    go_wp2_with (fail)
    go_ret
    exact ⟨rfl, hB3⟩
end Go.Proofs.Yteamndefbpdcjaa
