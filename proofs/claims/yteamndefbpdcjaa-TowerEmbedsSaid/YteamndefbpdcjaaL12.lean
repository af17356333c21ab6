/- TowerEmbeds: the walk. -/
import Derived.Test.YteamndefbpdcjaaL01
import Derived.Test.YteamndefbpdcjaaEmbT
import Derived.Test.YteamndefbpdcjaaEmbR
import Derived.Test.YteamndefbpdcjaaP2
namespace Go.Proofs.Yteamndefbpdcjaa
open Go.RowKit Go.Shelf Cw
attribute [local go_sem] Oper.semAt_some

/-- The six cells of two boxes. -/
def Box6 (w : World) (b : Nat) (v0 v1 v2 u0 u1 u2 : Value) : Prop :=
  w.cell? ⟨b, 0, none⟩ = some v0 ∧ w.cell? ⟨b, 1, none⟩ = some v1 ∧ w.cell? ⟨b, 2, none⟩ = some v2 ∧ w.cell? ⟨b + 1, 0, none⟩ = some u0 ∧ w.cell? ⟨b + 1, 1, none⟩ = some u1 ∧ w.cell? ⟨b + 1, 2, none⟩ = some u2
theorem Box6.keep {w w1 : World} {b B : Nat} {v0 v1 v2 u0 u1 u2 : Value} (h : Box6 w b v0 v1 v2 u0 u1 u2) (hb : Below B w w1) (hlt : b + 1 < B) : Box6 w1 b v0 v1 v2 u0 u1 u2 := keep3x2 hb (by omega) hlt h
theorem mem_take_get {l : List Int} {k : Nat} {x : Int} (h : x ∈ l.take k) : ∃ j, j < k ∧ j < l.length ∧ l[j]?.getD 0 = x := by
  obtain ⟨j, hj, e⟩ := List.getElem_of_mem h
  rw [List.length_take] at hj
  refine ⟨j, by omega, by omega, ?_⟩
  rw [List.getElem_take] at e
  rw [List.getElem?_eq_getElem (by omega : j < l.length)]
  exact e
theorem embL_in (S F : FD) (rt : Nat) (hp : S.p = F.p) (hrt : IsRt S F rt) {k : Nat} (hk : k < S.q) :
    ∃ y : Nat, (embL S F rt)[k]?.getD 0 = (y : Int) ∧ y < F.q ∧ frob S.m (eli F.toDesc (y : Int)) = eli F.toDesc (y : Int) ∧ ∀ j, j < k → (embL S F rt)[j]?.getD 0 ≠ (y : Int) := by
  have hc : nsm S.p (1 : R F.toDesc) = 0 := by rw [hp]; exact char_R
  refine ⟨rcode (phi S F (rel F.toDesc rt) (rel S.toDesc k)), embL_get S F rt hk, rcode_lt _, ?_, fun j hj e => ?_⟩
  · rw [show ((rcode (phi S F (rel F.toDesc rt) (rel S.toDesc k)) : Nat) : Int) = ci (phi S F (rel F.toDesc rt) (rel S.toDesc k)) from rfl, eli_ci]
    exact phi_sub hp hc hrt.2.1 _
  · rw [embL_get S F rt (by omega : j < S.q)] at e
    have h1 := phi_inj hc hrt.2.1 (rcode_inj (Int.ofNat.inj e))
    have h2 := congrArg rcode h1
    rw [rcode_rel (by omega), rcode_rel hk] at h2
    omega

set_option maxRecDepth 100000 in
set_option maxHeartbeats 4000000 in
theorem teL (P0 M0 : Int) (ml0 : List Int) (A0 : Option Addr) (c0 : Nat) (P1 M1 : Int) (ml1 : List Int) (A1 : Option Addr) (c1 : Nat) (w : World) (hP0 : I64 P0) (hM0 : I64 M0) (hl0 : ml0.length ≤ maxLen) (hr0 : Rd w w.heap.size A0 ml0) (hP1 : I64 P1) (hM1 : I64 M1) (hl1 : ml1.length ≤ maxLen) (hr1 : Rd w w.heap.size A1 ml1) :
    Calls Try.prog 14 #[.agg #[.int .i64 P0, .int .i64 M0, .slice A0 ml0.length c0], .agg #[.int .i64 P1, .int .i64 M1, .slice A1 ml1.length c1]] w (LawEnd w) := by
  have hA := fun W => Lib.hid (alive_any W)
  have hMd := fun W h => Lib.hid (made_any P1 M1 ml1 A1 c1 W hP1 hM1 hl1 h)
  obtain ⟨w0, hZ⟩ : ∃ Z, Z = (w.alloc (.cells #[.int .i64 P0, .int .i64 M0, .slice A0 ml0.length c0] 24)).alloc (.cells #[.int .i64 P1, .int .i64 M1, .slice A1 ml1.length c1] 24) := ⟨_, rfl⟩
  have hB0 : Below w.heap.size w w0 := by rw [hZ]; exact ((Below.refl _ _).alloc (Nat.le_refl _) _).alloc (by simp) _
  have hL0 : w.heap.size + 1 < w0.heap.size := by rw [hZ]; simp
  have kp0 : Hid (Box6 w0 w.heap.size (.int .i64 P0) (.int .i64 M0) (.slice A0 ml0.length c0) (.int .i64 P1) (.int .i64 M1) (.slice A1 ml1.length c1)) := by unfold Hid Box6; rw [hZ]; simp [go_sem]
  have hz0 := (hr0.below hB0).more hB0.size
  have hy0 := (hr1.below hB0).more hB0.size
  clear hP1 hM1 hl1 hr0 hr1
  replace hZ := Lib.hid hZ
  go_enter Try.func14, Try.ntmps14
  go_wp2_with (fail)
  rw [← hZ.out]
  (with_reducible refine (hA _).out.mono ?_)
  rintro e w1 ⟨rfl, hb1⟩
  have hs1 : w0.heap.size ≤ w1.heap.size := hb1.size
  have hy1 := (hy0.below hb1).more hb1.size
  have hz1 := (hz0.below hb1).more hb1.size
  have kp1 := Lib.hid (kp0.out.keep hb1 hL0)
  have hL1 := Nat.lt_of_lt_of_le hL0 hs1
  have hB1 := hB0.trans (hb1.mono hB0.size)
  have hM1 := hMd w1 hy1
  clear hMd hA hB0 kp0 hb1 hZ hz0 hy0 hL0 hs1
  have hh := kp1.out
  unfold Box6 at hh
  obtain ⟨q0, q1, q2, q3, q4, q5⟩ := hh
  go_wp2_with (fail)
  (with_reducible refine hM1.out.mono ?_)
  rintro e w2 ⟨hb2, ⟨g, F, rfl, rfl, rfl, rfl, hgl, hg2⟩ | rfl⟩
  rotate_left
  · clear q0 q1 q2 q3 q4 q5
    go_wp2_with (fail)
    go_ret
    exact ⟨rfl, hB1.trans (hb2.mono hB1.size)⟩
  clear q0 q1 q2 q3 q4 q5
  have hs2 : w1.heap.size ≤ w2.heap.size := hb2.size
  have hr2 := (hy1.below hb2).more hb2.size
  have hz2 := (hz1.below hb2).more hb2.size
  have kp2 := Lib.hid (kp1.out.keep hb2 hL1)
  have hl2 := Nat.lt_of_lt_of_le hL1 hs2
  have hB2 := hB1.trans (hb2.mono hB1.size)
  clear hM1 hy1 hz1 kp1 hB1 hb2 hL1 hs2
  rw [modL_length] at kp2
  have hfm8 := F.m8; have hfm1 := F.m1; have hfp := F.p256
  by_cases hgd : Good P0 M0 ml0
  · have hgd2 := hgd
    obtain ⟨D, rfl, rfl, rfl, -⟩ := hgd
    obtain ⟨u, hu⟩ := gen_of_good hgd2
    obtain ⟨S, rfl⟩ : ∃ S : FD, S.toDesc = D := ⟨mkFD D u hu, rfl⟩
    clear hu u
    rw [modL_length] at kp2
    have hsm8 := S.m8; have hsm1 := S.m1; have hsp := S.p256
    have hC := fun W h => Lib.hid (Check_any S.p S.m (modL S.toDesc) A0 c0 W (by omega) (by omega) (by rw [modL_length]; have := S.hlen; unfold maxLen; split at this <;> omega) h)
    rw [chk_yes hgd2, modL_length] at hC
    by_cases hno : S.p = F.p ∧ divB F.m S.m = true
    · obtain ⟨hp, hd⟩ := hno
      have hdv : S.m ∣ F.m := by obtain ⟨d, e, -, -, h⟩ := divB_nat hd; rw [Int.ofNat.inj e]; exact h
      obtain ⟨rt, hrt⟩ := isRt_ex hp hdv
      have hE := Lib.hid (tEmbed_yes S F rt A0 c0 g w2 hg2 hz2 hgd2 hp hd hrt)
      have hE7 := fun W a b => Lib.hid (Embed7_any S F rt A0 A1 c0 c1 W a b hp hrt)
      have hpp : ((S.p : Int) != (F.p : Int)) = false := by rw [hp]; simp
      have hmz : Hid ((F.m : Int) % (S.m : Int) = 0) := Int.emod_eq_zero_of_dvd (Int.natCast_dvd_natCast.2 hdv)
      have hin := fun {k} h => embL_in S F rt hp hrt (k := k) h
      have hlen := embL_length S F rt
      have hsq := S.q256; have hfq := F.q256
      have hO := fun W => Lib.hid (Order_any F.p F.m A1 F.mod.length c1 W (by omega) (by omega))
      rw [qOf_D] at hO
      replace hO := hO
      have hmk := mk_bools F.q (by omega)
      generalize embL S F rt = l at *
      clear hd hdv hrt
      replace hp := Lib.hid hp
      replace hlen := Lib.hid hlen
      have hll : l.length ≤ 256 := by rw [hlen.out]; exact hsq
      have hh := kp2.out
      unfold Box6 at hh
      obtain ⟨q0, q1, q2, q3, q4, q5⟩ := hh
      go_wp2_with (fail)
      (with_reducible refine (hE).out.mono ?_)
      rintro e w3 ⟨v, rfl, hown, hb3⟩
      have hs3 : w2.heap.size ≤ w3.heap.size := hb3.size
      have hg3 := (hg2.below hb3).more hb3.size
      have hr3 := (hr2.below hb3).more hb3.size
      have hz3 := (hz2.below hb3).more hb3.size
      have kp3 := Lib.hid (kp2.out.keep hb3 (hl2))
      have hl3 := Nat.lt_of_lt_of_le hl2 hs3
      have hB3 := (hB2).trans (hb3.mono hB2.size)
      clear q0 q1 q2 q3 q4 q5 hg2 hr2 hz2 hB2 kp2 hb3
      obtain ⟨Av, cv, rfl, -, hv3, -⟩ := hown.form
      clear hE hown
      have hh := kp3.out
      unfold Box6 at hh
      obtain ⟨q0, q1, q2, q3, q4, q5⟩ := hh
      go_wp2_with (fail)
      (with_reducible refine (hC w3 hz3).out.mono ?_)
      rintro e w4 ⟨rfl, hb4⟩
      have hs4 : w3.heap.size ≤ w4.heap.size := hb4.size
      have hg4 := (hg3.below hb4).more hb4.size
      have hr4 := (hr3.below hb4).more hb4.size
      have hz4 := (hz3.below hb4).more hb4.size
      have kp4 := Lib.hid (kp3.out.keep hb4 (hl3))
      have hl4 := Nat.lt_of_lt_of_le hl3 hs4
      have hB4 := (hB3).trans (hb4.mono hB3.size)
      have hv4 := (hv3.below hb4).more hb4.size
      clear q0 q1 q2 q3 q4 q5 hg3 hr3 hz3 hB3 kp3 hb4
      have hmz2 := hmz.out
      have hh := kp4.out
      unfold Box6 at hh
      obtain ⟨q0, q1, q2, q3, q4, q5⟩ := hh
      go_wp2_with (fail)
      (with_reducible refine (hE7 w4 hz4 hr4).out.mono ?_)
      rintro e w5 ⟨v, rfl, hown, hb5⟩
      have hs5 : w4.heap.size ≤ w5.heap.size := hb5.size
      have hg5 := (hg4.below hb5).more hb5.size
      have hr5 := (hr4.below hb5).more hb5.size
      have hz5 := (hz4.below hb5).more hb5.size
      have kp5 := Lib.hid (kp4.out.keep hb5 (hl4))
      have hl5 := Nat.lt_of_lt_of_le hl4 hs5
      have hB5 := (hB4).trans (hb5.mono hB4.size)
      have hv5 := (hv4.below hb5).more hb5.size
      clear q0 q1 q2 q3 q4 q5 hg4 hr4 hz4 hB4 kp4 hb5
      obtain ⟨Aw, cw, rfl, -, hx5, -⟩ := hown.form
      have hS := Lib.hid (same_any l l Av Aw cv cw w5 hv5 hx5 (by omega) (by omega))
      rw [decide_eq_true (rfl : l = l)] at hS
      clear hv3 hv4 hx5 hown hE7 hC hmz2 hpp hmz
      have hh := kp5.out
      unfold Box6 at hh
      obtain ⟨q0, q1, q2, q3, q4, q5⟩ := hh
      go_wp2_with (fail)
      (with_reducible refine (hS).out.mono ?_)
      rintro e w6 ⟨rfl, hb6⟩
      have hs6 : w5.heap.size ≤ w6.heap.size := hb6.size
      have hg6 := (hg5.below hb6).more hb6.size
      have hr6 := (hr5.below hb6).more hb6.size
      have hz6 := (hz5.below hb6).more hb6.size
      have kp6 := Lib.hid (kp5.out.keep hb6 (hl5))
      have hl6 := Nat.lt_of_lt_of_le hl5 hs6
      have hB6 := (hB5).trans (hb6.mono hB5.size)
      have hv6 := (hv5.below hb6).more hb6.size
      clear q0 q1 q2 q3 q4 q5 hg5 hr5 hz5 hB5 kp5 hb6
      have hh := kp6.out
      unfold Box6 at hh
      obtain ⟨q0, q1, q2, q3, q4, q5⟩ := hh
      go_wp2_with (fail)
      (with_reducible refine (hO w6).out.mono ?_)
      rintro e w7 ⟨rfl, hb7⟩
      have hs7 : w6.heap.size ≤ w7.heap.size := hb7.size
      have hg7 := (hg6.below hb7).more hb7.size
      have hr7 := (hr6.below hb7).more hb7.size
      have hz7 := (hz6.below hb7).more hb7.size
      have kp7 := Lib.hid (kp6.out.keep hb7 (hl6))
      have hl7 := Nat.lt_of_lt_of_le hl6 hs7
      have hB7 := (hB6).trans (hb7.mono hB6.size)
      have hv7 := (hv6.below hb7).more hb7.size
      clear q0 q1 q2 q3 q4 q5 hg6 hr6 hz6 hB6 kp6 hb7
      have hb0 := BB.newz w7 F.q
      have hbA : Below w7.heap.size w7 (w7.alloc (.cells (Array.replicate F.q (Value.bool false)) 4)) := (Below.refl _ _).alloc (Nat.le_refl _) _
      go_wp2_with (fail)
      obtain ⟨gI, hgI⟩ : ∃ gI, gI = w7.heap.size := ⟨_, rfl⟩
      rw [← hgI] at hb0
      simp only [← hgI]
      clear hmk hv5 hv6 hO hS
      have hgI2 : w7.heap.size ≤ gI := Nat.le_of_eq hgI.symm
      replace hgI := Lib.hid hgI
      go_loopw [70, 10] (fun i _ wr => ∃ k : Nat, k ≤ l.length ∧ i = .int .i64 k ∧ BB wr gI F.q (fun n => decide ((n : Int) ∈ l.take k)) ∧ Below w7.heap.size w7 wr) (fun i _ _ => l.length - (intOf i).toNat)
      case atStart => exact ⟨0, by omega, rfl, by simpa using hb0, hbA⟩
      case round =>
        clear hb0 hbA
        obtain ⟨w8, rfl⟩ : ∃ w8 : World, w8 = wr := ⟨_, rfl⟩
        obtain ⟨k, hk, rfl, hbb, hb8⟩ := hrel
        have hs8 : w7.heap.size ≤ w8.heap.size := hb8.size
        have hg8 := (hg7.below hb8).more hb8.size
        have hr8 := (hr7.below hb8).more hb8.size
        have hz8 := (hz7.below hb8).more hb8.size
        have kp8 := Lib.hid (kp7.out.keep hb8 (hl7))
        have hl8 := Nat.lt_of_lt_of_le hl7 hs8
        have hB8 := (hB7).trans (hb8.mono hB7.size)
        have hv8 := (hv7.below hb8).more hb8.size
        by_cases hlt : k < l.length
        · obtain ⟨b1, o1, rfl, hb1, hc1⟩ := hv8.at_ hlt
          obtain ⟨y, hy, hyq, hfy, hnew⟩ := hin (k := k) (by rw [← hlen.out]; exact hlt)
          rw [hy] at hc1
          have htk : Hid (l.take (k + 1) = l.take k ++ [(y : Int)]) := by
              unfold Hid; rw [List.take_add_one, List.getElem?_eq_getElem hlt]; rw [List.getElem?_eq_getElem hlt] at hy; simp only [Option.getD_some] at hy; rw [hy]; rfl
          have hnm : decide ((y : Int) ∈ l.take k) = false := decide_eq_false fun h => by obtain ⟨j, hj, -, e⟩ := mem_take_get h; exact hnew j hj e
          have hI := fun W hr => Lib.hid (In7_any F (y : Int) S.m A1 c1 W hr (by omega))
          rw [decide_eq_true hfy] at hI
          have hbc := (hbb.cell hyq).trans (by rw [hnm])
          clear hy hfy hnew hnm hin
          have hh := kp8.out
          unfold Box6 at hh
          obtain ⟨q0, q1, q2, q3, q4, q5⟩ := hh
          go_wp2_with (fail)
          (with_reducible refine (hI w8 hr8).out.mono ?_)
          rintro e w9 ⟨rfl, hb9⟩
          have hs9 : w8.heap.size ≤ w9.heap.size := hb9.size
          have hg9 := (hg8.below hb9).more hb9.size
          have hr9 := (hr8.below hb9).more hb9.size
          have hz9 := (hz8.below hb9).more hb9.size
          have kp9 := Lib.hid (kp8.out.keep hb9 (hl8))
          have hl9 := Nat.lt_of_lt_of_le hl8 hs9
          have hB9 := (hB8).trans (hb9.mono hB8.size)
          have hbb9 := hbb.below hb9 hbb.lt
          have hb9' := hb8.trans (hb9.mono hb8.size)
          have hf9 := hbb9.frozen y
          have hc9 := hbb9.cell hyq
          clear q0 q1 q2 q3 q4 q5 hg8 hr8 hz8 hB8 kp8
          clear hbc
          go_wp2_with (fail)
          go_roundw
          case rel =>
            refine ⟨k + 1, by omega, by go_num, ?_, hb9'.setCell (p := ⟨gI, y, none⟩) hgI2 _⟩
            have h9 := hbb9.set_ y true
            rw [show (fun i => if i = y then true else decide ((i : Int) ∈ l.take k)) = (fun i : Nat => decide ((i : Int) ∈ l.take (k + 1))) from funext fun i => by
              rw [htk.out]
              by_cases e : i = y
              · subst e; simp
              · have e2 : ¬ (i : Int) = (y : Int) := by omega
                simp [e, e2]] at h9
            exact h9
          case measure => simp [intOf]; omega
        · obtain rfl : k = l.length := by omega
          go_wp2_with (fail)
          go_ret
          exact ⟨rfl, hB8⟩
    · have hE := Lib.hid (tEmbed_no S F A0 c0 g w2 hg2 hz2 hgd2 hno)
      by_cases hp : S.p = F.p
      · have hpp : ((S.p : Int) != (F.p : Int)) = false := by rw [hp]; simp
        obtain ⟨r, hr⟩ : ∃ r, r = F.m % S.m := ⟨_, rfl⟩
        have hr1 : 1 ≤ r := by
          rcases Nat.eq_zero_or_pos r with h | h
          · exact absurd ⟨hp, divB_of hsm1 (Nat.dvd_of_mod_eq_zero (by rw [← hr]; exact h)) hfm1⟩ hno
          · exact h
        have hmz : Hid ((F.m : Int) % (S.m : Int) = (r : Int)) := by unfold Hid; rw [hr]; rfl
        have hrz : ((r : Int) != 0) = true := by rw [bne_iff_ne]; omega
        clear hr hno hgd2
        replace hp := Lib.hid hp
        have hh := kp2.out
        unfold Box6 at hh
        obtain ⟨q0, q1, q2, q3, q4, q5⟩ := hh
        go_wp2_with (fail)
        (with_reducible refine (hE).out.mono ?_)
        rintro e w3 ⟨rfl, hb3⟩
        have hs3 : w2.heap.size ≤ w3.heap.size := hb3.size
        have hg3 := (hg2.below hb3).more hb3.size
        have hr3 := (hr2.below hb3).more hb3.size
        have hz3 := (hz2.below hb3).more hb3.size
        have kp3 := Lib.hid (kp2.out.keep hb3 (hl2))
        have hl3 := Nat.lt_of_lt_of_le hl2 hs3
        have hB3 := (hB2).trans (hb3.mono hB2.size)
        clear q0 q1 q2 q3 q4 q5 hg2 hr2 hz2 hB2 kp2 hb3
        have hh := kp3.out
        unfold Box6 at hh
        obtain ⟨q0, q1, q2, q3, q4, q5⟩ := hh
        go_wp2_with (fail)
        (with_reducible refine (hC w3 hz3).out.mono ?_)
        rintro e w4 ⟨rfl, hb4⟩
        have hs4 : w3.heap.size ≤ w4.heap.size := hb4.size
        have hg4 := (hg3.below hb4).more hb4.size
        have hr4 := (hr3.below hb4).more hb4.size
        have hz4 := (hz3.below hb4).more hb4.size
        have kp4 := Lib.hid (kp3.out.keep hb4 (hl3))
        have hl4 := Nat.lt_of_lt_of_le hl3 hs4
        have hB4 := (hB3).trans (hb4.mono hB3.size)
        clear q0 q1 q2 q3 q4 q5 hg3 hr3 hz3 hB3 kp3 hb4
        have hmz2 := hmz.out
        have hh := kp4.out
        unfold Box6 at hh
        obtain ⟨q0, q1, q2, q3, q4, q5⟩ := hh
        go_wp2_with (fail)
        go_ret
        exact ⟨rfl, hB4⟩
      · have hpp : ((S.p : Int) != (F.p : Int)) = true := by rw [bne_iff_ne]; omega
        clear hno hgd2
        have hh := kp2.out
        unfold Box6 at hh
        obtain ⟨q0, q1, q2, q3, q4, q5⟩ := hh
        go_wp2_with (fail)
        (with_reducible refine (hE).out.mono ?_)
        rintro e w3 ⟨rfl, hb3⟩
        have hs3 : w2.heap.size ≤ w3.heap.size := hb3.size
        have hg3 := (hg2.below hb3).more hb3.size
        have hr3 := (hr2.below hb3).more hb3.size
        have hz3 := (hz2.below hb3).more hb3.size
        have kp3 := Lib.hid (kp2.out.keep hb3 (hl2))
        have hl3 := Nat.lt_of_lt_of_le hl2 hs3
        have hB3 := (hB2).trans (hb3.mono hB2.size)
        clear q0 q1 q2 q3 q4 q5 hg2 hr2 hz2 hB2 kp2 hb3
        have hh := kp3.out
        unfold Box6 at hh
        obtain ⟨q0, q1, q2, q3, q4, q5⟩ := hh
        go_wp2_with (fail)
        (with_reducible refine (hC w3 hz3).out.mono ?_)
        rintro e w4 ⟨rfl, hb4⟩
        have hs4 : w3.heap.size ≤ w4.heap.size := hb4.size
        have hg4 := (hg3.below hb4).more hb4.size
        have hr4 := (hr3.below hb4).more hb4.size
        have hz4 := (hz3.below hb4).more hb4.size
        have kp4 := Lib.hid (kp3.out.keep hb4 (hl3))
        have hl4 := Nat.lt_of_lt_of_le hl3 hs4
        have hB4 := (hB3).trans (hb4.mono hB3.size)
        clear q0 q1 q2 q3 q4 q5 hg3 hr3 hz3 hB3 kp3 hb4
        have hh := kp4.out
        unfold Box6 at hh
        obtain ⟨q0, q1, q2, q3, q4, q5⟩ := hh
        go_wp2_with (fail)
        go_ret
        exact ⟨rfl, hB4⟩
  · have hE := Lib.hid (tEmbed_bad P0 M0 ml0 A0 c0 g w2 hP0.2 hM0.2 hl0 hz2 hgd)
    have hC := fun W h => Lib.hid (Check_any P0 M0 ml0 A0 c0 W hP0.2 hM0.2 hl0 h)
    rw [chk_no hgd] at hC
    clear hgd hP0 hM0
    have hh := kp2.out
    unfold Box6 at hh
    obtain ⟨q0, q1, q2, q3, q4, q5⟩ := hh
    go_wp2_with (fail)
    (with_reducible refine (hE).out.mono ?_)
    rintro e w3 ⟨rfl, hb3⟩
    have hs3 : w2.heap.size ≤ w3.heap.size := hb3.size
    have hg3 := (hg2.below hb3).more hb3.size
    have hr3 := (hr2.below hb3).more hb3.size
    have hz3 := (hz2.below hb3).more hb3.size
    have kp3 := Lib.hid (kp2.out.keep hb3 (hl2))
    have hl3 := Nat.lt_of_lt_of_le hl2 hs3
    have hB3 := (hB2).trans (hb3.mono hB2.size)
    clear q0 q1 q2 q3 q4 q5 hg2 hr2 hz2 hB2 kp2 hb3
    have hh := kp3.out
    unfold Box6 at hh
    obtain ⟨q0, q1, q2, q3, q4, q5⟩ := hh
    go_wp2_with (fail)
    (with_reducible refine (hC w3 hz3).out.mono ?_)
    rintro e w4 ⟨rfl, hb4⟩
    have hs4 : w3.heap.size ≤ w4.heap.size := hb4.size
    have hg4 := (hg3.below hb4).more hb4.size
    have hr4 := (hr3.below hb4).more hb4.size
    have hz4 := (hz3.below hb4).more hb4.size
    have kp4 := Lib.hid (kp3.out.keep hb4 (hl3))
    have hl4 := Nat.lt_of_lt_of_le hl3 hs4
    have hB4 := (hB3).trans (hb4.mono hB3.size)
    clear q0 q1 q2 q3 q4 q5 hg3 hr3 hz3 hB3 kp3 hb4
    go_wp2_with (fail)
    go_ret
    exact ⟨rfl, hB4⟩
end Go.Proofs.Yteamndefbpdcjaa
