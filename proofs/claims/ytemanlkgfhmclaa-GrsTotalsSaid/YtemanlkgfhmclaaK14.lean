/- GrsTotals: the walk. -/
import Derived.Test.YtemanlkgfhmclaaK0
import Derived.Test.YtemanlkgfhmclaaGrsT
import Derived.Test.YtemanlkgfhmclaaNatS
import Derived.Test.YtemanlkgfhmclaaNaR
import Derived.IntWalk
namespace Go.Proofs.Ytemanlkgfhmclaa
open Go.RowKit Cw

set_option maxHeartbeats 2000000 in
theorem totalsL_bad (P M K : Int) (ml pts mul : List Int) (A A1 A2 : Option Addr) (c c1 c2 : Nat) (w : World) (hP : I64 P) (hM : I64 M) (hl : ml.length ≤ maxLen) (hr : Rd w w.heap.size A ml) (hb : ¬ Good P M ml) (_hK : I64 K) (_h1 : pts.length ≤ c1 ∧ c1 ≤ maxLen) (_h2 : mul.length ≤ c2 ∧ c2 ≤ maxLen) (_hi : ∀ x ∈ pts, I64 x) (_hj : ∀ x ∈ mul, I64 x) (_hr1 : Rd w w.heap.size A1 pts) (_hr2 : Rd w w.heap.size A2 mul) :
    Calls Try.prog 4 #[.agg #[.int .i64 P, .int .i64 M, .slice A ml.length c, .int .i64 K, .slice A1 pts.length c1, .slice A2 mul.length c2]] w (LawEnd w) := by
  have hA := fun W => Lib.hid (alive_any W)
  have hC := fun W h => Lib.hid (Chk18_bad P M K ml pts mul A A1 A2 c c1 c2 W hP hM hl h hb)
  have k0 := Lib.hid (alloc6 w (.int .i64 P) (.int .i64 M) (.slice A ml.length c) (.int .i64 K) (.slice A1 pts.length c1) (.slice A2 mul.length c2) 26)
  have hB : Below w.heap.size w (w.alloc (.cells #[.int .i64 P, .int .i64 M, .slice A ml.length c, .int .i64 K, .slice A1 pts.length c1, .slice A2 mul.length c2] 26)) := (Below.refl _ _).alloc (Nat.le_refl _) _
  clear hP hM hl hb
  go_enter Try.func4, Try.ntmps4
  go_wp2_with (fail)
  refine (hA _).out.mono ?_
  rintro e w1 ⟨rfl, hb1⟩
  have kk1 := Lib.hid (keep6 hb1 (by simp) k0.out)
  have hB1 := hB.trans (hb1.mono hB.size)
  obtain ⟨q0, q1, q2, q3, q4, q5⟩ := kk1.out
  have hlt1 : w.heap.size < w1.heap.size := by have := hb1.size; simp only [World.size_alloc] at this; omega
  go_wp2_with (fail)
  refine (hC w1 ((hr.below hB1).more hB1.size)).out.mono ?_
  rintro e w2 ⟨rfl, hb2⟩
  go_wp2_with (fail)
  go_ret
  exact ⟨rfl, hB1.trans (hb2.mono hB1.size)⟩

set_option maxRecDepth 100000 in
set_option maxHeartbeats 8000000 in
theorem totalsL_good (D : Desc) (K : Int) (pts mul : List Int) (A A1 A2 : Option Addr) (c c1 c2 : Nat) (w : World) (hr : Rd w w.heap.size A (modL D)) (hb : Good D.p D.m (modL D)) (_hK : I64 K) (h1 : pts.length ≤ c1 ∧ c1 ≤ maxLen) (h2 : mul.length ≤ c2 ∧ c2 ≤ maxLen) (_hi : ∀ x ∈ pts, I64 x) (_hj : ∀ x ∈ mul, I64 x) (hr1 : Rd w w.heap.size A1 pts) (hr2 : Rd w w.heap.size A2 mul) :
    Calls Try.prog 4 #[.agg #[.int .i64 D.p, .int .i64 D.m, .slice A D.mod.length c, .int .i64 K, .slice A1 pts.length c1, .slice A2 mul.length c2]] w (LawEnd w) := by
  obtain ⟨u, hu⟩ := gen_of_good hb
  obtain ⟨F, rfl⟩ : ∃ F : FD, F.toDesc = D := ⟨mkFD D u hu, rfl⟩
  clear hu u
  have hA := fun W => Lib.hid (alive_any W)
  have hW := fun W h a b => Lib.hid (gWeights_D F.toDesc K pts mul A A1 A2 c c1 c2 W h hb a b h1.1 h1.2 (Nat.le_trans h2.1 h2.2))
  have hC := fun W h a b => Lib.hid (Chk18_D F.toDesc K pts mul A A1 A2 c c1 c2 W h hb a b (Nat.le_trans h2.1 h2.2))
  have hO := fun W => Lib.hid (Order_any F.p F.m A F.mod.length c W (by have := F.toDesc.p256; omega) (by have := F.toDesc.m8; omega))
  rw [qOf_D] at hO
  have hm1 := h1.1; have hm2 := h1.2
  unfold maxLen at hm2
  have k0 := Lib.hid (alloc6 w (.int .i64 F.p) (.int .i64 F.m) (.slice A F.mod.length c) (.int .i64 K) (.slice A1 pts.length c1) (.slice A2 mul.length c2) 26)
  have hB : Below w.heap.size w (w.alloc (.cells #[.int .i64 F.p, .int .i64 F.m, .slice A F.mod.length c, .int .i64 K, .slice A1 pts.length c1, .slice A2 mul.length c2] 26)) := (Below.refl _ _).alloc (Nat.le_refl _) _
  clear hb
  go_enter Try.func4, Try.ntmps4
  go_wp2_with (fail)
  refine (hA _).out.mono ?_
  rintro e w1 ⟨rfl, hb1⟩
  have kk1 := Lib.hid (keep6 hb1 (by simp) k0.out)
  have hB1 := hB.trans (hb1.mono hB.size)
  obtain ⟨q0, q1, q2, q3, q4, q5⟩ := kk1.out
  have hlt1 : w.heap.size < w1.heap.size := by have := hb1.size; simp only [World.size_alloc] at this; omega
  go_wp2_with (fail)
  (with_reducible refine (hC w1 ((hr.below hB1).more hB1.size) ((hr1.below hB1).more hB1.size) ((hr2.below hB1).more hB1.size)).out.mono ?_)
  rintro e w2 ⟨rfl, hb2⟩
  have kk2 := Lib.hid (keep6 hb2 hlt1 kk1.out)
  have hB2 := hB1.trans (hb2.mono hB1.size)
  have hlt2 : w.heap.size < w2.heap.size := Nat.lt_of_lt_of_le hlt1 hb2.size
  clear q0 q1 q2 q3 q4 q5
  obtain ⟨q0, q1, q2, q3, q4, q5⟩ := kk2.out
  by_cases hz : gchkD F.toDesc K pts mul = 0
  rotate_left
  · have hzb : (gchkD F.toDesc K pts mul != 0) = true := by rw [bne_iff_ne]; exact hz
    replace hz := Lib.hid hz
    go_wp2_with (fail)
    go_ret
    exact ⟨rfl, hB2⟩
  rw [hz]
  obtain ⟨y1, y64, hlen, -, -, -, -, hK0, hK1⟩ := gchkD_zero hz
  obtain ⟨k, rfl⟩ := Int.eq_ofNat_of_zero_le hK0
  replace hz := Lib.hid hz
  replace hlen := Lib.hid hlen
  go_wp2_with (fail)
  (with_reducible refine (hW w2 ((hr.below hB2).more hB2.size) ((hr1.below hB2).more hB2.size) ((hr2.below hB2).more hB2.size)).out.mono ?_)
  rintro e w3 ⟨hb3, ⟨hz3, rfl⟩ | ⟨-, N, X, Al, cl, hN, rfl, hX, hul⟩⟩
  · exact absurd hz.out hz3
  have kk3 := Lib.hid (keep6 hb3 hlt2 kk2.out)
  have hB3 := hB2.trans (hb3.mono hB2.size)
  have hlt3 : w.heap.size < w3.heap.size := Nat.lt_of_lt_of_le hlt2 hb3.size
  have hN1 : (pts.length : Int) + 1 = (N : Int) := by omega
  have hq2 := F.toDesc.q2
  have hq256 := F.toDesc.q256
  have hsum := gws_sum hz.out
  have hlow : ∀ x, 1 ≤ x → x + k ≤ pts.length → aW F.q pts.length k x = 0 := fun x a b => aW_low a b
  have halt : ∀ x, x ≤ pts.length → aW F.q pts.length k x < nB ^ 82 := fun x hx => aW_lt (by omega) hq256 y64 hx (by omega)
  simp only [show ((k : Int)).toNat = k from rfl] at hsum hul
  rw [← hN] at hsum
  obtain ⟨q, hq⟩ : ∃ q, q = F.q := ⟨_, rfl⟩
  rw [← hq] at hq2 hq256 hsum hlow halt hO
  simp only [← hq] at hul
  obtain ⟨f, hf⟩ : ∃ f : Nat → Nat, f = aW q pts.length k := ⟨_, rfl⟩
  simp only [← hf] at hul hsum hlow halt
  have hS : ∀ x, x ≤ N → nsum x f ≤ q ^ k := fun x hx => by rw [← hsum]; exact nsum_mono hx
  have hSl : ∀ x, x ≤ N → nlen (nsum x f) ≤ 65 := fun x hx => len_pow (by omega) hq256 (by omega) (hS x hx)
  have hrB := (hr.below hB3).more hB3.size
  replace hq := Lib.hid hq
  replace hf := Lib.hid hf
  replace hN := Lib.hid hN
  clear hA hW hC kk1 kk2 hB1 hB2 hb1 hb2 hb3 hB k0 hr hr1 hr2 hX q0 q1 q2 q3 q4 q5
  obtain ⟨q0, q1, q2, q3, q4, q5⟩ := kk3.out
  go_wp2_with (fail)
  have hbA : Below w3.heap.size w3 (w3.alloc (.cells #[] 64)) := (Below.refl _ _).alloc (Nat.le_refl _) _
  have hN2 : N = pts.length + 1 := hN.out
  have hlen' := hlen.out
  go_loopw [34, 5] (fun i v wr => ∃ (x : Nat) (Ps : Option Addr) (cs : Nat), x ≤ N ∧ i = .int .i64 (x : Int) ∧ v = .slice Ps (nlen (nsum x f)) cs ∧ nlen (nsum x f) ≤ cs ∧ U.Rd wr wr.heap.size Ps (nL (nsum x f)) ∧ Below w3.heap.size w3 wr) (fun i _ _ => N - (intOf i).toNat)
  case atStart => exact ⟨0, _, _, Nat.zero_le _, rfl, rfl, Nat.le_refl _, U.Rd.nil, hbA⟩
  case round =>
    clear hbA
    obtain ⟨x, Ps, cs, hx, rfl, rfl, hcs, hrs, hb4⟩ := hrel
    obtain ⟨w4, rfl⟩ : ∃ w4 : World, w4 = wr := ⟨_, rfl⟩
    have kk4 := Lib.hid (keep6 hb4 hlt3 kk3.out)
    have hlt4 : w.heap.size < w4.heap.size := Nat.lt_of_lt_of_le hlt3 hb4.size
    have hB4 := hB3.trans (hb4.mono hB3.size)
    clear q0 q1 q2 q3 q4 q5
    obtain ⟨q0, q1, q2, q3, q4, q5⟩ := kk4.out
    have hsl := hSl x hx
    replace hN2 := Lib.hid hN2
    replace hlen' := Lib.hid hlen'
    by_cases hxN : x < N
    · have hul4 := hul.below hb4
      have hcl := hul4.cell hxN
      have hrx := hul4.rd x hxN
      have hcx := hul4.cap x hxN
      rw [nL_length] at hcl hcx
      have hfx := nlen_le (halt x (by have := hN2.out; omega))
      have hxi : (x : Int) < (N : Int) := by omega
      have hx0 : (0 : Int) ≤ (x : Int) := by omega
      have hbz0 := Below.refl w4.heap.size w4
      clear hul4 hul hSl hS halt
      by_cases hx1 : 0 < x
      · have hx1i : (0 : Int) < (x : Int) := by omega
        by_cases hx2 : x + k ≤ pts.length
        · have hx2i : (x : Int) ≤ (pts.length : Int) - (k : Int) := by omega
          have hZ := Zero1_any (nL (f x)) (nL_lm _) (Al x) (cl x) w4 hrx (by rw [nL_length]; omega) (by rw [nL_length]; exact hcx)
          rw [nL_length, nv_nL, show decide (f x = 0) = true by rw [decide_eq_true_eq]; exact hlow x hx1 hx2] at hZ
          replace hZ := Lib.hid hZ
          clear hlow hx1 hx2
          go_wp2_with (fail)
          refine hZ.out.mono ?_
          rintro e wz ⟨rfl, hbz⟩
          clear hZ hbz0
          have hA7 := Add1_any (nL (nsum x f)) (nL (f x)) (nL_lm _) (nL_lm _) Ps (Al x) cs (cl x) wz ((hrs.below hbz).more hbz.size) ((hrx.below hbz).more hbz.size) (by rw [nL_length]; omega) (by rw [nL_length]; omega) (by rw [nL_length]; exact hcs) (by rw [nL_length]; exact hcx)
          simp only [nL_length, nv_nL] at hA7
          rw [show nsum x f + f x = nsum (x + 1) f from rfl] at hA7
          replace hA7 := Lib.hid hA7
          go_wp2_with (fail)
          refine hA7.out.mono ?_
          rintro e w7 ⟨v7, rfl, ho7, hb7⟩
          obtain ⟨A7, c7, rfl, hlc7, hr7⟩ := ho7.num
          have hb47 := hb4.trans ((hbz.trans (hb7.mono hbz.size)).mono hb4.size)
          clear hA7 ho7 q0 q1 q2 q3 q4 q5
          go_wp2_with (fail)
          exact ⟨⟨x + 1, A7, c7, by omega, by go_num, rfl, hlc7, hr7, hb47⟩, by simp only [intOf]; omega⟩
        · have hx2i : ¬ (x : Int) ≤ (pts.length : Int) - (k : Int) := by omega
          obtain ⟨wz, rfl⟩ : ∃ wz, wz = w4 := ⟨_, rfl⟩
          have hbz := hbz0
          clear hlow hx1 hx2
          have hA7 := Add1_any (nL (nsum x f)) (nL (f x)) (nL_lm _) (nL_lm _) Ps (Al x) cs (cl x) wz ((hrs.below hbz).more hbz.size) ((hrx.below hbz).more hbz.size) (by rw [nL_length]; omega) (by rw [nL_length]; omega) (by rw [nL_length]; exact hcs) (by rw [nL_length]; exact hcx)
          simp only [nL_length, nv_nL] at hA7
          rw [show nsum x f + f x = nsum (x + 1) f from rfl] at hA7
          replace hA7 := Lib.hid hA7
          go_wp2_with (fail)
          refine hA7.out.mono ?_
          rintro e w7 ⟨v7, rfl, ho7, hb7⟩
          obtain ⟨A7, c7, rfl, hlc7, hr7⟩ := ho7.num
          have hb47 := hb4.trans ((hbz.trans (hb7.mono hbz.size)).mono hb4.size)
          clear hA7 ho7 q0 q1 q2 q3 q4 q5
          go_wp2_with (fail)
          exact ⟨⟨x + 1, A7, c7, by omega, by go_num, rfl, hlc7, hr7, hb47⟩, by simp only [intOf]; omega⟩
      · have hx1i : ¬ (0 : Int) < (x : Int) := by omega
        obtain ⟨wz, rfl⟩ : ∃ wz, wz = w4 := ⟨_, rfl⟩
        have hbz := hbz0
        clear hlow hx1
        have hA7 := Add1_any (nL (nsum x f)) (nL (f x)) (nL_lm _) (nL_lm _) Ps (Al x) cs (cl x) wz ((hrs.below hbz).more hbz.size) ((hrx.below hbz).more hbz.size) (by rw [nL_length]; omega) (by rw [nL_length]; omega) (by rw [nL_length]; exact hcs) (by rw [nL_length]; exact hcx)
        simp only [nL_length, nv_nL] at hA7
        rw [show nsum x f + f x = nsum (x + 1) f from rfl] at hA7
        replace hA7 := Lib.hid hA7
        go_wp2_with (fail)
        refine hA7.out.mono ?_
        rintro e w7 ⟨v7, rfl, ho7, hb7⟩
        obtain ⟨A7, c7, rfl, hlc7, hr7⟩ := ho7.num
        have hb47 := hb4.trans ((hbz.trans (hb7.mono hbz.size)).mono hb4.size)
        clear hA7 ho7 q0 q1 q2 q3 q4 q5
        go_wp2_with (fail)
        exact ⟨⟨x + 1, A7, c7, by omega, by go_num, rfl, hlc7, hr7, hb47⟩, by simp only [intOf]; omega⟩
    · obtain rfl : N = x := by omega
      rw [hsum] at hrs hcs ⊢
      have hcl4 := q0
      have kkq := Lib.hid (show w4.drew.cell? ⟨w.heap.size, 0, none⟩ = some (.int .i64 F.p) ∧ w4.drew.cell? ⟨w.heap.size, 1, none⟩ = some (.int .i64 F.m) ∧ w4.drew.cell? ⟨w.heap.size, 2, none⟩ = some (.slice A F.mod.length c) ∧ w4.drew.cell? ⟨w.heap.size, 3, none⟩ = some (.int .i64 (k : Int)) from ⟨q0, q1, q2, q3⟩)
      have hbq : Below w3.heap.size w3 w4.drew := hb4.drew
      have hltq : w.heap.size < w4.drew.heap.size := hlt4
      have hBq : Below w.heap.size w w4.drew := hB4.drew
      have hrsq : U.Rd w4.drew w4.drew.heap.size Ps (nL (q ^ k)) := hrs
      have hnq : nlen (q ^ k) ≤ 65 := len_pow (by omega) hq256 (by omega) (Nat.le_refl _)
      have kp : ∀ {W W2 : World}, Below W.heap.size W W2 → w.heap.size < W.heap.size → (W.cell? ⟨w.heap.size, 0, none⟩ = some (.int .i64 F.p) ∧ W.cell? ⟨w.heap.size, 1, none⟩ = some (.int .i64 F.m) ∧ W.cell? ⟨w.heap.size, 2, none⟩ = some (.slice A F.mod.length c) ∧ W.cell? ⟨w.heap.size, 3, none⟩ = some (.int .i64 (k : Int))) → (W2.cell? ⟨w.heap.size, 0, none⟩ = some (.int .i64 F.p) ∧ W2.cell? ⟨w.heap.size, 1, none⟩ = some (.int .i64 F.m) ∧ W2.cell? ⟨w.heap.size, 2, none⟩ = some (.slice A F.mod.length c) ∧ W2.cell? ⟨w.heap.size, 3, none⟩ = some (.int .i64 (k : Int))) := fun hb hl h =>
        ⟨(hb.cell (p := ⟨w.heap.size, 0, none⟩) hl).trans h.1, (hb.cell (p := ⟨w.heap.size, 1, none⟩) hl).trans h.2.1, (hb.cell (p := ⟨w.heap.size, 2, none⟩) hl).trans h.2.2.1, (hb.cell (p := ⟨w.heap.size, 3, none⟩) hl).trans h.2.2.2⟩
      have hwq : IntKind.u64.wrap (q : Int) = (q : Int) := u64w (by omega)
      have hxi : ¬ (N : Int) < (N : Int) := by omega
      clear hcl4 hSl hS halt hlow hsl hul hrs hb4 hB4 hlt4 q0 q1 q2 q3 q4 q5
      go_wp2_with (fail)
      refine wp_region_held_drew (S := fun w' => w'.cell? ⟨w.heap.size, 0, none⟩ = some (.int .i64 F.p) ∧ w'.cell? ⟨w.heap.size, 1, none⟩ = some (.int .i64 F.m) ∧ w'.cell? ⟨w.heap.size, 2, none⟩ = some (.slice A F.mod.length c) ∧ w'.cell? ⟨w.heap.size, 3, none⟩ = some (.int .i64 (k : Int))) (by kernel_rfl) (by (try dsimp only); exact kkq.out) (fun hHeld => ?_)
      revert hHeld
      generalize w4.drew = wq at *
      intro hHeld
      have hO4 := hO wq
      refine wpAnyH_take (i := 0) (oi := ⟨_, _, _, _, _, _⟩) (v := ?_) rfl (by kernel_rfl) (by kernel_rfl) (by kernel_rfl) (fun _ _ _ h => h) (Or.inl ⟨by rfl, ?_⟩) (by assumption) ?_
      rotate_left
      · intro w hSw; (try dsimp only at hSw); go_simp; try with_reducible rfl
      try simp only [Act.put, List.setIfInBounds_toArray, List.set_cons_zero, List.set_cons_succ]
      refine wpAnyH_take (i := 1) (oi := ⟨_, _, _, _, _, _⟩) (v := ?_) rfl (by kernel_rfl) (by kernel_rfl) (by kernel_rfl) (fun _ _ _ h => h) (Or.inl ⟨by rfl, ?_⟩) (by assumption) ?_
      rotate_left
      · intro w hSw; (try dsimp only at hSw); go_simp; try with_reducible rfl
      try simp only [Act.put, List.setIfInBounds_toArray, List.set_cons_zero, List.set_cons_succ]
      refine wpAnyH_take (i := 5) (oi := ⟨_, _, _, _, _, _⟩) (v := ?_) rfl (by kernel_rfl) (by kernel_rfl) (by kernel_rfl) (fun _ _ _ h => h) (Or.inl ⟨by rfl, ?_⟩) (by assumption) ?_
      rotate_left
      · intro w hSw; (try dsimp only at hSw); go_simp; try with_reducible rfl
      try simp only [Act.put, List.setIfInBounds_toArray, List.set_cons_zero, List.set_cons_succ]
      refine wpAnyH_take (i := 6) (oi := ⟨_, _, _, _, _, _⟩) (v := ?_) rfl (by kernel_rfl) (by kernel_rfl) (by kernel_rfl) (fun _ _ _ h => h) (Or.inl ⟨by rfl, ?_⟩) (by assumption) ?_
      rotate_left
      · intro w hSw; (try dsimp only at hSw); go_simp; try with_reducible rfl
      try simp only [Act.put, List.setIfInBounds_toArray, List.set_cons_zero, List.set_cons_succ]
      refine wpAnyH_ready (rs := [2]) (by kernel_rfl) (by simp) ?_
      refine AllReadyH.cons (o := ⟨_, _, _, _, _, _⟩) rfl (fun K hK => ?_) AllReadyH.nil
      go_simp
      go_at_call 8
      (with_reducible refine (hO4).out.mono ?_)
      rintro e5 w5 ⟨rfl, hb5⟩
      have kk5 := Lib.hid (kp hb5 hltq kkq.out)
      have hlt5 : w.heap.size < w5.heap.size := Nat.lt_of_lt_of_le hltq hb5.size
      have hO5 := Lib.hid (Of1_any q w5 (by omega))
      go_wp2_with (fail)
      refine hK.out _ _ (by (try dsimp only); exact kk5.out) (fun hHeld => ?_)
      clear hK K
      try simp only [Act.put, List.setIfInBounds_toArray, List.set_cons_zero, List.set_cons_succ]
      refine wpAnyH_take (i := 3) (oi := ⟨_, _, _, _, _, _⟩) (v := ?_) rfl (by kernel_rfl) (by kernel_rfl) (by kernel_rfl) (fun _ _ _ h => h) (Or.inl ⟨by rfl, ?_⟩) (by assumption) ?_
      rotate_left
      · intro w hSw; (try dsimp only at hSw); go_simp; try with_reducible rfl
      try simp only [Act.put, List.setIfInBounds_toArray, List.set_cons_zero, List.set_cons_succ]
      refine wpAnyH_ready (rs := [4]) (by kernel_rfl) (by simp) ?_
      refine AllReadyH.cons (o := ⟨_, _, _, _, _, _⟩) rfl (fun K hK => ?_) AllReadyH.nil
      go_simp
      go_at_call 12
      (with_reducible refine (hO5).out.mono ?_)
      rintro e6 w6 ⟨v6, rfl, ho6, hb6⟩
      obtain ⟨A6, c6, rfl, hlc6, hr6⟩ := ho6.num
      have kk6 := Lib.hid (kp hb6 hlt5 kk5.out)
      have hlt6 : w.heap.size < w6.heap.size := Nat.lt_of_lt_of_le hlt5 hb6.size
      have hP6 := Lib.hid (Pow1_any q k hq2 hq256 (by omega) A6 c6 w6 hr6 hlc6)
      go_wp2_with (fail)
      refine hK.out _ _ (by (try dsimp only); exact kk6.out) (fun hHeld => ?_)
      clear hK K
      try simp only [Act.put, List.setIfInBounds_toArray, List.set_cons_zero, List.set_cons_succ]
      refine wpAnyH_ready (rs := [7]) (by kernel_rfl) (by simp) ?_
      refine AllReadyH.cons (o := ⟨_, _, _, _, _, _⟩) rfl (fun K hK => ?_) AllReadyH.nil
      go_simp
      go_at_call 15
      (with_reducible refine (hP6).out.mono ?_)
      rintro e7 w7 ⟨A7, c7, rfl, hlc7, hr7, hb7⟩
      have kk7 := Lib.hid (kp hb7 hlt6 kk6.out)
      go_wp2_with (fail)
      refine hK.out _ _ (by (try dsimp only); exact kk7.out) (fun hHeld => ?_)
      clear hK K
      try simp only [Act.put, List.setIfInBounds_toArray, List.set_cons_zero, List.set_cons_succ]
      refine wpAnyH_take (i := 8) (oi := ⟨_, _, _, _, _, _⟩) (v := ?_) rfl (by kernel_rfl) (by kernel_rfl) (by kernel_rfl) (fun _ _ _ h => h) (Or.inl ⟨by rfl, ?_⟩) (by assumption) ?_
      rotate_left
      · intro w hSw; (try dsimp only at hSw); go_simp; try with_reducible rfl
      try simp only [Act.put, List.setIfInBounds_toArray, List.set_cons_zero, List.set_cons_succ]
      refine wpAnyH_take (i := 9) (oi := ⟨_, _, _, _, _, _⟩) (v := ?_) rfl (by kernel_rfl) (by kernel_rfl) (by kernel_rfl) (fun _ _ _ h => h) (Or.inl ⟨by rfl, ?_⟩) (by assumption) ?_
      rotate_left
      · intro w hSw; (try dsimp only at hSw); go_simp; try with_reducible rfl
      try simp only [Act.put, List.setIfInBounds_toArray, List.set_cons_zero, List.set_cons_succ]
      refine wpAnyH_take (i := 10) (oi := ⟨_, _, _, _, _, _⟩) (v := ?_) rfl (by kernel_rfl) (by kernel_rfl) (by kernel_rfl) (fun _ _ _ h => h) (Or.inl ⟨by rfl, ?_⟩) (by assumption) ?_
      rotate_left
      · intro w hSw; (try dsimp only at hSw); go_simp; try with_reducible rfl
      try simp only [Act.put, List.setIfInBounds_toArray, List.set_cons_zero, List.set_cons_succ]
      refine wpAnyH_take (i := 11) (oi := ⟨_, _, _, _, _, _⟩) (v := ?_) rfl (by kernel_rfl) (by kernel_rfl) (by kernel_rfl) (fun _ _ _ h => h) (Or.inl ⟨by rfl, ?_⟩) (by assumption) ?_
      rotate_left
      · intro w hSw; (try dsimp only at hSw); go_simp; try with_reducible rfl
      try simp only [Act.put, List.setIfInBounds_toArray, List.set_cons_zero, List.set_cons_succ]
      refine wpAnyH_take (i := 12) (oi := ⟨_, _, _, _, _, _⟩) (v := ?_) rfl (by kernel_rfl) (by kernel_rfl) (by kernel_rfl) (fun _ _ _ h => h) (Or.inl ⟨by rfl, ?_⟩) (by assumption) ?_
      rotate_left
      · intro w hSw; (try dsimp only at hSw); go_simp; try with_reducible rfl
      try simp only [Act.put, List.setIfInBounds_toArray, List.set_cons_zero, List.set_cons_succ]
      refine wpAnyH_done (by kernel_rfl) ?_ _
      have hbq7 := hb5.trans ((hb6.trans (hb7.mono hb6.size)).mono hb5.size)
      have hSm := Same1_eq (nL (q ^ k)) Ps A7 cs c7 w7 ((hrsq.below hbq7).more hbq7.size) hr7 (by rw [nL_length]; omega)
      rw [nL_length] at hSm
      replace hSm := Lib.hid hSm
      have hB7 := hBq.trans (hbq7.mono hBq.size)
      go_wp2_with (fail)
      refine hSm.out.mono ?_
      rintro e8 w8 ⟨rfl, hb8⟩
      go_wp2_with (fail)
      go_ret
      exact ⟨rfl, hB7.trans (hb8.mono hB7.size)⟩
end Go.Proofs.Ytemanlkgfhmclaa
