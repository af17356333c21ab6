/- Package nat: Pow of a number from 2 to 256, to at most 255. -/
import Derived.Test.YtemanlkgfhmclaaNatO
namespace Go.Proofs.Ytemanlkgfhmclaa
open Go.RowKit Cw
attribute [local go_sem] Oper.semAt_some

theorem bits_and1 {m : Nat} (h : m ≤ 255) : bits BinOp.and IntKind.i64 (m : Int) 1 = ((m % 2 : Nat) : Int) := by
  have all : ∀ j : Fin 256, bits BinOp.and IntKind.i64 (j.val : Int) 1 = ((j.val % 2 : Nat) : Int) := by decide +kernel
  exact all ⟨m, by omega⟩
theorem len_pow {q n : Nat} (h0 : 1 ≤ q) (h : q ≤ 256) (hn : n ≤ 255) {v : Nat} (hv : v ≤ q ^ n) : nlen v ≤ 65 := by
  refine nlen_le (Nat.lt_of_le_of_lt (Nat.le_trans hv (pow_lt64 h0 h hn)) ?_)
  exact Nat.pow_lt_pow_right nB_gt (by decide)

set_option maxHeartbeats 4000000 in
theorem nPow_any (q n : Nat) (hq0 : 2 ≤ q) (hq1 : q ≤ 256) (hn : n ≤ 255) (A1 : Option Addr) (c1 : Nat) (w : World) (h1 : U.Rd w w.heap.size A1 (nL q)) (hc1 : nlen q ≤ c1) :
    Calls Try.prog 23 #[.slice A1 (nlen q) c1, .int .i64 (n : Int)] w fun e w' => ∃ v, e = .returned (.tuple #[v, .int .i64 0]) ∧ U.Own w' w.heap.size v (nL (q ^ n)) ∧ Below w.heap.size w w' := by
  have hB := nBits_small q hq0 hq1 A1 c1 w h1 hc1
  have hn0 : ¬ (n : Int) < 0 := by omega
  replace hB := Lib.hid hB
  go_enter Try.func23, Try.ntmps23
  go_wp2_with (fail)
  refine hB.out.mono ?_
  rintro e w1 ⟨y, rfl, hy0, hy1, rfl⟩
  rcases Nat.eq_zero_or_pos n with h0 | h0
  · subst h0
    go_wp2_with (fail)
    have hib := U.IB.new w1 [1]
    exact bodyPost_ret (v := .tuple #[.slice (some ⟨w1.heap.size, 0, none⟩) 1 1, .int .i64 0]) (by simp [results, Try.results23, go_sem]) rfl ⟨_, rfl, by rw [Nat.pow_zero, show nL 1 = [1] from nL_small nB_gt (by decide)]; exact U.Own.of_IB hib (Nat.le_refl _) (by show 1 ≤ maxLen; unfold maxLen; omega), (Below.refl _ _).alloc (Nat.le_refl _) _⟩
  · have hnz : ((n : Int) == 0) = false := by rw [beq_eq_false_iff_ne]; omega
    have hy2 : ((y : Int) == 1) = false := by rw [beq_eq_false_iff_ne]; omega
    have hy3 : ((y : Int) == 0) = false := by rw [beq_eq_false_iff_ne]; omega
    have hn4 : ¬ (131072 : Int) < (n : Int) := by omega
    have hm0 : (0 : Int) ≤ ((y : Int) - 1) * (n : Int) ∧ ((y : Int) - 1) * (n : Int) ≤ 2040 := by
      obtain ⟨z, rfl⟩ : ∃ z, y = z + 1 := ⟨y - 1, by omega⟩
      have e : z * n ≤ 8 * 255 := Nat.mul_le_mul (by omega) hn
      rw [show ((z + 1 : Nat) : Int) - 1 = (z : Int) by omega, ← Int.natCast_mul]
      omega
    obtain ⟨hm0, hm1⟩ := hm0
    have hm2 : ¬ (131072 : Int) ≤ ((y : Int) - 1) * (n : Int) := by omega
    have hba : Below w1.heap.size w1 (w1.alloc (.cells #[.int .u32 1] 64)) := (Below.refl _ _).alloc (Nat.le_refl _) _
    have hib := (U.IB.new w1 [1]).rd
    have hS := nShort_any (nL q) (nL_lm q) A1 c1 _ ((h1.below hba).more hba.size) (by have := len_pow (n := 1) (q := q) (by omega) hq1 (by decide) (v := q) (by rw [Nat.pow_one]; exact Nat.le_refl _); rw [nL_length]; omega) (by rw [nL_length]; exact hc1)
    rw [nL_length, nv_nL] at hS
    replace hS := Lib.hid hS
    go_wp2_with (fail)
    refine hS.out.mono ?_
    rintro e w2 ⟨rfl, hr2, rfl⟩
    clear hS hnz hy2 hy3 hn4 hm0 hm1 hm2 hn0
    go_wp2_with (fail)
    go_loopw [1, 7, 8] (fun i o s wr => ∃ (m V S : Nat) (P1 P2 : Option Addr), 1 ≤ m ∧ m ≤ 255 ∧ 1 ≤ V ∧ 1 ≤ S ∧ i = .int .i64 (m : Int) ∧ o = .slice P1 (nlen V) (nlen V) ∧ s = .slice P2 (nlen S) (nlen S) ∧ Hid (V * S ^ m = q ^ n) ∧ U.Rd wr wr.heap.size P1 (nL V) ∧ U.Rd wr wr.heap.size P2 (nL S) ∧ Below w1.heap.size w1 wr) (fun i _ _ _ => (intOf i).toNat)
    case atStart => exact ⟨n, 1, q, _, _, h0, hn, Nat.le_refl _, by omega, rfl, rfl, rfl, Lib.hid (Nat.one_mul _), by rw [show nL 1 = [1] from nL_small nB_gt (by decide)]; exact hib, hr2, hba⟩
    case round =>
      clear hr2 hib hba
      obtain ⟨m, V, S, P1, P2, hm0, hm1, hU0, hS0, rfl, rfl, rfl, heq, hrU, hrS, hbw⟩ := hrel
      obtain ⟨w2, rfl⟩ : ∃ w2 : World, w2 = wr := ⟨_, rfl⟩
      have hSp : 1 ≤ S ^ m := Nat.pow_pos hS0
      have hUq : V ≤ q ^ n := by rw [← heq.out]; exact Nat.le_mul_of_pos_right _ hSp
      have hSq : S ≤ q ^ n := by
        rw [← heq.out]
        refine Nat.le_trans ?_ (Nat.le_mul_of_pos_left _ hU0)
        have e := Nat.pow_le_pow_right hS0 hm0
        rw [Nat.pow_one] at e; exact e
      have hUl := len_pow (by omega) hq1 hn hUq
      have hSl := len_pow (by omega) hq1 hn hSq
      have hhalf := pow_half S m
      have hand := bits_and1 hm1
      have hm2 : (m : Int) / 2 = ((m / 2 : Nat) : Int) := by omega
      obtain ⟨h, hh⟩ : ∃ h, h = m / 2 := ⟨_, rfl⟩
      rw [← hh] at hm2 hhalf
      by_cases hodd : m % 2 = 1
      · rw [hodd] at hand hhalf
        rw [Nat.pow_one] at hhalf
        have hT := nTimes_any (nL V) (nL S) (nL_lm _) (nL_lm _) P1 P2 (nlen V) (nlen S) w2 hrU hrS (by rw [nL_length]; omega) (by rw [nL_length]; omega)
        simp only [nv_nL, nL_length] at hT
        replace hT := Lib.hid hT
        have heq2 : V * S * (S * S) ^ h = q ^ n := by rw [Nat.mul_assoc, ← hhalf]; exact heq.out
        clear hhalf heq hSp hUq hrU
        go_wp2_with (fail)
        refine hT.out.mono ?_
        rintro e w3 ⟨A3, rfl, hr3, hb3⟩
        rw [nL_length]
        have hbw3 := hbw.trans (hb3.mono hbw.size)
        clear hT
        rcases Nat.eq_zero_or_pos h with hz | hz
        · subst hz
          rw [Nat.pow_zero, Nat.mul_one] at heq2
          have hln := len_pow (by omega) hq1 hn (Nat.le_of_eq heq2)
          have hT2 := nTrim_any (nL (V * S)) (nL_lm _) A3 (nlen (V * S)) w3 hr3 (by rw [nL_length]; omega) (by rw [nL_length]; exact Nat.le_refl _)
          rw [nL_length, nv_nL] at hT2
          have hmz : (m : Int) / 2 = 0 := by omega
          replace hh := Lib.hid hh
          clear hm2
          have hl4 : ¬ (4096 : Int) < (nlen (V * S) : Int) := by omega
          replace hT2 := Lib.hid hT2
          replace heq2 := Lib.hid heq2
          clear hSl hUl hand hSq h1 hB
          go_wp2_with (fail)
          refine hT2.out.mono ?_
          rintro e w5 ⟨v, rfl, ho5, hb5⟩
          go_wp2_with (fail)
          exact bodyPost_ret (v := .tuple #[v, .int .i64 0]) (by simp [results, Try.results23, go_sem]) rfl ⟨v, rfl, by rw [← heq2.out]; exact ho5.base hbw3.size, hbw3.trans (hb5.mono hbw3.size)⟩
        · have hrS3 : U.Rd w3 w3.heap.size P2 (nL S) := (hrS.below hb3).more hb3.size
          have hT2 := nTimes_any (nL S) (nL S) (nL_lm _) (nL_lm _) P2 P2 (nlen S) (nlen S) w3 hrS3 hrS3 (by rw [nL_length]; omega) (by rw [nL_length]; omega)
          simp only [nv_nL, nL_length] at hT2
          have hbi : ((h : Int) == 0) = false := by rw [beq_eq_false_iff_ne]; omega
          have hlt : h < m := by omega
          have hV0 : 1 ≤ V * S := Nat.mul_pos hU0 hS0
          have hSS : 1 ≤ S * S := Nat.mul_pos hS0 hS0
          have hm4 : h ≤ 255 := by omega
          replace hT2 := Lib.hid hT2
          replace heq2 := Lib.hid heq2
          replace hh := Lib.hid hh
          clear hSl hUl hand hSq hm1 hB hodd
          go_wp2_with (fail)
          refine hT2.out.mono ?_
          rintro e w5 ⟨A5, rfl, hr5, hb5⟩
          rw [nL_length]
          go_wp2_with (fail)
          exact ⟨⟨h, V * S, S * S, A3, A5, hz, hm4, hV0, hSS, rfl, rfl, rfl, heq2, (hr3.below hb5).more hb5.size, hr5, hbw3.trans (hb5.mono hbw3.size)⟩, by simp only [intOf]; omega⟩
      · have hodd : m % 2 = 0 := by omega
        rw [hodd] at hand hhalf
        rw [Nat.pow_zero, Nat.one_mul] at hhalf
        have heq2 : V * (S * S) ^ h = q ^ n := by rw [← hhalf]; exact heq.out
        have hbw3 := hbw
        clear hhalf heq hSp hUq
        rcases Nat.eq_zero_or_pos h with hz | hz
        · subst hz
          rw [Nat.pow_zero, Nat.mul_one] at heq2
          have hln := len_pow (by omega) hq1 hn (Nat.le_of_eq heq2)
          have hT2 := nTrim_any (nL (V)) (nL_lm _) P1 (nlen (V)) w2 hrU (by rw [nL_length]; omega) (by rw [nL_length]; exact Nat.le_refl _)
          rw [nL_length, nv_nL] at hT2
          have hmz : (m : Int) / 2 = 0 := by omega
          replace hh := Lib.hid hh
          clear hm2
          have hl4 : ¬ (4096 : Int) < (nlen (V) : Int) := by omega
          replace hT2 := Lib.hid hT2
          replace heq2 := Lib.hid heq2
          clear hSl hUl hSq h1 hB
          go_wp2_with (fail)
          refine hT2.out.mono ?_
          rintro e w5 ⟨v, rfl, ho5, hb5⟩
          go_wp2_with (fail)
          exact bodyPost_ret (v := .tuple #[v, .int .i64 0]) (by simp [results, Try.results23, go_sem]) rfl ⟨v, rfl, by rw [← heq2.out]; exact ho5.base hbw3.size, hbw3.trans (hb5.mono hbw3.size)⟩
        · have hrS3 : U.Rd w2 w2.heap.size P2 (nL S) := hrS
          have hT2 := nTimes_any (nL S) (nL S) (nL_lm _) (nL_lm _) P2 P2 (nlen S) (nlen S) w2 hrS3 hrS3 (by rw [nL_length]; omega) (by rw [nL_length]; omega)
          simp only [nv_nL, nL_length] at hT2
          have hbi : ((h : Int) == 0) = false := by rw [beq_eq_false_iff_ne]; omega
          have hlt : h < m := by omega
          have hV0 : 1 ≤ V := hU0
          have hSS : 1 ≤ S * S := Nat.mul_pos hS0 hS0
          have hm4 : h ≤ 255 := by omega
          replace hT2 := Lib.hid hT2
          replace heq2 := Lib.hid heq2
          replace hh := Lib.hid hh
          clear hSl hUl hSq hB hodd
          go_wp2_with (fail)
          refine hT2.out.mono ?_
          rintro e w5 ⟨A5, rfl, hr5, hb5⟩
          rw [nL_length]
          go_wp2_with (fail)
          exact ⟨⟨h, V, S * S, P1, A5, hz, hm4, hV0, hSS, rfl, rfl, rfl, heq2, (hrU.below hb5).more hb5.size, hr5, hbw3.trans (hb5.mono hbw3.size)⟩, by simp only [intOf]; omega⟩
end Go.Proofs.Ytemanlkgfhmclaa
