/- Package nat: Binomial. -/
import Derived.Test.YtemanlkgfhmclaaNatM
import Derived.Test.YtemanlkgfhmclaaWtL
namespace Go.Proofs.Ytemanlkgfhmclaa
open Go.RowKit Cw
attribute [local go_sem] Oper.semAt_some

theorem ch_len (n i : Nat) : nlen (ch n i) ≤ n + 1 := by
  refine nlen_le (Nat.lt_of_le_of_lt (ch_le2 n i) ?_)
  rw [Nat.pow_succ]
  have h1 : 2 ^ n ≤ nB ^ n := Nat.pow_le_pow_left (by rw [nB_lit]; decide) n
  have h2 := nBp_pos n
  have h3 : nB ^ n * 2 ≤ nB ^ n * nB := Nat.mul_le_mul (Nat.le_refl _) (by rw [nB_lit]; decide)
  omega
theorem nlen_mul_one {p d : Nat} (hd : d < nB) : nlen (p * d) ≤ nlen p + 1 := by
  refine nlen_le ?_
  rw [Nat.pow_succ]
  have h1 := (nlen_spec p).1
  have h2 : p * d ≤ p * nB := Nat.mul_le_mul (Nat.le_refl _) (Nat.le_of_lt hd)
  exact Nat.lt_of_le_of_lt h2 (Nat.mul_lt_mul_of_pos_right h1 nB_pos)
theorem lm_one {d : Nat} (hd : d < nB) : Lm [d] := fun x hx => by
  rcases List.mem_singleton.1 hx with rfl; exact hd
theorem nv_one (d : Nat) : nv [d] = d := by show d + nB * 0 = d; omega

set_option maxHeartbeats 4000000 in
theorem nBin_any (n k : Nat) (hkn : k ≤ n) (hn : n ≤ 4096) (w : World) :
    Calls Try.prog 25 #[.int .i64 (n : Int), .int .i64 (k : Int)] w fun e w' => ∃ v, e = .returned (.tuple #[v, .int .i64 0]) ∧ U.Own w' w.heap.size v (nL (ch n k)) ∧ Below w.heap.size w w' := by
  obtain ⟨M, hM⟩ : ∃ M, M = min k (n - k) := ⟨_, rfl⟩
  have hMn : M ≤ n := by omega
  have hMi : min (k : Int) ((n : Int) - (k : Int)) = (M : Int) := by omega
  have hch : ch n k = ch n M := by rw [hM, ch_min hkn]
  rw [hch]
  have h1 : ¬ (n : Int) < 0 := by omega
  have h2 : ¬ (4096 : Int) < (n : Int) := by omega
  have h3 : ¬ (k : Int) < 0 := by omega
  have h4 : ¬ (n : Int) < (k : Int) := by omega
  replace hM := Lib.hid hM
  clear hch
  go_enter Try.func25, Try.ntmps25
  rcases (show ((k : Int) ≤ (n : Int) - (k : Int) ∧ (k : Int) = (M : Int)) ∨ (¬ (k : Int) ≤ (n : Int) - (k : Int) ∧ (n : Int) - (k : Int) = (M : Int)) by have := hM.out; omega) with ⟨hc, he⟩ | ⟨hc, he⟩
  · clear hMi
    go_wp2_with (fail)
    go_loopw [27, 6] (fun i s wr => ∃ (j : Nat) (P : Option Addr), j ≤ M ∧ i = .int .i64 j ∧ s = .slice P (nlen (ch n j)) (nlen (ch n j)) ∧ U.Rd wr wr.heap.size P (nL (ch n j)) ∧ Below w.heap.size w wr) (fun i _ _ => M - (intOf i).toNat)
    case atStart => exact ⟨0, some ⟨w.heap.size, 0, none⟩, Nat.zero_le _, rfl, by rw [ch_zero]; rfl, by rw [ch_zero, show nL 1 = [1] from nL_small nB_gt (by decide)]; exact (U.IB.new w [1]).rd, (Below.refl _ _).alloc (Nat.le_refl _) _⟩
    case round =>
      obtain ⟨j, P, hj, rfl, rfl, hr, hbw⟩ := hrel
      obtain ⟨w2, rfl⟩ : ∃ w2 : World, w2 = wr := ⟨_, rfl⟩
      have hcl := ch_len n j
      by_cases hjM : j < M
      · obtain ⟨D, hD⟩ : ∃ D, D = n - j := ⟨_, rfl⟩
        have hDi : (n : Int) - (j : Int) = (D : Int) := by omega
        have hDl : D < nB := by rw [nB_lit]; omega
        have hD32 : (D : Int) % 4294967296 = (D : Int) := by rw [nB_lit] at hDl; omega
        have hDl2 : (D : Int) < 4294967296 := by rw [nB_lit] at hDl; omega
        have hib := U.IB.new w2 [D]
        have hba : Below w2.heap.size w2 (w2.alloc (.cells #[.int .u32 (D : Int)] 64)) := (Below.refl _ _).alloc (Nat.le_refl _) _
        have hT := nTimes_any (nL (ch n j)) [D] (nL_lm _) (lm_one hDl) P (some ⟨w2.heap.size, 0, none⟩) (nlen (ch n j)) 1 (w2.alloc (.cells #[.int .u32 (D : Int)] 64)) ((hr.below hba).more hba.size) hib.rd (by rw [nL_length]; omega) (by simp)
        rw [nL_length, nv_nL, nv_one] at hT
        have hml := nlen_mul_one (p := ch n j) hDl
        have hG := fun A1 W hr2 => nDigit_any (nL (ch n j * D)) (j + 1) (nL_lm _) (by omega) (by omega) A1 (nL (ch n j * D)).length W hr2 (by rw [nL_length]; omega)
        rw [nv_nL, hD, ch_div (by omega : j ≤ n), ← hD] at hG
        replace hT := Lib.hid hT
        replace hG := fun A1 W hr2 => Lib.hid (hG A1 W hr2)
        replace hD := Lib.hid hD
        have hj1 : (j : Int) < (M : Int) := by omega
        clear hr hib hcl hml
        go_wp2_with (fail)
        refine hT.out.mono ?_
        rintro e w4 ⟨A', rfl, hr4, hb4⟩
        have hG1 := hG A' w4 hr4
        clear hT hG hr4
        go_wp2_with (fail)
        refine hG1.out.mono ?_
        rintro e w5 ⟨A5, rfl, hr5, hb5⟩
        rw [nL_length]
        clear hD32 hDi
        go_wp2_with (fail)
        exact ⟨⟨j + 1, A5, by omega, rfl, rfl, hr5, hbw.trans ((hba.trans ((hb4.mono hba.size).trans (hb5.mono (Nat.le_trans hba.size hb4.size)))).mono hbw.size)⟩, by simp [intOf]; omega⟩
      · have hje : j = M := by omega
        subst hje
        have hT := nTrim_any (nL (ch n j)) (nL_lm _) P (nlen (ch n j)) w2 hr (by rw [nL_length]; omega) (by rw [nL_length]; exact Nat.le_refl _)
        rw [nL_length, nv_nL] at hT
        replace hT := Lib.hid hT
        clear hr hcl hjM
        go_wp2_with (fail)
        refine hT.out.mono ?_
        rintro e w4 ⟨v, rfl, ho4, hb4⟩
        go_wp2_with (fail)
        exact bodyPost_ret (v := .tuple #[v, .int .i64 0]) (by simp [results, Try.results25, go_sem]) rfl ⟨v, rfl, ho4.base hbw.size, hbw.trans (hb4.mono hbw.size)⟩
  · clear hMi
    go_wp2_with (fail)
    go_loopw [27, 6] (fun i s wr => ∃ (j : Nat) (P : Option Addr), j ≤ M ∧ i = .int .i64 j ∧ s = .slice P (nlen (ch n j)) (nlen (ch n j)) ∧ U.Rd wr wr.heap.size P (nL (ch n j)) ∧ Below w.heap.size w wr) (fun i _ _ => M - (intOf i).toNat)
    case atStart => exact ⟨0, some ⟨w.heap.size, 0, none⟩, Nat.zero_le _, rfl, by rw [ch_zero]; rfl, by rw [ch_zero, show nL 1 = [1] from nL_small nB_gt (by decide)]; exact (U.IB.new w [1]).rd, (Below.refl _ _).alloc (Nat.le_refl _) _⟩
    case round =>
      obtain ⟨j, P, hj, rfl, rfl, hr, hbw⟩ := hrel
      obtain ⟨w2, rfl⟩ : ∃ w2 : World, w2 = wr := ⟨_, rfl⟩
      have hcl := ch_len n j
      by_cases hjM : j < M
      · obtain ⟨D, hD⟩ : ∃ D, D = n - j := ⟨_, rfl⟩
        have hDi : (n : Int) - (j : Int) = (D : Int) := by omega
        have hDl : D < nB := by rw [nB_lit]; omega
        have hD32 : (D : Int) % 4294967296 = (D : Int) := by rw [nB_lit] at hDl; omega
        have hDl2 : (D : Int) < 4294967296 := by rw [nB_lit] at hDl; omega
        have hib := U.IB.new w2 [D]
        have hba : Below w2.heap.size w2 (w2.alloc (.cells #[.int .u32 (D : Int)] 64)) := (Below.refl _ _).alloc (Nat.le_refl _) _
        have hT := nTimes_any (nL (ch n j)) [D] (nL_lm _) (lm_one hDl) P (some ⟨w2.heap.size, 0, none⟩) (nlen (ch n j)) 1 (w2.alloc (.cells #[.int .u32 (D : Int)] 64)) ((hr.below hba).more hba.size) hib.rd (by rw [nL_length]; omega) (by simp)
        rw [nL_length, nv_nL, nv_one] at hT
        have hml := nlen_mul_one (p := ch n j) hDl
        have hG := fun A1 W hr2 => nDigit_any (nL (ch n j * D)) (j + 1) (nL_lm _) (by omega) (by omega) A1 (nL (ch n j * D)).length W hr2 (by rw [nL_length]; omega)
        rw [nv_nL, hD, ch_div (by omega : j ≤ n), ← hD] at hG
        replace hT := Lib.hid hT
        replace hG := fun A1 W hr2 => Lib.hid (hG A1 W hr2)
        replace hD := Lib.hid hD
        have hj1 : (j : Int) < (M : Int) := by omega
        clear hr hib hcl hml
        go_wp2_with (fail)
        refine hT.out.mono ?_
        rintro e w4 ⟨A', rfl, hr4, hb4⟩
        have hG1 := hG A' w4 hr4
        clear hT hG hr4
        go_wp2_with (fail)
        refine hG1.out.mono ?_
        rintro e w5 ⟨A5, rfl, hr5, hb5⟩
        rw [nL_length]
        clear hD32 hDi
        go_wp2_with (fail)
        exact ⟨⟨j + 1, A5, by omega, rfl, rfl, hr5, hbw.trans ((hba.trans ((hb4.mono hba.size).trans (hb5.mono (Nat.le_trans hba.size hb4.size)))).mono hbw.size)⟩, by simp [intOf]; omega⟩
      · have hje : j = M := by omega
        subst hje
        have hT := nTrim_any (nL (ch n j)) (nL_lm _) P (nlen (ch n j)) w2 hr (by rw [nL_length]; omega) (by rw [nL_length]; exact Nat.le_refl _)
        rw [nL_length, nv_nL] at hT
        replace hT := Lib.hid hT
        clear hr hcl hjM
        go_wp2_with (fail)
        refine hT.out.mono ?_
        rintro e w4 ⟨v, rfl, ho4, hb4⟩
        go_wp2_with (fail)
        exact bodyPost_ret (v := .tuple #[v, .int .i64 0]) (by simp [results, Try.results25, go_sem]) rfl ⟨v, rfl, ho4.base hbw.size, hbw.trans (hb4.mono hbw.size)⟩
end Go.Proofs.Ytemanlkgfhmclaa
