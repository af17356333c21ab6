/- Package nat: times. -/
import Derived.Test.YtemanlkgfhmclaaNatF
namespace Go.Proofs.Ytemanlkgfhmclaa
open Go.RowKit Cw
attribute [local go_sem] Oper.semAt_some

theorem nB_lit : nB = 4294967296 := by rw [nB_eq]
theorem dgs_zero (N : Nat) : dgs N 0 = List.replicate N 0 := by
  rw [mp_zero]; exact mp_congr fun t _ => by rw [Nat.zero_div, Nat.zero_mod]
theorem mL_length (N U x b i j : Nat) : (mL N U x b i j).length = N := by simp [mL]
theorem mS_start (U x b i : Nat) : mS U x b i 0 / nB ^ (i + 0) = 0 := by
  unfold mS; rw [Nat.pow_zero, Nat.mod_one, Nat.mul_zero, Nat.add_zero, Nat.add_zero]
  exact Nat.div_eq_of_lt (Nat.mod_lt _ (nBp_pos i))

set_option maxHeartbeats 4000000 in
theorem nTimes_any (a b : List Nat) (ha : Lm a) (hb : Lm b) (A1 A2 : Option Addr) (c1 c2 : Nat) (w : World) (h1 : U.Rd w w.heap.size A1 a) (h2 : U.Rd w w.heap.size A2 b) (hn1 : a.length ≤ 30000) (hn2 : b.length ≤ 30000) :
    Calls Try.prog 48 #[.slice A1 a.length c1, .slice A2 b.length c2] w (U.GivesS w.heap.size (nL (nv a * nv b)) w) := by
  obtain ⟨N, hN⟩ : ∃ N, N = a.length + b.length := ⟨_, rfl⟩
  have hmk := U.mk_ints ty_nat N (by omega)
  have hib := U.IB.newz w N
  have hB : Below w.heap.size w (w.alloc (.cells (Array.replicate N (Value.int .u32 0)) 64)) := (Below.refl _ _).alloc (Nat.le_refl _) _
  have hw1 : IntKind.i64.wrap ((a.length : Int) + (b.length : Int)) = ((N : Nat) : Int) := by rw [IntWalk.i64_in _ (by omega)]; omega
  have hw2 : (a.length : Int) + (b.length : Int) = (N : Int) := by omega
  have hga := get_lm ha; have hgb := get_lm hb
  have ga := fun t => nv_get ha t
  have gb := fun t => nv_get hb t
  have hat : ∀ k, k < a.length → ∃ p off, A1 = some ⟨p, off, none⟩ ∧ p < w.heap.size ∧ w.cell? ⟨p, off + k, none⟩ = some (.int .u32 ((a[k]?.getD 0 : Nat) : Int)) := fun k hk => h1.at_ hk
  have hbt : ∀ k, k < b.length → ∃ p off, A2 = some ⟨p, off, none⟩ ∧ p < w.heap.size ∧ w.cell? ⟨p, off + k, none⟩ = some (.int .u32 ((b[k]?.getD 0 : Nat) : Int)) := fun k hk => h2.at_ hk
  have hQ := nv_lt hb
  have hP := nv_lt ha
  obtain ⟨P, hPe⟩ : ∃ P, P = nv a := ⟨_, rfl⟩
  obtain ⟨Q, hQe⟩ : ∃ Q, Q = nv b := ⟨_, rfl⟩
  rw [← hPe, ← hQe]
  simp only [← hPe] at ga hP
  simp only [← hQe] at gb hQ
  clear hPe hQe ha hb h1 h2
  replace hN := Lib.hid hN
  go_enter Try.func48, Try.ntmps48
  go_wp2_with (fail)
  go_loopw [20] (fun i wr => ∃ k : Nat, k ≤ a.length ∧ i = .int .i64 k ∧ U.IB wr w.heap.size (dgs N (P % nB ^ k * Q)) ∧ Below w.heap.size w wr) (fun i _ => a.length - (intOf i).toNat)
  case atStart => exact ⟨0, Nat.zero_le _, rfl, by rw [Nat.pow_zero, Nat.mod_one, Nat.zero_mul, dgs_zero]; exact hib, hB⟩
  case round =>
    obtain ⟨k, hk, rfl, hib2, hbw⟩ := hrel
    obtain ⟨w2, rfl⟩ : ∃ w2 : World, w2 = wr := ⟨_, rfl⟩
    by_cases h : k < a.length
    · obtain ⟨p, o, rfl, hp, hc⟩ := hat k h
      rw [← hbw.cell (p := ⟨p, o + k, none⟩) hp] at hc
      have hxl := hga k
      have hx := ga k
      obtain ⟨x, hxe⟩ : ∃ x, x = a[k]?.getD 0 := ⟨_, rfl⟩
      rw [← hxe] at hc hxl hx
      have hk0 : (0 : Int) ≤ (k : Int) := by omega
      have hk1 : (k : Int) < (a.length : Int) := by omega
      obtain ⟨V, hV⟩ : ∃ V, V = P % nB ^ k * Q := ⟨_, rfl⟩
      have hend := mL_end (N := N) (a := P) (i := k) hQ
      rw [← hx, ← hV] at hend
      rw [← hV] at hib2
      have hm0 : U.IB w2 w.heap.size (mL N V x Q k 0) := by rw [mL_zero]; exact hib2
      replace hend := Lib.hid hend
      replace hx := Lib.hid hx
      replace hxe := Lib.hid hxe
      clear hib2 ga hga hib hB hV hP
      go_wp2_with (fail)
      go_loopw [27, 8] (fun j c wr => ∃ m z : Nat, m ≤ b.length ∧ z < 4294967296 ∧ j = .int .i64 m ∧ c = .int .u64 (z : Int) ∧ Hid (z = mS V x Q k m / nB ^ (k + m)) ∧ U.IB wr w.heap.size (mL N V x Q k m) ∧ Below w.heap.size w wr) (fun j _ _ => b.length - (intOf j).toNat)
      case atStart => exact ⟨0, 0, Nat.zero_le _, by decide, rfl, rfl, Lib.hid (mS_start V x Q k).symm, hm0, hbw⟩
      case round =>
        clear hbw hm0
        obtain ⟨m, z, hm, hzl, rfl, rfl, hze, hib2, hbw⟩ := hrel
        obtain ⟨w3, rfl⟩ : ∃ w3 : World, w3 = wr := ⟨_, rfl⟩
        by_cases h' : m < b.length
        · obtain ⟨p2, o2, rfl, hp2, hd⟩ := hbt m h'
          rw [← hbw.cell (p := ⟨p2, o2 + m, none⟩) hp2] at hd
          have hyl := hgb m
          have hy := gb m
          obtain ⟨y, hye⟩ : ∃ y, y = b[m]?.getD 0 := ⟨_, rfl⟩
          rw [← hye] at hd hyl hy
          obtain ⟨t, ht⟩ : ∃ t, t = k + m := ⟨_, rfl⟩
          have htN : t < N := by rw [hN.out]; omega
          have hu := mL_get (U := V) (x := x) (b := Q) (ht ▸ htN)
          have hset := mL_set N V x Q k m
          have hcar := mS_car V x Q k m
          have hul : V / nB ^ (k + m) % nB < 4294967296 := by have := Nat.mod_lt (V / nB ^ (k + m)) nB_pos; rw [nB_eq] at this ⊢; exact this
          obtain ⟨u, hue⟩ : ∃ u, u = V / nB ^ (k + m) % nB := ⟨_, rfl⟩
          rw [← hue] at hu hset hcar hul
          rw [← hy, ← hze.out] at hset hcar
          have hcl := hib2.cell (i := t) (by rw [mL_length]; exact htN)
          rw [ht, hu, ← ht] at hcl
          have hfr := hib2.frozen t
          have hfit := mul_fit hxl hyl hul hzl
          have hcl2 := mul_car_lt hxl hyl hul hzl
          obtain ⟨s, hs⟩ : ∃ s, s = x * y + u + z := ⟨_, rfl⟩
          rw [← hs] at hset hcar hfit hcl2
          have hibn := hib2.set_ t (s % nB)
          rw [ht, hset, ← ht] at hibn
          have hbs : ∀ v, Below w.heap.size w (w3.setCell ⟨w.heap.size, t, none⟩ v) := fun v => hbw.setCell (Nat.le_refl _) _
          have hj0 : (0 : Int) ≤ (m : Int) := by omega
          have hj1 : (m : Int) < (b.length : Int) := by omega
          have hta : (k : Int) + (m : Int) = (t : Int) := by omega
          have ht0 : (0 : Int) ≤ (t : Int) := by omega
          have ht1 : (t : Int) < (N : Int) := by omega
          have htw : IntKind.i64.wrap (t : Int) = (t : Int) := IntWalk.i64_in _ (by have := hN.out; omega)
          obtain ⟨hq0, hq1⟩ : (0 : Int) ≤ (x : Int) * (y : Int) ∧ (x : Int) * (y : Int) ≤ 18446744065119617025 := by
            have e : x * y ≤ 4294967295 * 4294967295 := Nat.mul_le_mul (by omega) (by omega)
            have e2 : ((x * y : Nat) : Int) = (x : Int) * (y : Int) := Int.natCast_mul _ _
            omega
          have hsz : (x : Int) * (y : Int) + (u : Int) + (z : Int) = (s : Int) := by
            have e2 : ((x * y : Nat) : Int) = (x : Int) * (y : Int) := Int.natCast_mul _ _
            omega
          have hgt : (x : Int) * (y : Int) + (u : Int) + (z : Int) < 18446744073709551616 := by omega
          rw [nB_eq] at hibn
          replace hibn := Lib.hid hibn
          replace hcar := Lib.hid hcar
          replace hsz := Lib.hid hsz
          clear hset hs hye hy hat hbt gb hgb hue hu hib2 hbw h' h ht hend hze hQ
          go_wp2_with (fail)
          replace hsz := hsz.out
          refine ⟨⟨m + 1, s / 4294967296, by omega, hcl2, rfl, ?_, Lib.hid (by rw [hcar.out, nB_lit]), ?_, hbs _⟩, by simp [intOf]; omega⟩
          · rw [hsz]; rfl
          · rw [hsz]; exact hibn.out
        · have hme : m = b.length := by omega
          subst hme
          obtain ⟨he1, he2⟩ := hend.out
          rw [← hze.out] at he1 he2
          obtain ⟨t, ht⟩ : ∃ t, t = k + b.length := ⟨_, rfl⟩
          have htN : t < N := by rw [hN.out]; omega
          have hcl := hib2.cell (i := t) (by rw [mL_length]; exact htN)
          have hfr := hib2.frozen t
          have hibn := hib2.set_ t z
          rw [ht, he1, ← ht] at hibn
          have hbs : ∀ v, Below w.heap.size w (w3.setCell ⟨w.heap.size, t, none⟩ v) := fun v => hbw.setCell (Nat.le_refl _) _
          have hta : (k : Int) + (b.length : Int) = (t : Int) := by omega
          have ht0 : (0 : Int) ≤ (t : Int) := by omega
          have ht1 : (t : Int) < (N : Int) := by omega
          have htw : IntKind.i64.wrap (t : Int) = (t : Int) := IntWalk.i64_in _ (by have := hN.out; omega)
          have hzm : (z : Int) % 4294967296 = (z : Int) := by omega
          replace hibn := Lib.hid hibn
          clear he1 he2 hat hbt gb hgb hib2 hbw h' ht hend hze hQ
          go_wp2_with (fail)
          exact ⟨⟨k + 1, by omega, rfl, hibn.out, hbs _⟩, by simp [intOf]; omega⟩
    · have hke : k = a.length := by omega
      subst hke
      rw [Nat.mod_eq_of_lt hP] at hib2
      have hV : P * Q < nB ^ N := by
        rw [hN.out, Nat.pow_add]
        exact Nat.lt_of_le_of_lt (Nat.mul_le_mul_left _ (Nat.le_of_lt hQ)) (Nat.mul_lt_mul_of_pos_right hP (nBp_pos _))
      have hS := nShort_any _ (dgs_lm N (P * Q)) (some ⟨w.heap.size, 0, none⟩) N _ (hib2.rd) (by rw [dgs_length, hN.out]; omega) (by rw [dgs_length]; exact Nat.le_refl _)
      rw [dgs_length, nv_dgs hV] at hS
      replace hS := Lib.hid hS
      clear h hat hbt ga gb hga hgb hib2 hP hQ hV
      go_wp2_with (fail)
      refine hS.out.mono ?_
      rintro e w4 ⟨rfl, hr3, rfl⟩
      go_wp2_with (fail)
      go_ret
      exact ⟨_, by rw [nL_length]; rfl, hr3, hbw⟩
end Go.Proofs.Ytemanlkgfhmclaa
