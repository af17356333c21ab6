/- The reference's numbers: Mul. The reference's numbers: Add. The reference's numbers: Bits of a number from 2 to 256, Pow of such a number to at most 255. The reference's numbers: Pow of a number from 2 to 256 to at most 255. -/
import Derived.Test.YtemanlkgfhmclaaNatG
import Derived.BigQuiet
import Derived.Test.YtemanlkgfhmclaaNatP
import Derived.Test.YtemanlkgfhmclaaNatR
/-! The reference's numbers: Mul -/
namespace Go.Proofs.Ytemanlkgfhmclaa
open Go.RowKit Cw
attribute [local go_sem] Oper.semAt_some

set_option maxHeartbeats 4000000 in
theorem Mul1_any (a b : List Nat) (ha : Lm a) (hb : Lm b) (A1 A2 : Option Addr) (c1 c2 : Nat) (w : World) (h1 : U.Rd w w.heap.size A1 a) (h2 : U.Rd w w.heap.size A2 b) (hn1 : a.length ≤ 30000) (hn2 : b.length ≤ 30000) :
    Calls Try.prog 35 #[.slice A1 a.length c1, .slice A2 b.length c2] w (U.GivesA w.heap.size (nL (nv a * nv b)) w) := by
  obtain ⟨N, hN⟩ : ∃ N, N = a.length + b.length := ⟨_, rfl⟩
  have hmk := U.mk_ints ty_nat N (by omega)
  have hib := U.IB.newz w N
  have hB : Below w.heap.size w (w.alloc (.cells (Array.replicate N (Value.int .u32 0)) 64)) := (Below.refl _ _).alloc (Nat.le_refl _) _
  have hw1 : IntKind.i64.wrap ((a.length : Int) + (b.length : Int)) = ((N : Nat) : Int) := by rw [IntWalk.i64_in _ (by omega)]; omega
  have hw2 : (a.length : Int) + (b.length : Int) = (N : Int) := by omega
  have hga := get_lm ha; have hgb := get_lm hb
  have ga := fun t => nv_get ha t
  have gb := fun t => nv_get hb t
  have hat : ∀ k, k < a.length → ∃ p off, A1 = some ⟨p, off, none⟩ ∧ p < w.heap.size ∧ w.cell? ⟨p, off + k, none⟩ = some (.int .u32 ((a[k]?.getD 0 : Nat) : Int)) := fun k hk => h1.at_ hk
  have hbt : ∀ k, k < b.length → ∃ p off, A2 = some ⟨p, off, none⟩ ∧ p < w.heap.size ∧ w.cell? ⟨p, off + k, none⟩ = some (.int .u32 ((b[k]?.getD 0 : Nat) : Int)) := fun k hk => h2.at_ hk
  have hQ := nv_lt hb
  have hP := nv_lt ha
  obtain ⟨P, hPe⟩ : ∃ P, P = nv a := ⟨_, rfl⟩
  obtain ⟨Q, hQe⟩ : ∃ Q, Q = nv b := ⟨_, rfl⟩
  rw [← hPe, ← hQe]
  simp only [← hPe] at ga hP
  simp only [← hQe] at gb hQ
  clear hPe hQe ha hb h1 h2
  replace hN := Lib.hid hN
  go_enter Try.func35, Try.ntmps35
  go_wp2_with (fail)
  go_loopw [6] (fun i wr => ∃ k : Nat, k ≤ a.length ∧ i = .int .i64 k ∧ U.IB wr w.heap.size (dgs N (P % nB ^ k * Q)) ∧ Below w.heap.size w wr) (fun i _ => a.length - (intOf i).toNat)
  case atStart => exact ⟨0, Nat.zero_le _, rfl, by rw [Nat.pow_zero, Nat.mod_one, Nat.zero_mul, dgs_zero]; exact hib, hB⟩
  case round =>
    obtain ⟨k, hk, rfl, hib2, hbw⟩ := hrel
    obtain ⟨w2, rfl⟩ : ∃ w2 : World, w2 = wr := ⟨_, rfl⟩
    by_cases h : k < a.length
    · obtain ⟨p, o, rfl, hp, hc⟩ := hat k h
      have hxl := hga k
      have hx := ga k
      obtain ⟨x, hxe⟩ : ∃ x, x = a[k]?.getD 0 := ⟨_, rfl⟩
      rw [← hxe] at hc hxl hx
      have hk0 : (0 : Int) ≤ (k : Int) := by omega
      have hk1 : (k : Int) < (a.length : Int) := by omega
      obtain ⟨V, hV⟩ : ∃ V, V = P % nB ^ k * Q := ⟨_, rfl⟩
      have hend := mL_end (N := N) (a := P) (i := k) hQ
      rw [← hx, ← hV] at hend
      rw [← hV] at hib2
      have hm0 : U.IB w2 w.heap.size (mL N V x Q k 0) := by rw [mL_zero]; exact hib2
      replace hend := Lib.hid hend
      replace hx := Lib.hid hx
      replace hxe := Lib.hid hxe
      clear hib2 ga hga hib hB hV hP
      go_wp2_with (fail)
      go_loopw [8, 7] (fun j c wr => ∃ m z : Nat, m ≤ b.length ∧ z < 4294967296 ∧ j = .int .i64 m ∧ c = .int .u64 (z : Int) ∧ Hid (z = mS V x Q k m / nB ^ (k + m)) ∧ U.IB wr w.heap.size (mL N V x Q k m) ∧ Below w.heap.size w wr) (fun j _ _ => b.length - (intOf j).toNat)
      case atStart => exact ⟨0, 0, Nat.zero_le _, by decide, rfl, rfl, Lib.hid (mS_start V x Q k).symm, hm0, hbw⟩
      case round =>
        clear hbw hm0
        obtain ⟨m, z, hm, hzl, rfl, rfl, hze, hib2, hbw⟩ := hrel
        obtain ⟨w3, rfl⟩ : ∃ w3 : World, w3 = wr := ⟨_, rfl⟩
        have hcx := (hbw.cell (p := ⟨p, o + k, none⟩) hp).trans hc
        by_cases h' : m < b.length
        · obtain ⟨p2, o2, rfl, hp2, hd⟩ := hbt m h'
          rw [← hbw.cell (p := ⟨p2, o2 + m, none⟩) hp2] at hd
          have hyl := hgb m
          have hy := gb m
          obtain ⟨y, hye⟩ : ∃ y, y = b[m]?.getD 0 := ⟨_, rfl⟩
          rw [← hye] at hd hyl hy
          obtain ⟨t, ht⟩ : ∃ t, t = k + m := ⟨_, rfl⟩
          have htN : t < N := by rw [hN.out]; omega
          have hu := mL_get (U := V) (x := x) (b := Q) (ht ▸ htN)
          have hset := mL_set N V x Q k m
          have hcar := mS_car V x Q k m
          have hul : V / nB ^ (k + m) % nB < 4294967296 := by have := Nat.mod_lt (V / nB ^ (k + m)) nB_pos; rw [nB_eq] at this ⊢; exact this
          obtain ⟨u, hue⟩ : ∃ u, u = V / nB ^ (k + m) % nB := ⟨_, rfl⟩
          rw [← hue] at hu hset hcar hul
          rw [← hy, ← hze.out] at hset hcar
          have hcl := hib2.cell (i := t) (by rw [mL_length]; exact htN)
          rw [ht, hu, ← ht] at hcl
          have hfr := hib2.frozen t
          have hfit := mul_fit hxl hyl hul hzl
          have hcl2 := mul_car_lt hxl hyl hul hzl
          obtain ⟨s, hs⟩ : ∃ s, s = x * y + u + z := ⟨_, rfl⟩
          rw [← hs] at hset hcar hfit hcl2
          have hibn := hib2.set_ t (s % nB)
          rw [ht, hset, ← ht] at hibn
          have hbs : ∀ n v, Below w.heap.size w ((w3.drewN n).setCell ⟨w.heap.size, t, none⟩ v) := fun n v => Below.setCell (w := w3.drewN n) ⟨hbw.os, hbw.tape, hbw.output, hbw.size, hbw.block⟩ (Nat.le_refl _) _
          have hj0 : (0 : Int) ≤ (m : Int) := by omega
          have hj1 : (m : Int) < (b.length : Int) := by omega
          have hta : (k : Int) + (m : Int) = (t : Int) := by omega
          have ht0 : (0 : Int) ≤ (t : Int) := by omega
          have ht1 : (t : Int) < (N : Int) := by omega
          have htw : IntKind.i64.wrap (t : Int) = (t : Int) := IntWalk.i64_in _ (by have := hN.out; omega)
          obtain ⟨hq0, hq1⟩ : (0 : Int) ≤ (x : Int) * (y : Int) ∧ (x : Int) * (y : Int) ≤ 18446744065119617025 := by
            have e : x * y ≤ 4294967295 * 4294967295 := Nat.mul_le_mul (by omega) (by omega)
            have e2 : ((x * y : Nat) : Int) = (x : Int) * (y : Int) := Int.natCast_mul _ _
            omega
          have hsz : (x : Int) * (y : Int) + (u : Int) + (z : Int) = (s : Int) := by
            have e2 : ((x * y : Nat) : Int) = (x : Int) * (y : Int) := Int.natCast_mul _ _
            omega
          have hgt : (x : Int) * (y : Int) + (u : Int) + (z : Int) < 18446744073709551616 := by omega
          rw [nB_eq] at hibn
          replace hibn := Lib.hid hibn
          replace hcar := Lib.hid hcar
          replace hsz := Lib.hid hsz
          clear hset hs hye hy hat hbt gb hgb hue hu hib2 hbw h' h ht hend hze hQ
          go_wp2_with (fail)
          go_quiet (fail)
          go_wp2_with (fail)
          replace hsz := hsz.out
          refine ⟨⟨m + 1, s / 4294967296, by omega, hcl2, rfl, ?_, Lib.hid (by rw [hcar.out, nB_lit]), ?_, hbs _ _⟩, by simp [intOf]; omega⟩
          · rw [hsz]; rfl
          · rw [hsz]; exact hibn.out
        · have hme : m = b.length := by omega
          subst hme
          obtain ⟨he1, he2⟩ := hend.out
          rw [← hze.out] at he1 he2
          obtain ⟨t, ht⟩ : ∃ t, t = k + b.length := ⟨_, rfl⟩
          have htN : t < N := by rw [hN.out]; omega
          have hcl := hib2.cell (i := t) (by rw [mL_length]; exact htN)
          have hfr := hib2.frozen t
          have hibn := hib2.set_ t z
          rw [ht, he1, ← ht] at hibn
          have hbs : ∀ v, Below w.heap.size w (w3.setCell ⟨w.heap.size, t, none⟩ v) := fun v => hbw.setCell (Nat.le_refl _) _
          have hta : (k : Int) + (b.length : Int) = (t : Int) := by omega
          have ht0 : (0 : Int) ≤ (t : Int) := by omega
          have ht1 : (t : Int) < (N : Int) := by omega
          have htw : IntKind.i64.wrap (t : Int) = (t : Int) := IntWalk.i64_in _ (by have := hN.out; omega)
          have hzm : (z : Int) % 4294967296 = (z : Int) := by omega
          replace hibn := Lib.hid hibn
          clear he1 he2 hat hbt gb hgb hib2 hbw h' ht hend hze hQ
          go_wp2_with (fail)
          exact ⟨⟨k + 1, by omega, rfl, hibn.out, hbs _⟩, by simp [intOf]; omega⟩
    · have hke : k = a.length := by omega
      subst hke
      rw [Nat.mod_eq_of_lt hP] at hib2
      have hV : P * Q < nB ^ N := by
        rw [hN.out, Nat.pow_add]
        exact Nat.lt_of_le_of_lt (Nat.mul_le_mul_left _ (Nat.le_of_lt hQ)) (Nat.mul_lt_mul_of_pos_right hP (nBp_pos _))
      have hS := Trim1_any _ (dgs_lm N (P * Q)) (some ⟨w.heap.size, 0, none⟩) N _ (hib2.rd) (by rw [dgs_length, hN.out]; omega) (by rw [dgs_length]; exact Nat.le_refl _)
      rw [dgs_length, nv_dgs hV] at hS
      replace hS := Lib.hid hS
      clear h hat hbt ga gb hga hgb hib2 hP hQ hV
      go_wp2_with (fail)
      refine hS.out.mono ?_
      rintro e w4 ⟨v, rfl, ho4, hb4⟩
      go_wp2_with (fail)
      go_ret
      exact ⟨v, rfl, ho4.base hbw.size, hbw.trans (hb4.mono hbw.size)⟩
end Go.Proofs.Ytemanlkgfhmclaa

/-! The reference's numbers: Add -/
namespace Go.Proofs.Ytemanlkgfhmclaa
open Go.RowKit Cw
attribute [local go_sem] Oper.semAt_some

theorem dgs_snoc (N v : Nat) : dgs N v ++ [v / nB ^ N % nB] = dgs (N + 1) v := by
  unfold dgs; rw [List.range_succ, List.map_append]; rfl
theorem carA_end {a b L k : Nat} (ha : a < nB ^ L) (hb : b < nB ^ L) (hk : L < k) : carA a b k = 0 := by
  have h1 : nB ^ L * 2 ≤ nB ^ k := by
    have e : nB ^ L * 2 ≤ nB ^ L * nB := Nat.mul_le_mul_left _ nB_gt
    rw [← Nat.pow_succ] at e
    exact Nat.le_trans e (Nat.pow_le_pow_right nB_pos hk)
  unfold carA
  have h2 : a % nB ^ k ≤ a := Nat.mod_le _ _
  have h3 : b % nB ^ k ≤ b := Nat.mod_le _ _
  refine Nat.div_eq_of_lt ?_
  generalize nB ^ k = z at *
  generalize nB ^ L = y at *
  omega
theorem add_short {a b k : Nat} (ha : a < nB ^ k) (hb : b < nB ^ k) (h : carA a b k = 0) : a + b < nB ^ k := by
  unfold carA at h
  rw [Nat.mod_eq_of_lt ha, Nat.mod_eq_of_lt hb] at h
  exact (Nat.div_eq_zero_iff.1 h).resolve_left (by have := nBp_pos k; omega)

set_option maxHeartbeats 4000000 in
theorem Add1_any (a b : List Nat) (ha : Lm a) (hb : Lm b) (A1 A2 : Option Addr) (c1 c2 : Nat) (w : World) (h1 : U.Rd w w.heap.size A1 a) (h2 : U.Rd w w.heap.size A2 b) (hn1 : a.length ≤ 60000) (hn2 : b.length ≤ 60000) (hc1 : a.length ≤ c1) (hc2 : b.length ≤ c2) :
    Calls Try.prog 14 #[.slice A1 a.length c1, .slice A2 b.length c2] w (U.GivesA w.heap.size (nL (nv a + nv b)) w) := by
  obtain ⟨L, hL⟩ : ∃ L, L = max a.length b.length := ⟨_, rfl⟩
  have haL : nv a < nB ^ L := Nat.lt_of_lt_of_le (nv_lt ha) (Nat.pow_le_pow_right nB_pos (by omega))
  have hbL : nv b < nB ^ L := Nat.lt_of_lt_of_le (nv_lt hb) (Nat.pow_le_pow_right nB_pos (by omega))
  have hLa : ∀ k, a.length ≤ k → nv a < nB ^ k := fun k hk => Nat.lt_of_lt_of_le (nv_lt ha) (Nat.pow_le_pow_right nB_pos hk)
  have hLb : ∀ k, b.length ≤ k → nv b < nB ^ k := fun k hk => Nat.lt_of_lt_of_le (nv_lt hb) (Nat.pow_le_pow_right nB_pos hk)
  have hend : ∀ k, L < k → carA (nv a) (nv b) k = 0 := fun k hk => carA_end haL hbL hk
  have la := fun W k hr (hk : k ≤ 60001) => Lib.hid (limb1_any a ha A1 c1 k W hr hc1 (by omega))
  have lb := fun W k hr (hk : k ≤ 60001) => Lib.hid (limb1_any b hb A2 c2 k W hr hc2 (by omega))
  obtain ⟨P, hPe⟩ : ∃ P, P = nv a := ⟨_, rfl⟩
  obtain ⟨Q, hQe⟩ : ∃ Q, Q = nv b := ⟨_, rfl⟩
  simp only [← hPe, ← hQe] at hend la lb hLa hLb ⊢
  clear haL hbL hPe hQe ha hb
  replace hL := Lib.hid hL
  go_enter Try.func14, Try.ntmps14
  go_wp2_with (fail)
  go_loopw [7, 5, 6] (fun i v c wr => ∃ k z : Nat, k ≤ L + 1 ∧ z ≤ 1 ∧ i = .int .i64 k ∧ c = .int .u64 (z : Int) ∧ Hid (z = carA P Q k) ∧ U.Own wr w.heap.size v (dgs k (P + Q)) ∧ Below w.heap.size w wr) (fun i _ _ _ => L + 1 - (intOf i).toNat)
  case atStart => exact ⟨0, 0, Nat.zero_le _, Nat.zero_le _, rfl, rfl, Lib.hid (carA_zero P Q).symm, U.Own.nil _ _, Below.refl _ _⟩
  case round =>
    obtain ⟨k, z, hk, hz, rfl, rfl, hze, hown, hbw⟩ := hrel
    obtain ⟨w2, rfl⟩ : ∃ w2 : World, w2 = wr := ⟨_, rfl⟩
    by_cases hgo : k < a.length ∨ k < b.length ∨ 0 < z
    · have hkL : k ≤ L := by
        rcases Nat.lt_or_ge L k with h | h
        · rcases hgo with h' | h' | h'
          · have := hL.out; omega
          · have := hL.out; omega
          · have := hend k h; have := hze.out; omega
        · exact h
      have hk6 : k ≤ 60000 := by have := hL.out; omega
      have hx := Nat.mod_lt (P / nB ^ k) nB_pos
      have hy := Nat.mod_lt (Q / nB ^ k) nB_pos
      have hd := add_dig P Q k
      have hcr := carA_succ P Q k
      have hcl := carA_le P Q (k + 1)
      have la2 := la w2 k ((h1.below hbw).more hbw.size) (by omega)
      have lb2 := lb w2 k ((h2.below hbw).more hbw.size) (by omega)
      rw [← hze.out] at hd hcr
      have hsn := dgs_snoc k (P + Q)
      rw [hd] at hsn
      generalize P / nB ^ k % nB = x at hx hd hcr la2 hsn
      generalize Q / nB ^ k % nB = y at hy hd hcr lb2 hsn
      obtain ⟨s, hs⟩ : ∃ s, s = x + y + z := ⟨_, rfl⟩
      rw [← hs] at hcr hsn
      rw [nB_lit] at hx hy hcr hsn
      have hsi : (x : Int) + (y : Int) + (z : Int) = (s : Int) := by omega
      have hsl : s < 18446744073709551616 := by omega
      have hw1 : IntKind.u64.wrap ((x : Int) + (y : Int)) = (x : Int) + (y : Int) := by simp [IntKind.wrap, IntKind.bits, IntKind.signed]; omega
      have hw2 : IntKind.u64.wrap (s : Int) = (s : Int) := u64w hsl
      obtain ⟨z1, hz1⟩ : ∃ z1, z1 = carA P Q (k + 1) := ⟨_, rfl⟩
      rw [← hz1] at hcl hcr
      obtain ⟨d, hdd⟩ : ∃ d, d = s % 4294967296 := ⟨_, rfl⟩
      rw [← hdd] at hsn
      have hsd : (s : Int) % 4294967296 = (d : Int) := by omega
      have hdl : d < 4294967296 := by omega
      have hsq : (s : Int) / 4294967296 = (z1 : Int) := by omega
      have hll : (dgs k (P + Q)).length ≤ 1000000 := by rw [dgs_length]; omega
      replace hs := Lib.hid hs
      replace hdd := Lib.hid hdd
      replace hz1 := Lib.hid hz1
      replace hcr := Lib.hid hcr
      replace hsn := Lib.hid hsn
      clear la lb hend hLa hLb h1 h2 hd
      rcases hgo with hg | hg
      · have hg1 : (k : Int) < (a.length : Int) := by omega
        go_wp2_with (fail)
        refine la2.out.mono ?_
        rintro e w3 ⟨rfl, rfl⟩
        go_wp2_with (fail)
        refine lb2.out.mono ?_
        rintro e w3 ⟨rfl, rfl⟩
        go_wp2_with (at_builtin; refine U.wpList_app1 rfl ty_nat _ _ rfl w.heap.size _ _ _ hown rfl rfl rfl hll hbw.size ?_; intro v' w' ho' hb' hg' hv')
        rw [hsn.out] at ho'
        exact ⟨⟨k + 1, z1, by omega, hcl, by go_num, rfl, hz1, ho', hbw.trans hb'⟩, by simp only [intOf]; omega⟩
      · by_cases hg' : k < a.length
        · have hg1 : (k : Int) < (a.length : Int) := by omega
          go_wp2_with (fail)
          refine la2.out.mono ?_
          rintro e w3 ⟨rfl, rfl⟩
          go_wp2_with (fail)
          refine lb2.out.mono ?_
          rintro e w3 ⟨rfl, rfl⟩
          go_wp2_with (at_builtin; refine U.wpList_app1 rfl ty_nat _ _ rfl w.heap.size _ _ _ hown rfl rfl rfl hll hbw.size ?_; intro v' w' ho' hb' hg' hv')
          rw [hsn.out] at ho'
          exact ⟨⟨k + 1, z1, by omega, hcl, by go_num, rfl, hz1, ho', hbw.trans hb'⟩, by simp only [intOf]; omega⟩
        have hg1 : ¬ (k : Int) < (a.length : Int) := by omega
        clear hg'
        rcases hg with hg | hg
        · have hg2 : (k : Int) < (b.length : Int) := by omega
          go_wp2_with (fail)
          refine la2.out.mono ?_
          rintro e w3 ⟨rfl, rfl⟩
          go_wp2_with (fail)
          refine lb2.out.mono ?_
          rintro e w3 ⟨rfl, rfl⟩
          go_wp2_with (at_builtin; refine U.wpList_app1 rfl ty_nat _ _ rfl w.heap.size _ _ _ hown rfl rfl rfl hll hbw.size ?_; intro v' w' ho' hb' hg' hv')
          rw [hsn.out] at ho'
          exact ⟨⟨k + 1, z1, by omega, hcl, by go_num, rfl, hz1, ho', hbw.trans hb'⟩, by simp only [intOf]; omega⟩
        · by_cases hg' : k < b.length
          · have hg2 : (k : Int) < (b.length : Int) := by omega
            go_wp2_with (fail)
            refine la2.out.mono ?_
            rintro e w3 ⟨rfl, rfl⟩
            go_wp2_with (fail)
            refine lb2.out.mono ?_
            rintro e w3 ⟨rfl, rfl⟩
            go_wp2_with (at_builtin; refine U.wpList_app1 rfl ty_nat _ _ rfl w.heap.size _ _ _ hown rfl rfl rfl hll hbw.size ?_; intro v' w' ho' hb' hg' hv')
            rw [hsn.out] at ho'
            exact ⟨⟨k + 1, z1, by omega, hcl, by go_num, rfl, hz1, ho', hbw.trans hb'⟩, by simp only [intOf]; omega⟩
          have hg2 : ¬ (k : Int) < (b.length : Int) := by omega
          have hg3 : (0 : Int) < (z : Int) := by omega
          clear hg'
          go_wp2_with (fail)
          refine la2.out.mono ?_
          rintro e w3 ⟨rfl, rfl⟩
          go_wp2_with (fail)
          refine lb2.out.mono ?_
          rintro e w3 ⟨rfl, rfl⟩
          go_wp2_with (at_builtin; refine U.wpList_app1 rfl ty_nat _ _ rfl w.heap.size _ _ _ hown rfl rfl rfl hll hbw.size ?_; intro v' w' ho' hb' hg' hv')
          rw [hsn.out] at ho'
          exact ⟨⟨k + 1, z1, by omega, hcl, by go_num, rfl, hz1, ho', hbw.trans hb'⟩, by simp only [intOf]; omega⟩
    · have hg1 : ¬ (k : Int) < (a.length : Int) := by omega
      have hg2 : ¬ (k : Int) < (b.length : Int) := by omega
      have hg3 : ¬ (0 : Int) < (z : Int) := by omega
      have hz0 : carA P Q k = 0 := by have := hze.out; omega
      have hPQ := add_short (hLa k (by omega)) (hLb k (by omega)) hz0
      obtain ⟨A, c, rfl, hlc, hrd, -⟩ := hown.form
      have hT := Trim1_any _ (dgs_lm k (P + Q)) A c w2 hrd (by rw [dgs_length]; have := hL.out; omega) hlc
      rw [nv_dgs hPQ] at hT
      rw [dgs_length] at hT ⊢
      replace hT := Lib.hid hT
      clear la lb hend hLa hLb h1 h2 hown hrd hgo
      go_wp2_with (fail)
      refine hT.out.mono ?_
      rintro e w4 ⟨v, rfl, ho4, hb4⟩
      go_wp2_with (fail)
      go_ret
      exact ⟨v, rfl, ho4.base hbw.size, hbw.trans (hb4.mono hbw.size)⟩
end Go.Proofs.Ytemanlkgfhmclaa

/-! The reference's numbers: Bits of a number from 2 to 256, Pow of such a number to at most 255 -/
namespace Go.Proofs.Ytemanlkgfhmclaa
open Go.RowKit Cw
attribute [local go_sem] Oper.semAt_some

set_option maxHeartbeats 4000000 in
theorem Bits1_small (q : Nat) (hq0 : 2 ≤ q) (hq1 : q ≤ 256) (A1 : Option Addr) (c1 : Nat) (w : World) (h1 : U.Rd w w.heap.size A1 (nL q)) (hc1 : nlen q ≤ c1) :
    Calls Try.prog 34 #[.slice A1 (nlen q) c1] w fun e w' => ∃ y : Nat, e = .returned (.int .i64 (y : Int)) ∧ 2 ≤ y ∧ y ≤ 9 ∧ Below w.heap.size w w' := by
  have hs : nL q = [q] := nL_small (by rw [nB_lit]; omega) (by omega)
  have hl : nlen q = 1 := by rw [← nL_length, hs]; rfl
  have hT := Trim1_any (nL q) (nL_lm q) A1 c1 w h1 (by rw [nL_length, hl]; decide) (by rw [nL_length]; exact hc1)
  rw [nL_length, nv_nL, hl, hs] at hT
  rw [hl]
  replace hT := Lib.hid hT
  clear hs hl hc1 h1
  go_enter Try.func34, Try.ntmps34
  go_wp2_with (fail)
  refine hT.out.mono ?_
  rintro e w1 ⟨v, rfl, ho1, hb1⟩
  obtain ⟨A, c, rfl, hlc, hrd, -⟩ := ho1.form
  obtain ⟨p, o, rfl, hp, hc⟩ := hrd.at_ (k := 0) (by simp)
  replace hc : w1.cell? ⟨p, o, none⟩ = some (.int .u32 (q : Int)) := hc
  rw [show [q].length = 1 from rfl]
  clear hT ho1 hlc hrd
  go_wp2_with (fail)
  go_loop [3, 4] (fun n t => ∃ i : Nat, i ≤ 9 ∧ n = .int .i64 (i : Int) ∧ t = .int .u32 ((q / 2 ^ i : Nat) : Int)) (fun n _ => 9 - (intOf n).toNat)
  case atStart => exact ⟨0, by decide, rfl, by simp⟩
  case round =>
    obtain ⟨i, hi, rfl, rfl⟩ := hrel
    have hd1 : q / 2 ^ i / 2 = q / 2 ^ (i + 1) := by rw [Nat.pow_succ, Nat.div_div_eq_div_mul]
    have hle : q / 2 ^ i ≤ 256 := Nat.le_trans (Nat.div_le_self _ _) hq1
    have h9 : i = 9 → q / 2 ^ i = 0 := fun e => by rw [e]; exact Nat.div_eq_of_lt (by omega)
    have h2 : q / 2 ^ i = 0 → 2 ≤ i := fun e => by
      rcases Nat.lt_or_ge i 2 with h | h
      · rcases (show i = 0 ∨ i = 1 by omega) with rfl | rfl
        · rw [Nat.pow_zero, Nat.div_one] at e; omega
        · rw [Nat.pow_one] at e; omega
      · exact h
    generalize q / 2 ^ i = t at hd1 hle h9 h2 ⊢
    by_cases ht : 0 < t
    · have hti : (0 : Int) < (t : Int) := by omega
      have hi9 : i < 9 := by
        rcases Nat.lt_or_ge i 9 with h | h
        · exact h
        · have := h9 (by omega); omega
      obtain ⟨t1, ht1⟩ : ∃ t1, t1 = t / 2 := ⟨_, rfl⟩
      rw [← ht1] at hd1
      have htd : (t : Int) / 2 = (t1 : Int) := by omega
      replace hd1 := Lib.hid hd1
      replace ht1 := Lib.hid ht1
      clear h9 h2
      go_wp2_with (fail)
      exact ⟨⟨i + 1, by omega, by go_num, by rw [← hd1.out]⟩, by simp only [intOf]; omega⟩
    · have hti : ¬ (0 : Int) < (t : Int) := by omega
      have hi2 := h2 (by omega)
      clear h9 h2 hd1
      go_wp2_with (fail)
      go_ret
      exact ⟨i, rfl, hi2, hi, hb1⟩
end Go.Proofs.Ytemanlkgfhmclaa

/-! The reference's numbers: Pow of a number from 2 to 256 to at most 255 -/
namespace Go.Proofs.Ytemanlkgfhmclaa
open Go.RowKit Cw
attribute [local go_sem] Oper.semAt_some

def pD (e : Nat) : Nat := if e = 0 then 0 else 2 ^ (e - 1)
theorem pD_zero : pD 0 = 0 := rfl
theorem pD_succ (e : Nat) : pD (e + 1) = 2 ^ e := rfl
theorem pD_half (e : Nat) : pD (e + 1) / 2 = pD e := by
  rw [pD_succ]
  cases e with
  | zero => rfl
  | succ f => rw [pD_succ, Nat.pow_succ]; omega
theorem half_step (n f : Nat) : n / 2 ^ f = n / 2 ^ (f + 1) + n / 2 ^ (f + 1) + n / 2 ^ f % 2 := by
  rw [Nat.pow_succ, ← Nat.div_div_eq_div_mul]; omega

set_option maxHeartbeats 4000000 in
theorem Pow1_any (q n : Nat) (hq0 : 2 ≤ q) (hq1 : q ≤ 256) (hn : n ≤ 255) (A1 : Option Addr) (c1 : Nat) (w : World) (h1 : U.Rd w w.heap.size A1 (nL q)) (hc1 : nlen q ≤ c1) :
    Calls Try.prog 15 #[.slice A1 (nlen q) c1, .int .i64 (n : Int)] w fun e w' => ∃ A c, e = .returned (.tuple #[.slice A (nlen (q ^ n)) c, .int .i64 0]) ∧ nlen (q ^ n) ≤ c ∧ U.Rd w' w'.heap.size A (nL (q ^ n)) ∧ Below w.heap.size w w' := by
  have hl65 : nlen q ≤ 65 := len_pow (n := 1) (q := q) (by omega) hq1 (by decide) (v := q) (by rw [Nat.pow_one]; exact Nat.le_refl _)
  have hT := Trim1_any (nL q) (nL_lm q) A1 c1 w h1 (by rw [nL_length]; omega) (by rw [nL_length]; exact hc1)
  rw [nL_length, nv_nL] at hT
  have hB := fun A c W h hc => Lib.hid (Bits1_small q hq0 hq1 A c W h hc)
  have hn0 : ¬ (n : Int) < 0 := by omega
  replace hT := Lib.hid hT
  go_enter Try.func15, Try.ntmps15
  go_wp2_with (fail)
  refine hT.out.mono ?_
  rintro e w1 ⟨v, rfl, ho1, hb1⟩
  obtain ⟨A, c, rfl, hlc, hrd⟩ := ho1.num
  clear hT ho1
  rcases Nat.eq_zero_or_pos n with h0 | h0
  · subst h0
    have e1 : nlen 1 = 1 := by rw [← nL_length, show nL 1 = [1] from nL_small nB_gt (by decide)]; rfl
    go_wp2_with (fail)
    have hib := U.IB.new w1 [1]
    exact bodyPost_ret (v := .tuple #[.slice (some ⟨w1.heap.size, 0, none⟩) 1 1, .int .i64 0]) (by simp [results, Try.results15, go_sem]) rfl ⟨some ⟨w1.heap.size, 0, none⟩, 1, by rw [Nat.pow_zero, e1], by rw [Nat.pow_zero, e1]; exact Nat.le_refl _, by rw [Nat.pow_zero, show nL 1 = [1] from nL_small nB_gt (by decide)]; exact hib.rd, hb1.trans ((Below.refl _ _).alloc hb1.size _)⟩
  · have hnz : ((n : Int) == 0) = false := by rw [beq_eq_false_iff_ne]; omega
    have hn4 : ¬ (131072 : Int) < (n : Int) := by omega
    have hB1 := hB A c w1 hrd hlc
    clear hB
    go_wp2_with (fail)
    refine hB1.out.mono ?_
    rintro e w2 ⟨y, rfl, hy0, hy1, hb2⟩
    have hyi : ¬ (y : Int) ≤ 1 := by omega
    have hrd2 := (hrd.below hb2).more hb2.size
    have hb02 := hb1.trans (hb2.mono hb1.size)
    have hib := (U.IB.new w2 [1]).rd
    have hba : Below w2.heap.size w2 (w2.alloc (.cells #[.int .u32 1] 64)) := (Below.refl _ _).alloc (Nat.le_refl _) _
    have hrd3 := (hrd2.below hba).more hba.size
    have hb03 := hb02.trans (hba.mono hb02.size)
    have e1 : nL 1 = [1] := nL_small nB_gt (by decide)
    have e2 : nlen 1 = 1 := by rw [← nL_length, e1]; rfl
    replace e1 := Lib.hid e1
    replace e2 := Lib.hid e2
    clear hB1 hrd hrd2 hb1 hb2 hb02 h1
    go_wp2_with (fail)
    go_loopw [7, 6] (fun i o wr => ∃ (e : Nat) (V : Nat) (P : Option Addr) (cP : Nat), e ≤ 19 ∧ i = .int .i64 ((pD e : Nat) : Int) ∧ o = .slice P (nlen V) cP ∧ Hid (V = q ^ (n / 2 ^ e)) ∧ nlen V ≤ cP ∧ U.Rd wr wr.heap.size P (nL V) ∧ U.Rd wr wr.heap.size A (nL q) ∧ Below w.heap.size w wr) (fun i _ _ => (intOf i).toNat)
    case atStart => exact ⟨19, 1, _, _, Nat.le_refl _, rfl, by rw [e2.out], Lib.hid (by rw [Nat.div_eq_of_lt (by omega : n < 2 ^ 19)]; rfl), by rw [e2.out]; exact Nat.le_refl _, by rw [e1.out]; exact hib, hrd3, hb03⟩
    case round =>
      clear hib hrd3 hb03 hba
      obtain ⟨e, V, P, cP, he, rfl, rfl, hV, hcP, hrV, hrq, hbw⟩ := hrel
      obtain ⟨w3, rfl⟩ : ∃ w3 : World, w3 = wr := ⟨_, rfl⟩
      rcases e with _ | f
      · rw [pD_zero]
        have hV2 : Hid (V = q ^ n) := Lib.hid (by rw [hV.out, Nat.pow_zero, Nat.div_one])
        have hpz : ¬ (0 : Int) < ((0 : Nat) : Int) := by omega
        clear hV
        go_wp2_with (fail)
        exact bodyPost_ret (v := .tuple #[.slice P (nlen V) cP, .int .i64 0]) (by simp [results, Try.results15, go_sem]) rfl ⟨P, cP, by rw [← hV2.out], by rw [← hV2.out]; exact hcP, by rw [← hV2.out]; exact hrV, hbw⟩
      · have hst := half_step n f
        have hhf := pD_half f
        have hHn : n / 2 ^ (f + 1) ≤ n := Nat.div_le_self _ _
        have hFn : n / 2 ^ f ≤ n := Nat.div_le_self _ _
        have hVo := hV.out
        have hDe : n / pD (f + 1) = n / 2 ^ f := by rw [pD_succ]
        generalize n / 2 ^ (f + 1) = H at hst hHn hVo
        have hVV : V * V = q ^ (H + H) := by rw [hVo, ← Nat.pow_add]
        have hVle : V ≤ q ^ n := by rw [hVo]; exact Nat.pow_le_pow_right (by omega) hHn
        have hVVle : V * V ≤ q ^ n := by
          rw [hVV]; exact Nat.pow_le_pow_right (by omega) (by omega)
        have hVl := len_pow (by omega) hq1 hn hVle
        have hVVl := len_pow (by omega) hq1 hn hVVle
        have hM := Mul1_any (nL V) (nL V) (nL_lm _) (nL_lm _) P P cP cP w3 hrV hrV (by rw [nL_length]; omega) (by rw [nL_length]; omega)
        simp only [nL_length, nv_nL] at hM
        have hDp : 1 ≤ pD (f + 1) := by rw [pD_succ]; exact Nat.pow_pos (by decide)
        have hDl : pD (f + 1) ≤ 2 ^ 18 := by rw [pD_succ]; exact Nat.pow_le_pow_right (by decide) (by omega)
        obtain ⟨D, hD⟩ : ∃ D, D = pD (f + 1) := ⟨_, rfl⟩
        rw [← hD] at hhf hDp hDl hDe ⊢
        obtain ⟨D2, hD2⟩ : ∃ D2, D2 = pD f := ⟨_, rfl⟩
        rw [← hD2] at hhf
        have hDi : (D : Int) / 2 = (D2 : Int) := by omega
        have hDt : (D : Int).tdiv 2 = (D2 : Int) := by rw [← hhf]; rfl
        obtain ⟨Bq, hBq⟩ : ∃ Bq, Bq = n / D := ⟨_, rfl⟩
        have hB1 : (n : Int) / (D : Int) = (Bq : Int) := by rw [hBq]; rfl
        have hB2 : (n : Int).tdiv (D : Int) = (Bq : Int) := by rw [hBq]; rfl
        have hBl : Bq ≤ 255 := by rw [hBq]; exact Nat.le_trans (Nat.div_le_self _ _) hn
        have hBf : n / 2 ^ f = Bq := by rw [← hDe, hBq]
        rw [hBf] at hst
        have hDz : ¬ (D : Int) = 0 := by omega
        have hD0 : (0 : Int) < (D : Int) := by omega
        have hmeas : D2 < D := by omega
        replace hM := Lib.hid hM
        replace hD := Lib.hid hD
        replace hD2 := Lib.hid hD2
        replace hBq := Lib.hid hBq
        replace hDe := Lib.hid hDe
        replace hhf := Lib.hid hhf
        have hq65 : nlen q ≤ 30000 := by omega
        rcases Nat.mod_two_eq_zero_or_one Bq with hbit | hbit
        · have hbi : (Bq : Int) % 2 = 0 := by omega
          rw [hbit] at hst
          have hV' : Hid (V * V = q ^ (n / 2 ^ f)) := Lib.hid (by rw [hVV, hBf, hst, Nat.add_zero])
          have h4096 : ¬ (4096 : Int) < (nlen (V * V) : Int) := by omega
          replace hBf := Lib.hid hBf
          clear hVo hst hbit hVV hVle hVVle hV hVl
          generalize V * V = V2 at hM hV' h4096 hVVl
          go_wp2_with (fail)
          refine hM.out.mono ?_
          rintro e w4 ⟨v4, rfl, ho4, hb4⟩
          obtain ⟨A4, c4, rfl, hlc4, hr4⟩ := ho4.num
          have hrq4 := (hrq.below hb4).more hb4.size
          have hbw4 := hbw.trans (hb4.mono hbw.size)
          clear hM ho4 hb4 hbw hrq hrV hcP
          go_wp2_with (fail)
          exact ⟨⟨f, V2, A4, c4, by omega, by rw [hD2.out], rfl, hV', hlc4, hr4, hrq4, hbw4⟩, by simp only [intOf]; omega⟩
        · have hbi : (Bq : Int) % 2 = 1 := by omega
          rw [hbit] at hst
          have hV' : Hid (V * V * q = q ^ (n / 2 ^ f)) := Lib.hid (by rw [hVV, hBf, hst, Nat.pow_succ])
          have hV3 : V * V * q ≤ q ^ n := by rw [hV'.out]; exact Nat.pow_le_pow_right (by omega) hFn
          have hV3l := len_pow (by omega) hq1 hn hV3
          have h4096 : ¬ (4096 : Int) < (nlen (V * V * q) : Int) := by omega
          replace hBf := Lib.hid hBf
          clear hVo hst hbit hVV hVle hVVle hV hVl hV3
          generalize V * V = V2 at hM hV' h4096 hVVl hV3l
          go_wp2_with (fail)
          refine hM.out.mono ?_
          rintro e w4 ⟨v4, rfl, ho4, hb4⟩
          obtain ⟨A4, c4, rfl, hlc4, hr4⟩ := ho4.num
          have hrq4 := (hrq.below hb4).more hb4.size
          have hbw4 := hbw.trans (hb4.mono hbw.size)
          have hM4 := Mul1_any (nL V2) (nL q) (nL_lm _) (nL_lm _) A4 A c4 c w4 hr4 hrq4 (by rw [nL_length]; omega) (by rw [nL_length]; omega)
          simp only [nL_length, nv_nL] at hM4
          generalize V2 * q = V3 at hM4 hV' h4096 hV3l
          replace hM4 := Lib.hid hM4
          clear hM ho4 hb4 hbw hrq hrV hcP
          go_wp2_with (fail)
          refine hM4.out.mono ?_
          rintro e w5 ⟨v5, rfl, ho5, hb5⟩
          obtain ⟨A5, c5, rfl, hlc5, hr5⟩ := ho5.num
          have hrq5 := (hrq4.below hb5).more hb5.size
          have hbw5 := hbw4.trans (hb5.mono hbw4.size)
          clear hM4 ho5 hb5 hbw4 hrq4 hr4 hlc4
          go_wp2_with (fail)
          exact ⟨⟨f, V3, A5, c5, by omega, by rw [hD2.out], rfl, hV', hlc5, hr5, hrq5, hbw5⟩, by simp only [intOf]; omega⟩
end Go.Proofs.Ytemanlkgfhmclaa
