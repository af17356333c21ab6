/- Package nat: digit. -/
import Derived.Test.YtemanlkgfhmclaaNatG
namespace Go.Proofs.Ytemanlkgfhmclaa
open Go.RowKit Cw
attribute [local go_sem] Oper.semAt_some

theorem or_low {r x : Nat} (hx : x < 4294967296) : r * 4294967296 ||| x = r * 4294967296 + x := by
  have h := Nat.two_pow_add_eq_or_of_lt (i := 32) (b := x) (by exact hx) r
  rw [show (2 : Nat) ^ 32 = 4294967296 from rfl, Nat.mul_comm] at h
  exact h.symm

theorem bits_or64 {a b : Nat} (ha : a < 18446744073709551616) (hb : b < 18446744073709551616) : bits BinOp.or IntKind.u64 (a : Int) (b : Int) = ((a ||| b : Nat) : Int) := by
  have h : (BitVec.ofInt 64 (a : Int) ||| BitVec.ofInt 64 (b : Int)).toNat = a ||| b := by
    rw [BitVec.toNat_or, BitVec.ofInt_natCast, BitVec.ofInt_natCast, BitVec.toNat_ofNat, BitVec.toNat_ofNat, Nat.mod_eq_of_lt ha, Nat.mod_eq_of_lt hb]
  have h2 : a ||| b < 2 ^ 64 := Nat.or_lt_two_pow ha hb
  show IntKind.u64.wrap (((BitVec.ofInt 64 (a : Int) ||| BitVec.ofInt 64 (b : Int)).toNat : Nat) : Int) = _
  rw [h]; exact u64w h2

set_option maxHeartbeats 4000000 in
theorem nDigit_any (a : List Nat) (d : Nat) (ha : Lm a) (hd0 : 0 < d) (hd1 : d < 4294967296) (A1 : Option Addr) (c1 : Nat) (w : World) (h1 : U.Rd w w.heap.size A1 a) (hn1 : a.length ≤ 60000) :
    Calls Try.prog 50 #[.slice A1 a.length c1, .int .u32 (d : Int)] w fun e w' => ∃ A, e = .returned (.tuple #[.slice A (nL (nv a / d)).length (nL (nv a / d)).length, .int .u32 ((nv a % d : Nat) : Int)]) ∧ U.Rd w' w'.heap.size A (nL (nv a / d)) ∧ Below w.heap.size w w' := by
  obtain ⟨N, hN⟩ : ∃ N, N = a.length := ⟨_, rfl⟩
  rw [← hN] at hn1 ⊢
  have hmk := U.mk_ints ty_nat N (by omega)
  have hib := U.IB.newz w N
  have hB : Below w.heap.size w (w.alloc (.cells (Array.replicate N (Value.int .u32 0)) 64)) := (Below.refl _ _).alloc (Nat.le_refl _) _
  have hga := get_lm ha
  have ga := fun t => nv_get ha t
  have hat : ∀ k, k < N → ∃ p off, A1 = some ⟨p, off, none⟩ ∧ p < w.heap.size ∧ w.cell? ⟨p, off + k, none⟩ = some (.int .u32 ((a[k]?.getD 0 : Nat) : Int)) := fun k hk => h1.at_ (by rw [← hN]; exact hk)
  have hP := nv_lt ha
  rw [← hN] at hP
  obtain ⟨P, hPe⟩ : ∃ P, P = nv a := ⟨_, rfl⟩
  rw [← hPe]
  simp only [← hPe] at ga hP
  clear hPe ha h1 hN
  go_enter Try.func50, Try.ntmps50
  go_wp2_with (fail)
  go_loopw [8, 7] (fun i c wr => ∃ k r : Nat, k ≤ N ∧ r < d ∧ i = .int .i64 ((k : Int) - 1) ∧ c = .int .u64 (r : Int) ∧ Hid (r = P / nB ^ k % d) ∧ U.IB wr w.heap.size (dnD N (P / d) k) ∧ Below w.heap.size w wr) (fun i _ _ => (intOf i + 1).toNat)
  case atStart =>
    refine ⟨N, 0, Nat.le_refl _, hd0, rfl, rfl, Lib.hid ?_, ?_, hB⟩
    · rw [Nat.div_eq_of_lt hP, Nat.zero_mod]
    · rw [dnD_start (Nat.le_refl _)]; exact hib
  case round =>
    obtain ⟨k, r, hk, hrl, rfl, rfl, hre, hib2, hbw⟩ := hrel
    obtain ⟨w2, rfl⟩ : ∃ w2 : World, w2 = wr := ⟨_, rfl⟩
    rcases Nat.eq_zero_or_pos k with h | h
    · subst h
      have hV : P / d < nB ^ N := Nat.lt_of_le_of_lt (Nat.div_le_self _ _) hP
      rw [dnD_full] at hib2
      rw [Nat.pow_zero, Nat.div_one] at hre
      have hS := nShort_any _ (dgs_lm N (P / d)) (some ⟨w.heap.size, 0, none⟩) N _ (hib2.rd) (by rw [dgs_length]; omega) (by rw [dgs_length]; exact Nat.le_refl _)
      rw [dgs_length, nv_dgs hV] at hS
      have hrm : (r : Int) % 4294967296 = (r : Int) := by omega
      replace hS := Lib.hid hS
      clear hat ga hga hib2 hP hV hk hB hib
      go_wp2_with (fail)
      refine hS.out.mono ?_
      rintro e w4 ⟨rfl, hr3, rfl⟩
      go_wp2_with (fail)
      exact bodyPost_ret (v := .tuple #[.slice (some ⟨w.heap.size, 0, none⟩) (nlen (P / d)) (nlen (P / d)), .int .u32 (r : Int)]) (by simp [results, Try.results50, go_sem]) rfl ⟨_, by rw [nL_length, ← hre.out], hr3, hbw⟩
    · obtain ⟨m, rfl⟩ : ∃ m, k = m + 1 := ⟨k - 1, by omega⟩
      obtain ⟨p, o, rfl, hp, hc⟩ := hat m (by omega)
      rw [← hbw.cell (p := ⟨p, o + m, none⟩) hp] at hc
      have hxl := hga m
      have hx := ga m
      obtain ⟨x, hxe⟩ : ∃ x, x = a[m]?.getD 0 := ⟨_, rfl⟩
      rw [← hxe] at hc hxl hx
      obtain ⟨hq1, hq2⟩ := div_dig (a := P) hd0 m
      rw [← hre.out, ← hx] at hq1 hq2
      obtain ⟨s, hs⟩ : ∃ s, s = r * nB + x := ⟨_, rfl⟩
      rw [← hs] at hq1 hq2
      rw [nB_lit] at hs
      have hor := or_low (r := r) hxl
      have hbo : bits BinOp.or IntKind.u64 ((r : Int) * 4294967296) (x : Int) = (s : Int) := by
        rw [show (r : Int) * 4294967296 = ((r * 4294967296 : Nat) : Int) from (Int.natCast_mul _ _).symm, bits_or64 (by omega) (by omega), hor, ← hs]
      clear hor
      have hmi : ((m + 1 : Nat) : Int) - 1 = (m : Int) := by omega
      rw [hmi]
      have hm0 : (0 : Int) ≤ (m : Int) := by omega
      have hm1 : (m : Int) < (N : Int) := by omega
      have hfr := hib2.frozen m
      have hcl := hib2.cell (i := m) (by simp [dnD]; omega)
      have hsd : s / d < 4294967296 := by
        refine Nat.div_lt_of_lt_mul ?_
        have := Nat.mul_le_mul_right 4294967296 (show r + 1 ≤ d from hrl)
        rw [Nat.add_mul] at this; omega
      have hsl : s < 18446744073709551616 := by omega
      obtain ⟨y, hy⟩ : ∃ y, y = s / d := ⟨_, rfl⟩
      obtain ⟨z, hz⟩ : ∃ z, z = s % d := ⟨_, rfl⟩
      have hyi : (s : Int) / (d : Int) = (y : Int) := by rw [hy]; rfl
      have hzi : (s : Int) % (d : Int) = (z : Int) := by rw [hz]; rfl
      have hyt : Int.tdiv (s : Int) (d : Int) = (y : Int) := by rw [hy]; rfl
      have hzt : Int.tmod (s : Int) (d : Int) = (z : Int) := by rw [hz]; rfl
      have hdn : ¬ d = 0 := by omega
      have hdz : ¬ (d : Int) = 0 := by omega
      rw [← hy] at hq1 hsd
      rw [← hz] at hq2
      have hset := hib2.set_ m y
      rw [← hq1, dnD_set, hq1] at hset
      have hbs : ∀ v, Below w.heap.size w (w2.setCell ⟨w.heap.size, m, none⟩ v) := fun v => hbw.setCell (Nat.le_refl _) _
      replace hset := Lib.hid hset
      replace hq2 := Lib.hid hq2
      replace hs := Lib.hid hs
      have hzd : z < d := by rw [hz]; exact Nat.mod_lt _ hd0
      clear hq1 hz hy hxe hx hre hib2 hbw hat ga hga hP hk h hmi hB hib
      go_wp2_with (fail)
      refine ⟨⟨m, z, by omega, hzd, rfl, ?_, Lib.hid hq2.out.symm, ?_, hbs _⟩, by simp [intOf]⟩
      · rfl
      · exact hset.out
end Go.Proofs.Ytemanlkgfhmclaa
