/- Package nat: plus. -/
import Derived.Test.YtemanlkgfhmclaaNatE
namespace Go.Proofs.Ytemanlkgfhmclaa
open Go.RowKit Cw
attribute [local go_sem] Oper.semAt_some

/-- What a call hands back that makes a list and gives a part of it. -/
def U.GivesS (B : Nat) (l : List Nat) (w : World) (e : Ending) (w' : World) : Prop :=
  ∃ A, e = .returned (.slice A l.length l.length) ∧ U.Rd w' w'.heap.size A l ∧ Below B w w'
theorem get_lm {l : List Nat} (h : Lm l) (t : Nat) : l[t]?.getD 0 < 4294967296 := by
  rw [nv_get h]; have := Nat.mod_lt (nv l / nB ^ t) nB_pos; rw [nB_eq] at this ⊢; exact this
theorem u64w {x : Nat} (h : x < 18446744073709551616) : IntKind.u64.wrap (x : Int) = (x : Int) := by
  simp [IntKind.wrap, IntKind.bits, IntKind.signed]; omega

set_option maxHeartbeats 2000000 in
theorem nPlus_ge (a b : List Nat) (ha : Lm a) (hb : Lm b) (A1 A2 : Option Addr) (c1 c2 : Nat) (w : World) (h1 : U.Rd w w.heap.size A1 a) (h2 : U.Rd w w.heap.size A2 b) (hl : b.length ≤ a.length) (hn : a.length ≤ 60000) :
    Calls Try.prog 51 #[.slice A1 a.length c1, .slice A2 b.length c2] w (U.GivesS w.heap.size (nL (nv a + nv b)) w) := by
  have hgl : ¬ (a.length : Int) < (b.length : Int) := by omega
  obtain ⟨N, hN⟩ : ∃ N, N = a.length + 1 := ⟨_, rfl⟩
  have hmk := U.mk_ints ty_nat N (by omega)
  have hib := U.IB.newz w N
  have hB : Below w.heap.size w (w.alloc (.cells (Array.replicate N (Value.int .u32 0)) 64)) := (Below.refl _ _).alloc (Nat.le_refl _) _
  have hw1 : IntKind.i64.wrap ((a.length : Int) + 1) = ((N : Nat) : Int) := by rw [IntWalk.i64_in _ (by omega)]; omega
  have hga := get_lm ha; have hgb := get_lm hb
  have ga := fun t => nv_get ha t
  have gb := fun t => nv_get hb t
  have hat : ∀ k, k < a.length → ∃ p off, A1 = some ⟨p, off, none⟩ ∧ p < w.heap.size ∧ w.cell? ⟨p, off + k, none⟩ = some (.int .u32 ((a[k]?.getD 0 : Nat) : Int)) := fun k hk => h1.at_ hk
  have hbt : ∀ k, k < b.length → ∃ p off, A2 = some ⟨p, off, none⟩ ∧ p < w.heap.size ∧ w.cell? ⟨p, off + k, none⟩ = some (.int .u32 ((b[k]?.getD 0 : Nat) : Int)) := fun k hk => h2.at_ hk
  replace hN := Lib.hid hN
  go_enter Try.func51, Try.ntmps51
  go_wp2_with (fail)
  go_loopw [22, 6] (fun i c wr => ∃ k : Nat, k ≤ a.length ∧ i = .int .i64 k ∧ c = .int .u64 ((carA (nv a) (nv b) k : Nat) : Int) ∧ U.IB wr w.heap.size (upD N (nv a + nv b) k) ∧ Below w.heap.size w wr) (fun i _ _ => a.length - (intOf i).toNat)
  case atStart => exact ⟨0, Nat.zero_le _, rfl, by rw [carA_zero]; rfl, by rw [upD_zero]; exact hib, hB⟩
  case round =>
    obtain ⟨k, hk, rfl, rfl, hib2, hbw⟩ := hrel
    obtain ⟨w2, rfl⟩ : ∃ w2 : World, w2 = wr := ⟨_, rfl⟩
    by_cases h : k < a.length
    · obtain ⟨p, o, rfl, hp, hc⟩ := hat k h
      rw [← hbw.cell (p := ⟨p, o + k, none⟩) hp] at hc
      have hxl := hga k
      have hx := ga k
      obtain ⟨x, hxe⟩ : ∃ x, x = a[k]?.getD 0 := ⟨_, rfl⟩
      rw [← hxe] at hc hxl hx
      have hzl := carA_le (nv a) (nv b) k
      obtain ⟨z, hze⟩ : ∃ z, z = carA (nv a) (nv b) k := ⟨_, rfl⟩
      rw [← hze] at hzl ⊢
      have hfr := hib2.frozen k
      have hcl := hib2.cell (i := k) (by rw [show (upD N (nv a + nv b) k).length = N by simp [upD], hN.out]; omega)
      have hset : ∀ d, d = (nv a + nv b) / nB ^ k % nB → U.IB (w2.setCell ⟨w.heap.size, k, none⟩ (.int .u32 (d : Int))) w.heap.size (upD N (nv a + nv b) (k + 1)) := fun d e => by subst e; rw [← upD_set]; exact hib2.set_ k _
      have hbs : ∀ u, Below w.heap.size w (w2.setCell ⟨w.heap.size, k, none⟩ u) := fun u => hbw.setCell (Nat.le_refl _) _
      have hk0 : (0 : Int) ≤ (k : Int) := by omega
      have hk1 : (k : Int) < (a.length : Int) := by omega
      have hk2 : (k : Int) < (N : Int) := by have := hN.out; omega
      have hwx : IntKind.u64.wrap (x : Int) = (x : Int) := u64w (by omega)
      have hwz : IntKind.u64.wrap ((x : Int) + (z : Int)) = ((x + z : Nat) : Int) := by rw [← Int.natCast_add]; exact u64w (by omega)
      have hyl := hgb k
      have hy := gb k
      by_cases h' : k < b.length
      · obtain ⟨p2, o2, rfl, hp2, hd⟩ := hbt k h'
        rw [← hbw.cell (p := ⟨p2, o2 + k, none⟩) hp2] at hd
        obtain ⟨y, hye⟩ : ∃ y, y = b[k]?.getD 0 := ⟨_, rfl⟩
        rw [← hye] at hd hyl hy
        obtain ⟨s, hs⟩ : ∃ s, s = x + z + y := ⟨_, rfl⟩
        obtain ⟨hs1, hs2, hs3⟩ := add_limb hx.symm hy.symm hze.symm hs
        have hj1 : (k : Int) < (b.length : Int) := by omega
        have hwy : IntKind.u64.wrap (y : Int) = (y : Int) := u64w (by omega)
        have hwe : IntKind.u64.wrap (((x + z : Nat) : Int) + (y : Int)) = (s : Int) := by rw [← Int.natCast_add, ← hs]; exact u64w (by omega)
        have hset2 := Lib.hid (hset _ hs2)
        replace hs3 := Lib.hid hs3
        clear hset hs2 hze hxe hye hx hy hat hbt ga gb hga hgb hib2 hbw h h'
        replace hs := Lib.hid hs
        go_wp2_with (fail)
        replace hs := hs.out
        refine ⟨⟨k + 1, by omega, rfl, ?_, ?_, hbs _⟩, by simp [intOf]; omega⟩
        · rw [← hs3.out]; congr 1; omega
        · rw [show ((x : Int) + (z : Int) + (y : Int)) % 4294967296 = ((s % 4294967296 : Nat) : Int) by omega]; exact hset2.out
      · have hy0 : b[k]?.getD 0 = 0 := by rw [List.getElem?_eq_none (by omega)]; rfl
        rw [hy0] at hy
        obtain ⟨s, hs⟩ : ∃ s, s = x + z + 0 := ⟨_, rfl⟩
        obtain ⟨hs1, hs2, hs3⟩ := add_limb hx.symm hy.symm hze.symm hs
        have hj1 : ¬ (k : Int) < (b.length : Int) := by omega
        have hset2 := Lib.hid (hset _ hs2)
        replace hs3 := Lib.hid hs3
        clear hset hs2 hze hxe hy0 hy hyl hx hat hbt ga gb hga hgb hib2 hbw h h'
        replace hs := Lib.hid hs
        go_wp2_with (fail)
        replace hs := hs.out
        refine ⟨⟨k + 1, by omega, rfl, ?_, ?_, hbs _⟩, by simp [intOf]; omega⟩
        · rw [← hs3.out]; congr 1; omega
        · rw [show ((x : Int) + (z : Int)) % 4294967296 = ((s % 4294967296 : Nat) : Int) by omega]; exact hset2.out
    · have hke : k = a.length := by omega
      subst hke
      have hV : nv a + nv b < nB ^ N := by
        have e1 := nv_lt ha; have e2 := nv_lt hb
        have e3 : nB ^ b.length ≤ nB ^ a.length := Nat.pow_le_pow_right nB_pos hl
        rw [hN.out, Nat.pow_succ]
        have : nB ^ a.length * 2 ≤ nB ^ a.length * nB := Nat.mul_le_mul (Nat.le_refl _) (by rw [nB_eq]; decide)
        omega
      have hz1 := carA_le (nv a) (nv b) a.length
      obtain ⟨z, hze⟩ : ∃ z, z = carA (nv a) (nv b) a.length := ⟨_, rfl⟩
      have hd : (nv a + nv b) / nB ^ a.length % nB = z := by
        rw [add_dig, ← hze, Nat.div_eq_of_lt (nv_lt ha), Nat.div_eq_of_lt (Nat.lt_of_lt_of_le (nv_lt hb) (Nat.pow_le_pow_right nB_pos hl)), Nat.zero_mod, Nat.zero_add]
        exact Nat.mod_eq_of_lt (by rw [nB_eq]; omega)
      rw [← hze] at hz1 ⊢
      have hfr := hib2.frozen a.length
      have hcl := hib2.cell (i := a.length) (by rw [show (upD N (nv a + nv b) a.length).length = N by simp [upD], hN.out]; omega)
      have hib3 : U.IB (w2.setCell ⟨w.heap.size, a.length, none⟩ (.int .u32 (z : Int))) w.heap.size (dgs N (nv a + nv b)) := by
        have := hib2.set_ a.length z
        rw [← hd, upD_set, show a.length + 1 = N from hN.out.symm, upD_full, hd] at this
        exact this
      have hbs : Below w.heap.size w (w2.setCell ⟨w.heap.size, a.length, none⟩ (.int .u32 (z : Int))) := hbw.setCell (Nat.le_refl _) _
      have hS := nShort_any _ (dgs_lm N (nv a + nv b)) (some ⟨w.heap.size, 0, none⟩) N _ (hib3.rd) (by rw [dgs_length, hN.out]; omega) (by rw [dgs_length]; exact Nat.le_refl _)
      rw [dgs_length, nv_dgs hV] at hS
      have hk0 : (0 : Int) ≤ (a.length : Int) := by omega
      have hk2 : (a.length : Int) < (N : Int) := by have := hN.out; omega
      have hm : (z : Int) % 4294967296 = (z : Int) := by omega
      replace hS := Lib.hid hS
      replace hd := Lib.hid hd
      replace hze := Lib.hid hze
      clear h hat hbt ga gb hga hgb hib2 hbw
      go_wp2_with (fail)
      refine hS.out.mono ?_
      rintro e w3 ⟨rfl, hr3, rfl⟩
      go_wp2_with (fail)
      go_ret
      exact ⟨_, by rw [nL_length]; rfl, hr3, hbs⟩
set_option maxHeartbeats 2000000 in
theorem nPlus_lt (a b : List Nat) (ha : Lm a) (hb : Lm b) (A1 A2 : Option Addr) (c1 c2 : Nat) (w : World) (h1 : U.Rd w w.heap.size A1 a) (h2 : U.Rd w w.heap.size A2 b) (hlt : b.length < a.length) (hn : a.length ≤ 60000) :
    Calls Try.prog 51 #[.slice A2 b.length c2, .slice A1 a.length c1] w (U.GivesS w.heap.size (nL (nv a + nv b)) w) := by
  have hl := Nat.le_of_lt hlt
  have hgl : (b.length : Int) < (a.length : Int) := by omega
  clear hlt
  obtain ⟨N, hN⟩ : ∃ N, N = a.length + 1 := ⟨_, rfl⟩
  have hmk := U.mk_ints ty_nat N (by omega)
  have hib := U.IB.newz w N
  have hB : Below w.heap.size w (w.alloc (.cells (Array.replicate N (Value.int .u32 0)) 64)) := (Below.refl _ _).alloc (Nat.le_refl _) _
  have hw1 : IntKind.i64.wrap ((a.length : Int) + 1) = ((N : Nat) : Int) := by rw [IntWalk.i64_in _ (by omega)]; omega
  have hga := get_lm ha; have hgb := get_lm hb
  have ga := fun t => nv_get ha t
  have gb := fun t => nv_get hb t
  have hat : ∀ k, k < a.length → ∃ p off, A1 = some ⟨p, off, none⟩ ∧ p < w.heap.size ∧ w.cell? ⟨p, off + k, none⟩ = some (.int .u32 ((a[k]?.getD 0 : Nat) : Int)) := fun k hk => h1.at_ hk
  have hbt : ∀ k, k < b.length → ∃ p off, A2 = some ⟨p, off, none⟩ ∧ p < w.heap.size ∧ w.cell? ⟨p, off + k, none⟩ = some (.int .u32 ((b[k]?.getD 0 : Nat) : Int)) := fun k hk => h2.at_ hk
  replace hN := Lib.hid hN
  go_enter Try.func51, Try.ntmps51
  go_wp2_with (fail)
  go_loopw [22, 6] (fun i c wr => ∃ k : Nat, k ≤ a.length ∧ i = .int .i64 k ∧ c = .int .u64 ((carA (nv a) (nv b) k : Nat) : Int) ∧ U.IB wr w.heap.size (upD N (nv a + nv b) k) ∧ Below w.heap.size w wr) (fun i _ _ => a.length - (intOf i).toNat)
  case atStart => exact ⟨0, Nat.zero_le _, rfl, by rw [carA_zero]; rfl, by rw [upD_zero]; exact hib, hB⟩
  case round =>
    obtain ⟨k, hk, rfl, rfl, hib2, hbw⟩ := hrel
    obtain ⟨w2, rfl⟩ : ∃ w2 : World, w2 = wr := ⟨_, rfl⟩
    by_cases h : k < a.length
    · obtain ⟨p, o, rfl, hp, hc⟩ := hat k h
      rw [← hbw.cell (p := ⟨p, o + k, none⟩) hp] at hc
      have hxl := hga k
      have hx := ga k
      obtain ⟨x, hxe⟩ : ∃ x, x = a[k]?.getD 0 := ⟨_, rfl⟩
      rw [← hxe] at hc hxl hx
      have hzl := carA_le (nv a) (nv b) k
      obtain ⟨z, hze⟩ : ∃ z, z = carA (nv a) (nv b) k := ⟨_, rfl⟩
      rw [← hze] at hzl ⊢
      have hfr := hib2.frozen k
      have hcl := hib2.cell (i := k) (by rw [show (upD N (nv a + nv b) k).length = N by simp [upD], hN.out]; omega)
      have hset : ∀ d, d = (nv a + nv b) / nB ^ k % nB → U.IB (w2.setCell ⟨w.heap.size, k, none⟩ (.int .u32 (d : Int))) w.heap.size (upD N (nv a + nv b) (k + 1)) := fun d e => by subst e; rw [← upD_set]; exact hib2.set_ k _
      have hbs : ∀ u, Below w.heap.size w (w2.setCell ⟨w.heap.size, k, none⟩ u) := fun u => hbw.setCell (Nat.le_refl _) _
      have hk0 : (0 : Int) ≤ (k : Int) := by omega
      have hk1 : (k : Int) < (a.length : Int) := by omega
      have hk2 : (k : Int) < (N : Int) := by have := hN.out; omega
      have hwx : IntKind.u64.wrap (x : Int) = (x : Int) := u64w (by omega)
      have hwz : IntKind.u64.wrap ((x : Int) + (z : Int)) = ((x + z : Nat) : Int) := by rw [← Int.natCast_add]; exact u64w (by omega)
      have hyl := hgb k
      have hy := gb k
      by_cases h' : k < b.length
      · obtain ⟨p2, o2, rfl, hp2, hd⟩ := hbt k h'
        rw [← hbw.cell (p := ⟨p2, o2 + k, none⟩) hp2] at hd
        obtain ⟨y, hye⟩ : ∃ y, y = b[k]?.getD 0 := ⟨_, rfl⟩
        rw [← hye] at hd hyl hy
        obtain ⟨s, hs⟩ : ∃ s, s = x + z + y := ⟨_, rfl⟩
        obtain ⟨hs1, hs2, hs3⟩ := add_limb hx.symm hy.symm hze.symm hs
        have hj1 : (k : Int) < (b.length : Int) := by omega
        have hwy : IntKind.u64.wrap (y : Int) = (y : Int) := u64w (by omega)
        have hwe : IntKind.u64.wrap (((x + z : Nat) : Int) + (y : Int)) = (s : Int) := by rw [← Int.natCast_add, ← hs]; exact u64w (by omega)
        have hset2 := Lib.hid (hset _ hs2)
        replace hs3 := Lib.hid hs3
        clear hset hs2 hze hxe hye hx hy hat hbt ga gb hga hgb hib2 hbw h h'
        replace hs := Lib.hid hs
        go_wp2_with (fail)
        replace hs := hs.out
        refine ⟨⟨k + 1, by omega, rfl, ?_, ?_, hbs _⟩, by simp [intOf]; omega⟩
        · rw [← hs3.out]; congr 1; omega
        · rw [show ((x : Int) + (z : Int) + (y : Int)) % 4294967296 = ((s % 4294967296 : Nat) : Int) by omega]; exact hset2.out
      · have hy0 : b[k]?.getD 0 = 0 := by rw [List.getElem?_eq_none (by omega)]; rfl
        rw [hy0] at hy
        obtain ⟨s, hs⟩ : ∃ s, s = x + z + 0 := ⟨_, rfl⟩
        obtain ⟨hs1, hs2, hs3⟩ := add_limb hx.symm hy.symm hze.symm hs
        have hj1 : ¬ (k : Int) < (b.length : Int) := by omega
        have hset2 := Lib.hid (hset _ hs2)
        replace hs3 := Lib.hid hs3
        clear hset hs2 hze hxe hy0 hy hyl hx hat hbt ga gb hga hgb hib2 hbw h h'
        replace hs := Lib.hid hs
        go_wp2_with (fail)
        replace hs := hs.out
        refine ⟨⟨k + 1, by omega, rfl, ?_, ?_, hbs _⟩, by simp [intOf]; omega⟩
        · rw [← hs3.out]; congr 1; omega
        · rw [show ((x : Int) + (z : Int)) % 4294967296 = ((s % 4294967296 : Nat) : Int) by omega]; exact hset2.out
    · have hke : k = a.length := by omega
      subst hke
      have hV : nv a + nv b < nB ^ N := by
        have e1 := nv_lt ha; have e2 := nv_lt hb
        have e3 : nB ^ b.length ≤ nB ^ a.length := Nat.pow_le_pow_right nB_pos hl
        rw [hN.out, Nat.pow_succ]
        have : nB ^ a.length * 2 ≤ nB ^ a.length * nB := Nat.mul_le_mul (Nat.le_refl _) (by rw [nB_eq]; decide)
        omega
      have hz1 := carA_le (nv a) (nv b) a.length
      obtain ⟨z, hze⟩ : ∃ z, z = carA (nv a) (nv b) a.length := ⟨_, rfl⟩
      have hd : (nv a + nv b) / nB ^ a.length % nB = z := by
        rw [add_dig, ← hze, Nat.div_eq_of_lt (nv_lt ha), Nat.div_eq_of_lt (Nat.lt_of_lt_of_le (nv_lt hb) (Nat.pow_le_pow_right nB_pos hl)), Nat.zero_mod, Nat.zero_add]
        exact Nat.mod_eq_of_lt (by rw [nB_eq]; omega)
      rw [← hze] at hz1 ⊢
      have hfr := hib2.frozen a.length
      have hcl := hib2.cell (i := a.length) (by rw [show (upD N (nv a + nv b) a.length).length = N by simp [upD], hN.out]; omega)
      have hib3 : U.IB (w2.setCell ⟨w.heap.size, a.length, none⟩ (.int .u32 (z : Int))) w.heap.size (dgs N (nv a + nv b)) := by
        have := hib2.set_ a.length z
        rw [← hd, upD_set, show a.length + 1 = N from hN.out.symm, upD_full, hd] at this
        exact this
      have hbs : Below w.heap.size w (w2.setCell ⟨w.heap.size, a.length, none⟩ (.int .u32 (z : Int))) := hbw.setCell (Nat.le_refl _) _
      have hS := nShort_any _ (dgs_lm N (nv a + nv b)) (some ⟨w.heap.size, 0, none⟩) N _ (hib3.rd) (by rw [dgs_length, hN.out]; omega) (by rw [dgs_length]; exact Nat.le_refl _)
      rw [dgs_length, nv_dgs hV] at hS
      have hk0 : (0 : Int) ≤ (a.length : Int) := by omega
      have hk2 : (a.length : Int) < (N : Int) := by have := hN.out; omega
      have hm : (z : Int) % 4294967296 = (z : Int) := by omega
      replace hS := Lib.hid hS
      replace hd := Lib.hid hd
      replace hze := Lib.hid hze
      clear h hat hbt ga gb hga hgb hib2 hbw
      go_wp2_with (fail)
      refine hS.out.mono ?_
      rintro e w3 ⟨rfl, hr3, rfl⟩
      go_wp2_with (fail)
      go_ret
      exact ⟨_, by rw [nL_length]; rfl, hr3, hbs⟩
theorem nPlus_any (a b : List Nat) (ha : Lm a) (hb : Lm b) (A1 A2 : Option Addr) (c1 c2 : Nat) (w : World) (h1 : U.Rd w w.heap.size A1 a) (h2 : U.Rd w w.heap.size A2 b) (hn1 : a.length ≤ 60000) (hn2 : b.length ≤ 60000) :
    Calls Try.prog 51 #[.slice A1 a.length c1, .slice A2 b.length c2] w (U.GivesS w.heap.size (nL (nv a + nv b)) w) := by
  by_cases h : b.length ≤ a.length
  · exact nPlus_ge a b ha hb A1 A2 c1 c2 w h1 h2 h hn1
  · rw [Nat.add_comm]; exact nPlus_lt b a hb ha A2 A1 c2 c1 w h2 h1 (by omega) hn2
end Go.Proofs.Ytemanlkgfhmclaa
