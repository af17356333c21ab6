/- Sums and products of two numbers, as grs.Weights asks for them: the slice of the two is made ahead of the call. -/
import Derived.Test.YtemanlkgfhmclaaNatQ
namespace Go.Proofs.Ytemanlkgfhmclaa
open Go.RowKit Cw

theorem mul_lt_pow {a b i j k : Nat} (ha : a < nB ^ i) (hb : b < nB ^ j) (h : i + j ≤ k) : a * b < nB ^ k := by
  refine Nat.lt_of_lt_of_le (Nat.mul_lt_mul'' ha hb) ?_
  rw [← Nat.pow_add]; exact Nat.pow_le_pow_right nB_pos h
theorem add_lt_pow {a b i k : Nat} (ha : a < nB ^ i) (hb : b < nB ^ i) (h : i < k) : a + b < nB ^ k := by
  have e : nB ^ i * 2 ≤ nB ^ i * nB := Nat.mul_le_mul_left _ nB_gt
  rw [← Nat.pow_succ] at e
  have h2 : nB ^ (i + 1) ≤ nB ^ k := Nat.pow_le_pow_right nB_pos h
  generalize nB ^ i = x at *
  generalize nB ^ (i + 1) = y at *
  generalize nB ^ k = z at *
  omega
theorem lt_pow_up {a i k : Nat} (ha : a < nB ^ i) (h : i ≤ k) : a < nB ^ k := Nat.lt_of_lt_of_le ha (Nat.pow_le_pow_right nB_pos h)
/-- The block of two numbers. -/
def pairO (A0 : Option Addr) (n0 c0 : Nat) (A1 : Option Addr) (n1 c1 : Nat) : Obj := .cells #[.slice A0 n0 c0, .slice A1 n1 c1] 38
theorem pair_ub (w : World) (l0 l1 : List Nat) (A0 A1 : Option Addr) (c0 c1 : Nat) (h0 : U.Rd w w.heap.size A0 l0) (h1 : U.Rd w w.heap.size A1 l1) (m0 : Lm l0) (m1 : Lm l1) (hn0 : l0.length ≤ 60000) (hn1 : l1.length ≤ 60000) (hc0 : l0.length ≤ c0) (hc1 : l1.length ≤ c1) :
    UB (w.alloc (pairO A0 l0.length c0 A1 l1.length c1)) w.heap.size 2 (fun i => if i = 0 then A0 else A1) (fun i => if i = 0 then l0 else l1) (fun i => if i = 0 then c0 else c1) := by
  have hb : Below w.heap.size w (w.alloc (pairO A0 l0.length c0 A1 l1.length c1)) := (Below.refl _ _).alloc (Nat.le_refl _) _
  have two : ∀ {p : Nat → Prop}, p 0 → p 1 → ∀ i, i < 2 → p i := fun {p} a b i hi => by
    rcases (show i = 0 ∨ i = 1 by omega) with rfl | rfl
    · exact a
    · exact b
  exact ⟨⟨_, heap_alloc_new w _⟩, two ((h0.below hb).more hb.size) ((h1.below hb).more hb.size), two m0 m1, two hn0 hn1, two hc0 hc1⟩
theorem nMul2 (a b : Nat) (A0 A1 : Option Addr) (c0 c1 : Nat) (w : World) (h0 : U.Rd w w.heap.size A0 (nL a)) (h1 : U.Rd w w.heap.size A1 (nL b)) (ha : a < nB ^ 200) (hb : b < nB ^ 200) (hc0 : nlen a ≤ c0) (hc1 : nlen b ≤ c1) :
    Calls Try.prog 27 #[.slice (some ⟨w.heap.size, 0, none⟩) 2 2] (w.alloc (.cells #[.slice A0 (nlen a) c0, .slice A1 (nlen b) c1] 38)) fun e w' => ∃ v, e = .returned v ∧ U.Own w' w.heap.size v (nL (a * b)) ∧ Below w.heap.size w w' := by
  have n0 := nlen_le ha
  rw [← nL_length] at hc0 hc1
  rw [← nL_length a, ← nL_length b]
  have n1 := nlen_le hb
  have hu := (pair_ub w (nL a) (nL b) A0 A1 c0 c1 h0 h1 (nL_lm _) (nL_lm _) (by rw [nL_length]; omega) (by rw [nL_length]; omega) hc0 hc1).ls
  have hB : Below w.heap.size w (w.alloc (pairO A0 (nL a).length c0 A1 (nL b).length c1)) := (Below.refl _ _).alloc (Nat.le_refl _) _
  have hp : ∀ k, k ≤ 2 → prN (fun i => nv (if i = 0 then nL a else nL b)) k < nB ^ 30000 := fun k hk => by
    have hone : ∀ k, 1 ≤ k → 1 < nB ^ k := fun _ h => Nat.one_lt_pow (by omega) nB_gt
    have hal : ∀ k, 200 ≤ k → a < nB ^ k := fun _ h => lt_pow_up ha h
    have hlt : ∀ k, 200 + 200 ≤ k → a * b < nB ^ k := fun _ h => mul_lt_pow ha hb h
    rcases (show k = 0 ∨ k = 1 ∨ k = 2 by omega) with rfl | rfl | rfl
    · show 1 < _
      exact hone 30000 (by decide)
    · show 1 * nv (nL a) < _
      rw [Nat.one_mul, nv_nL]; exact hal 30000 (by decide)
    · show 1 * nv (nL a) * nv (nL b) < _
      rw [Nat.one_mul, nv_nL, nv_nL]; exact hlt 30000 (by decide)
  refine (nMul_any 2 w.heap.size _ _ _ _ hu (by decide) (fun k hk => ?_) hp).mono ?_
  · by_cases e : k = 0
    · simp only [if_pos e]; rw [nL_length]; omega
    · simp only [if_neg e]; rw [nL_length]; omega
  · rintro e w' ⟨v, rfl, ho, hb'⟩
    have e2 : prN (fun i => nv (if i = 0 then nL a else nL b)) 2 = a * b := by
      show 1 * nv (nL a) * nv (nL b) = _
      rw [Nat.one_mul, nv_nL, nv_nL]
    rw [e2] at ho
    exact ⟨v, rfl, ho.base hB.size, hB.trans (hb'.mono hB.size)⟩
theorem nAdd2 (a b : Nat) (A0 A1 : Option Addr) (c0 c1 : Nat) (w : World) (h0 : U.Rd w w.heap.size A0 (nL a)) (h1 : U.Rd w w.heap.size A1 (nL b)) (ha : a < nB ^ 200) (hb : b < nB ^ 250) (hc0 : nlen a ≤ c0) (hc1 : nlen b ≤ c1) :
    Calls Try.prog 26 #[.slice (some ⟨w.heap.size, 0, none⟩) 2 2] (w.alloc (.cells #[.slice A0 (nlen a) c0, .slice A1 (nlen b) c1] 38)) fun e w' => ∃ v, e = .returned v ∧ U.Own w' w.heap.size v (nL (a + b)) ∧ Below w.heap.size w w' := by
  have n0 := nlen_le ha
  rw [← nL_length] at hc0 hc1
  rw [← nL_length a, ← nL_length b]
  have n1 := nlen_le hb
  have hu := (pair_ub w (nL a) (nL b) A0 A1 c0 c1 h0 h1 (nL_lm _) (nL_lm _) (by rw [nL_length]; omega) (by rw [nL_length]; omega) hc0 hc1).ls
  have hB : Below w.heap.size w (w.alloc (pairO A0 (nL a).length c0 A1 (nL b).length c1)) := (Below.refl _ _).alloc (Nat.le_refl _) _
  have hp : ∀ k, k ≤ 2 → smN (fun i => nv (if i = 0 then nL a else nL b)) k < nB ^ 60000 := fun k hk => by
    have hs : ∀ k, 250 < k → a + b < nB ^ k := fun _ h => add_lt_pow (lt_pow_up ha (by decide)) hb h
    replace hs := hs 60000 (by decide)
    generalize nB ^ 60000 = z at *
    rcases (show k = 0 ∨ k = 1 ∨ k = 2 by omega) with rfl | rfl | rfl
    · show 0 < z; omega
    · show 0 + nv (nL a) < _
      rw [nv_nL]; omega
    · show 0 + nv (nL a) + nv (nL b) < _
      rw [nv_nL, nv_nL]; omega
  refine (nAdd_any 2 w.heap.size _ _ _ _ hu (by decide) hp).mono ?_
  rintro e w' ⟨v, rfl, ho, hb'⟩
  have e2 : smN (fun i => nv (if i = 0 then nL a else nL b)) 2 = a + b := by
    show 0 + nv (nL a) + nv (nL b) = _
    rw [nv_nL, nv_nL]; omega
  rw [e2] at ho
  exact ⟨v, rfl, ho.base hB.size, hB.trans (hb'.mono hB.size)⟩
/-- A number of a call's own, as a slice. -/
theorem U.Own.num {w : World} {B : Nat} {v : Value} {a : Nat} (h : U.Own w B v (nL a)) : ∃ A c, v = .slice A (nlen a) c ∧ nlen a ≤ c ∧ U.Rd w w.heap.size A (nL a) := by
  obtain ⟨A, c, e, hc, hr, -⟩ := h.form
  rw [nL_length] at e hc
  exact ⟨A, c, e, hc, hr⟩
theorem nSubN (a b : Nat) (A0 A1 : Option Addr) (c0 c1 : Nat) (w : World) (h0 : U.Rd w w.heap.size A0 (nL a)) (h1 : U.Rd w w.heap.size A1 (nL b)) (ha : a < nB ^ 200) (hc0 : nlen a ≤ c0) (hc1 : nlen b ≤ c1) (hle : b ≤ a) :
    Calls Try.prog 24 #[.slice A0 (nlen a) c0, .slice A1 (nlen b) c1] w fun e w' => ∃ A, e = .returned (.tuple #[.slice A (nlen (a - b)) (nlen (a - b)), .int .i64 0]) ∧ U.Rd w' w'.heap.size A (nL (a - b)) ∧ Below w.heap.size w w' := by
  have n0 := nlen_le ha
  have n1 := nlen_le (Nat.lt_of_le_of_lt hle ha)
  have h := nSub_ge (nL a) (nL b) (nL_lm _) (nL_lm _) A0 A1 c0 c1 w h0 h1 (by rw [nL_length]; omega) (by rw [nL_length]; omega) (by rw [nL_length]; exact hc0) (by rw [nL_length]; exact hc1) (by rw [nv_nL, nv_nL]; exact hle)
  simp only [nv_nL, nL_length] at h
  exact h
end Go.Proofs.Ytemanlkgfhmclaa
