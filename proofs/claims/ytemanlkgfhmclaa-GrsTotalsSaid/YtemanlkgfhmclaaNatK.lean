/- Package nat: Add of a list of numbers. -/
import Derived.Test.YtemanlkgfhmclaaNatJ
namespace Go.Proofs.Ytemanlkgfhmclaa
open Go.RowKit Cw
attribute [local go_sem] Oper.semAt_some

/-- The sum of the first k. -/
def smN (f : Nat → Nat) : Nat → Nat
  | 0 => 0
  | k + 1 => smN f k + f k
/-- The slice of n numbers at block X: number i is the list l i. -/
structure U.Ls (w : World) (B X n : Nat) (A : Nat → Option Addr) (l : Nat → List Nat) (c : Nat → Nat) : Prop where
  lt : X < B
  cell : ∀ i, i < n → w.cell? ⟨X, i, none⟩ = some (.slice (A i) (l i).length (c i))
  rd : ∀ i, i < n → U.Rd w B (A i) (l i)
  lm : ∀ i, i < n → Lm (l i)
  le : ∀ i, i < n → (l i).length ≤ 60000
  cap : ∀ i, i < n → (l i).length ≤ c i
theorem U.Ls.below {w w' : World} {B X n : Nat} {A : Nat → Option Addr} {l : Nat → List Nat} {c : Nat → Nat} (h : U.Ls w B X n A l c) (hb : Below B w w') : U.Ls w' B X n A l c :=
  ⟨h.lt, fun i hi => (hb.cell (p := ⟨X, i, none⟩) h.lt).trans (h.cell i hi), fun i hi => (h.rd i hi).below hb, h.lm, h.le, h.cap⟩
theorem U.Ls.more {w : World} {B B' X n : Nat} {A : Nat → Option Addr} {l : Nat → List Nat} {c : Nat → Nat} (h : U.Ls w B X n A l c) (hB : B ≤ B') : U.Ls w B' X n A l c :=
  ⟨Nat.lt_of_lt_of_le h.lt hB, h.cell, fun i hi => (h.rd i hi).more hB, h.lm, h.le, h.cap⟩

set_option maxHeartbeats 4000000 in
theorem nAdd_any (n : Nat) (X : Nat) (A : Nat → Option Addr) (l : Nat → List Nat) (c : Nat → Nat) (w : World) (h : U.Ls w w.heap.size X n A l c) (hn : n ≤ 1000) (hs : ∀ k, k ≤ n → smN (fun i => nv (l i)) k < nB ^ 60000) :
    Calls Try.prog 26 #[.slice (some ⟨X, 0, none⟩) n n] w (U.GivesA w.heap.size (nL (smN (fun i => nv (l i)) n)) w) := by
  obtain ⟨S, hS⟩ : ∃ S : Nat → Nat, S = smN fun i => nv (l i) := ⟨_, rfl⟩
  rw [← hS]; rw [← hS] at hs
  have hS1 : ∀ k, S (k + 1) = S k + nv (l k) := fun k => by rw [hS]; rfl
  have hS0 : S 0 = 0 := by rw [hS]; rfl
  have hl : ∀ k, k ≤ n → (nL (S k)).length ≤ 60000 := fun k hk => by rw [nL_length]; exact nlen_le (hs k hk)
  clear hS hs
  go_enter Try.func26, Try.ntmps26
  go_wp2_with (fail)
  go_loopw [8, 3] (fun i s wr => ∃ (k : Nat) (P : Option Addr), k ≤ n ∧ i = .int .i64 k ∧ s = .slice P (nlen (S k)) (nlen (S k)) ∧ U.Rd wr wr.heap.size P (nL (S k)) ∧ Below w.heap.size w wr) (fun i _ _ => n - (intOf i).toNat)
  case atStart => exact ⟨0, none, Nat.zero_le _, rfl, by rw [hS0]; rfl, by rw [hS0]; exact U.Rd.nil, Below.refl _ _⟩
  case round =>
    obtain ⟨k, P, hk, rfl, rfl, hr, hbw⟩ := hrel
    obtain ⟨w2, rfl⟩ : ∃ w2 : World, w2 = wr := ⟨_, rfl⟩
    have h2 := (h.below hbw).more hbw.size
    by_cases hkn : k < n
    · have hc := h2.cell k hkn
      have hSh := nShort_any _ (h2.lm k hkn) (A k) (c k) w2 (h2.rd k hkn) (by have := h2.le k hkn; omega) (h2.cap k hkn)
      have hPl := fun (hr2 : U.Rd w2 w2.heap.size (A k) (nL (nv (l k)))) => nPlus_any (nL (S k)) (nL (nv (l k))) (nL_lm _) (nL_lm _) P (A k) (nlen (S k)) (nlen (nv (l k))) w2 hr hr2 (hl k hk) (by rw [nL_length]; exact Nat.le_trans (nlen_le (nv_lt (h2.lm k hkn))) (h2.le k hkn))
      simp only [nv_nL, ← hS1, nL_length] at hPl
      have hk0 : (0 : Int) ≤ (k : Int) := by omega
      have hk1 : (k : Int) < (n : Int) := by omega
      have hbw' := Lib.hid hbw
      replace hSh := Lib.hid hSh
      clear h2 hl hS1 hS0 hr h hbw
      go_wp2_with (fail)
      refine hSh.out.mono ?_
      rintro e w3 ⟨rfl, hr3, rfl⟩
      have hP2 := hPl hr3
      clear hPl hr3
      go_wp2_with (fail)
      refine hP2.mono ?_
      rintro e w4 ⟨A', rfl, hr4, hb4⟩
      rw [nL_length]
      go_wp2_with (fail)
      exact ⟨⟨k + 1, A', by omega, rfl, rfl, hr4, hbw'.out.trans (hb4.mono hbw'.out.size)⟩, by simp [intOf]; omega⟩
    · have hke : k = n := by omega
      subst hke
      have hT := nTrim_any (nL (S k)) (nL_lm _) P (nlen (S k)) w2 hr (by have := hl k hk; omega) (by rw [nL_length]; exact Nat.le_refl _)
      rw [nL_length, nv_nL] at hT
      replace hT := Lib.hid hT
      clear h2 hl hS1 hS0 hr h
      go_wp2_with (fail)
      refine hT.out.mono ?_
      rintro e w4 ⟨v, rfl, ho4, hb4⟩
      go_wp2_with (fail)
      go_ret
      exact ⟨v, rfl, ho4.base hbw.size, hbw.trans (hb4.mono hbw.size)⟩
end Go.Proofs.Ytemanlkgfhmclaa
