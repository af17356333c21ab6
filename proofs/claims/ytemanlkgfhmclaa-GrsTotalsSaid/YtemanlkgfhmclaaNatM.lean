/- Package nat: Mul of a list of numbers. -/
import Derived.Test.YtemanlkgfhmclaaNatK
namespace Go.Proofs.Ytemanlkgfhmclaa
open Go.RowKit Cw
attribute [local go_sem] Oper.semAt_some

/-- The product of the first k. -/
def prN (f : Nat → Nat) : Nat → Nat
  | 0 => 1
  | k + 1 => prN f k * f k

set_option maxHeartbeats 4000000 in
theorem nMul_any (n : Nat) (X : Nat) (A : Nat → Option Addr) (l : Nat → List Nat) (c : Nat → Nat) (w : World) (h : U.Ls w w.heap.size X n A l c) (hn : n ≤ 1000) (hle : ∀ k, k < n → (l k).length ≤ 30000) (hs : ∀ k, k ≤ n → prN (fun i => nv (l i)) k < nB ^ 30000) :
    Calls Try.prog 27 #[.slice (some ⟨X, 0, none⟩) n n] w (U.GivesA w.heap.size (nL (prN (fun i => nv (l i)) n)) w) := by
  obtain ⟨S, hS⟩ : ∃ S : Nat → Nat, S = prN fun i => nv (l i) := ⟨_, rfl⟩
  rw [← hS]; rw [← hS] at hs
  have hS1 : ∀ k, S (k + 1) = S k * nv (l k) := fun k => by rw [hS]; rfl
  have hS0 : S 0 = 1 := by rw [hS]; rfl
  have hl : ∀ k, k ≤ n → (nL (S k)).length ≤ 30000 := fun k hk => by rw [nL_length]; exact nlen_le (hs k hk)
  clear hS hs
  go_enter Try.func27, Try.ntmps27
  go_wp2_with (fail)
  go_loopw [9, 3] (fun i s wr => ∃ (k : Nat) (P : Option Addr), k ≤ n ∧ i = .int .i64 k ∧ s = .slice P (nlen (S k)) (nlen (S k)) ∧ U.Rd wr wr.heap.size P (nL (S k)) ∧ Below w.heap.size w wr) (fun i _ _ => n - (intOf i).toNat)
  case atStart => exact ⟨0, some ⟨w.heap.size, 0, none⟩, Nat.zero_le _, rfl, by rw [hS0]; rfl, by rw [hS0, show nL 1 = [1] from nL_small nB_gt (by decide)]; exact (U.IB.new w [1]).rd, (Below.refl _ _).alloc (Nat.le_refl _) _⟩
  case round =>
    obtain ⟨k, P, hk, rfl, rfl, hr, hbw⟩ := hrel
    obtain ⟨w2, rfl⟩ : ∃ w2 : World, w2 = wr := ⟨_, rfl⟩
    have h2 := (h.below hbw).more hbw.size
    by_cases hkn : k < n
    · have hc := h2.cell k hkn
      have hSh := nShort_any _ (h2.lm k hkn) (A k) (c k) w2 (h2.rd k hkn) (by have := h2.le k hkn; omega) (h2.cap k hkn)
      have hPl := fun (hr2 : U.Rd w2 w2.heap.size (A k) (nL (nv (l k)))) => nTimes_any (nL (S k)) (nL (nv (l k))) (nL_lm _) (nL_lm _) P (A k) (nlen (S k)) (nlen (nv (l k))) w2 hr hr2 (hl k hk) (by rw [nL_length]; exact Nat.le_trans (nlen_le (nv_lt (h2.lm k hkn))) (hle k hkn))
      simp only [nv_nL, ← hS1, nL_length] at hPl
      have hk0 : (0 : Int) ≤ (k : Int) := by omega
      have hk1 : (k : Int) < (n : Int) := by omega
      have hbw' := Lib.hid hbw
      replace hSh := Lib.hid hSh
      clear h2 hl hS1 hS0 hr h hbw
      go_wp2_with (fail)
      refine hSh.out.mono ?_
      rintro e w3 ⟨rfl, hr3, rfl⟩
      have hP2 := hPl hr3
      clear hPl hr3
      go_wp2_with (fail)
      refine hP2.mono ?_
      rintro e w4 ⟨A', rfl, hr4, hb4⟩
      rw [nL_length]
      go_wp2_with (fail)
      exact ⟨⟨k + 1, A', by omega, rfl, rfl, hr4, hbw'.out.trans (hb4.mono hbw'.out.size)⟩, by simp [intOf]; omega⟩
    · have hke : k = n := by omega
      subst hke
      have hT := nTrim_any (nL (S k)) (nL_lm _) P (nlen (S k)) w2 hr (by have := hl k hk; omega) (by rw [nL_length]; exact Nat.le_refl _)
      rw [nL_length, nv_nL] at hT
      replace hT := Lib.hid hT
      clear h2 hl hS1 hS0 hr h
      go_wp2_with (fail)
      refine hT.out.mono ?_
      rintro e w4 ⟨v, rfl, ho4, hb4⟩
      go_wp2_with (fail)
      go_ret
      exact ⟨v, rfl, ho4.base hbw.size, hbw.trans (hb4.mono hbw.size)⟩
end Go.Proofs.Ytemanlkgfhmclaa
