/- bits.Len32 and nat.Bits of a number from 2 to 256: from 2 to 9 digits. -/
import Derived.Test.YtemanlkgfhmclaaNatN
import Derived.Lib.Strings
import Derived.Lib.Slices
import Derived.Lib.Small
import Derived.Lib.Walk
import Derived.Lib.BitFns
namespace Go.Proofs.Ytemanlkgfhmclaa
open Go.RowKit Cw

theorem tab_size : Lib.len8tab.size = 256 := by decide +kernel
theorem tab_all : ∀ j : Fin 256, 2 ≤ j.val → 2 ≤ (Lib.len8tab[j.val]'(by rw [tab_size]; exact j.isLt)).toNat ∧ (Lib.len8tab[j.val]'(by rw [tab_size]; exact j.isLt)).toNat ≤ 8 := by decide +kernel
set_option maxHeartbeats 4000000 in
set_option maxRecDepth 100000 in
theorem len32_small (x : Int) (w : World) (h0 : 2 ≤ x) (h1 : x < 256) :
    Calls Try.prog 65 #[.int .u32 x] w fun e w' => ∃ y : Nat, e = .returned (.int .i64 (y : Int)) ∧ 2 ≤ y ∧ y ≤ 9 ∧ w' = w := by
  go_enter Try.func65, Try.ntmps65
  have hb : x < ((Lib.len8tab.size : Nat) : Int) := by rw [tab_size]; omega
  have h00 : 0 ≤ x := by omega
  go_wp2
  have hj := tab_all ⟨x.toNat, by omega⟩ (by show 2 ≤ x.toNat; omega)
  generalize (Lib.len8tab[x.toNat]'(by rw [tab_size]; omega)).toNat = y at hj ⊢
  have hw : wrap64 (y : Int) = (y : Int) := by unfold wrap64; omega
  rw [hw, hw]
  go_ret
  exact ⟨y, rfl, hj.1, by omega, rfl⟩
set_option maxHeartbeats 4000000 in
set_option maxRecDepth 100000 in
theorem len32_256 (w : World) :
    Calls Try.prog 65 #[.int .u32 256] w fun e w' => e = .returned (.int .i64 9) ∧ w' = w := by
  go_enter Try.func65, Try.ntmps65
  have hb : (1 : Int) < ((Lib.len8tab.size : Nat) : Int) := by rw [tab_size]; decide
  have hj : (Lib.len8tab[1]'(by rw [tab_size]; decide)).toNat = 1 := by decide +kernel
  go_wp2
  rw [show Lib.len8 1 = 1 by decide +kernel, show wrap64 (8 + wrap64 1) = 9 by unfold wrap64; omega]
  go_ret
  exact ⟨rfl, rfl⟩
theorem len32_any (x : Nat) (w : World) (h0 : 2 ≤ x) (h1 : x ≤ 256) :
    Calls Try.prog 65 #[.int .u32 (x : Int)] w fun e w' => ∃ y : Nat, e = .returned (.int .i64 (y : Int)) ∧ 2 ≤ y ∧ y ≤ 9 ∧ w' = w := by
  rcases Nat.lt_or_ge x 256 with h | h
  · exact len32_small x w (by omega) (by omega)
  · obtain rfl : x = 256 := by omega
    exact (len32_256 w).mono fun e w' h => ⟨9, h.1, by decide, by decide, h.2⟩
attribute [local go_sem] Oper.semAt_some
set_option maxHeartbeats 4000000 in
theorem nBits_small (P : Nat) (hP0 : 2 ≤ P) (hP1 : P ≤ 256) (A1 : Option Addr) (c1 : Nat) (w : World) (h1 : U.Rd w w.heap.size A1 (nL P)) (hc1 : nlen P ≤ c1) :
    Calls Try.prog 46 #[.slice A1 (nlen P) c1] w fun e w' => ∃ y : Nat, e = .returned (.int .i64 (y : Int)) ∧ 2 ≤ y ∧ y ≤ 9 ∧ w' = w := by
  have hs : nL P = [P] := nL_small (by rw [nB_lit]; omega) (by omega)
  have hl : nlen P = 1 := by rw [← nL_length, hs]; rfl
  have hS1 := nShort_any (nL P) (nL_lm P) A1 c1 w h1 (by rw [nL_length, hl]; decide) (by rw [nL_length]; exact hc1)
  rw [nL_length, nv_nL, hl] at hS1
  rw [hl]
  rw [hs] at h1 hS1
  obtain ⟨p, o, rfl, hp, hc⟩ := h1.at_ (k := 0) (by simp)
  replace hc : w.cell? ⟨p, o, none⟩ = some (.int .u32 (P : Int)) := hc
  have hL := len32_any P w hP0 hP1
  replace hL := Lib.hid hL
  replace hS1 := Lib.hid hS1
  clear hs hl
  go_enter Try.func46, Try.ntmps46
  go_wp2_with (fail)
  refine hS1.out.mono ?_
  rintro e w1 ⟨rfl, -, rfl⟩
  go_wp2_with (fail)
  refine hL.out.mono ?_
  rintro e w2 ⟨y, rfl, hy0, hy1, rfl⟩
  go_wp2_with (fail)
  go_ret
  exact ⟨y, rfl, hy0, hy1, rfl⟩
end Go.Proofs.Ytemanlkgfhmclaa
