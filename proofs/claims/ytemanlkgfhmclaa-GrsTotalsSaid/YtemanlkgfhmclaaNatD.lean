/- The reference's numbers: limb, Zero. -/
import Derived.Test.YtemanlkgfhmclaaNatB
namespace Go.Proofs.Ytemanlkgfhmclaa
open Go.RowKit Cw
attribute [local go_sem] Oper.semAt_some

set_option maxHeartbeats 1000000 in
theorem limb1_any (l : List Nat) (hlm : Lm l) (A : Option Addr) (c i : Nat) (w : World) (hr : U.Rd w w.heap.size A l) (hc : l.length ≤ c) (hi : i ≤ 1000000) :
    Calls Try.prog 33 #[.slice A l.length c, .int .i64 (i : Int)] w fun e w' => e = .returned (.int .u64 ((nv l / nB ^ i % nB : Nat) : Int)) ∧ w = w' := by
  have hg := nv_get hlm i
  have hb : nv l / nB ^ i % nB < 4294967296 := by have := Nat.mod_lt (nv l / nB ^ i) nB_pos; rw [nB_eq] at this ⊢; exact this
  generalize nv l / nB ^ i % nB = y at *
  go_enter Try.func33, Try.ntmps33
  by_cases h : i < l.length
  · obtain ⟨b, o, rfl, -, hcell⟩ := hr.at_ h
    rw [hg] at hcell
    have h1 : (i : Int) < (l.length : Int) := by omega
    have h0 : (0 : Int) ≤ (i : Int) := by omega
    have hw : IntKind.u64.wrap (y : Int) = (y : Int) := by simp [IntKind.wrap, IntKind.bits, IntKind.signed]; omega
    clear hg h
    go_wp2_with (fail)
    go_ret
    exact ⟨rfl, rfl⟩
  · rw [List.getElem?_eq_none (by omega)] at hg
    have h1 : ¬ (i : Int) < (l.length : Int) := by omega
    have hy : 0 = y := hg
    subst hy
    clear hg h
    go_wp2_with (fail)
    go_ret
    exact ⟨rfl, rfl⟩
theorem Zero1_any (l : List Nat) (hlm : Lm l) (A : Option Addr) (c : Nat) (w : World) (hr : U.Rd w w.heap.size A l) (hn : l.length ≤ 1000000) (hc : l.length ≤ c) :
    Calls Try.prog 13 #[.slice A l.length c] w fun e w' => e = .returned (.bool (decide (nv l = 0))) ∧ Below w.heap.size w w' := by
  have hT := Trim1_any l hlm A c w hr hn hc
  have hd : decide (((nlen (nv l) : Nat) : Int) = 0) = decide (nv l = 0) := by
    congr 1
    refine propext ⟨fun h => ?_, fun h => by rw [h, nlen_zero]; rfl⟩
    have h2 := (nlen_spec (nv l)).1
    rw [show nlen (nv l) = 0 by omega, Nat.pow_zero] at h2
    omega
  go_enter Try.func13, Try.ntmps13
  go_wp2_with (fail)
  refine hT.mono ?_
  rintro e w1 ⟨v, rfl, ho, hb⟩
  obtain ⟨A1, c1, rfl, -, -, -⟩ := ho.form
  rw [nL_length]
  go_wp2_with (fail)
  go_ret
  exact ⟨by rw [← hd]; rfl, hb⟩
set_option maxHeartbeats 1000000 in
/-- Equal numbers. -/
theorem Same1_eq (l : List Nat) (A1 A2 : Option Addr) (c1 c2 : Nat) (w : World) (h1 : U.Rd w w.heap.size A1 l) (h2 : U.Rd w w.heap.size A2 l) (hl : l.length ≤ 1000000) :
    Calls Try.prog 11 #[.slice A1 l.length c1, .slice A2 l.length c2] w fun e w' => e = .returned (.bool true) ∧ Below w.heap.size w w' := by
  go_enter Try.func11, Try.ntmps11
  go_wp2_with (fail)
  go_loopw [5] (fun i wr => ∃ k : Nat, k ≤ l.length ∧ i = .int .i64 k ∧ Below w.heap.size w wr) (fun i _ => l.length - (intOf i).toNat)
  case atStart => exact ⟨0, by omega, rfl, Below.refl _ _⟩
  case round =>
    obtain ⟨k, hk, rfl, hbw⟩ := hrel
    obtain ⟨w2, rfl⟩ : ∃ w2 : World, w2 = wr := ⟨_, rfl⟩
    by_cases hlt : k < l.length
    · obtain ⟨b1, o1, rfl, hb1, hc1⟩ := h1.at_ hlt
      obtain ⟨b2, o2, rfl, hb2, hc2⟩ := h2.at_ hlt
      have hd1 := (hbw.cell (p := ⟨b1, o1 + k, none⟩) hb1).trans hc1
      have hd2 := (hbw.cell (p := ⟨b2, o2 + k, none⟩) hb2).trans hc2
      obtain ⟨y1, hy1⟩ : ∃ y, y = l[k]?.getD 0 := ⟨_, rfl⟩
      rw [← hy1] at hd1 hd2
      have hz : ((y1 : Int) != (y1 : Int)) = false := by simp
      clear hc1 hc2 hy1
      go_wp2_with (fail)
      go_quiet (fail)
      go_wp2_with (fail)
      go_roundw
      case rel => exact ⟨k + 1, by omega, by go_num, ⟨hbw.os, hbw.tape, hbw.output, hbw.size, hbw.block⟩⟩
      case measure => simp [intOf]; omega
    · obtain rfl : k = l.length := by omega
      go_wp2_with (fail)
      go_ret
      exact ⟨rfl, hbw⟩
end Go.Proofs.Ytemanlkgfhmclaa
