/- Layer 39: the law's own same and few, the reference's Received, Differ, Plus. -/
import Derived.BigQuiet
import Derived.Test.YtpflgmbcmfllgaaZdBndG
import Derived.Test.YtpflgmbcmfllgaaZdBndQ
import Derived.Test.YtpflgmbcmfllgaaZdGrsE2
namespace Go.Proofs.Ytpflgmbcmfllgaa
open Go.RowKit Cw
attribute [local go_sem] Oper.semAt_some

/-- A law's end: true, and nothing that was there has turned. -/
def LawEnd (w : World) (e : Ending) (w' : World) : Prop := e = .returned (.bool true) ∧ Below w.heap.size w w'

set_option maxHeartbeats 1000000 in
theorem same39_any (l1 l2 : List Int) (A1 A2 : Option Addr) (c1 c2 : Nat) (w : World) (h1 : Rd w w.heap.size A1 l1) (h2 : Rd w w.heap.size A2 l2) (hl1 : l1.length ≤ 1000000) (_hl2 : l2.length ≤ 1000000) :
    Calls Try.prog 39 #[.slice A1 l1.length c1, .slice A2 l2.length c2] w fun e w' => e = .returned (.bool (decide (l1 = l2))) ∧ Below w.heap.size w w' := by
  by_cases hne : l1.length = l2.length
  · rw [← hne]
    go_enter Try.func39, Try.ntmps39
    go_wp2_with (fail)
    go_loopw [13, 5] (fun i _ wr => ∃ k : Nat, k ≤ l1.length ∧ i = .int .i64 k ∧ (∀ j, j < k → l1[j]?.getD 0 = l2[j]?.getD 0) ∧ Below w.heap.size w wr) (fun i _ _ => l1.length - (intOf i).toNat)
    case atStart => exact ⟨0, by omega, rfl, fun j hj => absurd hj (by omega), Below.refl _ _⟩
    case round =>
      obtain ⟨k, hk, rfl, hsm, hbw⟩ := hrel
      by_cases hlt : k < l1.length
      · obtain ⟨b1, o1, rfl, hb1, hc1⟩ := h1.at_ hlt
        obtain ⟨b2, o2, rfl, hb2, hc2⟩ := h2.at_ (by omega : k < l2.length)
        have hd1 := (hbw.cell (p := ⟨b1, o1 + k, none⟩) hb1).trans hc1
        have hd2 := (hbw.cell (p := ⟨b2, o2 + k, none⟩) hb2).trans hc2
        obtain ⟨y1, hy1⟩ : ∃ y, y = l1[k]?.getD 0 := ⟨_, rfl⟩
        obtain ⟨y2, hy2⟩ : ∃ y, y = l2[k]?.getD 0 := ⟨_, rfl⟩
        rw [← hy1] at hd1; rw [← hy2] at hd2
        clear hc1 hc2
        by_cases hyy : y1 = y2
        · have hz : (y1 != y2) = false := by simp [hyy]
          have hsm' : ∀ j, j < k + 1 → l1[j]?.getD 0 = l2[j]?.getD 0 := fun j hj => by
            by_cases hjk : j = k
            · rw [hjk, ← hy1, ← hy2, hyy]
            · exact hsm j (by omega)
          clear hyy hy1 hy2 hsm
          go_wp2_with (fail)
          go_quiet (fail)
          go_wp2_with (fail)
          go_roundw
          case rel => exact ⟨k + 1, by omega, by go_num, hsm', ⟨hbw.os, hbw.tape, hbw.output, hbw.size, hbw.block⟩⟩
          case measure => simp [intOf]; omega
        · have hz : (y1 != y2) = true := by simp [hyy]
          have hne2 : decide (l1 = l2) = false := by
            simp only [decide_eq_false_iff_not]; intro he; apply hyy; rw [hy1, hy2, he]
          replace hne2 := Lib.hid hne2
          clear hyy hy1 hy2 hsm
          go_wp2_with (fail)
          go_quiet (fail)
          go_wp2_with (fail)
          go_ret
          exact ⟨by rw [hne2.out]; rfl, ⟨hbw.os, hbw.tape, hbw.output, hbw.size, hbw.block⟩⟩
      · obtain rfl : k = l1.length := by omega
        have he : l1 = l2 := List.ext_getElem? fun j => by
          by_cases hj : j < l1.length
          · have := hsm j hj
            rw [List.getElem?_eq_getElem hj, List.getElem?_eq_getElem (by omega : j < l2.length)] at this ⊢
            simpa using this
          · rw [List.getElem?_eq_none (by omega), List.getElem?_eq_none (by omega)]
        have he2 : decide (l1 = l2) = true := by simp [he]
        replace he2 := Lib.hid he2
        clear he hsm
        go_wp2_with (fail)
        go_ret
        exact ⟨by rw [he2.out]; rfl, hbw⟩
  · have hne2 : decide (l1 = l2) = false := by
      simp only [decide_eq_false_iff_not]; intro he; exact hne (by rw [he])
    rw [hne2]
    have hz : ((l1.length : Int) != (l2.length : Int)) = true := by simp; omega
    clear hne2
    go_enter Try.func39, Try.ntmps39
    go_wp2_with (fail)
    go_ret
    exact ⟨rfl, Below.refl _ _⟩
/-- Few points and few erased positions. -/
def fewB (n m : Nat) : Bool := decide (n ≤ 20) && decide (m ≤ 30)
theorem few39_any (n m : Nat) (A1 A2 : Option Addr) (c1 c2 : Nat) (w : World) : Calls Try.prog 30 #[.slice A1 n c1, .slice A2 m c2] w fun e w' => e = .returned (.bool (fewB n m)) ∧ w = w' := by
  by_cases h1 : n ≤ 20
  · have hd1 : decide ((n : Int) ≤ 20) = true := decide_eq_true (by omega)
    have hd1' : (n : Int) ≤ 20 := by omega
    by_cases h2 : m ≤ 30
    · have hd2 : decide ((m : Int) ≤ 30) = true := decide_eq_true (by omega)
      have hd2' : (m : Int) ≤ 30 := by omega
      have hf : Hid (fewB n m = true) := by unfold Hid fewB; simp [h1, h2]
      go_enter Try.func30, Try.ntmps30
      go_wp2_with (fail)
      go_ret
      exact ⟨by rw [hf.out]; simp [h1, h2], rfl⟩
    · have hd2 : decide ((m : Int) ≤ 30) = false := decide_eq_false (by omega)
      have hf : Hid (fewB n m = false) := by unfold Hid fewB; simp [h2]
      go_enter Try.func30, Try.ntmps30
      go_wp2_with (fail)
      go_ret
      exact ⟨by rw [hf.out]; simp [h2], rfl⟩
  · have hd1 : decide ((n : Int) ≤ 20) = false := decide_eq_false (by omega)
    have hf : Hid (fewB n m = false) := by unfold Hid fewB; simp [h1]
    go_enter Try.func30, Try.ntmps30
    go_wp2_with (fail)
    go_ret
    exact ⟨by rw [hf.out]; simp [h1], rfl⟩
end Go.Proofs.Ytpflgmbcmfllgaa
