/- Layer 18: the reference's Elements. Layer 39: the law's own same and few, the reference's Received, Differ, Plus. -/
import Derived.BigQuiet
import Derived.Test.YtpflgmbcmfllgaaZeBndP
import Derived.Test.YtpflgmbcmfllgaaZeBndG
import Derived.Test.YtpflgmbcmfllgaaZeMatZ
namespace Go.Proofs.Ytpflgmbcmfllgaa
open Go.RowKit Cw

set_option maxHeartbeats 1000000 in
theorem Elems18_any (D : Desc) (msg : List Int) (K e0 : Int) (A A3 : Option Addr) (c c3 : Nat) (w : World) (hr3 : Rd w w.heap.size A3 msg) (h3 : msg.length ≤ maxLen) :
    Calls Try.prog 35 #[.agg #[.int .i64 D.p, .int .i64 D.m, .slice A D.mod.length c], .slice A3 msg.length c3, .int .i64 K, .int .i64 e0] w fun e w' => e = .returned (.int .i64 (elErr D msg K e0)) ∧ Below w.heap.size w w' := by
  have hm3 := h3
  unfold maxLen at hm3
  have hI := fun x W => Is_any D x A D.mod.length c W
  have hbx0 := Bx.new w D A D.mod.length c 24
  have hB0 : Below w.heap.size w (w.alloc (.cells #[.int .i64 D.p, .int .i64 D.m, .slice A D.mod.length c] 24)) := (Below.refl _ _).alloc (Nat.le_refl _) _
  by_cases hK : (msg.length : Int) = K
  rotate_left
  · have hv : Hid (elErr D msg K e0 = e0) := if_pos hK
    have hKb : ((msg.length : Int) != K) = true := by rw [bne_iff_ne]; exact hK
    clear hK
    go_enter Try.func35, Try.ntmps35
    go_wp2_with (fail)
    go_ret
    exact ⟨by rw [hv.out]; rfl, hB0⟩
  have hv0 : Hid (elErr D msg K e0 = if elB D msg = false then 2 else 0) := if_neg (not_not_intro hK)
  subst hK
  go_enter Try.func35, Try.ntmps35
  go_wp2_with (fail)
  go_loopw [9] (fun i wr => ∃ k : Nat, k ≤ msg.length ∧ i = .int .i64 k ∧ Hid (∀ j, j < k → 0 ≤ msg[j]?.getD 0 ∧ msg[j]?.getD 0 < (D.q : Int)) ∧ Bx wr w.heap.size D A D.mod.length c ∧ Below w.heap.size w wr ∧ w.heap.size < wr.heap.size) (fun i _ => msg.length - (intOf i).toNat)
  case atStart => exact ⟨0, by omega, rfl, fun j hj => absurd hj (by omega), hbx0, hB0, by simp⟩
  case round =>
    clear hbx0 hB0
    obtain ⟨w2, rfl⟩ : ∃ w2 : World, w2 = wr := ⟨_, rfl⟩
    obtain ⟨k, hk, rfl, hall, hbx, hB2, hns2⟩ := hrel
    by_cases hlt : k < msg.length
    · have hk0 : (0 : Int) ≤ (k : Int) := by omega
      have hk1 : (k : Int) < (msg.length : Int) := by omega
      obtain ⟨b, o, rfl, hb, hc⟩ := hr3.at_ hlt
      have hd := (hB2.cell (p := ⟨b, o + k, none⟩) hb).trans hc
      have hb' := Nat.lt_of_lt_of_le hb hB2.size
      have hI2 := fun W => hI (msg[k]?.getD 0) W
      by_cases hy : 0 ≤ msg[k]?.getD 0 ∧ msg[k]?.getD 0 < (D.q : Int)
      · have hall2 : Hid (∀ j, j < k + 1 → 0 ≤ msg[j]?.getD 0 ∧ msg[j]?.getD 0 < (D.q : Int)) := fun j hj => by
          by_cases e : j = k
          · subst e; exact hy
          · exact hall.out j (by omega)
        rw [decide_eq_true hy] at hI2
        replace hI2 := fun W => Lib.hid (hI2 W)
        clear hy hc
        generalize msg[k]?.getD 0 = y at *
        have hcc := Lib.hid (show _ ∧ _ ∧ _ ∧ _ from ⟨hbx.cells.1, hbx.cells.2.1, hbx.cells.2.2, hd⟩)
        clear hd
        go_wp2_with (fail)
        go_region_held3 (fun w' => w'.cell? ⟨w.heap.size, 0, none⟩ = some (.int .i64 D.p) ∧ w'.cell? ⟨w.heap.size, 1, none⟩ = some (.int .i64 D.m) ∧ w'.cell? ⟨w.heap.size, 2, none⟩ = some (.slice A D.mod.length c) ∧ w'.cell? ⟨b, o + k, none⟩ = some (.int .i64 y)) (first | exact hcc.out | exact hcc1.out)
          (first
            | (go_at_call 81; (with_reducible refine (hI2 _).out.mono ?_); rintro e w3 ⟨rfl, hb3⟩; have hcc1 := Lib.hid (show _ ∧ _ ∧ _ ∧ _ from ⟨(keep3 hb3 hns2 ⟨hcc.out.1, hcc.out.2.1, hcc.out.2.2.1⟩).1, (keep3 hb3 hns2 ⟨hcc.out.1, hcc.out.2.1, hcc.out.2.2.1⟩).2.1, (keep3 hb3 hns2 ⟨hcc.out.1, hcc.out.2.1, hcc.out.2.2.1⟩).2.2, (hb3.cell (p := ⟨b, o + k, none⟩) hb').trans hcc.out.2.2.2⟩)))
        go_wp2_with (fail)
        go_roundw
        case rel => exact ⟨k + 1, by omega, by go_num, hall2, ⟨hcc1.out.1, hcc1.out.2.1, hcc1.out.2.2.1⟩, hB2.drew.trans (hb3.mono hB2.size), Nat.lt_of_lt_of_le hns2 hb3.size⟩
        case measure => simp [intOf]; omega
      · have hv : Hid (elErr D msg msg.length e0 = 2) := hv0.out.trans (if_pos (elB_no hlt hy))
        rw [decide_eq_false hy] at hI2
        replace hI2 := fun W => Lib.hid (hI2 W)
        clear hy hc
        generalize msg[k]?.getD 0 = y at *
        have hcc := Lib.hid (show _ ∧ _ ∧ _ ∧ _ from ⟨hbx.cells.1, hbx.cells.2.1, hbx.cells.2.2, hd⟩)
        clear hd
        go_wp2_with (fail)
        go_region_held3 (fun w' => w'.cell? ⟨w.heap.size, 0, none⟩ = some (.int .i64 D.p) ∧ w'.cell? ⟨w.heap.size, 1, none⟩ = some (.int .i64 D.m) ∧ w'.cell? ⟨w.heap.size, 2, none⟩ = some (.slice A D.mod.length c) ∧ w'.cell? ⟨b, o + k, none⟩ = some (.int .i64 y)) (first | exact hcc.out | exact hcc1.out)
          (first
            | (go_at_call 81; (with_reducible refine (hI2 _).out.mono ?_); rintro e w3 ⟨rfl, hb3⟩; have hcc1 := Lib.hid (show _ ∧ _ ∧ _ ∧ _ from ⟨(keep3 hb3 hns2 ⟨hcc.out.1, hcc.out.2.1, hcc.out.2.2.1⟩).1, (keep3 hb3 hns2 ⟨hcc.out.1, hcc.out.2.1, hcc.out.2.2.1⟩).2.1, (keep3 hb3 hns2 ⟨hcc.out.1, hcc.out.2.1, hcc.out.2.2.1⟩).2.2, (hb3.cell (p := ⟨b, o + k, none⟩) hb').trans hcc.out.2.2.2⟩)))
        go_wp2_with (fail)
        go_ret
        exact ⟨by rw [hv.out]; rfl, hB2.drew.trans (hb3.mono hB2.size)⟩
    · obtain rfl : k = msg.length := by omega
      have hv : Hid (elErr D msg msg.length e0 = 0) := hv0.out.trans (if_neg (by rw [elB_iff.2 hall.out]; simp))
      go_wp2_with (fail)
      go_ret
      exact ⟨by rw [hv.out]; rfl, hB2⟩
end Go.Proofs.Ytpflgmbcmfllgaa

namespace Go.Proofs.Ytpflgmbcmfllgaa
open Go.RowKit Cw
attribute [local go_sem] Oper.semAt_some

/-- A law's end: true, and nothing that was there has turned. -/
def LawEnd (w : World) (e : Ending) (w' : World) : Prop := e = .returned (.bool true) ∧ Below w.heap.size w w'

set_option maxHeartbeats 1000000 in
theorem same39_any (l1 l2 : List Int) (A1 A2 : Option Addr) (c1 c2 : Nat) (w : World) (h1 : Rd w w.heap.size A1 l1) (h2 : Rd w w.heap.size A2 l2) (hl1 : l1.length ≤ 1000000) (_hl2 : l2.length ≤ 1000000) :
    Calls Try.prog 39 #[.slice A1 l1.length c1, .slice A2 l2.length c2] w fun e w' => e = .returned (.bool (decide (l1 = l2))) ∧ Below w.heap.size w w' := by
  by_cases hne : l1.length = l2.length
  · rw [← hne]
    go_enter Try.func39, Try.ntmps39
    go_wp2_with (fail)
    go_loopw [13, 5] (fun i _ wr => ∃ k : Nat, k ≤ l1.length ∧ i = .int .i64 k ∧ (∀ j, j < k → l1[j]?.getD 0 = l2[j]?.getD 0) ∧ Below w.heap.size w wr) (fun i _ _ => l1.length - (intOf i).toNat)
    case atStart => exact ⟨0, by omega, rfl, fun j hj => absurd hj (by omega), Below.refl _ _⟩
    case round =>
      obtain ⟨k, hk, rfl, hsm, hbw⟩ := hrel
      by_cases hlt : k < l1.length
      · obtain ⟨b1, o1, rfl, hb1, hc1⟩ := h1.at_ hlt
        obtain ⟨b2, o2, rfl, hb2, hc2⟩ := h2.at_ (by omega : k < l2.length)
        have hd1 := (hbw.cell (p := ⟨b1, o1 + k, none⟩) hb1).trans hc1
        have hd2 := (hbw.cell (p := ⟨b2, o2 + k, none⟩) hb2).trans hc2
        obtain ⟨y1, hy1⟩ : ∃ y, y = l1[k]?.getD 0 := ⟨_, rfl⟩
        obtain ⟨y2, hy2⟩ : ∃ y, y = l2[k]?.getD 0 := ⟨_, rfl⟩
        rw [← hy1] at hd1; rw [← hy2] at hd2
        clear hc1 hc2
        by_cases hyy : y1 = y2
        · have hz : (y1 != y2) = false := by simp [hyy]
          have hsm' : ∀ j, j < k + 1 → l1[j]?.getD 0 = l2[j]?.getD 0 := fun j hj => by
            by_cases hjk : j = k
            · rw [hjk, ← hy1, ← hy2, hyy]
            · exact hsm j (by omega)
          clear hyy hy1 hy2 hsm
          go_wp2_with (fail)
          go_quiet (fail)
          go_wp2_with (fail)
          go_roundw
          case rel => exact ⟨k + 1, by omega, by go_num, hsm', ⟨hbw.os, hbw.tape, hbw.output, hbw.size, hbw.block⟩⟩
          case measure => simp [intOf]; omega
        · have hz : (y1 != y2) = true := by simp [hyy]
          have hne2 : decide (l1 = l2) = false := by
            simp only [decide_eq_false_iff_not]; intro he; apply hyy; rw [hy1, hy2, he]
          replace hne2 := Lib.hid hne2
          clear hyy hy1 hy2 hsm
          go_wp2_with (fail)
          go_quiet (fail)
          go_wp2_with (fail)
          go_ret
          exact ⟨by rw [hne2.out]; rfl, ⟨hbw.os, hbw.tape, hbw.output, hbw.size, hbw.block⟩⟩
      · obtain rfl : k = l1.length := by omega
        have he : l1 = l2 := List.ext_getElem? fun j => by
          by_cases hj : j < l1.length
          · have := hsm j hj
            rw [List.getElem?_eq_getElem hj, List.getElem?_eq_getElem (by omega : j < l2.length)] at this ⊢
            simpa using this
          · rw [List.getElem?_eq_none (by omega), List.getElem?_eq_none (by omega)]
        have he2 : decide (l1 = l2) = true := by simp [he]
        replace he2 := Lib.hid he2
        clear he hsm
        go_wp2_with (fail)
        go_ret
        exact ⟨by rw [he2.out]; rfl, hbw⟩
  · have hne2 : decide (l1 = l2) = false := by
      simp only [decide_eq_false_iff_not]; intro he; exact hne (by rw [he])
    rw [hne2]
    have hz : ((l1.length : Int) != (l2.length : Int)) = true := by simp; omega
    clear hne2
    go_enter Try.func39, Try.ntmps39
    go_wp2_with (fail)
    go_ret
    exact ⟨rfl, Below.refl _ _⟩
end Go.Proofs.Ytpflgmbcmfllgaa
