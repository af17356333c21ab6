/- The law's own: same (two lists). Layer 18: alive. Layer 18: alive. GrsChecks: the walk. GrsEncodes: the walk. -/
import Derived.Test.YtemanlkgfhmclaaGrsE2
import Derived.Test.YtemanlkgfhmclaaGrsH
import Derived.Test.YtemanlkgfhmclaaD4
/-! The law's own: same (two lists) -/
namespace Go.Proofs.Ytemanlkgfhmclaa
open Go.RowKit Cw
attribute [local go_sem] Oper.semAt_some

set_option maxHeartbeats 1000000 in
theorem same_any (l1 l2 : List Int) (A1 A2 : Option Addr) (c1 c2 : Nat) (w : World) (h1 : Rd w w.heap.size A1 l1) (h2 : Rd w w.heap.size A2 l2) (hl1 : l1.length ≤ 1000000) (_hl2 : l2.length ≤ 1000000) :
    Calls Try.prog 19 #[.slice A1 l1.length c1, .slice A2 l2.length c2] w fun e w' => e = .returned (.bool (decide (l1 = l2))) ∧ Below w.heap.size w w' := by
  by_cases hne : l1.length = l2.length
  · rw [← hne]
    go_enter Try.func19, Try.ntmps19
    go_wp2_with (fail)
    go_loopw [13, 5] (fun i _ wr => ∃ k : Nat, k ≤ l1.length ∧ i = .int .i64 k ∧ (∀ j, j < k → l1[j]?.getD 0 = l2[j]?.getD 0) ∧ Below w.heap.size w wr) (fun i _ _ => l1.length - (intOf i).toNat)
    case atStart => exact ⟨0, by omega, rfl, fun j hj => absurd hj (by omega), Below.refl _ _⟩
    case round =>
      obtain ⟨k, hk, rfl, hsm, hbw⟩ := hrel
      by_cases hlt : k < l1.length
      · obtain ⟨b1, o1, rfl, hb1, hc1⟩ := h1.at_ hlt
        obtain ⟨b2, o2, rfl, hb2, hc2⟩ := h2.at_ (by omega : k < l2.length)
        have hd1 := (hbw.cell (p := ⟨b1, o1 + k, none⟩) hb1).trans hc1
        have hd2 := (hbw.cell (p := ⟨b2, o2 + k, none⟩) hb2).trans hc2
        obtain ⟨y1, hy1⟩ : ∃ y, y = l1[k]?.getD 0 := ⟨_, rfl⟩
        obtain ⟨y2, hy2⟩ : ∃ y, y = l2[k]?.getD 0 := ⟨_, rfl⟩
        rw [← hy1] at hd1; rw [← hy2] at hd2
        clear hc1 hc2
        by_cases hyy : y1 = y2
        · have hz : (y1 != y2) = false := by simp [hyy]
          have hsm' : ∀ j, j < k + 1 → l1[j]?.getD 0 = l2[j]?.getD 0 := fun j hj => by
            by_cases hjk : j = k
            · rw [hjk, ← hy1, ← hy2, hyy]
            · exact hsm j (by omega)
          clear hyy hy1 hy2 hsm
          go_wp2_with (fail)
          go_quiet (fail)
          go_wp2_with (fail)
          go_roundw
          case rel => exact ⟨k + 1, by omega, by go_num, hsm', ⟨hbw.os, hbw.tape, hbw.output, hbw.size, hbw.block⟩⟩
          case measure => simp [intOf]; omega
        · have hz : (y1 != y2) = true := by simp [hyy]
          have hne2 : decide (l1 = l2) = false := by
            simp only [decide_eq_false_iff_not]; intro he; apply hyy; rw [hy1, hy2, he]
          replace hne2 := Lib.hid hne2
          clear hyy hy1 hy2 hsm
          go_wp2_with (fail)
          go_quiet (fail)
          go_wp2_with (fail)
          go_ret
          exact ⟨by rw [hne2.out]; rfl, ⟨hbw.os, hbw.tape, hbw.output, hbw.size, hbw.block⟩⟩
      · obtain rfl : k = l1.length := by omega
        have he : l1 = l2 := List.ext_getElem? fun j => by
          by_cases hj : j < l1.length
          · have := hsm j hj
            rw [List.getElem?_eq_getElem hj, List.getElem?_eq_getElem (by omega : j < l2.length)] at this ⊢
            simpa using this
          · rw [List.getElem?_eq_none (by omega), List.getElem?_eq_none (by omega)]
        have he2 : decide (l1 = l2) = true := by simp [he]
        replace he2 := Lib.hid he2
        clear he hsm
        go_wp2_with (fail)
        go_ret
        exact ⟨by rw [he2.out]; rfl, hbw⟩
  · have hne2 : decide (l1 = l2) = false := by
      simp only [decide_eq_false_iff_not]; intro he; exact hne (by rw [he])
    rw [hne2]
    have hz : ((l1.length : Int) != (l2.length : Int)) = true := by simp; omega
    clear hne2
    go_enter Try.func19, Try.ntmps19
    go_wp2_with (fail)
    go_ret
    exact ⟨rfl, Below.refl _ _⟩
end Go.Proofs.Ytemanlkgfhmclaa

/-! Layer 18: alive -/
namespace Go.Proofs.Ytemanlkgfhmclaa
open Go.RowKit Cw
open Cw.CField (inv)

theorem std4 : stdErr D4 3 2 = 0 := by decide +kernel
theorem enc4 : encErr D4 2 (lst 3 fun i => (i : Int)) (lst 3 fun _ => 1) [1, 1] = 0 := by decide +kernel
theorem chk4 : gchkD D4 2 (lst 3 fun i => (i : Int)) (lst 3 fun _ => 1) = 0 := by decide +kernel
theorem word4 : wordL D4 (lst 3 fun i => (i : Int)) (lst 3 fun _ => 1) [1, 1] = [1, 0, 3] := by decide +kernel
end Go.Proofs.Ytemanlkgfhmclaa

/-! Layer 18: alive -/
namespace Go.Proofs.Ytemanlkgfhmclaa
open Go.RowKit Cw
open Cw.CField (inv)

theorem dual4 (F : FD) (hF : F.toDesc = D4) : dualL F (lst 3 fun i => (i : Int)) (lst 3 fun _ => 1) = [3, 2, 1] := by
  have key : ∀ i : Fin 3, rcode (dprod D4 (lst 3 fun i => (i : Int)) i.val (eli D4 ((lst 3 fun _ => (1 : Int))[i.val]?.getD 0)) 3 * rel D4 ([3, 2, 1].getD i.val 0)) = rcode (1 : R D4) := by decide +kernel
  have hq : F.toDesc.q = 4 := by rw [hF]; rfl
  rw [← hF] at key
  have h : ∀ i : Fin 3, dualV F (lst 3 fun i => (i : Int)) (lst 3 fun _ => 1) i.val = (([3, 2, 1].getD i.val 0 : Nat) : Int) := fun i => by
    have h1 := inv_unique (rcode_inj (key i))
    unfold dualV
    rw [show (lst 3 fun i => (i : Int)).length = 3 from rfl, ← h1]
    unfold ci
    rw [rcode_rel (by rw [hq]; match i with | 0 => decide | 1 => decide | 2 => decide)]
  have e : dualL F (lst 3 fun i => (i : Int)) (lst 3 fun _ => 1) = lst 3 fun i => (([3, 2, 1].getD i 0 : Nat) : Int) := lst_congr fun i hi => h ⟨i, hi⟩
  rw [e]; rfl

set_option maxHeartbeats 2000000 in
theorem alive_any (w : World) : Calls Try.prog 5 #[] w fun e w' => e = .returned (.bool true) ∧ Below w.heap.size w w' := by
  have hS := fun A c W hr => Lib.hid (gStd_D D4 3 2 A c W hr good4)
  go_enter Try.func5, Try.ntmps5
  go_wp2_with (fail)
  have hrd : Rd (w.alloc (.cells #[.int .i64 1, .int .i64 1] 3)) (w.alloc (.cells #[.int .i64 1, .int .i64 1] 3)).heap.size (some ⟨w.heap.size, 0, none⟩) (modL D4) := fun _ => ⟨w.heap.size, 0, rfl, by simp, fun j hj => by
    have hj4 : j < 2 := hj
    rcases (by omega : j = 0 ∨ j = 1) with rfl | rfl <;> simp [go_sem] <;> rfl⟩
  have hB0 : Below w.heap.size w (w.alloc (.cells #[.int .i64 1, .int .i64 1] 3)) := (Below.refl _ _).alloc (Nat.le_refl _) _
  refine (hS (some ⟨w.heap.size, 0, none⟩) 2 _ hrd).out.mono ?_
  rintro e w1 ⟨hb1, ⟨h, -⟩ | ⟨-, A3, c3, A1, c1, A2, c2, rfl, hr3, hr1, hr2, hc1, hc1'⟩⟩
  · exact absurd std4 h
  rw [show (3 : Int).toNat = 3 from rfl] at *
  have hB1 := hB0.trans (hb1.mono hB0.size)
  obtain ⟨pts, hpts⟩ : ∃ pts, pts = lst 3 fun i => (i : Int) := ⟨_, rfl⟩
  obtain ⟨mul, hmul⟩ : ∃ mul, mul = lst 3 fun _ => (1 : Int) := ⟨_, rfl⟩
  rw [← hpts] at hr1
  rw [← hmul] at hr2
  have hpl : pts.length = 3 := by rw [hpts]; rfl
  have hml : mul.length = 3 := by rw [hmul]; rfl
  have hE := fun A3' c3' W a b cc d => gEnc_D D4 2 pts mul A3 A1 A2 c3 c1 c2 [1, 1] A3' c3' W a good4 b cc (by rw [hpl]; exact hc1) hc1' (by rw [hml]; decide) d (by decide)
  rw [hpl, hml] at hE
  have hD := fun W a b cc => gDual_D D4 2 pts mul A3 A1 A2 c3 c1 c2 W a good4 b cc (by rw [hpl]; exact hc1) hc1' (by rw [hml]; decide)
  rw [hpl, hml] at hD
  replace hE := fun A3' c3' W a b cc d => Lib.hid (hE A3' c3' W a b cc d)
  replace hD := fun W a b cc => Lib.hid (hD W a b cc)
  have hX1 : Below w1.heap.size w1 (w1.alloc (.cells #[.int .i64 D4.p, .int .i64 D4.m, .slice A3 D4.mod.length c3, .int .i64 2, .slice A1 3 c1, .slice A2 3 c2] 26)) := (Below.refl _ _).alloc (Nat.le_refl _) _
  obtain ⟨X2, hX2⟩ : ∃ X2, X2 = (w1.alloc (.cells #[.int .i64 D4.p, .int .i64 D4.m, .slice A3 D4.mod.length c3, .int .i64 2, .slice A1 3 c1, .slice A2 3 c2] 26)).alloc (.cells #[.int .i64 1, .int .i64 1] 3) := ⟨_, rfl⟩
  have hb2 : Below w1.heap.size w1 X2 := by rw [hX2]; exact hX1.alloc hX1.size _
  have hm2 : Rd X2 X2.heap.size (some ⟨w1.heap.size + 1, 0, none⟩) [1, 1] := by
    rw [hX2]; exact fun _ => ⟨w1.heap.size + 1, 0, rfl, by simp, fun j hj => by
      have hj4 : j < 2 := hj
      rcases (by omega : j = 0 ∨ j = 1) with rfl | rfl <;> simp [go_sem]⟩
  have hs2 : X2.heap.size = w1.heap.size + 2 := by rw [hX2]; simp
  have kk : Six X2 w1.heap.size (.int .i64 D4.p) (.int .i64 D4.m) (.slice A3 D4.mod.length c3) (.int .i64 2) (.slice A1 3 c1) (.slice A2 3 c2) := by
    rw [hX2]; exact (Six.new w1 _ _ _ _ _ _ _).keep ((Below.refl _ _).alloc (Nat.le_refl _) _) (by simp)
  have hE2 := hE (some ⟨w1.heap.size + 1, 0, none⟩) 2 X2 ((hr3.below hb2).more hb2.size) ((hr1.below hb2).more hb2.size) ((hr2.below hb2).more hb2.size) hm2
  replace hX2 := Lib.hid hX2
  go_wp2_with (fail)
  rw [← hX2.out]
  refine hE2.out.mono ?_
  rintro e w2 ⟨hb3, ⟨h, -⟩ | ⟨-, A4, rfl, hr4⟩⟩
  · exact absurd (by rw [hpts, hmul]; exact enc4) h
  have hs3 := hb3.size
  have hB2 := hB1.trans (hb2.mono hB1.size)
  have hB3 := hB2.trans (hb3.mono hB2.size)
  have k3 := kk.keep hb3 (by omega)
  have hb23 := hb2.trans (hb3.mono hb2.size)
  have hD2 := hD w2 ((hr3.below hb23).more hb23.size) ((hr1.below hb23).more hb23.size) ((hr2.below hb23).more hb23.size)
  have hwl : wordL D4 pts mul [1, 1] = [1, 0, 3] := by rw [hpts, hmul]; exact word4
  rw [hwl] at hr4 ⊢
  obtain ⟨a0, a1, a2, a3, a4, a5, f0, f1, f2, f3, f4, f5⟩ := k3
  go_wp2_with (fail)
  refine hD2.out.mono ?_
  rintro e w3 ⟨hb4, ⟨h, -⟩ | ⟨-, F, hF, A5, c5, A6, c6, A7, c7, rfl, hr5, hr6, hr7, -, -⟩⟩
  · exact absurd (by rw [hpts, hmul]; exact chk4) h
  have hdl : dualL F pts mul = [3, 2, 1] := by rw [hpts, hmul]; exact dual4 F hF
  rw [hdl] at hr7
  rw [hpl] at *
  have hB4 := hB3.trans (hb4.mono hB3.size)
  go_wp2_with (fail)
  obtain ⟨X5, hX5⟩ : ∃ X5, X5 = (w3.alloc (.cells #[.int .i64 D4.p, .int .i64 D4.m, .slice A5 D4.mod.length c5, .int .i64 1, .slice A6 3 c6, .slice A7 3 c7] 26)).alloc (.cells #[.int .i64 1, .int .i64 0, .int .i64 3] 3) := ⟨_, rfl⟩
  have hb5 : Below w3.heap.size w3 X5 := by rw [hX5]; exact ((Below.refl _ _).alloc (Nat.le_refl _) _).alloc (by simp) _
  have hs5 : X5.heap.size = w3.heap.size + 2 := by rw [hX5]; simp
  have hm5 : Rd X5 X5.heap.size (some ⟨w3.heap.size + 1, 0, none⟩) [1, 0, 3] := by
    rw [hX5]; exact fun _ => ⟨w3.heap.size + 1, 0, rfl, by simp, fun j hj => by
      have hj4 : j < 3 := hj
      rcases (by omega : j = 0 ∨ j = 1 ∨ j = 2) with rfl | rfl | rfl <;> simp [go_sem]⟩
  have k5 : Six X5 w3.heap.size (.int .i64 D4.p) (.int .i64 D4.m) (.slice A5 D4.mod.length c5) (.int .i64 1) (.slice A6 3 c6) (.slice A7 3 c7) := by
    rw [hX5]; exact (Six.new w3 _ _ _ _ _ _ _).keep ((Below.refl _ _).alloc (Nat.le_refl _) _) (by simp)
  rw [← hX5]
  replace hX5 := Lib.hid hX5
  have hb45 := (hb4.trans (hb5.mono hb4.size))
  have hr45 := (hr4.below hb45).more hb45.size
  have hsm := same_any [1, 0, 3] [1, 0, 3] A4 (some ⟨w3.heap.size + 1, 0, none⟩) 3 3 X5 hr45 hm5 (by decide) (by decide)
  refine hsm.mono ?_
  rintro e w6 ⟨rfl, hb6⟩
  have hs6 := hb6.size
  have k6 := k5.keep hb6 (by omega)
  have hB6 := ((hB4.trans (hb5.mono hB4.size)).trans (hb6.mono (Nat.le_trans hB4.size hb5.size)))
  obtain ⟨b0, b1, b2, b3, b4, b5, -⟩ := k6
  go_wp2_with (fail)
  have hb7 : Below w6.heap.size w6 (w6.alloc (.cells #[.int .i64 3, .int .i64 2, .int .i64 1] 3)) := (Below.refl _ _).alloc (Nat.le_refl _) _
  have hm7 : Rd (w6.alloc (.cells #[.int .i64 3, .int .i64 2, .int .i64 1] 3)) (w6.alloc (.cells #[.int .i64 3, .int .i64 2, .int .i64 1] 3)).heap.size (some ⟨w6.heap.size, 0, none⟩) [3, 2, 1] :=
    fun _ => ⟨w6.heap.size, 0, rfl, by simp, fun j hj => by
      have hj4 : j < 3 := hj
      rcases (by omega : j = 0 ∨ j = 1 ∨ j = 2) with rfl | rfl | rfl <;> simp [go_sem]⟩
  have hb57 := (hb5.trans (hb6.mono hb5.size)).trans (hb7.mono (Nat.le_trans hb5.size hb6.size))
  have hsm2 := same_any [3, 2, 1] [3, 2, 1] A7 (some ⟨w6.heap.size, 0, none⟩) c7 3 _ ((hr7.below hb57).more hb57.size) hm7 (by decide) (by decide)
  refine hsm2.mono ?_
  rintro e w8 ⟨rfl, hb8⟩
  go_wp2_with (fail)
  go_ret
  exact ⟨rfl, (hB6.trans (hb7.mono hB6.size)).trans (hb8.mono (Nat.le_trans hB6.size hb7.size))⟩
end Go.Proofs.Ytemanlkgfhmclaa

/-! GrsChecks: the walk -/
namespace Go.Proofs.Ytemanlkgfhmclaa
open Go.RowKit Cw

/-- A law's end: true, and nothing that was there has turned. -/
def LawEnd (w : World) (e : Ending) (w' : World) : Prop := e = .returned (.bool true) ∧ Below w.heap.size w w'

end Go.Proofs.Ytemanlkgfhmclaa

/-! GrsEncodes: the walk -/
namespace Go.Proofs.Ytemanlkgfhmclaa
open Go.RowKit Cw

theorem same_refl (l : List Int) (A1 A2 : Option Addr) (c1 c2 : Nat) (w : World) (h1 : Rd w w.heap.size A1 l) (h2 : Rd w w.heap.size A2 l) (hl : l.length ≤ 1000000) :
    Calls Try.prog 19 #[.slice A1 l.length c1, .slice A2 l.length c2] w fun e w' => e = .returned (.bool true) ∧ Below w.heap.size w w' :=
  (same_any l l A1 A2 c1 c2 w h1 h2 hl hl).mono fun e w' h => ⟨by rw [h.1]; simp, h.2⟩

end Go.Proofs.Ytemanlkgfhmclaa
