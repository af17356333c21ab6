/- Layers 5 and 38 of the program: Mul of two factors, Degree, Sub, euclid. -/
import Derived.Test.YtpflgmbcmfllgaaZdGpoC
import Derived.Test.YtpflgmbcmfllgaaZdGaoL
import Derived.Test.YtpflgmbcmfllgaaZdDivW
namespace Go.Proofs.Ytpflgmbcmfllgaa
open Go.RowKit Cw
open Cw.CField (inv)
attribute [local go_sem] Oper.semAt_some

theorem DivI.can {D : Desc} {p q quo rem : List Int} (h : DivI D p q quo rem) : DivI D (canI D p) (canI D q) quo rem :=
  ⟨h.cq, h.cr, fun s => by rw [cfR_canI, cfR_canI]; exact h.eq s, by rw [canI_canI]; exact h.lt⟩

set_option maxHeartbeats 1000000 in
theorem gDegree_any (F : FD) (p : List Int) (A1 : Option Addr) (c1 g : Nat) (w : World) (hg : GF w w.heap.size g F) (hr1 : Rd w w.heap.size A1 p) (hl : p.length ≤ 70000) :
    Calls Try.prog 174 #[.pointer (some ⟨g, 0, none⟩), .slice A1 p.length c1] w fun e w' => e = .returned (.int .i64 (((canI F.toDesc p).length : Int) - 1)) ∧ Below w.heap.size w w' := by
  have hC := Lib.hid (gCanonP_any F p A1 c1 g w hg hr1 hl)
  have hle := canI_le F.toDesc p
  obtain ⟨n, hn⟩ : ∃ n, n = (canI F.toDesc p).length := ⟨_, rfl⟩
  unfold GivesR at hC
  rw [← hn] at hC hle
  rw [← hn]
  have hw : IntKind.i64.wrap ((n : Int) - 1) = (n : Int) - 1 := IntWalk.i64_in _ (by omega)
  replace hn := Lib.hid hn
  go_enter Try.func174, Try.ntmps174
  go_wp2_with (fail)
  (with_reducible refine hC.out.mono ?_)
  rintro e w1 ⟨A', c', rfl, -, -, -, -, hb1⟩
  go_wp2_with (fail)
  go_ret
  exact ⟨rfl, hb1⟩

set_option maxHeartbeats 1000000 in
theorem gSubP_any (F : FD) (p q : List Int) (A1 A2 : Option Addr) (c1 c2 g : Nat) (w : World) (hg : GF w w.heap.size g F) (hr1 : Rd w w.heap.size A1 p) (hr2 : Rd w w.heap.size A2 q) (hl1 : p.length ≤ 70000) (hl2 : q.length ≤ 70000) :
    Calls Try.prog 175 #[.pointer (some ⟨g, 0, none⟩), .slice A1 p.length c1, .slice A2 q.length c2] w (GivesO (combL F.toDesc p (ci (-(1 : R F.toDesc))) q) w) := by
  have hN := gNeg_any F 1 g w hg
  rw [eli_one] at hN
  obtain ⟨m, hm⟩ : ∃ m, m = ci (-(1 : R F.toDesc)) := ⟨_, rfl⟩
  rw [← hm] at hN
  rw [← hm]
  have hC := fun W a b c => Lib.hid (gComb_any F p q m A1 A2 c1 c2 g W a b c hl1 hl2)
  replace hN := Lib.hid hN
  replace hm := Lib.hid hm
  unfold GivesO at hC ⊢
  go_enter Try.func175, Try.ntmps175
  go_wp2_with (fail)
  (with_reducible refine hN.out.mono ?_)
  rintro e w1 ⟨rfl, hb1⟩
  have hC1 := hC w1 ((hg.below hb1).more hb1.size) ((hr1.below hb1).more hb1.size) ((hr2.below hb1).more hb1.size)
  go_wp2_with (fail)
  (with_reducible refine hC1.out.mono ?_)
  rintro e w2 ⟨A', c', rfl, ho, hb2⟩
  go_wp2_with (fail)
  go_ret
  exact ⟨A', c', rfl, ho.base hb1.size, hb1.trans (hb2.mono hb1.size)⟩

/-- The product of the first k of two factors. -/
def mulK (D : Desc) (p q : List Int) : Nat → List Int
  | 0 => [1]
  | 1 => prodL D [1] p
  | _ + 2 => prodL D (prodL D [1] p) q
theorem mulK_le (D : Desc) (p q : List Int) (k : Nat) : (mulK D p q k).length ≤ p.length + q.length + 1 := by
  have h1 := prodL_le D [1] p
  have h2 := prodL_le D (prodL D [1] p) q
  match k with
  | 0 => simp [mulK]
  | 1 => simp [mulK] at *; omega
  | k + 2 => simp [mulK] at *; omega
set_option maxHeartbeats 2000000 in
theorem gMul2_any (F : FD) (p q : List Int) (A1 A2 : Option Addr) (c1 c2 g b : Nat) (w : World) (hg : GF w w.heap.size g F) (hr1 : Rd w w.heap.size A1 p) (hr2 : Rd w w.heap.size A2 q) (hl1 : p.length ≤ 9000) (hl2 : q.length ≤ 9000) (hb : b < w.heap.size) (hb0 : w.cell? ⟨b, 0, none⟩ = some (.slice A1 p.length c1)) (hb1 : w.cell? ⟨b, 1, none⟩ = some (.slice A2 q.length c2)) :
    Calls Try.prog 176 #[.pointer (some ⟨g, 0, none⟩), .slice (some ⟨b, 0, none⟩) 2 2] w (GivesR (prodL F.toDesc (prodL F.toDesc [1] p) q) w) := by
  have hP1 := fun A c W a d e f h => gProd_any F (mulK F.toDesc p q 0) p A A1 c c1 g W a d e f h
  have hP2 := fun A c W a d e f h => gProd_any F (mulK F.toDesc p q 1) q A A2 c c2 g W a d e f h
  rw [show prodL F.toDesc (mulK F.toDesc p q 0) p = mulK F.toDesc p q 1 from rfl] at hP1
  rw [show prodL F.toDesc (mulK F.toDesc p q 1) q = mulK F.toDesc p q 2 from rfl] at hP2
  rw [show prodL F.toDesc (prodL F.toDesc [1] p) q = mulK F.toDesc p q 2 from rfl]
  have hle := mulK_le F.toDesc p q
  obtain ⟨Y, hY⟩ : ∃ Y, Y = w.alloc (.cells #[.int .i64 1] 3) := ⟨_, rfl⟩
  have hB : Below w.heap.size w Y := by rw [hY]; exact (Below.refl _ _).alloc (Nat.le_refl _) _
  have hrd : Rd Y Y.heap.size (some ⟨w.heap.size, 0, none⟩) (mulK F.toDesc p q 0) := by rw [hY]; exact (IB.new w [1]).rd
  have h01 : (mulK F.toDesc p q 0).length = 1 := rfl
  have hmx : (mulK F.toDesc p q 2).length ≤ maxLen := by have := hle 2; unfold maxLen; omega
  generalize mulK F.toDesc p q = X at *
  replace hY := Lib.hid hY
  unfold GivesR at *
  replace hP1 := fun A c W a d e f h => Lib.hid (hP1 A c W a d e f h)
  replace hP2 := fun A c W a d e f h => Lib.hid (hP2 A c W a d e f h)
  go_enter Try.func176, Try.ntmps176
  go_wp2_with (fail)
  rw [← hY.out]
  go_loopw [11, 5] (fun i v wr => ∃ k : Nat, k ≤ 2 ∧ i = .int .i64 k ∧ (∃ A' c', v = .slice A' (X k).length c' ∧ Rd wr wr.heap.size A' (X k) ∧ (X k).length ≤ c' ∧ c' ≤ maxLen ∧ (∀ a, A' = some a → w.heap.size ≤ a.block)) ∧ Below w.heap.size w wr) (fun i _ _ => 2 - (intOf i).toNat)
  case atStart => exact ⟨0, by omega, rfl, ⟨_, _, by rw [h01], hrd, by rw [h01]; exact Nat.le_refl _, by unfold maxLen; omega, fun a e => by cases e; exact Nat.le_refl _⟩, hB⟩
  case round =>
    clear hrd hB hY
    obtain ⟨w2, rfl⟩ : ∃ w2 : World, w2 = wr := ⟨_, rfl⟩
    obtain ⟨k, hk, rfl, ⟨A', c', rfl, hrd, hc1, hc2, hA'⟩, hbw⟩ := hrel
    have hg2 := (hg.below hbw).more hbw.size
    have hx0 := (hbw.cell (p := ⟨b, 0, none⟩) hb).trans hb0
    have hx1 := (hbw.cell (p := ⟨b, 1, none⟩) hb).trans hb1
    have hlk := hle k
    rcases (show k = 0 ∨ k = 1 ∨ k = 2 by omega) with rfl | rfl | rfl
    · have hM := hP1 A' c' w2 hg2 hrd ((hr1.below hbw).more hbw.size) (by omega) (by omega)
      clear hb0 hb1 h01
      go_wp2_with (fail)
      (with_reducible refine hM.out.mono ?_)
      rintro e w4 ⟨A4, c4, rfl, hr4, hc4, hc4', hA4, hb4⟩
      go_wp2_with (fail)
      go_roundw
      case rel => exact ⟨1, by omega, by go_num, ⟨_, _, rfl, hr4, hc4, hc4', fun a e => Nat.le_trans hbw.size (hA4 a e)⟩, hbw.trans (hb4.mono hbw.size)⟩
      case measure => simp [intOf]
    · have hM := hP2 A' c' w2 hg2 hrd ((hr2.below hbw).more hbw.size) (by omega) (by omega)
      clear hb0 hb1 h01
      go_wp2_with (fail)
      (with_reducible refine hM.out.mono ?_)
      rintro e w4 ⟨A4, c4, rfl, hr4, hc4, hc4', hA4, hb4⟩
      go_wp2_with (fail)
      go_roundw
      case rel => exact ⟨2, by omega, by go_num, ⟨_, _, rfl, hr4, hc4, hc4', fun a e => Nat.le_trans hbw.size (hA4 a e)⟩, hbw.trans (hb4.mono hbw.size)⟩
      case measure => simp [intOf]
    · clear hb0 hb1 h01
      go_wp2_with (fail)
      go_ret
      exact ⟨A', c', rfl, hrd, hc1, hc2, hA', hbw⟩
end Go.Proofs.Ytpflgmbcmfllgaa
