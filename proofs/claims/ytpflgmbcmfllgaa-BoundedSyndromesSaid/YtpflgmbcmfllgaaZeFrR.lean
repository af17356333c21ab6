/- The reference's polynomials: FromRoots. Layer 5 of the program: FromRoots. Plain law of layer 18: the codeword whose message polynomial is 0 at given points. No Go here. -/
import Derived.Test.YtpflgmbcmfllgaaZeGpoC
import Derived.Test.YtpflgmbcmfllgaaZeGrsA
import Derived.Test.YtpflgmbcmfllgaaZeGrsT
namespace Go.Proofs.Ytpflgmbcmfllgaa
open Go.RowKit Cw

/-- The coefficients of the product of X - r over the first k entries of a list. -/
noncomputable def frK (F : FD) (l : List Int) (k : Nat) : List Int := lst (k + 1) fun t => ci (lcf (cfR F.toDesc l) l.length k t)
theorem frK_length (F : FD) (l : List Int) (k : Nat) : (frK F l k).length = k + 1 := lst_length _ _
theorem ldeg_le {i k : Nat} (h : k ≤ i) : ldeg i k = k := by unfold ldeg; rw [if_neg (by omega)]
theorem cfR_frK (F : FD) (l : List Int) {k : Nat} (hk : k ≤ l.length) : cfR F.toDesc (frK F l k) = lcf (cfR F.toDesc l) l.length k := funext fun i => by
  unfold frK
  by_cases hi : i < k + 1
  · show eli F.toDesc ((lst _ _)[i]?.getD 0) = _
    rw [lst_get _ hi, eli_ci]
  · rw [cfR_out _ (by rw [lst_length]; omega), lcf_high _ _ _ _ (by rw [ldeg_le hk]; omega)]
theorem frK_zero (F : FD) (l : List Int) : frK F l 0 = [1] := by
  unfold frK
  show [ci (lcf (cfR F.toDesc l) l.length 0 0)] = [1]
  have e : lcf (cfR F.toDesc l) l.length 0 0 = 1 := by
    show (if (0 : Nat) = 0 then (1 : R F.toDesc) else 0) = 1
    rw [if_pos rfl]
  rw [e, ci_one]
theorem frK_succ (F : FD) (l : List Int) {k : Nat} (hk : k < l.length) : mulI F.toDesc (frK F l k) [ci (-cfR F.toDesc l k), 1] = frK F l (k + 1) := by
  have e : conv (cfR F.toDesc (frK F l k)) (cfR F.toDesc [ci (-cfR F.toDesc l k), 1]) = lcf (cfR F.toDesc l) l.length (k + 1) := funext fun t => by
    rw [cfR_frK F l (by omega), lcf_other _ (by omega : k ≠ l.length)]
    exact conv_xm _ _ _ (eli_ci _) eli_one (fun s hs => cfR_out _ (by simpa using hs)) t
  unfold mulI
  rw [e, frK_length]
  have h1 : lcf (cfR F.toDesc l) l.length (k + 1) (k + 1) = 1 := by
    have := lcf_top (cfR F.toDesc l) l.length (k + 1)
    rwa [ldeg_le (by omega)] at this
  rw [canL_more (n := k + 1 + 1) (by simp) (fun i h2 h3 => by rw [lcf_high _ _ _ _ (by rw [ldeg_le (by omega)]; omega), ci_zero]),
    canL_full (n := k + 1) (by rw [h1, ci_one]; decide)]
  rfl

end Go.Proofs.Ytpflgmbcmfllgaa

namespace Go.Proofs.Ytpflgmbcmfllgaa
open Go.RowKit Cw
attribute [local go_sem] Oper.semAt_some

theorem canI_len (D : Desc) {p : List Int} {n : Nat} (hl : p.length = n + 1) (h : cfR D p n ≠ 0) : (canI D p).length = n + 1 := by
  unfold canI
  rw [canL_length, hl, cdeg_no (f := cfI D p) (n := n) (fun e => h (ci_eq_zero.1 e))]
theorem prodL_frK (F : FD) (l : List Int) {k : Nat} (hk : k < l.length) : prodL F.toDesc (frK F l k) [ci (-cfR F.toDesc l k), 1] = frK F l (k + 1) := by
  have e1 : (canI F.toDesc (frK F l k)).length = k + 1 := canI_len _ (frK_length F l k) (by
    rw [cfR_frK F l (by omega)]
    have := lcf_top (cfR F.toDesc l) l.length k
    rw [ldeg_le (by omega)] at this
    rw [this]; exact one_ne)
  have e2 : (canI F.toDesc [ci (-cfR F.toDesc l k), 1]).length = 1 + 1 := canI_len _ rfl (by
    show eli F.toDesc 1 ≠ 0
    rw [eli_one]; exact one_ne)
  have e3 : conv (cfR F.toDesc (frK F l k)) (cfR F.toDesc [ci (-cfR F.toDesc l k), 1]) = lcf (cfR F.toDesc l) l.length (k + 1) := by
    rw [← cfR_mulI, frK_succ F l hk, cfR_frK F l (by omega)]
  unfold prodL
  rw [if_neg (by rw [e1, e2]; omega), e1, e2, e3]
  rfl

set_option maxRecDepth 100000 in
set_option maxHeartbeats 2000000 in
theorem gFromRoots_any (F : FD) (l : List Int) (A1 : Option Addr) (c1 g : Nat) (w : World) (hg : GF w w.heap.size g F) (hr1 : Rd w w.heap.size A1 l) (hl : l.length ≤ 1000) :
    Calls Try.prog 159 #[.pointer (some ⟨g, 0, none⟩), .slice A1 l.length c1] w fun e w' => ∃ A' c', e = .returned (.slice A' (frK F l l.length).length c') ∧ Rd w' w'.heap.size A' (frK F l l.length) ∧ Below w.heap.size w w' := by
  have hN := fun x W h => Lib.hid (gNeg_any F x g W h)
  have hM := fun k B1 B2 d1 d2 W a b e f h => (gProd_any F (frK F l k) [ci (-cfR F.toDesc l k), 1] B1 B2 d1 d2 g W a b e f h)
  obtain ⟨Y, hY⟩ : ∃ Y, Y = w.alloc (.cells #[.int .i64 1] 3) := ⟨_, rfl⟩
  have hB : Below w.heap.size w Y := by rw [hY]; exact (Below.refl _ _).alloc (Nat.le_refl _) _
  have hrd : Rd Y Y.heap.size (some ⟨w.heap.size, 0, none⟩) (frK F l 0) := by
    rw [frK_zero, hY]
    exact (IB.new w [1]).rd
  replace hY := Lib.hid hY
  go_enter Try.func159, Try.ntmps159
  go_wp2_with (fail)
  rw [← hY.out]
  go_loopw [11, 5] (fun i v wr => ∃ k : Nat, k ≤ l.length ∧ i = .int .i64 k ∧ (∃ A' c', v = .slice A' (frK F l k).length c' ∧ Rd wr wr.heap.size A' (frK F l k)) ∧ Below w.heap.size w wr) (fun i _ _ => l.length - (intOf i).toNat)
  case atStart => exact ⟨0, by omega, rfl, ⟨_, _, by rw [frK_length], hrd⟩, hB⟩
  case round =>
    clear hrd hB hY
    obtain ⟨w2, rfl⟩ : ∃ w2 : World, w2 = wr := ⟨_, rfl⟩
    obtain ⟨k, hk, rfl, ⟨A', c', rfl, hrd⟩, hbw⟩ := hrel
    by_cases hlt : k < l.length
    · have hk0 : (0 : Int) ≤ (k : Int) := by omega
      have hk1 : (k : Int) < (l.length : Int) := by omega
      obtain ⟨b, o, rfl, hb, hc⟩ := hr1.at_ hlt
      have hd := (hbw.cell (p := ⟨b, o + k, none⟩) hb).trans hc
      have hM2 := hM k
      rw [prodL_frK F l hlt] at hM2
      have hfl := frK_length F l k
      have hg2 := (hg.below hbw).more hbw.size
      have hN2 := (hN (l[k]?.getD 0) w2 hg2).out
      rw [show eli F.toDesc (l[k]?.getD 0) = cfR F.toDesc l k from rfl] at hN2
      replace hN2 := Lib.hid hN2
      obtain ⟨y, hy⟩ : ∃ y, y = l[k]?.getD 0 := ⟨_, rfl⟩
      rw [← hy] at hd hN2
      obtain ⟨v, hv⟩ : ∃ v, v = ci (-cfR F.toDesc l k) := ⟨_, rfl⟩
      rw [← hv] at hN2 hM2
      rw [show [v, (1 : Int)].length = 2 from rfl] at hM2
      replace hfl := Lib.hid hfl
      replace hM2 := fun B1 B2 d1 d2 W a b e f h => Lib.hid (hM2 B1 B2 d1 d2 W a b e f h)
      replace hy := Lib.hid hy
      replace hv := Lib.hid hv
      clear hc
      go_wp2_with (fail)
      (with_reducible refine hN2.out.mono ?_)
      rintro e w4 ⟨rfl, hb4⟩
      have ha4 : Below w4.heap.size w4 (w4.alloc (.cells #[.int .i64 v, .int .i64 1] 3)) := (Below.refl _ _).alloc (Nat.le_refl _) _
      obtain ⟨w5, hw5⟩ : ∃ w5, w5 = w4.alloc (.cells #[.int .i64 v, .int .i64 1] 3) := ⟨_, rfl⟩
      rw [← hw5] at ha4
      have hq5 : Rd w5 w5.heap.size (some ⟨w4.heap.size, 0, none⟩) [v, 1] := by rw [hw5]; exact (IB.new w4 [v, 1]).rd
      have hb45 := hb4.trans (ha4.mono hb4.size)
      have hB5 := hbw.trans (hb45.mono hbw.size)
      have hM5 := hM2 A' (some ⟨w4.heap.size, 0, none⟩) c' 2 w5 ((hg.below hB5).more hB5.size) ((hrd.below hb45).more hb45.size) hq5 (by rw [hfl.out]; omega) (by show 2 ≤ 20000; decide)
      replace hw5 := Lib.hid hw5
      go_wp2_with (fail)
      rw [← hw5.out]
      (with_reducible refine hM5.out.mono ?_)
      rintro e w6 ⟨A6, c6, rfl, hrd6, -, -, -, hb6⟩
      have hB6 := hB5.trans (hb6.mono hB5.size)
      go_wp2_with (fail)
      go_roundw
      case rel => exact ⟨k + 1, by omega, by go_num, ⟨_, _, rfl, hrd6⟩, hB6⟩
      case measure => simp [intOf]; omega
    · obtain rfl : k = l.length := by omega
      go_wp2_with (fail)
      go_ret
      exact ⟨A', c', rfl, hrd, hbw⟩

end Go.Proofs.Ytpflgmbcmfllgaa

namespace Go.Proofs.Ytpflgmbcmfllgaa
open Cw
open Cw.CField (inv)

section
variable {F : FD}
theorem lval_roots {f : Nat → R F.toDesc} {N : Nat} {x : R F.toDesc} : ∀ k, k ≤ N → (lval f N x k = 0 ↔ ∃ j, j < k ∧ x = f j)
  | 0, _ => ⟨fun h => absurd h (one_ne (F := R F.toDesc)), fun ⟨j, hj, _⟩ => absurd hj (by omega)⟩
  | k + 1, hk => by
    rw [lval_other _ _ (by omega : k ≠ N)]
    constructor
    · intro h
      rcases mul_eq_zero h with h | h
      · obtain ⟨j, hj, e⟩ := (lval_roots k (by omega)).1 h
        exact ⟨j, by omega, e⟩
      · exact ⟨k, by omega, sub_eq_zero h⟩
    · rintro ⟨j, hj, e⟩
      by_cases h : j = k
      · rw [e, h, sub_self, mul_zero]
      · rw [(lval_roots k (by omega)).2 ⟨j, by omega, e⟩, zero_mul]
theorem pev_frK (l : List Int) (x : R F.toDesc) : pev ((frK F l l.length).map (eli F.toDesc)) x = lval (cfR F.toDesc l) l.length x l.length := by
  unfold frK lst
  rw [List.map_map, pev_map]
  have e : ∀ i, i < l.length + 1 → (eli F.toDesc ∘ fun t => ci (lcf (cfR F.toDesc l) l.length l.length t)) i * pw x i = lcf (cfR F.toDesc l) l.length l.length i * pw x i := fun i _ => by
    show eli F.toDesc (ci _) * _ = _
    rw [eli_ci]
  rw [rsum_congr e]
  exact lcf_sum _ _ _ _ _ (by rw [ldeg_le (Nat.le_refl _)]; omega)
end
end Go.Proofs.Ytpflgmbcmfllgaa
