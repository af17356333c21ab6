/- Plain law of layer 18: the weights of codewords, the dual description. No Go here. Plain law of layer 18: the dual description and its dual. No Go here. Plain law of layer 18: codewords are orthogonal to those of the dual description. No Go here. Layer 18 of the reference and the law's own: equal descriptions, good, weights, inner products. Layer 18: good (the law's own), the reference's inner product. -/
import Derived.Test.YtpflgmbcmfllgaaZeP1
import Derived.Test.YtpflgmbcmfllgaaZeRF
import Derived.Test.YtpflgmbcmfllgaaZeGrsH
namespace Go.Proofs.Ytpflgmbcmfllgaa
open Cw
open Cw.CField (inv)

/-- How many entries are not 0. -/
def wgt (l : List Int) : Nat := (l.filter fun x => x != 0).length
theorem wgt_append (l m : List Int) : wgt (l ++ m) = wgt l + wgt m := by unfold wgt; rw [List.filter_append, List.length_append]
theorem wgt_zero {l : List Int} (h : ∀ x ∈ l, x = 0) : wgt l = 0 := by
  unfold wgt
  rw [List.filter_eq_nil_iff.2 (fun x hx => by simp [h x hx])]; rfl
theorem wgt_take (l : List Int) {k : Nat} (h : k < l.length) : wgt (l.take (k + 1)) = wgt (l.take k) + if l[k]?.getD 0 = 0 then 0 else 1 := by
  rw [List.take_succ_eq_append_getElem h, wgt_append]
  congr 1
  rw [List.getElem?_eq_getElem h]
  unfold wgt
  by_cases e : l[k] = 0 <;> simp [e]
theorem wgt_le (l : List Int) : wgt l ≤ l.length := List.length_filter_le _ _
theorem eli_inj {D : Desc} {x y : Int} (hx : 0 ≤ x ∧ x < D.q) (hy : 0 ≤ y ∧ y < D.q) (h : eli D x = eli D y) : x = y := by rw [← ci_eli_in hx, ← ci_eli_in hy, h]
theorem eli_ne {D : Desc} {x : Int} (hx : 0 ≤ x ∧ x < D.q) (h : x ≠ 0) : eli D x ≠ 0 := fun e => h (by rw [← ci_eli_in hx, e, ci_zero])
theorem nodup_get {l : List Int} (h : twB l = false) {i j : Nat} (hi : i < l.length) (hj : j < l.length) (e : l[i]?.getD 0 = l[j]?.getD 0) : i = j := by
  rcases Nat.lt_trichotomy i j with h1 | h1 | h1
  · rw [twB_yes h1 hj e.symm] at h; cases h
  · exact h1
  · rw [twB_yes h1 hi e] at h; cases h
theorem mem_get {l : List Int} {i : Nat} (hi : i < l.length) : l[i]?.getD 0 ∈ l := by rw [List.getElem?_eq_getElem hi]; exact List.getElem_mem _

section
variable {F : FD}
theorem pevI_pev (l : List Int) (u : R F.toDesc) : pevI F.toDesc l u = pev (l.map (eli F.toDesc)) u := by
  have e : l.map (eli F.toDesc) = (List.range l.length).map (fun i => eli F.toDesc (l[i]?.getD 0)) := by
    apply List.ext_getElem
    · simp
    · intro i h1 h2
      have : i < l.length := by simpa using h1
      simp [this]
  rw [e, pev_map]
  rfl

end
end Go.Proofs.Ytpflgmbcmfllgaa

namespace Go.Proofs.Ytpflgmbcmfllgaa
open Cw
open Cw.CField (inv)

theorem dualL_length (F : FD) (pts mul : List Int) : (dualL F pts mul).length = pts.length := lst_length _ _
theorem dprod_mul (D : Desc) (pts : List Int) (i : Nat) (u : R D) : ∀ k, dprod D pts i u k = u * dprod D pts i 1 k
  | 0 => (mul_one u).symm
  | k + 1 => by
    by_cases h : k = i
    · rw [show dprod D pts i u (k + 1) = dprod D pts i u k from if_pos h, show dprod D pts i 1 (k + 1) = dprod D pts i 1 k from if_pos h, dprod_mul D pts i u k]
    · rw [dprod_other _ _ _ h, dprod_other _ _ _ h, dprod_mul D pts i u k, mul_a]
theorem dualL_eq {F F' : FD} (h : F'.toDesc = F.toDesc) (pts mul : List Int) : dualL F' pts mul = dualL F pts mul := by
  obtain ⟨D, g, a, b, c⟩ := F
  obtain ⟨D', g', a', b', c'⟩ := F'
  dsimp only at h
  subst h
  rfl

section
variable {F : FD}
theorem dprod_ne {pts : List Int} (hp : elB F.toDesc pts = true) (ht : twB pts = false) {i : Nat} (hi : i < pts.length) : ∀ k, k ≤ pts.length → dprod F.toDesc pts i 1 k ≠ 0
  | 0, _ => one_ne (F := R F.toDesc)
  | k + 1, hk => by
    have ih := dprod_ne hp ht hi k (by omega)
    by_cases h : k = i
    · rw [show dprod F.toDesc pts i 1 (k + 1) = dprod F.toDesc pts i 1 k from if_pos h]; exact ih
    · rw [dprod_other _ _ _ h]
      refine mul_ne_zero (F := R F.toDesc) ih fun e => h ?_
      exact (nodup_get ht hi (by omega) (eli_inj (elB_iff.1 hp i hi) (elB_iff.1 hp k (by omega)) (sub_eq_zero e))).symm
theorem dualV_ne {K : Int} {pts mul : List Int} (hz : gchkD F.toDesc K pts mul = 0) {i : Nat} (hi : i < pts.length) : dprod F.toDesc pts i (eli F.toDesc (mul[i]?.getD 0)) pts.length ≠ 0 := by
  obtain ⟨-, -, hlen, hp, hm, ht, h0, -, -⟩ := gchkD_zero hz
  rw [dprod_mul]
  exact mul_ne_zero (F := R F.toDesc) (eli_ne (elB_iff.1 hm i (by omega)) fun e => h0 (e ▸ mem_get (by omega))) (dprod_ne hp ht hi _ (Nat.le_refl _))
theorem dualL_get {pts mul : List Int} {i : Nat} (hi : i < pts.length) : (dualL F pts mul)[i]?.getD 0 = dualV F pts mul i := lst_get _ hi
/-- The dual description describes a code. -/
theorem dual_chk {K : Int} {pts mul : List Int} (hz : gchkD F.toDesc K pts mul = 0) : gchkD F.toDesc ((pts.length : Int) - K) pts (dualL F pts mul) = 0 := by
  obtain ⟨h1, h64, hlen, hp, hm, ht, h0, hK0, hKn⟩ := gchkD_zero hz
  unfold gchkD
  rw [dualL_length, if_neg (by omega), if_neg (by omega), if_neg, if_neg (by rw [ht]; simp), if_neg, if_neg (by omega)]
  · intro hmem
    obtain ⟨i, hi, hi2⟩ := List.mem_map.1 (show (0 : Int) ∈ (List.range pts.length).map (dualV F pts mul) from hmem)
    exact inv_ne_zero (dualV_ne hz (List.mem_range.1 hi)) (ci_eq_zero.1 hi2)
  · rintro (h3 | h3)
    · rw [hp] at h3; cases h3
    · rw [elB_iff.2 fun j hj => ?_] at h3
      · cases h3
      · rw [dualL_length] at hj
        rw [dualL_get hj]
        exact ⟨ci_nonneg _, ci_lt _⟩
end
end Go.Proofs.Ytpflgmbcmfllgaa

namespace Go.Proofs.Ytpflgmbcmfllgaa
open Cw
open Cw.CField (inv)
section
variable {F : FD}
theorem dprod_lval (pts : List Int) (i : Nat) : ∀ k, dprod F.toDesc pts i 1 k = lval (fun j => eli F.toDesc (pts[j]?.getD 0)) i (eli F.toDesc (pts[i]?.getD 0)) k
  | 0 => rfl
  | k + 1 => by
    by_cases h : k = i
    · rw [show dprod F.toDesc pts i 1 (k + 1) = dprod F.toDesc pts i 1 k from if_pos h, show lval (fun j => eli F.toDesc (pts[j]?.getD 0)) i (eli F.toDesc (pts[i]?.getD 0)) (k + 1) = lval (fun j => eli F.toDesc (pts[j]?.getD 0)) i (eli F.toDesc (pts[i]?.getD 0)) k from if_pos h]
      exact dprod_lval pts i k
    · rw [dprod_other _ _ _ h, lval_other _ _ h, dprod_lval pts i k]
theorem pts_inj {pts : List Int} (hp : elB F.toDesc pts = true) (ht : twB pts = false) : ∀ i j, i < pts.length → j < pts.length → eli F.toDesc (pts[i]?.getD 0) = eli F.toDesc (pts[j]?.getD 0) → i = j :=
  fun i j hi hj e => nodup_get ht hi hj (eli_inj (elB_iff.1 hp i hi) (elB_iff.1 hp j hj) e)
end
end Go.Proofs.Ytpflgmbcmfllgaa

namespace Go.Proofs.Ytpflgmbcmfllgaa
open Go.RowKit Cw
attribute [local go_sem] Oper.semAt_some

set_option maxHeartbeats 1000000 in
theorem Weight18_any (l : List Int) (A : Option Addr) (c : Nat) (w : World) (hr : Rd w w.heap.size A l) (hl : l.length ≤ maxLen) :
    Calls Try.prog 44 #[.slice A l.length c] w fun e w' => e = .returned (.int .i64 (wgt l)) ∧ w = w' := by
  unfold maxLen at hl
  go_enter Try.func44, Try.ntmps44
  go_wp2_with (fail)
  go_loop [4, 3] (fun i n => ∃ k : Nat, k ≤ l.length ∧ i = .int .i64 k ∧ n = .int .i64 (wgt (l.take k))) (fun i _ => l.length - (intOf i).toNat)
  case atStart => exact ⟨0, by omega, rfl, rfl⟩
  case round =>
    obtain ⟨k, hk, rfl, rfl⟩ := hrel
    have hle := wgt_le (l.take k)
    rw [List.length_take] at hle
    by_cases hlt : k < l.length
    · obtain ⟨b, o, rfl, -, hc⟩ := hr.at_ hlt
      have hs := wgt_take l hlt
      obtain ⟨y, hy⟩ : ∃ y, y = l[k]?.getD 0 := ⟨_, rfl⟩
      rw [← hy] at hc hs
      by_cases hz : y = 0
      · rw [if_pos hz, Nat.add_zero] at hs
        have hzb : (y != 0) = false := by rw [bne_eq_false_iff_eq]; exact hz
        replace hs := Lib.hid hs
        clear hy hz
        go_wp2_with (fail)
        go_round
        case rel => exact ⟨k + 1, by omega, by go_num, by rw [hs.out]; rfl⟩
        case measure => simp [intOf]; omega
      · rw [if_neg hz] at hs
        have hzb : (y != 0) = true := by rw [bne_iff_ne]; exact hz
        replace hs := Lib.hid hs
        clear hy hz
        go_wp2_with (fail)
        go_round
        case rel => exact ⟨k + 1, by omega, by go_num, by rw [hs.out]; go_num⟩
        case measure => simp [intOf]; omega
    · obtain rfl : k = l.length := by omega
      go_wp2_with (fail)
      go_ret
      exact ⟨rfl, rfl⟩

end Go.Proofs.Ytpflgmbcmfllgaa

namespace Go.Proofs.Ytpflgmbcmfllgaa
open Go.RowKit Cw
attribute [local go_sem] Oper.semAt_some

set_option maxRecDepth 100000 in
set_option maxHeartbeats 1000000 in
theorem Dot4_any (D : Desc) (a b : List Int) (n : Nat) (ha : a.length = n) (hb : b.length = n) (A A1 A2 : Option Addr) (c c1 c2 : Nat) (w : World) (hr : Rd w w.heap.size A (modL D)) (hr1 : Rd w w.heap.size A1 a) (hr2 : Rd w w.heap.size A2 b) (hn : n ≤ maxLen) :
    Calls Try.prog 53 #[.agg #[.int .i64 D.p, .int .i64 D.m, .slice A D.mod.length c], .slice A1 n c1, .slice A2 n c2] w fun e w' => e = .returned (.int .i64 (ci (rsum n fun i => eli D (a[i]?.getD 0) * eli D (b[i]?.getD 0)))) ∧ Below w.heap.size w w' := by
  unfold maxLen at hn
  have hM := fun y z W hr => Lib.hid (Mul_any D y z A c W hr)
  have hA := fun y z W => Lib.hid (Add_any D y z A D.mod.length c W)
  have hbx0 := Bx.new w D A D.mod.length c 24
  have hB0 : Below w.heap.size w (w.alloc (.cells #[.int .i64 D.p, .int .i64 D.m, .slice A D.mod.length c] 24)) := (Below.refl _ _).alloc (Nat.le_refl _) _
  replace ha := Lib.hid ha
  replace hb := Lib.hid hb
  go_enter Try.func53, Try.ntmps53
  go_wp2_with (fail)
  go_loopw [8, 7] (fun i o wr => ∃ k : Nat, k ≤ n ∧ i = .int .i64 k ∧ o = .int .i64 (ci (rsum k fun i => eli D (a[i]?.getD 0) * eli D (b[i]?.getD 0))) ∧ Bx wr w.heap.size D A D.mod.length c ∧ Below w.heap.size w wr ∧ w.heap.size < wr.heap.size) (fun i _ _ => n - (intOf i).toNat)
  case atStart => exact ⟨0, by omega, rfl, by rw [rsum_zero, ci_zero], hbx0, hB0, by simp⟩
  case round =>
    obtain ⟨k, hk, rfl, rfl, hbx, hbw, hsz⟩ := hrel
    by_cases hlt : k < n
    · have hk0 : (0 : Int) ≤ (k : Int) := by omega
      have hk1 : (k : Int) < (n : Int) := by omega
      obtain ⟨b1, o1, rfl, hb1, hc1⟩ := hr1.at_ (by rw [ha.out]; exact hlt : k < a.length)
      obtain ⟨b2, o2, rfl, hb2, hc2⟩ := hr2.at_ (by rw [hb.out]; exact hlt : k < b.length)
      have hd1 := (hbw.cell (p := ⟨b1, o1 + k, none⟩) hb1).trans hc1
      have hd2 := (hbw.cell (p := ⟨b2, o2 + k, none⟩) hb2).trans hc2
      obtain ⟨x, hx⟩ : ∃ x, x = a[k]?.getD 0 := ⟨_, rfl⟩
      obtain ⟨y, hy⟩ : ∃ y, y = b[k]?.getD 0 := ⟨_, rfl⟩
      rw [← hx] at hd1
      rw [← hy] at hd2
      have hM2 := fun W hr => hM x y W hr
      have hA2 := fun W => (hA (ci (rsum k fun i => eli D (a[i]?.getD 0) * eli D (b[i]?.getD 0))) (ci (eli D x * eli D y)) W).out
      have hs : rsum k (fun i => eli D (a[i]?.getD 0) * eli D (b[i]?.getD 0)) + eli D x * eli D y = rsum (k + 1) (fun i => eli D (a[i]?.getD 0) * eli D (b[i]?.getD 0)) := by rw [rsum_succ, hx, hy]
      rw [eli_ci, eli_ci, hs] at hA2
      replace hA2 := fun W => Lib.hid (hA2 W)
      have hrr := (hr.below hbw).more hbw.size
      have hbo1 : b1 < wr.heap.size := Nat.lt_of_lt_of_le hb1 hbw.size
      have hbo2 : b2 < wr.heap.size := Nat.lt_of_lt_of_le hb2 hbw.size
      have hcc := Lib.hid (show _ ∧ _ ∧ _ ∧ _ ∧ _ from ⟨hbx.cells.1, hbx.cells.2.1, hbx.cells.2.2, hd1, hd2⟩)
      have hk5 : ∀ {W w1 : World} {v0 v1 v2 v3 v4 : Value}, Below W.heap.size W w1 → w.heap.size < W.heap.size → b1 < W.heap.size → b2 < W.heap.size → (W.cell? ⟨w.heap.size, 0, none⟩ = some v0 ∧ W.cell? ⟨w.heap.size, 1, none⟩ = some v1 ∧ W.cell? ⟨w.heap.size, 2, none⟩ = some v2 ∧ W.cell? ⟨b1, o1 + k, none⟩ = some v3 ∧ W.cell? ⟨b2, o2 + k, none⟩ = some v4) →
          w1.cell? ⟨w.heap.size, 0, none⟩ = some v0 ∧ w1.cell? ⟨w.heap.size, 1, none⟩ = some v1 ∧ w1.cell? ⟨w.heap.size, 2, none⟩ = some v2 ∧ w1.cell? ⟨b1, o1 + k, none⟩ = some v3 ∧ w1.cell? ⟨b2, o2 + k, none⟩ = some v4 := fun h1 h2 h3 h3' h4 =>
        have := keep3 h1 h2 ⟨h4.1, h4.2.1, h4.2.2.1⟩
        ⟨this.1, this.2.1, this.2.2, (h1.cell (p := ⟨b1, o1 + k, none⟩) h3).trans h4.2.2.2.1, (h1.cell (p := ⟨b2, o2 + k, none⟩) h3').trans h4.2.2.2.2⟩
      replace hk5 := fun {W w1 : World} {v0 v1 v2 v3 v4 : Value} a1 a2 a3 a4 a5 => Lib.hid (@hk5 W w1 v0 v1 v2 v3 v4 a1 a2 a3 a4 a5)
      clear hc1 hc2 hs hy hx hbx hd1 hd2
      go_wp2_with (fail)
      go_region_held3 (fun w' => w'.cell? ⟨w.heap.size, 0, none⟩ = some (.int .i64 D.p) ∧ w'.cell? ⟨w.heap.size, 1, none⟩ = some (.int .i64 D.m) ∧ w'.cell? ⟨w.heap.size, 2, none⟩ = some (.slice A D.mod.length c) ∧ w'.cell? ⟨b1, o1 + k, none⟩ = some (.int .i64 x) ∧ w'.cell? ⟨b2, o2 + k, none⟩ = some (.int .i64 y)) (first | exact hcc.out | exact hcc1.out | exact hcc2.out)
        (first
          | (go_at_call 72; (with_reducible refine (hM2 _ hrr.drew).out.mono ?_); rintro e w1 ⟨rfl, hb1⟩; have hcc1 := hk5 hb1 hsz hbo1 hbo2 hcc.out; have hs1 : wr.heap.size ≤ w1.heap.size := hb1.size; have hbw1 := (hbw.drew).trans (hb1.mono hbw.size))
          | (go_at_call 71; (with_reducible refine (hA2 _).out.mono ?_); rintro e w2 ⟨rfl, hb2⟩; have hcc2 := hk5 hb2 (Nat.lt_of_lt_of_le hsz hs1) (Nat.lt_of_lt_of_le hbo1 hs1) (Nat.lt_of_lt_of_le hbo2 hs1) hcc1.out; have hbw2 := hbw1.trans (hb2.mono hbw1.size)))
      have hs2 : w.heap.size < w2.heap.size := Nat.lt_of_lt_of_le (Nat.lt_of_lt_of_le hsz hs1) hb2.size
      have hbx2 : Bx w2 w.heap.size D A D.mod.length c := ⟨hcc2.out.1, hcc2.out.2.1, hcc2.out.2.2.1⟩
      go_wp2_with (fail)
      go_roundw
      case rel => exact ⟨k + 1, by omega, by go_num, rfl, hbx2, hbw2, hs2⟩
      case measure => simp [intOf]; omega
    · obtain rfl : k = n := by omega
      go_wp2_with (fail)
      go_ret
      exact ⟨rfl, hbw⟩
end Go.Proofs.Ytpflgmbcmfllgaa
