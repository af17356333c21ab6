/- Entries that are elements; cells of a field and one more, kept. The reference's value of a polynomial. The reference's polynomials: Canon. The reference's polynomials: Mul. Plain algebra: a field of P^d elements has an image in each field of P^M elements with d dividing M. No Go here. The image of one field in another: the numbers that the program computes. Plain law of layer 5: At, Add, Scale, Sub, Power over lists; the step of a division. No Go here. Layer 18 of the program: elements, twice. -/
import Derived.IntWalk
import Derived.Test.YtpflgmbcmfllgaaZeP1
import Derived.Test.YtpflgmbcmfllgaaZeRF
import Derived.Test.YtpflgmbcmfllgaaZeDot
namespace Go.Proofs.Ytpflgmbcmfllgaa
open Go.RowKit Cw

/-- Are all entries elements? -/
def elB (D : Desc) (l : List Int) : Bool := decide (∀ x ∈ l, 0 ≤ x ∧ x < (D.q : Int))
theorem elB_iff {D : Desc} {l : List Int} : elB D l = true ↔ ∀ j, j < l.length → 0 ≤ l[j]?.getD 0 ∧ l[j]?.getD 0 < (D.q : Int) := by
  unfold elB
  rw [decide_eq_true_iff]
  constructor
  · intro h j hj
    rw [List.getElem?_eq_getElem hj]
    exact h _ (List.getElem_mem _)
  · intro h x hx
    obtain ⟨j, hj, rfl⟩ := List.getElem_of_mem hx
    have := h j hj
    rwa [List.getElem?_eq_getElem hj] at this
theorem elB_no {D : Desc} {l : List Int} {j : Nat} (hj : j < l.length) (h : ¬ (0 ≤ l[j]?.getD 0 ∧ l[j]?.getD 0 < (D.q : Int))) : elB D l = false := by
  rw [← Bool.not_eq_true, elB_iff]
  exact fun h2 => h (h2 j hj)
/-- The error of a list that must have K elements. -/
def elErr (D : Desc) (msg : List Int) (K e : Int) : Int := if (msg.length : Int) ≠ K then e else if elB D msg = false then 2 else 0
theorem keep4 {B b b1 o1 : Nat} {W w1 : World} {v0 v1 v2 v3 : Value} (hb : Below B W w1) (h2 : b < B) (h3 : b1 < B) (h4 : W.cell? ⟨b, 0, none⟩ = some v0 ∧ W.cell? ⟨b, 1, none⟩ = some v1 ∧ W.cell? ⟨b, 2, none⟩ = some v2 ∧ W.cell? ⟨b1, o1, none⟩ = some v3) :
    w1.cell? ⟨b, 0, none⟩ = some v0 ∧ w1.cell? ⟨b, 1, none⟩ = some v1 ∧ w1.cell? ⟨b, 2, none⟩ = some v2 ∧ w1.cell? ⟨b1, o1, none⟩ = some v3 :=
  have k := keep3 hb h2 ⟨h4.1, h4.2.1, h4.2.2.1⟩
  ⟨k.1, k.2.1, k.2.2, (hb.cell (p := ⟨b1, o1, none⟩) h3).trans h4.2.2.2⟩
theorem Bx.cells {w : World} {b : Nat} {D : Desc} {A : Option Addr} {n c : Nat} (h : Bx w b D A n c) : w.cell? ⟨b, 0, none⟩ = some (.int .i64 D.p) ∧ w.cell? ⟨b, 1, none⟩ = some (.int .i64 D.m) ∧ w.cell? ⟨b, 2, none⟩ = some (.slice A n c) := h
end Go.Proofs.Ytpflgmbcmfllgaa

namespace Go.Proofs.Ytpflgmbcmfllgaa
open Go.RowKit Cw

set_option maxHeartbeats 1000000 in
theorem Eval5_any (D : Desc) (l : List Int) (x : Int) (A A1 : Option Addr) (c c1 : Nat) (w : World) (hr : Rd w w.heap.size A (modL D)) (hr1 : Rd w w.heap.size A1 l) (hl : l.length ≤ maxLen) :
    Calls Try.prog 83 #[.agg #[.int .i64 D.p, .int .i64 D.m, .slice A D.mod.length c], .slice A1 l.length c1, .int .i64 x] w fun e w' => e = .returned (.int .i64 (ci (pevI D l (eli D x)))) ∧ Below w.heap.size w w' := by
  unfold maxLen at hl
  have hM := fun y z W hr => Lib.hid (Mul_any D y z A c W hr)
  have hA := fun y z W => Lib.hid (Add_any D y z A D.mod.length c W)
  have hbx0 := Bx.new w D A D.mod.length c 24
  have hB0 : Below w.heap.size w (w.alloc (.cells #[.int .i64 D.p, .int .i64 D.m, .slice A D.mod.length c] 24)) := (Below.refl _ _).alloc (Nat.le_refl _) _
  obtain ⟨u, hu⟩ : ∃ u, u = eli D x := ⟨_, rfl⟩
  rw [← hu]
  replace hu := Lib.hid hu
  go_enter Try.func83, Try.ntmps83
  go_wp2_with (fail)
  go_loopw [9, 7, 8] (fun i o p wr => ∃ k : Nat, k ≤ l.length ∧ i = .int .i64 k ∧ o = .int .i64 (ci (rsum k fun i => eli D (l[i]?.getD 0) * pw u i)) ∧ p = .int .i64 (ci (pw u k)) ∧ Bx wr w.heap.size D A D.mod.length c ∧ Below w.heap.size w wr ∧ w.heap.size < wr.heap.size) (fun i _ _ _ => l.length - (intOf i).toNat)
  case atStart => exact ⟨0, by omega, rfl, by rw [rsum_zero, ci_zero], by rw [pw_zero, ci_one], hbx0, hB0, by simp⟩
  case round =>
    obtain ⟨k, hk, rfl, rfl, rfl, hbx, hbw, hsz⟩ := hrel
    by_cases hlt : k < l.length
    · have hk0 : (0 : Int) ≤ (k : Int) := by omega
      have hk1 : (k : Int) < (l.length : Int) := by omega
      obtain ⟨b, o, rfl, hb, hc⟩ := hr1.at_ hlt
      have hc2 := (hbw.cell (p := ⟨b, o + k, none⟩) hb).trans hc
      obtain ⟨y, hy⟩ : ∃ y, y = l[k]?.getD 0 := ⟨_, rfl⟩
      rw [← hy] at hc2
      have hM2 := fun W hr => (hM y (ci (pw u k)) W hr).out
      rw [eli_ci] at hM2
      replace hM2 := fun W hr => Lib.hid (hM2 W hr)
      have hA2 := fun W => (hA (ci (rsum k fun i => eli D (l[i]?.getD 0) * pw u i)) (ci (eli D y * pw u k)) W).out
      have hs : rsum k (fun i => eli D (l[i]?.getD 0) * pw u i) + eli D y * pw u k = rsum (k + 1) (fun i => eli D (l[i]?.getD 0) * pw u i) := by rw [rsum_succ, hy]
      rw [eli_ci, eli_ci, hs] at hA2
      replace hA2 := fun W => Lib.hid (hA2 W)
      have hM3 := fun W hr => (hM (ci (pw u k)) x W hr).out
      rw [eli_ci, ← hu.out, ← pw_succ] at hM3
      replace hM3 := fun W hr => Lib.hid (hM3 W hr)
      have hrr := (hr.below hbw).more hbw.size
      have hbo : b < wr.heap.size := Nat.lt_of_lt_of_le hb hbw.size
      have hcc : Hid (_ ∧ _ ∧ _ ∧ wr.cell? ⟨b, o + k, none⟩ = _) := Lib.hid (show _ ∧ _ ∧ _ ∧ _ from ⟨hbx.cells.1, hbx.cells.2.1, hbx.cells.2.2, hc2⟩)
      have hk4 : ∀ {W w1 : World} {v0 v1 v2 v3 : Value}, Below W.heap.size W w1 → w.heap.size < W.heap.size → b < W.heap.size → (W.cell? ⟨w.heap.size, 0, none⟩ = some v0 ∧ W.cell? ⟨w.heap.size, 1, none⟩ = some v1 ∧ W.cell? ⟨w.heap.size, 2, none⟩ = some v2 ∧ W.cell? ⟨b, o + k, none⟩ = some v3) →
          w1.cell? ⟨w.heap.size, 0, none⟩ = some v0 ∧ w1.cell? ⟨w.heap.size, 1, none⟩ = some v1 ∧ w1.cell? ⟨w.heap.size, 2, none⟩ = some v2 ∧ w1.cell? ⟨b, o + k, none⟩ = some v3 := fun h1 h2 h3 h4 =>
        have := keep3 h1 h2 ⟨h4.1, h4.2.1, h4.2.2.1⟩
        ⟨this.1, this.2.1, this.2.2, (h1.cell (p := ⟨b, o + k, none⟩) h3).trans h4.2.2.2⟩
      replace hk4 := fun {W w1 : World} {v0 v1 v2 v3 : Value} a1 a2 a3 a4 => Lib.hid (@hk4 W w1 v0 v1 v2 v3 a1 a2 a3 a4)
      clear hc hs hy hbx hc2
      go_wp2_with (fail)
      go_region_held3 (fun w' => w'.cell? ⟨w.heap.size, 0, none⟩ = some (.int .i64 D.p) ∧ w'.cell? ⟨w.heap.size, 1, none⟩ = some (.int .i64 D.m) ∧ w'.cell? ⟨w.heap.size, 2, none⟩ = some (.slice A D.mod.length c) ∧ w'.cell? ⟨b, o + k, none⟩ = some (.int .i64 y)) (first | exact hcc.out | exact hcc1.out | exact hcc2.out)
        (first
          | (go_at_call 72; (with_reducible refine (hM2 _ hrr.drew).out.mono ?_); rintro e w1 ⟨rfl, hb1⟩; have hcc1 := hk4 hb1 hsz hbo hcc.out; have hs1 : wr.heap.size ≤ w1.heap.size := hb1.size; have hbw1 := (hbw.drew).trans (hb1.mono hbw.size))
          | (go_at_call 71; (with_reducible refine (hA2 _).out.mono ?_); rintro e w2 ⟨rfl, hb2⟩; have hcc2 := hk4 hb2 (Nat.lt_of_lt_of_le hsz hs1) (Nat.lt_of_lt_of_le hbo hs1) hcc1.out; have hbw2 := hbw1.trans (hb2.mono hbw1.size)))
      have hs2 : w.heap.size < w2.heap.size := Nat.lt_of_lt_of_le (Nat.lt_of_lt_of_le hsz hs1) hb2.size
      have hbx2 : Bx w2 w.heap.size D A D.mod.length c := ⟨hcc2.out.1, hcc2.out.2.1, hcc2.out.2.2.1⟩
      have hrr2 := (hr.below hbw2).more hbw2.size
      obtain ⟨q0, q1, q2⟩ := hbx2.cells
      go_wp2_with (fail)
      (with_reducible refine (hM3 _ hrr2).out.mono ?_)
      rintro e w3 ⟨rfl, hb3⟩
      clear q0 q1 q2
      go_wp2_with (fail)
      go_roundw
      case rel => exact ⟨k + 1, by omega, by go_num, rfl, rfl, hbx2.below hb3 hs2, hbw2.trans (hb3.mono hbw2.size), Nat.lt_of_lt_of_le hs2 hb3.size⟩
      case measure => simp [intOf]; omega
    · obtain rfl : k = l.length := by omega
      go_wp2_with (fail)
      go_ret
      exact ⟨rfl, hbw⟩
end Go.Proofs.Ytpflgmbcmfllgaa

namespace Go.Proofs.Ytpflgmbcmfllgaa
open Go.RowKit Cw

/-- The coefficients of a list, as elements and as ints. -/
def cfR (D : Desc) (p : List Int) : Nat → R D := fun i => eli D (p[i]?.getD 0)
def cfI (D : Desc) (p : List Int) : Nat → Int := fun i => ci (cfR D p i)
theorem cfR_out (D : Desc) {p : List Int} {i : Nat} (h : p.length ≤ i) : cfR D p i = 0 := by
  unfold cfR; rw [List.getElem?_eq_none h]; exact eli_zero
theorem cfI_out (D : Desc) {p : List Int} {i : Nat} (h : p.length ≤ i) : cfI D p i = 0 := by
  unfold cfI; rw [cfR_out D h, ci_zero]
theorem cfR_can {D : Desc} (f : Nat → R D) (n : Nat) (h : ∀ i, n ≤ i → f i = 0) : cfR D (canL (fun i => ci (f i)) n) = f := funext fun i => by
  unfold cfR
  by_cases hi : i < n
  · rw [canL_get _ hi, eli_ci]
  · rw [canL_out _ (by omega), h i (by omega)]; exact eli_zero
/-- The canonical form of a list. -/
def canI (D : Desc) (p : List Int) : List Int := canL (cfI D p) p.length
theorem canI_le (D : Desc) (p : List Int) : (canI D p).length ≤ p.length := by unfold canI; rw [canL_length]; exact cdeg_le _ _
theorem cfR_canI (D : Desc) (p : List Int) : cfR D (canI D p) = cfR D p := cfR_can (cfR D p) p.length fun _ h => cfR_out D h
end Go.Proofs.Ytpflgmbcmfllgaa

namespace Go.Proofs.Ytpflgmbcmfllgaa
open Go.RowKit Cw

/-- The product of two lists of coefficients, in canonical form. -/
def mulI (D : Desc) (p q : List Int) : List Int := canL (fun t => ci (conv (cfR D p) (cfR D q) t)) (p.length + q.length)
theorem cfR_mulI (D : Desc) (p q : List Int) : cfR D (mulI D p q) = conv (cfR D p) (cfR D q) :=
  cfR_can _ _ fun _ h => conv_high (fun _ h => cfR_out D h) (fun _ h => cfR_out D h) (by omega)
end Go.Proofs.Ytpflgmbcmfllgaa

namespace Cw
open CField (inv)
section
variable {F : FD}
variable {p : Nat} [NeZero p]
/-- The image of a residue modulo the characteristic. -/
def kz (F : FD) (a : Zp p) : R F.toDesc := nsm a.val 1
end
section
variable {S F : FD}
def muV (S F : FD) (r : R F.toDesc) : R F.toDesc := pw r S.m + rsum S.m fun i => kz F (S.c i) * pw r i
end
end Cw

namespace Go.Proofs.Ytpflgmbcmfllgaa
open Go.RowKit Cw

theorem rsum_more {K : Type} [CRing K] {n m : Nat} (h : n ≤ m) (f : Nat → K) (hz : ∀ i, n ≤ i → i < m → f i = 0) : rsum m f = rsum n f := by
  obtain ⟨d, rfl⟩ : ∃ d, m = n + d := ⟨m - n, by omega⟩
  rw [rsum_split, rsum_eq_zero (n := d) fun i hi => hz (n + i) (by omega) (by omega), add_zero]
theorem pevI_canI (D : FD) (p : List Int) (u : R D.toDesc) : pevI D.toDesc (canI D.toDesc p) u = pevI D.toDesc p u := by
  show rsum _ (fun i => cfR D.toDesc (canI D.toDesc p) i * pw u i) = rsum _ (fun i => cfR D.toDesc p i * pw u i)
  rw [cfR_canI, rsum_more (canI_le D.toDesc p) _ fun i h1 _ => by
    have h2 : cfR D.toDesc (canI D.toDesc p) i = 0 := cfR_out D.toDesc h1
    rw [cfR_canI] at h2
    rw [h2, zero_mul]]
/-- n is the number of the least root of the modulus. -/
def IsRt (S F : FD) (n : Nat) : Prop := n < F.q ∧ muV S F (rel F.toDesc n) = 0 ∧ ∀ j, j < n → muV S F (rel F.toDesc j) ≠ 0
theorem IsRt.uniq {S F : FD} {n m : Nat} (h1 : IsRt S F n) (h2 : IsRt S F m) : n = m := by
  rcases Nat.lt_trichotomy n m with h | h | h
  · exact absurd h1.2.1 (h2.2.2 n h)
  · exact h
  · exact absurd h2.2.1 (h1.2.2 m h)
end Go.Proofs.Ytpflgmbcmfllgaa

namespace Go.Proofs.Ytpflgmbcmfllgaa
open Go.RowKit Cw
open CField (inv)

theorem canI_can {D : Desc} (f : Nat → R D) (n : Nat) (h : ∀ i, n ≤ i → f i = 0) : canI D (canL (fun i => ci (f i)) n) = canL (fun i => ci (f i)) n := by
  have e := cfR_can f n h
  unfold canI
  rw [canL_congr (g := fun i => ci (f i)) fun i _ => by unfold cfI; rw [e]]
  exact (canL_more (by rw [canL_length]; exact cdeg_le _ _) fun i h1 h2 => by
    rw [canL_length] at h1
    exact cdeg_zero (fun i => ci (f i)) n h1 h2).symm
theorem canI_canI (D : Desc) (p : List Int) : canI D (canI D p) = canI D p := canI_can (cfR D p) _ fun i h => cfR_out D h
/-- The value, over any greater range. -/
theorem pevI_more (D : Desc) (p : List Int) (x : R D) {N : Nat} (h : p.length ≤ N) : rsum N (fun i => cfR D p i * pw x i) = pevI D p x := by
  rw [rsum_more h _ fun i h1 _ => by rw [cfR_out D h1, zero_mul]]; rfl
theorem can_short {D : Desc} {p : List Int} (hc : canI D p = p) {n : Nat} (h : ∀ t, n ≤ t → cfR D p t = 0) : p.length ≤ n := by
  by_cases hl : n ≤ p.length
  · rw [← hc]
    unfold canI
    rw [canL_more hl fun i h1 _ => by unfold cfI; rw [h i h1, ci_zero], canL_length]
    exact cdeg_le _ _
  · omega
theorem can_lead {D : Desc} {p : List Int} (hc : canI D p = p) {n : Nat} (hn : p.length = n + 1) : cfR D p n ≠ 0 := fun h => by
  have := can_short hc (n := n) fun t ht => by
    by_cases e : t = n
    · rw [e]; exact h
    · exact cfR_out D (by omega)
  omega
end Go.Proofs.Ytpflgmbcmfllgaa

namespace Go.Proofs.Ytpflgmbcmfllgaa
open Go.RowKit Cw

/-- Are two entries equal? -/
def twB (l : List Int) : Bool := decide (¬ l.Nodup)
theorem twB_yes {l : List Int} {i j : Nat} (hij : j < i) (hi : i < l.length) (h : l[i]?.getD 0 = l[j]?.getD 0) : twB l = true := by
  unfold twB
  rw [decide_eq_true_iff]
  intro hn
  rw [List.getElem?_eq_getElem hi, List.getElem?_eq_getElem (by omega : j < l.length)] at h
  exact List.pairwise_iff_getElem.1 hn j i (by omega) hi hij h.symm
theorem twB_no {l : List Int} (h : ∀ i j, j < i → i < l.length → l[i]?.getD 0 ≠ l[j]?.getD 0) : twB l = false := by
  unfold twB
  rw [decide_eq_false_iff_not, Classical.not_not]
  refine List.pairwise_iff_getElem.2 fun i j hi hj hij e => h j i hij hj ?_
  rw [List.getElem?_eq_getElem hi, List.getElem?_eq_getElem hj]
  exact e.symm

set_option maxHeartbeats 1000000 in
theorem gElems_any (D : FD) (l : List Int) (A : Option Addr) (c g : Nat) (w : World) (hg : GF w w.heap.size g D) (hr : Rd w w.heap.size A l) (hl : l.length ≤ maxLen) :
    Calls Try.prog 130 #[.pointer (some ⟨g, 0, none⟩), .slice A l.length c] w fun e w' => e = .returned (.bool (elB D.toDesc l)) ∧ w = w' := by
  unfold maxLen at hl
  have hI := fun x => Lib.hid (gIs_any D x g w hg)
  go_enter Try.func130, Try.ntmps130
  go_wp2_with (fail)
  go_loop [9, 6] (fun i _ => ∃ k : Nat, k ≤ l.length ∧ i = .int .i64 k ∧ Hid (∀ j, j < k → 0 ≤ l[j]?.getD 0 ∧ l[j]?.getD 0 < (D.q : Int))) (fun i _ => l.length - (intOf i).toNat)
  case atStart => exact ⟨0, by omega, rfl, fun j hj => absurd hj (by omega)⟩
  case round =>
    obtain ⟨k, hk, rfl, hall⟩ := hrel
    by_cases hlt : k < l.length
    · obtain ⟨b, o, rfl, -, hc⟩ := hr.at_ hlt
      have hI2 := hI (l[k]?.getD 0)
      by_cases hy : 0 ≤ l[k]?.getD 0 ∧ l[k]?.getD 0 < (D.q : Int)
      · rw [decide_eq_true hy] at hI2
        have hall2 : Hid (∀ j, j < k + 1 → 0 ≤ l[j]?.getD 0 ∧ l[j]?.getD 0 < (D.q : Int)) := fun j hj => by
          by_cases e : j = k
          · subst e; exact hy
          · exact hall.out j (by omega)
        clear hy
        generalize l[k]?.getD 0 = y at *
        go_wp2_with (fail)
        (with_reducible refine hI2.out.mono ?_)
        rintro e w1 ⟨rfl, rfl⟩
        go_wp2_with (fail)
        go_round
        case rel => exact ⟨k + 1, by omega, by go_num, hall2⟩
        case measure => simp [intOf]; omega
      · have hfin := Lib.hid (elB_no hlt hy)
        rw [decide_eq_false hy] at hI2
        clear hy
        generalize l[k]?.getD 0 = y at *
        go_wp2_with (fail)
        (with_reducible refine hI2.out.mono ?_)
        rintro e w1 ⟨rfl, rfl⟩
        go_wp2_with (fail)
        go_ret
        exact ⟨ret_bool hfin.out.symm, rfl⟩
    · obtain rfl : k = l.length := by omega
      have hfin := Lib.hid (elB_iff.2 hall.out)
      go_wp2_with (fail)
      go_ret
      exact ⟨ret_bool hfin.out.symm, rfl⟩

set_option maxHeartbeats 1000000 in
theorem gTwice_any (l : List Int) (A : Option Addr) (c : Nat) (w : World) (hr : Rd w w.heap.size A l) (hlc : l.length ≤ c) (hl : c ≤ maxLen) :
    Calls Try.prog 135 #[.slice A l.length c] w fun e w' => e = .returned (.bool (twB l)) ∧ w = w' := by
  unfold maxLen at hl
  go_enter Try.func135, Try.ntmps135
  go_wp2_with (fail)
  go_loop [9, 3, 4] (fun i _ _ => ∃ k : Nat, k ≤ l.length ∧ i = .int .i64 k ∧ Hid (∀ i j, j < i → i < k → l[i]?.getD 0 ≠ l[j]?.getD 0)) (fun i _ _ => l.length - (intOf i).toNat)
  case atStart => exact ⟨0, by omega, rfl, fun i j h1 h2 => absurd h2 (by omega)⟩
  case round =>
    obtain ⟨k, hk, rfl, hall⟩ := hrel
    by_cases hlt : k < l.length
    · obtain ⟨b, o, rfl, -, hc⟩ := hr.at_ hlt
      obtain ⟨y, hy⟩ : ∃ y, y = l[k]?.getD 0 := ⟨_, rfl⟩
      rw [← hy] at hc
      replace hy := Lib.hid hy
      go_wp2_with (fail)
      go_loop [18, 6] (fun i _ => ∃ j : Nat, j ≤ k ∧ i = .int .i64 j ∧ Hid (∀ t, t < j → y ≠ l[t]?.getD 0)) (fun i _ => k - (intOf i).toNat)
      case atStart => exact ⟨0, by omega, rfl, fun t ht => absurd ht (by omega)⟩
      case round =>
        obtain ⟨j, hj, rfl, hall3⟩ := hrel
        by_cases hlt2 : j < k
        · obtain ⟨b2, o2, e2, -, hc2⟩ := hr.at_ (by omega : j < l.length)
          cases e2
          obtain ⟨z, hz⟩ : ∃ z, z = l[j]?.getD 0 := ⟨_, rfl⟩
          rw [← hz] at hc2
          replace hz := Lib.hid hz
          by_cases hyz : y = z
          · have hfin := Lib.hid (twB_yes hlt2 hlt (by rw [← hy.out, ← hz.out, hyz]))
            have hb : (y == z) = true := beq_iff_eq.2 hyz
            clear hyz
            go_wp2_with (fail)
            go_ret
            exact ⟨ret_bool hfin.out.symm, rfl⟩
          · have hb : (y == z) = false := beq_eq_false_iff_ne.2 hyz
            have hall4 : Hid (∀ t, t < j + 1 → y ≠ l[t]?.getD 0) := fun t ht => by
              by_cases e : t = j
              · subst e; rw [← hz.out]; exact hyz
              · exact hall3.out t (by omega)
            clear hyz
            go_wp2_with (fail)
            go_round
            case rel => exact ⟨j + 1, by omega, by go_num, hall4⟩
            case measure => simp [intOf]; omega
        · obtain rfl : j = k := by omega
          have hall2 : Hid (∀ i t, t < i → i < j + 1 → l[i]?.getD 0 ≠ l[t]?.getD 0) := fun i t h1 h2 => by
            by_cases e : i = j
            · subst e; rw [← hy.out]; exact hall3.out t h1
            · exact hall.out i t h1 (by omega)
          go_wp2_with (fail)
          go_round
          case rel => exact ⟨j + 1, by omega, by go_num, hall2⟩
          case measure => simp [intOf]; omega
    · obtain rfl : k = l.length := by omega
      have hfin := Lib.hid (twB_no hall.out)
      go_wp2_with (fail)
      go_ret
      exact ⟨ret_bool hfin.out.symm, rfl⟩
end Go.Proofs.Ytpflgmbcmfllgaa
