/- Layer 18 of the program: elements, twice; the program's Eval. -/
import Derived.Test.YtnbkmkeiophjoaaRG
import Derived.Test.YtnbkmkeiophjoaaGA
import Derived.Test.YtnbkmkeiophjoaaP1
namespace Go.Proofs.Ytnbkmkeiophjoaa
open Go.RowKit Cw

/-- Are all entries elements? -/
def elB (D : Desc) (l : List Int) : Bool := decide (∀ x ∈ l, 0 ≤ x ∧ x < (D.q : Int))
theorem elB_iff {D : Desc} {l : List Int} : elB D l = true ↔ ∀ j, j < l.length → 0 ≤ l[j]?.getD 0 ∧ l[j]?.getD 0 < (D.q : Int) := by
  unfold elB
  rw [decide_eq_true_iff]
  constructor
  · intro h j hj
    rw [List.getElem?_eq_getElem hj]
    exact h _ (List.getElem_mem _)
  · intro h x hx
    obtain ⟨j, hj, rfl⟩ := List.getElem_of_mem hx
    have := h j hj
    rwa [List.getElem?_eq_getElem hj] at this
theorem elB_no {D : Desc} {l : List Int} {j : Nat} (hj : j < l.length) (h : ¬ (0 ≤ l[j]?.getD 0 ∧ l[j]?.getD 0 < (D.q : Int))) : elB D l = false := by
  rw [← Bool.not_eq_true, elB_iff]
  exact fun h2 => h (h2 j hj)
/-- Are two entries equal? -/
def twB (l : List Int) : Bool := decide (¬ l.Nodup)
theorem twB_yes {l : List Int} {i j : Nat} (hij : j < i) (hi : i < l.length) (h : l[i]?.getD 0 = l[j]?.getD 0) : twB l = true := by
  unfold twB
  rw [decide_eq_true_iff]
  intro hn
  rw [List.getElem?_eq_getElem hi, List.getElem?_eq_getElem (by omega : j < l.length)] at h
  exact List.pairwise_iff_getElem.1 hn j i (by omega) hi hij h.symm
theorem twB_no {l : List Int} (h : ∀ i j, j < i → i < l.length → l[i]?.getD 0 ≠ l[j]?.getD 0) : twB l = false := by
  unfold twB
  rw [decide_eq_false_iff_not, Classical.not_not]
  refine List.pairwise_iff_getElem.2 fun i j hi hj hij e => h j i hij hj ?_
  rw [List.getElem?_eq_getElem hi, List.getElem?_eq_getElem hj]
  exact e.symm

set_option maxHeartbeats 1000000 in
theorem gElems_any (D : FD) (l : List Int) (A : Option Addr) (c g : Nat) (w : World) (hg : GF w w.heap.size g D) (hr : Rd w w.heap.size A l) (hl : l.length ≤ maxLen) :
    Calls Try.prog 63 #[.pointer (some ⟨g, 0, none⟩), .slice A l.length c] w fun e w' => e = .returned (.bool (elB D.toDesc l)) ∧ w = w' := by
  unfold maxLen at hl
  have hI := fun x => Lib.hid (gIs_any D x g w hg)
  go_enter Try.func63, Try.ntmps63
  go_wp2_with (fail)
  go_loop [9, 6] (fun i _ => ∃ k : Nat, k ≤ l.length ∧ i = .int .i64 k ∧ Hid (∀ j, j < k → 0 ≤ l[j]?.getD 0 ∧ l[j]?.getD 0 < (D.q : Int))) (fun i _ => l.length - (intOf i).toNat)
  case atStart => exact ⟨0, by omega, rfl, fun j hj => absurd hj (by omega)⟩
  case round =>
    obtain ⟨k, hk, rfl, hall⟩ := hrel
    by_cases hlt : k < l.length
    · obtain ⟨b, o, rfl, -, hc⟩ := hr.at_ hlt
      have hI2 := hI (l[k]?.getD 0)
      by_cases hy : 0 ≤ l[k]?.getD 0 ∧ l[k]?.getD 0 < (D.q : Int)
      · rw [decide_eq_true hy] at hI2
        have hall2 : Hid (∀ j, j < k + 1 → 0 ≤ l[j]?.getD 0 ∧ l[j]?.getD 0 < (D.q : Int)) := fun j hj => by
          by_cases e : j = k
          · subst e; exact hy
          · exact hall.out j (by omega)
        clear hy
        generalize l[k]?.getD 0 = y at *
        go_wp2_with (fail)
        (with_reducible refine hI2.out.mono ?_)
        rintro e w1 ⟨rfl, rfl⟩
        go_wp2_with (fail)
        go_round
        case rel => exact ⟨k + 1, by omega, by go_num, hall2⟩
        case measure => simp [intOf]; omega
      · have hfin := Lib.hid (elB_no hlt hy)
        rw [decide_eq_false hy] at hI2
        clear hy
        generalize l[k]?.getD 0 = y at *
        go_wp2_with (fail)
        (with_reducible refine hI2.out.mono ?_)
        rintro e w1 ⟨rfl, rfl⟩
        go_wp2_with (fail)
        go_ret
        exact ⟨ret_bool hfin.out.symm, rfl⟩
    · obtain rfl : k = l.length := by omega
      have hfin := Lib.hid (elB_iff.2 hall.out)
      go_wp2_with (fail)
      go_ret
      exact ⟨ret_bool hfin.out.symm, rfl⟩

set_option maxHeartbeats 1000000 in
theorem gTwice_any (l : List Int) (A : Option Addr) (c : Nat) (w : World) (hr : Rd w w.heap.size A l) (hlc : l.length ≤ c) (hl : c ≤ maxLen) :
    Calls Try.prog 103 #[.slice A l.length c] w fun e w' => e = .returned (.bool (twB l)) ∧ w = w' := by
  unfold maxLen at hl
  go_enter Try.func103, Try.ntmps103
  go_wp2_with (fail)
  go_loop [9, 3, 4] (fun i _ _ => ∃ k : Nat, k ≤ l.length ∧ i = .int .i64 k ∧ Hid (∀ i j, j < i → i < k → l[i]?.getD 0 ≠ l[j]?.getD 0)) (fun i _ _ => l.length - (intOf i).toNat)
  case atStart => exact ⟨0, by omega, rfl, fun i j h1 h2 => absurd h2 (by omega)⟩
  case round =>
    obtain ⟨k, hk, rfl, hall⟩ := hrel
    by_cases hlt : k < l.length
    · obtain ⟨b, o, rfl, -, hc⟩ := hr.at_ hlt
      obtain ⟨y, hy⟩ : ∃ y, y = l[k]?.getD 0 := ⟨_, rfl⟩
      rw [← hy] at hc
      replace hy := Lib.hid hy
      go_wp2_with (fail)
      go_loop [18, 6] (fun i _ => ∃ j : Nat, j ≤ k ∧ i = .int .i64 j ∧ Hid (∀ t, t < j → y ≠ l[t]?.getD 0)) (fun i _ => k - (intOf i).toNat)
      case atStart => exact ⟨0, by omega, rfl, fun t ht => absurd ht (by omega)⟩
      case round =>
        obtain ⟨j, hj, rfl, hall3⟩ := hrel
        by_cases hlt2 : j < k
        · obtain ⟨b2, o2, e2, -, hc2⟩ := hr.at_ (by omega : j < l.length)
          cases e2
          obtain ⟨z, hz⟩ : ∃ z, z = l[j]?.getD 0 := ⟨_, rfl⟩
          rw [← hz] at hc2
          replace hz := Lib.hid hz
          by_cases hyz : y = z
          · have hfin := Lib.hid (twB_yes hlt2 hlt (by rw [← hy.out, ← hz.out, hyz]))
            have hb : (y == z) = true := beq_iff_eq.2 hyz
            clear hyz
            go_wp2_with (fail)
            go_ret
            exact ⟨ret_bool hfin.out.symm, rfl⟩
          · have hb : (y == z) = false := beq_eq_false_iff_ne.2 hyz
            have hall4 : Hid (∀ t, t < j + 1 → y ≠ l[t]?.getD 0) := fun t ht => by
              by_cases e : t = j
              · subst e; rw [← hz.out]; exact hyz
              · exact hall3.out t (by omega)
            clear hyz
            go_wp2_with (fail)
            go_round
            case rel => exact ⟨j + 1, by omega, by go_num, hall4⟩
            case measure => simp [intOf]; omega
        · obtain rfl : j = k := by omega
          have hall2 : Hid (∀ i t, t < i → i < j + 1 → l[i]?.getD 0 ≠ l[t]?.getD 0) := fun i t h1 h2 => by
            by_cases e : i = j
            · subst e; rw [← hy.out]; exact hall3.out t h1
            · exact hall.out i t h1 (by omega)
          go_wp2_with (fail)
          go_round
          case rel => exact ⟨j + 1, by omega, by go_num, hall2⟩
          case measure => simp [intOf]; omega
    · obtain rfl : k = l.length := by omega
      have hfin := Lib.hid (twB_no hall.out)
      go_wp2_with (fail)
      go_ret
      exact ⟨ret_bool hfin.out.symm, rfl⟩

/-- A list of ints as a polynomial: its value at u. -/
def pevI (D : Desc) [CRing (R D)] (l : List Int) (u : R D) : R D := rsum l.length fun i => eli D (l[i]?.getD 0) * pw u i
/-- Horner's sum from place i on. -/
def horner (D : Desc) (l : List Int) (u : R D) : Nat → R D
  | 0 => 0
  | t + 1 => horner D l u t * u + eli D (l[l.length - (t + 1)]?.getD 0)
theorem horner_eq (D : Desc) (l : List Int) (u : R D) : ∀ t, t ≤ l.length → horner D l u t = rsum t (fun i => eli D (l[l.length - t + i]?.getD 0) * pw u i)
  | 0, _ => rfl
  | t + 1, h => by
    show horner D l u t * u + _ = _
    rw [horner_eq D l u t (by omega), rsum_succ_left, Nat.add_zero, pw_zero, mul_one, add_c, ← rsum_mul_right]
    congr 1
    refine rsum_congr fun i hi => ?_
    rw [show l.length - (t + 1) + (i + 1) = l.length - t + i by omega, mul_a]
    rfl
theorem horner_full (D : Desc) (l : List Int) (u : R D) : horner D l u l.length = pevI D l u := by
  rw [horner_eq D l u _ (Nat.le_refl _), Nat.sub_self]
  exact rsum_congr fun i _ => by rw [Nat.zero_add]

set_option maxHeartbeats 1000000 in
theorem pEval_any (D : FD) (l : List Int) (x : Int) (A : Option Addr) (c g : Nat) (w : World) (hg : GF w w.heap.size g D) (hr : Rd w w.heap.size A l) (hl : l.length ≤ maxLen) :
    Calls Try.prog 104 #[.pointer (some ⟨g, 0, none⟩), .slice A l.length c, .int .i64 x] w fun e w' => e = .returned (.int .i64 (ci (pevI D.toDesc l (eli D.toDesc x)))) ∧ Below w.heap.size w w' := by
  unfold maxLen at hl
  have hM := fun y W hg => Lib.hid (gMul_any D y x g W hg)
  have hA := fun y z W hg => Lib.hid (gAdd_any D y z g W hg)
  have hfin := Lib.hid (horner_full D.toDesc l (eli D.toDesc x))
  go_enter Try.func104, Try.ntmps104
  go_wp2_with (fail)
  go_loopw [7, 8] (fun y i wr => ∃ t : Nat, t ≤ l.length ∧ i = .int .i64 ((l.length : Int) - 1 - t) ∧ y = .int .i64 (ci (horner D.toDesc l (eli D.toDesc x) t)) ∧ Below w.heap.size w wr) (fun _ i _ => (intOf i + 1).toNat)
  case atStart => exact ⟨0, by omega, by go_num, by show _ = Value.int .i64 (ci (0 : R D.toDesc)); rw [ci_zero], Below.refl _ _⟩
  case round =>
    obtain ⟨t, ht, rfl, rfl, hbw⟩ := hrel
    by_cases hlt : t < l.length
    · have hge : decide ((0 : Int) ≤ (l.length : Int) - 1 - t) = true := by simp; omega
      obtain ⟨k, hk⟩ : ∃ k : Nat, k = l.length - (t + 1) := ⟨_, rfl⟩
      have hki : (l.length : Int) - 1 - t = (k : Int) := by omega
      rw [hki]
      have hkl : k < l.length := by omega
      have hk0 : (0 : Int) ≤ (k : Int) := by omega
      have hk1 : (k : Int) < (l.length : Int) := by omega
      obtain ⟨b, o, rfl, hb, hc⟩ := hr.at_ hkl
      have hc2 := (hbw.cell (p := ⟨b, o + k, none⟩) hb).trans hc
      have hs : horner D.toDesc l (eli D.toDesc x) (t + 1) = horner D.toDesc l (eli D.toDesc x) t * eli D.toDesc x + eli D.toDesc (l[k]?.getD 0) := by rw [hk]; rfl
      obtain ⟨y, hy⟩ : ∃ y, y = l[k]?.getD 0 := ⟨_, rfl⟩
      rw [← hy] at hc2 hs
      have hM2 := fun W hg => (hM (ci (horner D.toDesc l (eli D.toDesc x) t)) W hg).out
      rw [eli_ci] at hM2
      replace hM2 := fun W hg => Lib.hid (hM2 W hg)
      have hA2 := fun W hg => (hA (ci (horner D.toDesc l (eli D.toDesc x) t * eli D.toDesc x)) y W hg).out
      rw [eli_ci, ← hs] at hA2
      replace hA2 := fun W hg => Lib.hid (hA2 W hg)
      have hgr := (hg.below hbw).more hbw.size
      have hcc := Lib.hid hc2
      replace hki := Lib.hid hki
      have hkt : k + t + 1 = l.length := by omega
      replace hkt := Lib.hid hkt
      clear hc hs hy hge hk
      go_wp2_with (fail)
      go_region_held3 (fun w' => w'.cell? ⟨b, o + k, none⟩ = some (.int .i64 y)) (first | exact hcc.out | exact hcc1.out | exact hcc2.out)
        (first
          | (go_at_call 67; (with_reducible refine (hM2 _ hgr.drew).out.mono ?_); rintro e w1 ⟨rfl, hb1⟩; have hbt1 := (hbw.drew).trans (hb1.mono hbw.size); have hcc1 := Lib.hid ((hb1.cell (p := ⟨b, o + k, none⟩) (Nat.lt_of_lt_of_le hb hbw.size)).trans hcc.out); have hg1 := (hg.below hbt1).more hbt1.size)
          | (go_at_call 85; (with_reducible refine (hA2 _ hg1).out.mono ?_); rintro e w2 ⟨rfl, hb2⟩; have hbt2 := hbt1.trans (hb2.mono hbt1.size); have hcc2 := Lib.hid ((hb2.cell (p := ⟨b, o + k, none⟩) (Nat.lt_of_lt_of_le hb hbt1.size)).trans hcc1.out)))
      go_wp2_with (fail)
      go_roundw
      case rel => exact ⟨t + 1, by omega, by rw [← hki.out]; go_num, rfl, hbt2⟩
      case measure => rw [← hki.out]; simp [intOf]; omega
    · obtain rfl : t = l.length := by omega
      have hge : decide ((0 : Int) ≤ (l.length : Int) - 1 - (l.length : Int)) = false := by simp; omega
      have hki : (l.length : Int) - 1 - (l.length : Int) = -1 := by omega
      rw [hki]
      clear hge
      go_wp2_with (fail)
      go_ret
      exact ⟨ret_int (by rw [hfin.out]), hbw⟩
end Go.Proofs.Ytnbkmkeiophjoaa
