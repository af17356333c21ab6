/- Layer 18 of the program: elements, twice. -/
import Derived.Test.YtemanlkgfhmclaaPev
import Derived.Test.YtemanlkgfhmclaaEls
namespace Go.Proofs.Ytemanlkgfhmclaa
open Go.RowKit Cw

/-- Are two entries equal? -/
def twB (l : List Int) : Bool := decide (¬ l.Nodup)
theorem twB_yes {l : List Int} {i j : Nat} (hij : j < i) (hi : i < l.length) (h : l[i]?.getD 0 = l[j]?.getD 0) : twB l = true := by
  unfold twB
  rw [decide_eq_true_iff]
  intro hn
  rw [List.getElem?_eq_getElem hi, List.getElem?_eq_getElem (by omega : j < l.length)] at h
  exact List.pairwise_iff_getElem.1 hn j i (by omega) hi hij h.symm
theorem twB_no {l : List Int} (h : ∀ i j, j < i → i < l.length → l[i]?.getD 0 ≠ l[j]?.getD 0) : twB l = false := by
  unfold twB
  rw [decide_eq_false_iff_not, Classical.not_not]
  refine List.pairwise_iff_getElem.2 fun i j hi hj hij e => h j i hij hj ?_
  rw [List.getElem?_eq_getElem hi, List.getElem?_eq_getElem hj]
  exact e.symm

set_option maxHeartbeats 1000000 in
theorem gElems_any (D : FD) (l : List Int) (A : Option Addr) (c g : Nat) (w : World) (hg : GF w w.heap.size g D) (hr : Rd w w.heap.size A l) (hl : l.length ≤ maxLen) :
    Calls Try.prog 38 #[.pointer (some ⟨g, 0, none⟩), .slice A l.length c] w fun e w' => e = .returned (.bool (elB D.toDesc l)) ∧ w = w' := by
  unfold maxLen at hl
  have hI := fun x => Lib.hid (gIs_any D x g w hg)
  go_enter Try.func38, Try.ntmps38
  go_wp2_with (fail)
  go_loop [9, 6] (fun i _ => ∃ k : Nat, k ≤ l.length ∧ i = .int .i64 k ∧ Hid (∀ j, j < k → 0 ≤ l[j]?.getD 0 ∧ l[j]?.getD 0 < (D.q : Int))) (fun i _ => l.length - (intOf i).toNat)
  case atStart => exact ⟨0, by omega, rfl, fun j hj => absurd hj (by omega)⟩
  case round =>
    obtain ⟨k, hk, rfl, hall⟩ := hrel
    by_cases hlt : k < l.length
    · obtain ⟨b, o, rfl, -, hc⟩ := hr.at_ hlt
      have hI2 := hI (l[k]?.getD 0)
      by_cases hy : 0 ≤ l[k]?.getD 0 ∧ l[k]?.getD 0 < (D.q : Int)
      · rw [decide_eq_true hy] at hI2
        have hall2 : Hid (∀ j, j < k + 1 → 0 ≤ l[j]?.getD 0 ∧ l[j]?.getD 0 < (D.q : Int)) := fun j hj => by
          by_cases e : j = k
          · subst e; exact hy
          · exact hall.out j (by omega)
        clear hy
        generalize l[k]?.getD 0 = y at *
        go_wp2_with (fail)
        (with_reducible refine hI2.out.mono ?_)
        rintro e w1 ⟨rfl, rfl⟩
        go_wp2_with (fail)
        go_round
        case rel => exact ⟨k + 1, by omega, by go_num, hall2⟩
        case measure => simp [intOf]; omega
      · have hfin := Lib.hid (elB_no hlt hy)
        rw [decide_eq_false hy] at hI2
        clear hy
        generalize l[k]?.getD 0 = y at *
        go_wp2_with (fail)
        (with_reducible refine hI2.out.mono ?_)
        rintro e w1 ⟨rfl, rfl⟩
        go_wp2_with (fail)
        go_ret
        exact ⟨ret_bool hfin.out.symm, rfl⟩
    · obtain rfl : k = l.length := by omega
      have hfin := Lib.hid (elB_iff.2 hall.out)
      go_wp2_with (fail)
      go_ret
      exact ⟨ret_bool hfin.out.symm, rfl⟩

set_option maxHeartbeats 1000000 in
theorem gTwice_any (l : List Int) (A : Option Addr) (c : Nat) (w : World) (hr : Rd w w.heap.size A l) (hlc : l.length ≤ c) (hl : c ≤ maxLen) :
    Calls Try.prog 44 #[.slice A l.length c] w fun e w' => e = .returned (.bool (twB l)) ∧ w = w' := by
  unfold maxLen at hl
  go_enter Try.func44, Try.ntmps44
  go_wp2_with (fail)
  go_loop [9, 3, 4] (fun i _ _ => ∃ k : Nat, k ≤ l.length ∧ i = .int .i64 k ∧ Hid (∀ i j, j < i → i < k → l[i]?.getD 0 ≠ l[j]?.getD 0)) (fun i _ _ => l.length - (intOf i).toNat)
  case atStart => exact ⟨0, by omega, rfl, fun i j h1 h2 => absurd h2 (by omega)⟩
  case round =>
    obtain ⟨k, hk, rfl, hall⟩ := hrel
    by_cases hlt : k < l.length
    · obtain ⟨b, o, rfl, -, hc⟩ := hr.at_ hlt
      obtain ⟨y, hy⟩ : ∃ y, y = l[k]?.getD 0 := ⟨_, rfl⟩
      rw [← hy] at hc
      replace hy := Lib.hid hy
      go_wp2_with (fail)
      go_loop [18, 6] (fun i _ => ∃ j : Nat, j ≤ k ∧ i = .int .i64 j ∧ Hid (∀ t, t < j → y ≠ l[t]?.getD 0)) (fun i _ => k - (intOf i).toNat)
      case atStart => exact ⟨0, by omega, rfl, fun t ht => absurd ht (by omega)⟩
      case round =>
        obtain ⟨j, hj, rfl, hall3⟩ := hrel
        by_cases hlt2 : j < k
        · obtain ⟨b2, o2, e2, -, hc2⟩ := hr.at_ (by omega : j < l.length)
          cases e2
          obtain ⟨z, hz⟩ : ∃ z, z = l[j]?.getD 0 := ⟨_, rfl⟩
          rw [← hz] at hc2
          replace hz := Lib.hid hz
          by_cases hyz : y = z
          · have hfin := Lib.hid (twB_yes hlt2 hlt (by rw [← hy.out, ← hz.out, hyz]))
            have hb : (y == z) = true := beq_iff_eq.2 hyz
            clear hyz
            go_wp2_with (fail)
            go_ret
            exact ⟨ret_bool hfin.out.symm, rfl⟩
          · have hb : (y == z) = false := beq_eq_false_iff_ne.2 hyz
            have hall4 : Hid (∀ t, t < j + 1 → y ≠ l[t]?.getD 0) := fun t ht => by
              by_cases e : t = j
              · subst e; rw [← hz.out]; exact hyz
              · exact hall3.out t (by omega)
            clear hyz
            go_wp2_with (fail)
            go_round
            case rel => exact ⟨j + 1, by omega, by go_num, hall4⟩
            case measure => simp [intOf]; omega
        · obtain rfl : j = k := by omega
          have hall2 : Hid (∀ i t, t < i → i < j + 1 → l[i]?.getD 0 ≠ l[t]?.getD 0) := fun i t h1 h2 => by
            by_cases e : i = j
            · subst e; rw [← hy.out]; exact hall3.out t h1
            · exact hall.out i t h1 (by omega)
          go_wp2_with (fail)
          go_round
          case rel => exact ⟨j + 1, by omega, by go_num, hall2⟩
          case measure => simp [intOf]; omega
    · obtain rfl : k = l.length := by omega
      have hfin := Lib.hid (twB_no hall.out)
      go_wp2_with (fail)
      go_ret
      exact ⟨ret_bool hfin.out.symm, rfl⟩
end Go.Proofs.Ytemanlkgfhmclaa
