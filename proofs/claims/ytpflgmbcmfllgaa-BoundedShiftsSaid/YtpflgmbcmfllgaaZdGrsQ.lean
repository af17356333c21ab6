/- Plain law of layer 18: a description without some positions, its code. No Go here. Layer 18: Puncture of the program, Without of the reference. -/
import Derived.Test.YtpflgmbcmfllgaaZdMI
namespace Cw
section
variable {F : Type} [CField F] [DecidableEq F]
end
end Cw
namespace Go.Proofs.Ytpflgmbcmfllgaa
open Go.RowKit Cw

/-- The positions below k that are not named. -/
def idxL (a : List Int) : Nat → List Nat
  | 0 => []
  | k + 1 => if (k : Int) ∈ a then idxL a k else idxL a k ++ [k]
def selL (l a : List Int) (k : Nat) : List Int := (idxL a k).map fun i => l[i]?.getD 0
theorem idxL_yes {a : List Int} {k : Nat} (h : (k : Int) ∈ a) : idxL a (k + 1) = idxL a k := if_pos h
theorem idxL_no {a : List Int} {k : Nat} (h : ¬ (k : Int) ∈ a) : idxL a (k + 1) = idxL a k ++ [k] := if_neg h
theorem selL_yes {l a : List Int} {k : Nat} (h : (k : Int) ∈ a) : selL l a (k + 1) = selL l a k := by unfold selL; rw [idxL_yes h]
theorem selL_no {l a : List Int} {k : Nat} (h : ¬ (k : Int) ∈ a) : selL l a (k + 1) = selL l a k ++ [l[k]?.getD 0] := by unfold selL; rw [idxL_no h, List.map_append]; rfl
theorem selL_length (l a : List Int) (k : Nat) : (selL l a k).length = (idxL a k).length := List.length_map _
theorem idxL_le (a : List Int) : ∀ k, (idxL a k).length ≤ k
  | 0 => Nat.le_refl _
  | k + 1 => by
    have ih := idxL_le a k
    by_cases h : (k : Int) ∈ a
    · rw [idxL_yes h]; omega
    · rw [idxL_no h, List.length_append]; simp; omega
theorem idxL_mem {a : List Int} {i : Nat} : ∀ {k : Nat}, i ∈ idxL a k ↔ i < k ∧ ¬ (i : Int) ∈ a
  | 0 => ⟨fun h => (by cases h), fun h => absurd h.1 (Nat.not_lt_zero _)⟩
  | k + 1 => by
    have ih := idxL_mem (a := a) (i := i) (k := k)
    by_cases h : (k : Int) ∈ a
    · rw [idxL_yes h, ih]
      constructor
      · rintro ⟨h1, h2⟩; exact ⟨by omega, h2⟩
      · rintro ⟨h1, h2⟩
        refine ⟨?_, h2⟩
        rcases Nat.lt_or_ge i k with h3 | h3
        · exact h3
        · obtain rfl : i = k := by omega
          exact absurd h h2
    · rw [idxL_no h, List.mem_append, ih, List.mem_singleton]
      constructor
      · rintro (⟨h1, h2⟩ | rfl)
        · exact ⟨by omega, h2⟩
        · exact ⟨by omega, h⟩
      · rintro ⟨h1, h2⟩
        by_cases e : i = k
        · exact .inr e
        · exact .inl ⟨by omega, h2⟩
theorem idxL_nodup (a : List Int) : ∀ k, (idxL a k).Nodup
  | 0 => List.nodup_nil
  | k + 1 => by
    have ih := idxL_nodup a k
    by_cases h : (k : Int) ∈ a
    · rw [idxL_yes h]; exact ih
    · rw [idxL_no h, List.nodup_append]
      refine ⟨ih, by simp, fun x hx y hy e => ?_⟩
      have h1 := (idxL_mem.1 hx).1
      have h2 : y = k := by simpa using hy
      omega
theorem idxL_get {a : List Int} {k j : Nat} (hj : j < (idxL a k).length) : (idxL a k)[j]?.getD 0 < k := by
  rw [List.getElem?_eq_getElem hj, Option.getD_some]
  exact (idxL_mem.1 (List.getElem_mem hj)).1
theorem selL_get {l a : List Int} {k j : Nat} (hj : j < (idxL a k).length) : (selL l a k)[j]?.getD 0 = l[(idxL a k)[j]?.getD 0]?.getD 0 := by
  unfold selL
  rw [List.getElem?_map, List.getElem?_eq_getElem hj]
  rfl
end Go.Proofs.Ytpflgmbcmfllgaa

namespace Go.Proofs.Ytpflgmbcmfllgaa
open Go.RowKit Cw
attribute [local go_sem] Oper.semAt_some

/-- A description under way: its cells, its two lists. -/
def PD (W : World) (bd : Nat) (u0 u1 u2 u3 v1 v2 : Value) (l1 l2 : List Int) : Prop := Six W bd u0 u1 u2 u3 v1 v2 ∧ Own W (bd + 1) v1 l1 ∧ Own W (bd + 1) v2 l2 ∧ Dis v1 v2 ∧ bd < W.heap.size
section
variable {W W' : World} {bd : Nat} {u0 u1 u2 u3 v1 v2 u : Value} {l1 l2 l' : List Int}
theorem PD.drew (h : PD W bd u0 u1 u2 u3 v1 v2 l1 l2) : PD W.drew bd u0 u1 u2 u3 v1 v2 l1 l2 := h
theorem PD.below (h : PD W bd u0 u1 u2 u3 v1 v2 l1 l2) (hb : Below W.heap.size W W') : PD W' bd u0 u1 u2 u3 v1 v2 l1 l2 :=
  ⟨h.1.keep hb h.2.2.2.2, h.2.1.below hb (Nat.le_refl _), h.2.2.1.below hb (Nat.le_refl _), h.2.2.2.1, Nat.lt_of_lt_of_le h.2.2.2.2 hb.size⟩
end
theorem take_succ_mem {l : List Int} {k : Nat} (hk : k < l.length) (x : Int) : x ∈ l.take (k + 1) ↔ x ∈ l.take k ∨ x = l[k]?.getD 0 := by
  rw [List.take_succ_eq_append_getElem hk, List.mem_append, List.mem_singleton, List.getElem?_eq_getElem hk, Option.getD_some]
theorem take_succ_nodup {l : List Int} {k : Nat} (hk : k < l.length) (h : (l.take k).Nodup) (hn : ¬ l[k]?.getD 0 ∈ l.take k) : (l.take (k + 1)).Nodup := by
  rw [List.take_succ_eq_append_getElem hk, List.nodup_append]
  rw [List.getElem?_eq_getElem hk, Option.getD_some] at hn
  refine ⟨h, by simp, fun x hx y hy e => hn ?_⟩
  have : y = l[k] := by simpa using hy
  rw [← this, ← e]; exact hx
theorem not_nodup_take {l : List Int} {k : Nat} (hk : k < l.length) (hn : l[k]?.getD 0 ∈ l.take k) : ¬ l.Nodup := fun h => by
  have h2 : (l.take (k + 1)).Nodup := List.Pairwise.sublist (List.take_sublist _ _) h
  rw [List.take_succ_eq_append_getElem hk, List.nodup_append] at h2
  rw [List.getElem?_eq_getElem hk, Option.getD_some] at hn
  exact h2.2.2 _ hn _ (List.mem_singleton.2 rfl) rfl
theorem seen_step {l : List Int} {k x : Nat} (hk : k < l.length) (hx : l[k]?.getD 0 = (x : Int)) : (fun i : Nat => if i = x then true else decide ((i : Int) ∈ l.take k)) = fun i : Nat => decide ((i : Int) ∈ l.take (k + 1)) := funext fun i => by
  by_cases e : i = x
  · rw [if_pos e]; exact (decide_eq_true ((take_succ_mem hk _).2 (.inr (by rw [hx, e])))).symm
  · rw [if_neg e]
    by_cases h : (i : Int) ∈ l.take k
    · rw [decide_eq_true h, decide_eq_true ((take_succ_mem hk _).2 (.inl h))]
    · rw [decide_eq_false h, decide_eq_false fun h2 => ?_]
      rcases (take_succ_mem hk _).1 h2 with h3 | h3
      · exact h h3
      · rw [hx] at h3; exact e (by omega)

end Go.Proofs.Ytpflgmbcmfllgaa
