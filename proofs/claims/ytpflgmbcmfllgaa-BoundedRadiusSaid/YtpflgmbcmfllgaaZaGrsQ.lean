/- Layer 18: Puncture of the program, Without of the reference. -/
import Derived.Test.YtpflgmbcmfllgaaZaSel
namespace Go.Proofs.Ytpflgmbcmfllgaa
open Go.RowKit Cw
attribute [local go_sem] Oper.semAt_some

/-- A description under way: its cells, its two lists. -/
def PD (W : World) (bd : Nat) (u0 u1 u2 u3 v1 v2 : Value) (l1 l2 : List Int) : Prop := Six W bd u0 u1 u2 u3 v1 v2 ∧ Own W (bd + 1) v1 l1 ∧ Own W (bd + 1) v2 l2 ∧ Dis v1 v2 ∧ bd < W.heap.size
section
variable {W W' : World} {bd : Nat} {u0 u1 u2 u3 v1 v2 u : Value} {l1 l2 l' : List Int}
theorem PD.drew (h : PD W bd u0 u1 u2 u3 v1 v2 l1 l2) : PD W.drew bd u0 u1 u2 u3 v1 v2 l1 l2 := h
theorem PD.below (h : PD W bd u0 u1 u2 u3 v1 v2 l1 l2) (hb : Below W.heap.size W W') : PD W' bd u0 u1 u2 u3 v1 v2 l1 l2 :=
  ⟨h.1.keep hb h.2.2.2.2, h.2.1.below hb (Nat.le_refl _), h.2.2.1.below hb (Nat.le_refl _), h.2.2.2.1, Nat.lt_of_lt_of_le h.2.2.2.2 hb.size⟩
end
theorem take_succ_mem {l : List Int} {k : Nat} (hk : k < l.length) (x : Int) : x ∈ l.take (k + 1) ↔ x ∈ l.take k ∨ x = l[k]?.getD 0 := by
  rw [List.take_succ_eq_append_getElem hk, List.mem_append, List.mem_singleton, List.getElem?_eq_getElem hk, Option.getD_some]
theorem take_succ_nodup {l : List Int} {k : Nat} (hk : k < l.length) (h : (l.take k).Nodup) (hn : ¬ l[k]?.getD 0 ∈ l.take k) : (l.take (k + 1)).Nodup := by
  rw [List.take_succ_eq_append_getElem hk, List.nodup_append]
  rw [List.getElem?_eq_getElem hk, Option.getD_some] at hn
  refine ⟨h, by simp, fun x hx y hy e => hn ?_⟩
  have : y = l[k] := by simpa using hy
  rw [← this, ← e]; exact hx
theorem not_nodup_take {l : List Int} {k : Nat} (hk : k < l.length) (hn : l[k]?.getD 0 ∈ l.take k) : ¬ l.Nodup := fun h => by
  have h2 : (l.take (k + 1)).Nodup := List.Pairwise.sublist (List.take_sublist _ _) h
  rw [List.take_succ_eq_append_getElem hk, List.nodup_append] at h2
  rw [List.getElem?_eq_getElem hk, Option.getD_some] at hn
  exact h2.2.2 _ hn _ (List.mem_singleton.2 rfl) rfl
theorem seen_step {l : List Int} {k x : Nat} (hk : k < l.length) (hx : l[k]?.getD 0 = (x : Int)) : (fun i : Nat => if i = x then true else decide ((i : Int) ∈ l.take k)) = fun i : Nat => decide ((i : Int) ∈ l.take (k + 1)) := funext fun i => by
  by_cases e : i = x
  · rw [if_pos e]; exact (decide_eq_true ((take_succ_mem hk _).2 (.inr (by rw [hx, e])))).symm
  · rw [if_neg e]
    by_cases h : (i : Int) ∈ l.take k
    · rw [decide_eq_true h, decide_eq_true ((take_succ_mem hk _).2 (.inl h))]
    · rw [decide_eq_false h, decide_eq_false fun h2 => ?_]
      rcases (take_succ_mem hk _).1 h2 with h3 | h3
      · exact h h3
      · rw [hx] at h3; exact e (by omega)

end Go.Proofs.Ytpflgmbcmfllgaa
