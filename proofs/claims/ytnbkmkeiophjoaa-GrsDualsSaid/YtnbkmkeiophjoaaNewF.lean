/- The program's New and the reference's Check agree: a field just if the modulus has no divisor. -/
import Derived.Test.YtnbkmkeiophjoaaP4
import Derived.Test.YtnbkmkeiophjoaaRefG
import Derived.Test.YtnbkmkeiophjoaaP1
namespace Go.Proofs.Ytnbkmkeiophjoaa
open Go.RowKit Cw

set_option maxHeartbeats 1000000 in
theorem New_bad (P M : Int) (ml : List Int) (A : Option Addr) (c : Nat) (w : World) (hP : P ≤ 9223372036854775807) (hM : M ≤ 9223372036854775807) (hl : ml.length ≤ maxLen) (hr : Rd w w.heap.size A ml) (hb : ¬ Valid P M ml) :
    Calls Try.prog 56 #[.agg #[.int .i64 P, .int .i64 M, .slice A ml.length c]] w fun e w' => e = .returned (.tuple #[.pointer none, .int .i64 1]) ∧ Below w.heap.size w w' := by
  have hS := fun W hr => Lib.hid (shape_any P M ml A c W hP hM hl hr)
  rw [validB_false hb] at hS
  have k0 := Lib.hid (alloc3 w (.int .i64 P) (.int .i64 M) (.slice A ml.length c) 24)
  have hB : Below w.heap.size w (w.alloc (.cells #[.int .i64 P, .int .i64 M, .slice A ml.length c] 24)) := (Below.refl _ _).alloc (Nat.le_refl _) _
  have hS2 := hS _ ((hr.below hB).more hB.size)
  clear hb hS hl
  go_enter Try.func56, Try.ntmps56
  go_wp2_with (fail)
  (with_reducible refine hS2.out.mono ?_)
  rintro e w1 ⟨rfl, hb1⟩
  go_wp2_with (fail)
  go_ret2
  exact ⟨rfl, hB.trans (hb1.mono hB.size)⟩

theorem good_of_gen {D : Desc} {u : R D} (h : IsGen u) : Good D.p D.m (modL D) := by
  refine ⟨D, rfl, rfl, rfl, .inr (irrB_true fun d h1 h2 v hv => ?_)⟩
  exact irr_of_gen D.hmod h h1 h2
open Classical in
theorem gen_of_good {D : Desc} (h : Good D.p D.m (modL D)) : ∃ u : R D, IsGen u := by
  obtain ⟨D', hp, hm, hml, hi⟩ := h
  have e1 : D.p = D'.p := by omega
  have e2 : D.m = D'.m := by omega
  have e3 := modL_inj hml
  obtain rfl : D = D' := by
    obtain ⟨p, m, mod, a1, a2, a3, a4, a5, a6⟩ := D
    obtain ⟨p', m', mod', b1, b2, b3, b4, b5, b6⟩ := D'
    dsimp at e1 e2 e3
    subst e1 e2 e3
    rfl
  refine gen_of_irr D.hmod (hi.imp id fun h d h1 h2 v hv => ?_)
  unfold irrB at h
  exact of_decide_eq_true h d h1 h2 v hv

/-- What New hands back, for whatever comes in. -/
def NewAny (P M : Int) (ml : List Int) (w : World) (e : Ending) (w' : World) : Prop :=
  Below w.heap.size w w' ∧ ((Good P M ml ∧ ∃ g, ∃ F : FD, P = F.p ∧ M = F.m ∧ ml = modL F.toDesc ∧ e = .returned (.tuple #[.pointer (some ⟨g, 0, none⟩), .int .i64 0]) ∧ w.heap.size ≤ g ∧ GF w' w'.heap.size g F) ∨
    (¬ Good P M ml ∧ e = .returned (.tuple #[.pointer none, .int .i64 1])))
theorem New_any (P M : Int) (ml : List Int) (A : Option Addr) (c : Nat) (w : World) (hP : P ≤ 9223372036854775807) (hM : M ≤ 9223372036854775807) (hl : ml.length ≤ maxLen) (hr : Rd w w.heap.size A ml) :
    Calls Try.prog 56 #[.agg #[.int .i64 P, .int .i64 M, .slice A ml.length c]] w (NewAny P M ml w) := by
  by_cases hv : Valid P M ml
  · obtain ⟨D, rfl, rfl, rfl⟩ := hv
    rw [modL_length]
    refine (New_valid D A c w hr).mono ?_
    rintro e w' ⟨hb, ⟨g, F, rfl, rfl, h1, h2⟩ | ⟨hno, rfl⟩⟩
    · exact ⟨hb, .inl ⟨good_of_gen (u := F.g) ⟨F.g_inj, F.g_one⟩, g, F, rfl, rfl, rfl, rfl, h1, h2⟩⟩
    · exact ⟨hb, .inr ⟨fun hg => by obtain ⟨u, hu⟩ := gen_of_good hg; exact hno u hu, rfl⟩⟩
  · refine (New_bad P M ml A c w hP hM hl hr hv).mono ?_
    rintro e w' ⟨rfl, hb⟩
    exact ⟨hb, .inr ⟨fun h => hv h.valid, rfl⟩⟩
/-- New, for a good description. -/
theorem New_good (D : Desc) (A : Option Addr) (c : Nat) (w : World) (hr : Rd w w.heap.size A (modL D)) (hg : Good D.p D.m (modL D)) :
    Calls Try.prog 56 #[.agg #[.int .i64 D.p, .int .i64 D.m, .slice A D.mod.length c]] w fun e w' =>
      ∃ g, ∃ F : FD, F.toDesc = D ∧ e = .returned (.tuple #[.pointer (some ⟨g, 0, none⟩), .int .i64 0]) ∧ w.heap.size ≤ g ∧ GF w' w'.heap.size g F ∧ Below w.heap.size w w' := by
  refine (New_valid D A c w hr).mono ?_
  rintro e w' ⟨hb, ⟨g, F, rfl, rfl, h1, h2⟩ | ⟨hno, rfl⟩⟩
  · exact ⟨g, F, rfl, rfl, h1, h2, hb⟩
  · obtain ⟨u, hu⟩ := gen_of_good hg
    exact absurd hu (hno u)
/-- New, for any other. -/
theorem New_no (P M : Int) (ml : List Int) (A : Option Addr) (c : Nat) (w : World) (hP : P ≤ 9223372036854775807) (hM : M ≤ 9223372036854775807) (hl : ml.length ≤ maxLen) (hr : Rd w w.heap.size A ml) (hb : ¬ Good P M ml) :
    Calls Try.prog 56 #[.agg #[.int .i64 P, .int .i64 M, .slice A ml.length c]] w fun e w' => e = .returned (.tuple #[.pointer none, .int .i64 1]) ∧ Below w.heap.size w w' := by
  refine (New_any P M ml A c w hP hM hl hr).mono ?_
  rintro e w' ⟨hb1, ⟨hg, -⟩ | ⟨-, rfl⟩⟩
  · exact absurd hg hb
  · exact ⟨rfl, hb1⟩
end Go.Proofs.Ytnbkmkeiophjoaa
