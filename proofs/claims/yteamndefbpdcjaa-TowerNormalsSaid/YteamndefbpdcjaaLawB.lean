/- The law's own: made (Check, then New). -/
import Derived.Test.YteamndefbpdcjaaLawA
import Derived.Test.YteamndefbpdcjaaRG
namespace Go.Proofs.Yteamndefbpdcjaa
open Go.RowKit Go.Shelf Cw
attribute [local go_sem] Oper.semAt_some

set_option maxHeartbeats 1000000 in
theorem made_bad (P M : Int) (ml : List Int) (A : Option Addr) (c : Nat) (w : World) (hP : P ≤ 9223372036854775807) (hM : M ≤ 9223372036854775807) (hl : ml.length ≤ maxLen) (hr : Rd w w.heap.size A ml) (hb : ¬ Good P M ml) :
    Calls Try.prog 21 #[.agg #[.int .i64 P, .int .i64 M, .slice A ml.length c]] w fun e w' => e = .returned (.pointer none) ∧ Below w.heap.size w w' := by
  have hC := fun W hr => Lib.hid (Check_any P M ml A c W hP hM hl hr)
  rw [chk_no hb] at hC
  have k0 := Lib.hid (alloc3 w (.int .i64 P) (.int .i64 M) (.slice A ml.length c) 24)
  have hB : Below w.heap.size w (w.alloc (.cells #[.int .i64 P, .int .i64 M, .slice A ml.length c] 24)) := (Below.refl _ _).alloc (Nat.le_refl _) _
  have hC2 := hC _ ((hr.below hB).more hB.size)
  clear hb hC
  go_enter Try.func21, Try.ntmps21
  go_wp2_with (fail)
  refine hC2.out.mono ?_
  rintro e w1 ⟨rfl, hb1⟩
  go_wp2_with (fail)
  go_ret
  exact ⟨rfl, hB.trans (hb1.mono hB.size)⟩

/-- What made hands back for a valid description. -/
def MadePost (D : Desc) (w : World) (e : Ending) (w' : World) : Prop :=
  Below w.heap.size w w' ∧ ((∃ g, ∃ F : FD, F.toDesc = D ∧ e = .returned (.pointer (some ⟨g, 0, none⟩)) ∧ w.heap.size ≤ g ∧ GF w' w'.heap.size g F) ∨
    ((∀ u : R D, ¬ IsGen u) ∧ e = .returned (.pointer none)))

set_option maxHeartbeats 1000000 in
theorem made_good (D : Desc) (A : Option Addr) (c : Nat) (w : World) (hr : Rd w w.heap.size A (modL D)) (hb : Good D.p D.m (modL D)) :
    Calls Try.prog 21 #[.agg #[.int .i64 D.p, .int .i64 D.m, .slice A D.mod.length c]] w (MadePost D w) := by
  have hq3 := D.q256; have hp1 := D.p256; have hp2 := D.m8
  have hml : D.mod.length ≤ 8 := by have := D.hlen; rw [this]; split <;> omega
  have hC := fun W hr => Lib.hid (Check_any D.p D.m (modL D) A c W (by omega) (by omega) (by rw [modL_length]; simp only [maxLen]; omega) hr)
  rw [chk_yes hb, modL_length] at hC
  have hN := fun W hr => Lib.hid (New_valid D A c W hr)
  have k0 := Lib.hid (alloc3 w (.int .i64 D.p) (.int .i64 D.m) (.slice A D.mod.length c) 24)
  have hB : Below w.heap.size w (w.alloc (.cells #[.int .i64 D.p, .int .i64 D.m, .slice A D.mod.length c] 24)) := (Below.refl _ _).alloc (Nat.le_refl _) _
  have hr0 := (hr.below hB).more hB.size
  have hC2 := hC _ hr0
  clear hb hC
  unfold MadePost
  go_enter Try.func21, Try.ntmps21
  go_wp2_with (fail)
  refine hC2.out.mono ?_
  rintro e w1 ⟨rfl, hb1⟩
  obtain ⟨ka, kb, kc⟩ := keep3 hb1 (by simp) k0.out
  have hr1 := (hr0.below hb1).more hb1.size
  have hB1 := hB.trans (hb1.mono hB.size)
  have hN1 := hN _ hr1
  clear hN hC2
  go_wp2_with (fail)
  refine hN1.out.mono ?_
  rintro e w2 ⟨hb2, ⟨g, F, hF, rfl, hgl, hgf⟩ | ⟨hno, rfl⟩⟩
  · go_wp2_with (fail)
    go_ret
    exact ⟨hB1.trans (hb2.mono hB1.size), .inl ⟨g, F, hF, rfl, Nat.le_trans hB1.size hgl, hgf⟩⟩
  · go_wp2_with (fail)
    go_ret
    exact ⟨hB1.trans (hb2.mono hB1.size), .inr ⟨hno, rfl⟩⟩
end Go.Proofs.Yteamndefbpdcjaa
