/- The law's own: alive. -/
import Derived.Test.YteamndefbpdcjaaLawC
namespace Go.Proofs.Yteamndefbpdcjaa
open Go.RowKit Go.Shelf Cw
attribute [local go_sem] Oper.semAt_some

set_option maxHeartbeats 2000000 in
theorem alive_any (w : World) : Calls Try.prog 20 #[] w fun e w' => e = .returned (.bool true) ∧ Below w.heap.size w w' := by
  have hM := fun A c W hr => Lib.hid (made_good D16 A c W hr good16)
  go_enter Try.func20, Try.ntmps20
  go_wp2_with (fail)
  have hrd : Rd (w.alloc (.cells #[.int .i64 1, .int .i64 1, .int .i64 0, .int .i64 0] 3)) (w.alloc (.cells #[.int .i64 1, .int .i64 1, .int .i64 0, .int .i64 0] 3)).heap.size (some ⟨w.heap.size, 0, none⟩) (modL D16) := fun _ => ⟨w.heap.size, 0, rfl, by simp, fun j hj => by
    have hj4 : j < 4 := hj
    rcases (by omega : j = 0 ∨ j = 1 ∨ j = 2 ∨ j = 3) with rfl | rfl | rfl | rfl <;> simp [go_sem] <;> rfl⟩
  have hB0 : Below w.heap.size w (w.alloc (.cells #[.int .i64 1, .int .i64 1, .int .i64 0, .int .i64 0] 3)) := (Below.refl _ _).alloc (Nat.le_refl _) _
  refine (hM (some ⟨w.heap.size, 0, none⟩) 4 _ hrd).out.mono ?_
  rintro e w1 ⟨hb1, ⟨g, F, hF, rfl, hgl, hg⟩ | ⟨hno, rfl⟩⟩
  · have hB1 := hB0.trans (hb1.mono hB0.size)
    go_wp2_with (fail)
    have hm : F.m = 4 := by show F.toDesc.m = 4; rw [hF]; rfl
    have hS := tSubfield_yes F 2 g w1 hg (by decide) (by rw [hm]; decide)
    rw [sub16 F hF] at hS
    refine hS.mono ?_
    rintro e w2 ⟨v, rfl, hown, hb2⟩
    have hg2 := (hg.below hb2).more hb2.size
    obtain ⟨A, c, rfl, -, hrv, -⟩ := hown.form
    have hT := tTrace_yes F 8 1 g w2 hg2 (by decide) (by rw [hm]; decide)
    have h8 : ci (tr 1 (eli F.toDesc 8)) = 1 := by
      have hq : F.toDesc.q = 16 := by rw [hF]; rfl
      rw [show eli F.toDesc 8 = rel F.toDesc 8 from eli_nat (n := 8) (by omega), tr16 F hF]
      show ((rcode (rel F.toDesc 1) : Nat) : Int) = 1
      rw [rcode_rel (by omega)]; rfl
    rw [h8] at hT
    clear h8
    go_wp2_with (fail)
    refine hT.mono ?_
    rintro e w3 ⟨rfl, hb3⟩
    have hg3 := (hg2.below hb3).more hb3.size
    have hrv3 := (hrv.below hb3).more hb3.size
    go_wp2_with (fail)
    have hib := IB.new w3 [0, 1, 6, 7]
    have hB4 : Below w3.heap.size w3 (w3.alloc (.cells #[.int .i64 0, .int .i64 1, .int .i64 6, .int .i64 7] 3)) := (Below.refl _ _).alloc (Nat.le_refl _) _
    have hM := same_any [0, 1, 6, 7] [0, 1, 6, 7] A (some ⟨w3.heap.size, 0, none⟩) c 4 _ ((hrv3.below hB4).more hB4.size) hib.rd (by decide) (by decide)
    refine hM.mono ?_
    rintro e w4 ⟨rfl, hb4⟩
    have hg4 := (((hg3.below hB4).more hB4.size).below hb4).more hb4.size
    have hD := tDegree_any F 2 g w4 hg4
    go_wp2_with (fail)
    refine hD.mono ?_
    rintro e w5 ⟨d, hd, rfl, hb5⟩
    rw [show eli F.toDesc 2 = rel F.toDesc 2 from eli_nat (n := 2) (by have hq : F.toDesc.q = 16 := by { rw [hF]; rfl }
                                                                       omega)] at hd
    obtain rfl : d = 4 := deg16 F hF hd
    go_wp2_with (fail)
    go_ret
    exact ⟨rfl, (((hB1.trans (hb2.mono hB1.size)).trans ((hb3.trans (hB4.mono hb3.size)).mono (by have := hB1.size; have := hb2.size; omega))).trans (hb4.mono (by have := hB1.size; have := hb2.size; have := hb3.size; have := hB4.size; omega))).trans (hb5.mono (by have := hB1.size; have := hb2.size; have := hb3.size; have := hB4.size; have := hb4.size; omega))⟩
  · exact absurd gen16 (hno _)
end Go.Proofs.Yteamndefbpdcjaa
