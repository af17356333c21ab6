/- Layer 18 of the program: open. -/
import Derived.Test.YtemanlkgfhmclaaGrsA
import Derived.Test.YtemanlkgfhmclaaGrsRow
namespace Go.Proofs.Ytemanlkgfhmclaa
open Go.RowKit Cw

theorem keep6 {B b : Nat} {W w1 : World} {v0 v1 v2 v3 v4 v5 : Value} (hb : Below B W w1) (hlt : b < B) (h : W.cell? ⟨b, 0, none⟩ = some v0 ∧ W.cell? ⟨b, 1, none⟩ = some v1 ∧ W.cell? ⟨b, 2, none⟩ = some v2 ∧ W.cell? ⟨b, 3, none⟩ = some v3 ∧ W.cell? ⟨b, 4, none⟩ = some v4 ∧ W.cell? ⟨b, 5, none⟩ = some v5) :
    w1.cell? ⟨b, 0, none⟩ = some v0 ∧ w1.cell? ⟨b, 1, none⟩ = some v1 ∧ w1.cell? ⟨b, 2, none⟩ = some v2 ∧ w1.cell? ⟨b, 3, none⟩ = some v3 ∧ w1.cell? ⟨b, 4, none⟩ = some v4 ∧ w1.cell? ⟨b, 5, none⟩ = some v5 :=
  ⟨(hb.cell (p := ⟨b, 0, none⟩) hlt).trans h.1, (hb.cell (p := ⟨b, 1, none⟩) hlt).trans h.2.1, (hb.cell (p := ⟨b, 2, none⟩) hlt).trans h.2.2.1, (hb.cell (p := ⟨b, 3, none⟩) hlt).trans h.2.2.2.1, (hb.cell (p := ⟨b, 4, none⟩) hlt).trans h.2.2.2.2.1, (hb.cell (p := ⟨b, 5, none⟩) hlt).trans h.2.2.2.2.2⟩
theorem alloc6 (w : World) (v0 v1 v2 v3 v4 v5 : Value) (t : TypeId) : (w.alloc (.cells #[v0, v1, v2, v3, v4, v5] t)).cell? ⟨w.heap.size, 0, none⟩ = some v0 ∧ (w.alloc (.cells #[v0, v1, v2, v3, v4, v5] t)).cell? ⟨w.heap.size, 1, none⟩ = some v1 ∧ (w.alloc (.cells #[v0, v1, v2, v3, v4, v5] t)).cell? ⟨w.heap.size, 2, none⟩ = some v2 ∧
    (w.alloc (.cells #[v0, v1, v2, v3, v4, v5] t)).cell? ⟨w.heap.size, 3, none⟩ = some v3 ∧ (w.alloc (.cells #[v0, v1, v2, v3, v4, v5] t)).cell? ⟨w.heap.size, 4, none⟩ = some v4 ∧ (w.alloc (.cells #[v0, v1, v2, v3, v4, v5] t)).cell? ⟨w.heap.size, 5, none⟩ = some v5 := by
  simp [go_sem]

/-- The error of a description over a field. -/
def gchkD (D : Desc) (K : Int) (pts mul : List Int) : Int :=
  if pts.length < 1 ∨ 64 < pts.length then 4 else if mul.length ≠ pts.length then 10 else if elB D pts = false ∨ elB D mul = false then 2
  else if twB pts = true then 18 else if (0 : Int) ∈ mul then 7 else if K < 0 ∨ (pts.length : Int) < K then 6 else 0

set_option maxHeartbeats 1000000 in
theorem gOpen_bad (P M K : Int) (ml pts mul : List Int) (A A1 A2 : Option Addr) (c c1 c2 : Nat) (w : World) (hP : I64 P) (hM : I64 M) (hl : ml.length ≤ maxLen) (hr : Rd w w.heap.size A ml) (hb : ¬ Good P M ml) :
    Calls Try.prog 20 #[.agg #[.int .i64 P, .int .i64 M, .slice A ml.length c, .int .i64 K, .slice A1 pts.length c1, .slice A2 mul.length c2]] w fun e w' => e = .returned (.tuple #[.pointer none, .int .i64 1]) ∧ Below w.heap.size w w' := by
  have hN := fun W h => Lib.hid (New_no P M ml A c W hP.2 hM.2 hl h hb)
  have k0 := Lib.hid (alloc6 w (.int .i64 P) (.int .i64 M) (.slice A ml.length c) (.int .i64 K) (.slice A1 pts.length c1) (.slice A2 mul.length c2) 26)
  have hB : Below w.heap.size w (w.alloc (.cells #[.int .i64 P, .int .i64 M, .slice A ml.length c, .int .i64 K, .slice A1 pts.length c1, .slice A2 mul.length c2] 26)) := (Below.refl _ _).alloc (Nat.le_refl _) _
  have hN2 := hN _ ((hr.below hB).more hB.size)
  clear hP hM hl hb hN
  go_enter Try.func20, Try.ntmps20
  go_wp2_with (fail)
  (with_reducible refine hN2.out.mono ?_)
  rintro e w1 ⟨rfl, hb1⟩
  obtain ⟨q0, q1, q2, q3, q4, q5⟩ := keep6 hb1 (by simp) k0.out
  go_wp2_with (fail)
  go_ret2
  exact ⟨rfl, hB.trans (hb1.mono hB.size)⟩

/-- What open hands back over a field. -/
def OpenPost (D : Desc) (K : Int) (pts mul : List Int) (w : World) (e : Ending) (w' : World) : Prop :=
  Below w.heap.size w w' ∧ ∃ g, ∃ F : FD, F.toDesc = D ∧ GF w' w'.heap.size g F ∧ w.heap.size ≤ g ∧
    ((gchkD D K pts mul = 0 ∧ e = .returned (.tuple #[.pointer (some ⟨g, 0, none⟩), .int .i64 0])) ∨ (gchkD D K pts mul ≠ 0 ∧ e = .returned (.tuple #[.pointer none, .int .i64 (gchkD D K pts mul)])))

set_option maxRecDepth 100000 in
set_option maxHeartbeats 2000000 in
theorem gOpen_D (D : Desc) (K : Int) (pts mul : List Int) (A A1 A2 : Option Addr) (c c1 c2 : Nat) (w : World) (hr : Rd w w.heap.size A (modL D)) (hg : Good D.p D.m (modL D)) (hr1 : Rd w w.heap.size A1 pts) (hr2 : Rd w w.heap.size A2 mul) (h1 : pts.length ≤ c1) (h1' : c1 ≤ maxLen) (h2 : mul.length ≤ maxLen) :
    Calls Try.prog 20 #[.agg #[.int .i64 D.p, .int .i64 D.m, .slice A D.mod.length c, .int .i64 K, .slice A1 pts.length c1, .slice A2 mul.length c2]] w (OpenPost D K pts mul w) := by
  have hN := fun W h => Lib.hid (New_good D A c W h hg)
  have k0 := Lib.hid (alloc6 w (.int .i64 D.p) (.int .i64 D.m) (.slice A D.mod.length c) (.int .i64 K) (.slice A1 pts.length c1) (.slice A2 mul.length c2) 26)
  have hB : Below w.heap.size w (w.alloc (.cells #[.int .i64 D.p, .int .i64 D.m, .slice A D.mod.length c, .int .i64 K, .slice A1 pts.length c1, .slice A2 mul.length c2] 26)) := (Below.refl _ _).alloc (Nat.le_refl _) _
  have hN2 := hN _ ((hr.below hB).more hB.size)
  have hm : c1 ≤ maxLen := h1'
  unfold maxLen at hm
  have hm2 := h2
  unfold maxLen at hm2
  clear hN hg
  unfold OpenPost
  go_enter Try.func20, Try.ntmps20
  go_wp2_with (fail)
  (with_reducible refine hN2.out.mono ?_)
  rintro e w1 ⟨g, F, rfl, rfl, hgl, hgf, hb1⟩
  have hB1 := hB.trans (hb1.mono hB.size)
  have hfin : ∀ (w2 : World) (e : Ending), GF w2 w2.heap.size g F → Below w.heap.size w w2 → ((gchkD F.toDesc K pts mul = 0 ∧ e = .returned (.tuple #[.pointer (some ⟨g, 0, none⟩), .int .i64 0])) ∨ (gchkD F.toDesc K pts mul ≠ 0 ∧ e = .returned (.tuple #[.pointer none, .int .i64 (gchkD F.toDesc K pts mul)]))) →
      Below w.heap.size w w2 ∧ ∃ g, ∃ F' : FD, F'.toDesc = F.toDesc ∧ GF w2 w2.heap.size g F' ∧ w.heap.size ≤ g ∧ ((gchkD F.toDesc K pts mul = 0 ∧ e = .returned (.tuple #[.pointer (some ⟨g, 0, none⟩), .int .i64 0])) ∨ (gchkD F.toDesc K pts mul ≠ 0 ∧ e = .returned (.tuple #[.pointer none, .int .i64 (gchkD F.toDesc K pts mul)]))) :=
    fun w2 e h1 h2 h3 => ⟨h2, g, F, rfl, h1, Nat.le_trans hB.size hgl, h3⟩
  have hr1' := (hr1.below hB1).more hB1.size
  have hr2' := (hr2.below hB1).more hB1.size
  have hE1 := Lib.hid (gElems_any F pts A1 c1 g w1 hgf hr1' (Nat.le_trans h1 h1'))
  have hE2 := Lib.hid (gElems_any F mul A2 c2 g w1 hgf hr2' h2)
  have hT := Lib.hid (gTwice_any pts A1 c1 w1 hr1' h1 h1')
  have hns : w.heap.size < w1.heap.size := by have := hb1.size; simp only [World.size_alloc] at this; omega
  obtain ⟨q0, q1, q2, q3, q4, q5⟩ := keep6 hb1 (by simp) k0.out
  replace hfin := Lib.hid hfin
  clear hb1 hN2 k0 hB hgl
  by_cases c1' : pts.length < 1
  · have hv : Hid (gchkD F.toDesc K pts mul = 4) := if_pos (.inl c1')
    go_wp2_with (fail)
    go_ret2
    exact hfin.out _ _ hgf hB1 (.inr ⟨by rw [hv.out]; decide, by rw [hv.out]; rfl⟩)
  by_cases c2' : 64 < pts.length
  · have hv : Hid (gchkD F.toDesc K pts mul = 4) := if_pos (.inr c2')
    go_wp2_with (fail)
    go_ret2
    exact hfin.out _ _ hgf hB1 (.inr ⟨by rw [hv.out]; decide, by rw [hv.out]; rfl⟩)
  have hch0 : gchkD F.toDesc K pts mul = if mul.length ≠ pts.length then 10 else if elB F.toDesc pts = false ∨ elB F.toDesc mul = false then 2
      else if twB pts = true then 18 else if (0 : Int) ∈ mul then 7 else if K < 0 ∨ (pts.length : Int) < K then 6 else 0 := if_neg (by omega)
  by_cases c3' : mul.length = pts.length
  rotate_left
  · have hv : Hid (gchkD F.toDesc K pts mul = 10) := hch0.trans (if_pos c3')
    have hz : ((mul.length : Int) != (pts.length : Int)) = true := by rw [bne_iff_ne]; omega
    clear hch0
    go_wp2_with (fail)
    go_ret2
    exact hfin.out _ _ hgf hB1 (.inr ⟨by rw [hv.out]; decide, by rw [hv.out]; rfl⟩)
  have hz3 : ((mul.length : Int) != (pts.length : Int)) = false := by rw [bne_eq_false_iff_eq]; omega
  rw [if_neg (not_not_intro c3')] at hch0
  replace c3' := Lib.hid c3'
  by_cases c4' : elB F.toDesc pts = true
  rotate_left
  · rw [Bool.not_eq_true] at c4'
    have hv : Hid (gchkD F.toDesc K pts mul = 2) := hch0.trans (if_pos (.inl c4'))
    rw [c4'] at hE1
    clear hch0 c4'
    go_wp2_with (fail)
    (with_reducible refine hE1.out.mono ?_)
    rintro e w2 ⟨rfl, rfl⟩
    go_wp2_with (fail)
    go_ret2
    exact hfin.out _ _ hgf hB1 (.inr ⟨by rw [hv.out]; decide, by rw [hv.out]; rfl⟩)
  rw [c4'] at hE1
  by_cases c5' : elB F.toDesc mul = true
  rotate_left
  · rw [Bool.not_eq_true] at c5'
    have hv : Hid (gchkD F.toDesc K pts mul = 2) := hch0.trans (if_pos (.inr c5'))
    rw [c5'] at hE2
    clear hch0 c5' c4'
    go_wp2_with (fail)
    (with_reducible refine hE1.out.mono ?_)
    rintro e w2 ⟨rfl, rfl⟩
    go_wp2_with (fail)
    (with_reducible refine hE2.out.mono ?_)
    rintro e w2 ⟨rfl, rfl⟩
    go_wp2_with (fail)
    go_ret2
    exact hfin.out _ _ hgf hB1 (.inr ⟨by rw [hv.out]; decide, by rw [hv.out]; rfl⟩)
  rw [c5'] at hE2
  rw [if_neg (by rw [c4', c5']; simp)] at hch0
  clear c4' c5'
  by_cases c6' : twB pts = true
  · have hv : Hid (gchkD F.toDesc K pts mul = 18) := hch0.trans (if_pos c6')
    rw [c6'] at hT
    clear hch0 c6'
    go_wp2_with (fail)
    (with_reducible refine hE1.out.mono ?_)
    rintro e w2 ⟨rfl, rfl⟩
    go_wp2_with (fail)
    (with_reducible refine hE2.out.mono ?_)
    rintro e w2 ⟨rfl, rfl⟩
    go_wp2_with (fail)
    (with_reducible refine hT.out.mono ?_)
    rintro e w2 ⟨rfl, rfl⟩
    go_wp2_with (fail)
    go_ret2
    exact hfin.out _ _ hgf hB1 (.inr ⟨by rw [hv.out]; decide, by rw [hv.out]; rfl⟩)
  rw [if_neg c6'] at hch0
  rw [Bool.not_eq_true] at c6'
  rw [c6'] at hT
  clear c6'
  replace hch0 := Lib.hid hch0
  go_wp2_with (fail)
  (with_reducible refine hE1.out.mono ?_)
  rintro e w2 ⟨rfl, rfl⟩
  go_wp2_with (fail)
  (with_reducible refine hE2.out.mono ?_)
  rintro e w2 ⟨rfl, rfl⟩
  go_wp2_with (fail)
  (with_reducible refine hT.out.mono ?_)
  rintro e w2 ⟨rfl, rfl⟩
  go_wp2_with (fail)
  go_loop [53, 8] (fun i _ => ∃ k : Nat, k ≤ mul.length ∧ i = .int .i64 k ∧ Hid (∀ j, j < k → mul[j]?.getD 0 ≠ 0)) (fun i _ => mul.length - (intOf i).toNat)
  case atStart => exact ⟨0, by omega, rfl, fun j hj => absurd hj (by omega)⟩
  case round =>
    obtain ⟨k, hk, rfl, hall⟩ := hrel
    by_cases hlt : k < mul.length
    · obtain ⟨b, o, rfl, -, hc⟩ := hr2'.at_ hlt
      have hin : mul[k]?.getD 0 ∈ mul := by rw [List.getElem?_eq_getElem hlt]; exact List.getElem_mem _
      by_cases hy : mul[k]?.getD 0 = 0
      · have hv : Hid (gchkD F.toDesc K pts mul = 7) := hch0.out.trans (if_pos (hy ▸ hin))
        rw [hy] at hc
        clear hin hy
        go_wp2_with (fail)
        go_ret2
        exact hfin.out _ _ hgf hB1 (.inr ⟨by rw [hv.out]; decide, by rw [hv.out]; rfl⟩)
      · have hall2 : Hid (∀ j, j < k + 1 → mul[j]?.getD 0 ≠ 0) := fun j hj => by
          by_cases e : j = k
          · subst e; exact hy
          · exact hall.out j (by omega)
        clear hin
        generalize mul[k]?.getD 0 = y at *
        have hyb : (y == 0) = false := beq_eq_false_iff_ne.2 hy
        clear hy
        go_wp2_with (fail)
        go_round
        case rel => exact ⟨k + 1, by omega, by go_num, hall2⟩
        case measure => simp [intOf]; omega
    · obtain rfl : k = mul.length := by omega
      have hno : ¬ (0 : Int) ∈ mul := fun h => by
        obtain ⟨j, hj, e⟩ := List.getElem_of_mem h
        refine hall.out j hj ?_
        rw [List.getElem?_eq_getElem hj]; exact e
      by_cases c7' : K < 0
      · have hv : Hid (gchkD F.toDesc K pts mul = 6) := hch0.out.trans ((if_neg hno).trans (if_pos (.inl c7')))
        clear hno
        go_wp2_with (fail)
        go_ret2
        exact hfin.out _ _ hgf hB1 (.inr ⟨by rw [hv.out]; decide, by rw [hv.out]; rfl⟩)
      by_cases c8' : (pts.length : Int) < K
      · have hv : Hid (gchkD F.toDesc K pts mul = 6) := hch0.out.trans ((if_neg hno).trans (if_pos (.inr c8')))
        clear hno
        go_wp2_with (fail)
        go_ret2
        exact hfin.out _ _ hgf hB1 (.inr ⟨by rw [hv.out]; decide, by rw [hv.out]; rfl⟩)
      have hv : Hid (gchkD F.toDesc K pts mul = 0) := hch0.out.trans ((if_neg hno).trans (if_neg (by omega)))
      clear hno
      go_wp2_with (fail)
      go_ret2
      exact hfin.out _ _ hgf hB1 (.inl ⟨hv.out, rfl⟩)
end Go.Proofs.Ytemanlkgfhmclaa
