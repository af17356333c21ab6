/- Layer 7 of the program: Normal. -/
import Derived.Test.YtakonlfojblcmaaZdNorP
namespace Go.Proofs.Ytakonlfojblcmaa
open Go.RowKit Go.Shelf Cw
attribute [local go_sem] Oper.semAt_some

theorem ownFrom_cell {β : Type} {B : Nat} (b : Nat) (hb : b < B) (f : β → Value) : OwnFrom B (fun (s : β) W => W.cell? ⟨b, 0, none⟩ = some (f s)) :=
  fun _ _ _ _ hs hg hr => hg.cell hs (fun e => by have h : B ≤ b := (hr _ e.symm).1; omega)

set_option maxRecDepth 100000 in
set_option maxHeartbeats 4000000 in
theorem tNormal_yes (D : FD) (d n k0 : Nat) (g : Nat) (w : World) (hg : GF w w.heap.size g D) (hd1 : 1 ≤ d) (hd2 : d ∣ D.m) (hn : D.m / d = n) (hk0 : IsNrm D d n k0) :
    Calls Try.prog 103 #[.pointer (some ⟨g, 0, none⟩), .int .i64 d] w fun e w' => e = .returned (.tuple #[.int .i64 k0, .int .i64 0]) ∧ Below w.heap.size w w' := by
  have hdv := divB_of hd1 hd2 D.m1
  have hd8 : d ≤ 8 := Nat.le_trans (Nat.le_of_dvd D.m1 hd2) D.m8
  have hn8 : n ≤ 8 := by rw [← hn]; exact Nat.le_trans (Nat.div_le_self _ _) D.m8
  have hI := fun W hg => isDegree_any D d g W hg
  rw [hdv] at hI
  have hEa := fun x W h => teach_any D x d g W h hd1 hd8
  have hBa := fun x Al cl W a b => tIsBasis_any D (frobs d (eli D.toDesc x) n) d Al cl g W a b (by rw [frobs_length]; unfold maxLen; omega)
  have hNB := fun x => nrm_bas D hdv x
  rw [hn] at hEa hNB
  obtain ⟨W0, hW0⟩ : ∃ W0, W0 = (((w.alloc (.cells #[.pointer (some ⟨g, 0, none⟩)] 64)).alloc (.cells #[.int .i64 d] 3)).alloc (.cells #[.int .i64 0] 3)).alloc (.cells #[.int .i64 0] 29) := ⟨_, rfl⟩
  have hB : Below w.heap.size w W0 := by rw [hW0]; exact ((((Below.refl _ _).alloc (Nat.le_refl _) _).alloc (by simp) _).alloc (by simp; omega) _).alloc (by simp; omega) _
  have hI2 := Lib.hid (hI W0 ((hg.below hB).more hB.size))
  have hs0 : W0.heap.size = w.heap.size + 4 := by rw [hW0]; simp
  have c0 : W0.cell? ⟨w.heap.size, 0, none⟩ = some (.pointer (some ⟨g, 0, none⟩)) := by rw [hW0]; simp [go_sem]
  have c1 : W0.cell? ⟨w.heap.size + 1, 0, none⟩ = some (.int .i64 d) := by rw [hW0]; simp [go_sem]
  have c2 : W0.cell? ⟨w.heap.size + 2, 0, none⟩ = some (.int .i64 0) := by rw [hW0]; simp [go_sem]
  have c3 : W0.cell? ⟨w.heap.size + 3, 0, none⟩ = some (.int .i64 0) := by rw [hW0]; simp [go_sem]
  have f2 : W0.frozen? ⟨w.heap.size + 2, 0, none⟩ = false := by rw [hW0]; simp [go_sem]
  have f3 : W0.frozen? ⟨w.heap.size + 3, 0, none⟩ = false := by rw [hW0]; simp [go_sem]
  replace hW0 := Lib.hid hW0
  replace hn := Lib.hid hn
  replace hdv := Lib.hid hdv
  replace hs0 := Lib.hid hs0
  clear hI
  refine (callsIn_wide (n := 3)).1 ?_
  refine callsIn_of_wp_marks Try.func103 rfl trivial ?_ rfl
  simp only [Try.ntmps103, List.size_toArray, List.length_cons, List.length_nil, Nat.reduceAdd, Nat.reduceSub, Array.replicate_succ, Array.replicate_zero, List.push_toArray, List.append_toArray, List.nil_append, List.cons_append]
  have hmx : Try.prog.follows .mixedOrders = true := by kernel_rfl
  gi_wp2_with (fail)
  rw [← hW0.out]
  refine ⟨trivial, (callsIn_wide.2 hI2.out).mono ?_⟩
  rintro e w1 ⟨rfl, hb1⟩
  have hs1 : w.heap.size + 3 < w1.heap.size := by have := hb1.size; have := hs0.out; omega
  have d0 := (hb1.cell (p := ⟨w.heap.size, 0, none⟩) (by have := hs0.out; show w.heap.size < _; omega)).trans c0
  have d1 := (hb1.cell (p := ⟨w.heap.size + 1, 0, none⟩) (by have := hs0.out; show w.heap.size + 1 < _; omega)).trans c1
  have d2 := (hb1.cell (p := ⟨w.heap.size + 2, 0, none⟩) (by have := hs0.out; show w.heap.size + 2 < _; omega)).trans c2
  have d3 := (hb1.cell (p := ⟨w.heap.size + 3, 0, none⟩) (by have := hs0.out; show w.heap.size + 3 < _; omega)).trans c3
  have e2 := (hb1.frozen (p := ⟨w.heap.size + 2, 0, none⟩) (by have := hs0.out; show w.heap.size + 2 < _; omega)).trans f2
  have e3 := (hb1.frozen (p := ⟨w.heap.size + 3, 0, none⟩) (by have := hs0.out; show w.heap.size + 3 < _; omega)).trans f3
  have hB1 := hB.trans (hb1.mono hB.size)
  have hg1 := hg.below hB1
  have hgl : g < w.heap.size := hg.lt
  clear c0 c1 c2 c3 f2 f3 hI2 hb1 hB
  gi_wp2_with (fail)
  refine ⟨trivial, (elements_in Fence.wide _ trivial rfl g _).mono ?_⟩
  rintro e w2 ⟨rfl, rfl⟩
  have bN := Boxed.new w1 64 (.pointer (some ⟨g, 0, none⟩))
  have hB0 : Below w1.heap.size w1 (w1.alloc (.cells #[.pointer (some ⟨g, 0, none⟩)] 64)) := (Below.refl _ w1).alloc (Nat.le_refl _) _
  gi_wp2_with (fail)
  refine wpIn_rangeFunc_ownG rfl (by omega) (gf := 133) (lb := #[.pointer (some ⟨w1.heap.size, 0, none⟩)]) rfl trivial (enters_of Try.func133 (by kernel_rfl) rfl)
    (elements_stops Fence.wide _ trivial rfl (by omega) w1.heap.size w1.heap.size g D _ (by simp) (by simp) (by omega) bN.cell ((hB0.cell (p := ⟨g, 3, none⟩) (by show g < _; omega)).trans hg1.c3)) belowK_t (belowK_b (by simp)) (Below.refl _ _) (fun _ => rfl)
    (fun pre W => (∀ y, y ∈ pre → ¬ NrmI D d n y) ∧ Below w1.heap.size w1 W)
    (fun c pre W => (c = .ret ∧ ∃ p x, pre = p ++ [x] ∧ (∀ y, y ∈ p → ¬ NrmI D d n y) ∧ NrmI D d n x) ∧ (W.cell? ⟨w.heap.size + 2, 0, none⟩ = some (.int .i64 (pre.getLast?.getD 0)) ∧ W.cell? ⟨w.heap.size + 3, 0, none⟩ = some (.int .i64 0)) ∧ Below w.heap.size w W)
    ((ownFrom_pure _ _).and (ownFrom_below (Nat.le_refl _) (by simp)))
    (fun c => (ownFrom_pure _ _).and (((ownFrom_cell (w.heap.size + 2) (by simp; omega) (fun pre : List Int => Value.int .i64 (pre.getLast?.getD 0))).and (ownFrom_cell (w.heap.size + 3) (by simp; omega) (fun _ : List Int => Value.int .i64 0))).and (ownFrom_below (Nat.le_refl _) (by simp; omega))))
    ⟨fun y hy => by simp at hy, hB0⟩
    (fun x => { tmps := #[.pointer (some ⟨g, 0, none⟩), .int .i64 d, .pointer (some ⟨w.heap.size, 0, none⟩), .pointer (some ⟨w.heap.size + 1, 0, none⟩), .pointer (some ⟨w.heap.size + 2, 0, none⟩), .pointer (some ⟨w.heap.size + 3, 0, none⟩), .int .i64 x, .pointer (some ⟨g, 0, none⟩), .int .i64 d, .bool true, .bool false, .pointer (some ⟨g, 0, none⟩), .func (.func 133) #[] #[.pointer (some ⟨w1.heap.size, 0, none⟩)], .int .i64 x, undef, undef, undef, undef, undef, undef, undef, undef], defers := [] }) ?assign ?body ?done ?stop
  case assign =>
    intro l x W K hK
    gi_wp2
    exact hK
  case body =>
    rintro l pre x W ⟨hP, hBW⟩ hlt
    have hsW := hBW.size
    have cG := (hBW.cell (p := ⟨w.heap.size, 0, none⟩) (by show w.heap.size < _; omega)).trans d0
    have cD := (hBW.cell (p := ⟨w.heap.size + 1, 0, none⟩) (by show w.heap.size + 1 < _; omega)).trans d1
    have r2 := (hBW.cell (p := ⟨w.heap.size + 2, 0, none⟩) (by show w.heap.size + 2 < _; omega)).trans d2
    have r3 := (hBW.cell (p := ⟨w.heap.size + 3, 0, none⟩) (by show w.heap.size + 3 < _; omega)).trans d3
    have z2 := (hBW.frozen (p := ⟨w.heap.size + 2, 0, none⟩) (by show w.heap.size + 2 < _; omega)).trans e2
    have z3 := (hBW.frozen (p := ⟨w.heap.size + 3, 0, none⟩) (by show w.heap.size + 3 < _; omega)).trans e3
    have hgW : GF W W.heap.size g D := ((hg1.more (by omega)).below hBW).more hBW.size
    have hgd : GF W.drew W.drew.heap.size g D := hgW.drew
    have hE1 := Lib.hid (hEa x W.drew hgd)
    have hBx := hBa x
    rw [frobs_length] at hBx
    have hE2 : Hid (Calls Try.prog 108 #[.pointer (some ⟨g, 0, none⟩), .int .i64 x, .int .i64 d] W.drew fun e w' => ∃ g1, e = .returned (.slice (some ⟨g1, 0, none⟩) n n) ∧ w'.cell? ⟨w.heap.size, 0, none⟩ = some (.pointer (some ⟨g, 0, none⟩)) ∧ w'.cell? ⟨w.heap.size + 1, 0, none⟩ = some (.int .i64 d) ∧ Hid (IB w' g1 (frobs d (eli D.toDesc x) n)) ∧ Hid (Below W.drew.heap.size W.drew w')) :=
      Lib.hid (hE1.out.mono (by rintro e w' ⟨g1, rfl, -, h2, h3⟩; exact ⟨g1, rfl, (h3.cell (p := ⟨w.heap.size, 0, none⟩) (by show w.heap.size < W.heap.size; omega)).trans cG, (h3.cell (p := ⟨w.heap.size + 1, 0, none⟩) (by show w.heap.size + 1 < W.heap.size; omega)).trans cD, Lib.hid h2, Lib.hid h3⟩))
    obtain ⟨bb, hbb⟩ : ∃ bb, bb = (basE D (frobs d (eli D.toDesc x) n) d == 0) := ⟨_, rfl⟩
    have hNx := hNB x
    rw [← hbb] at hNx hBx
    have hI3 : ∀ g1 W', Hid (IB W' g1 (frobs d (eli D.toDesc x) n)) → Hid (Below W.drew.heap.size W.drew W') → Hid (Calls Try.prog 124 #[.pointer (some ⟨g, 0, none⟩), .slice (some ⟨g1, 0, none⟩) n n, .int .i64 d] W' fun e w' => e = .returned (.bool bb) ∧ w'.cell? ⟨w.heap.size, 0, none⟩ = some (.pointer (some ⟨g, 0, none⟩)) ∧ w'.cell? ⟨w.heap.size + 1, 0, none⟩ = some (.int .i64 d) ∧ Hid (Below W.drew.heap.size W.drew w')) := fun g1 W' h1 h2 =>
      Lib.hid ((hBx (some ⟨g1, 0, none⟩) n W' ((hgd.below h2.out).more h2.out.size) h1.out.rd).mono (by
        rintro e w' ⟨rfl, h3⟩
        have h4 := h2.out.trans (h3.mono h2.out.size)
        exact ⟨rfl, (h4.cell (p := ⟨w.heap.size, 0, none⟩) (by show w.heap.size < W.heap.size; omega)).trans cG, (h4.cell (p := ⟨w.heap.size + 1, 0, none⟩) (by show w.heap.size + 1 < W.heap.size; omega)).trans cD, Lib.hid h4⟩))
    replace hbb := Lib.hid hbb
    replace hNx := Lib.hid hNx
    clear hE1 hBx hEa hBa hNB
    gi_wp2
    gi_region_with_o (first
      | (refine ⟨trivial, ?_⟩; gi_at_call 108; refine (CallsIn.inRound l (callsIn_wide.2 hE2.out)).mono ?_; rintro e w3 ⟨g1, rfl, cG3, cD3, hib3, hb3⟩; have hI4 := hI3 g1 w3 hib3 hb3)
      | (refine ⟨trivial, ?_⟩; gi_at_call 124; refine (CallsIn.inRound l (callsIn_wide.2 hI4.out)).mono ?_; rintro e w4 ⟨rfl, cG4, cD4, hb4⟩))
    all_goals
      have hb5 : Below W.heap.size W w4 := ((Below.refl _ W).drew).trans hb4.out
      have hko : KeepsOthers W w4 := KeepsOthers.of_grownBy (below_grown hb5 (Nat.le_refl _)) (fun j o ej => by cases ej)
      have hb6 : Below w1.heap.size W w4 := hb5.mono hBW.size
      have q2 := (hb5.cell (p := ⟨w.heap.size + 2, 0, none⟩) (by show w.heap.size + 2 < W.heap.size; omega)).trans r2
      have q3 := (hb5.cell (p := ⟨w.heap.size + 3, 0, none⟩) (by show w.heap.size + 3 < W.heap.size; omega)).trans r3
      have p2 := (hb5.frozen (p := ⟨w.heap.size + 2, 0, none⟩) (by show w.heap.size + 2 < W.heap.size; omega)).trans z2
      have p3 := (hb5.frozen (p := ⟨w.heap.size + 3, 0, none⟩) (by show w.heap.size + 3 < W.heap.size; omega)).trans z3
      clear cG3 cD3 cG4 cD4 r2 r3 z2 z3 hb3 hib3 hE2 hI3 hI4
      by_cases hnx : NrmI D d n x
      · have hbt := hNx.out.1 hnx
        subst hbt
        replace hnx := Lib.hid hnx
        gi_wp2
        have s1 : (w4.setCell ⟨w.heap.size + 2, 0, none⟩ (.int .i64 x)).cell? ⟨w.heap.size + 2, 0, none⟩ = some (.int .i64 x) := World.cell?_setCell_same _ _ _ q2
        have s2 : (w4.setCell ⟨w.heap.size + 2, 0, none⟩ (.int .i64 x)).cell? ⟨w.heap.size + 3, 0, none⟩ = some (.int .i64 0) := (World.cell?_setCell_far _ _ _ _ (by show w.heap.size + 2 ≠ w.heap.size + 3; omega)).trans q3
        refine ⟨((hko.from _).trans (KeepsFrom.of_grownBy (grown_set w4 ⟨w.heap.size + 2, 0, none⟩ (.int .i64 x)) (fun j e => by injection e with e; have h : w.heap.size + 2 = j := e; first | omega | (rw [World.size_alloc]; omega)))).trans (KeepsFrom.of_grownBy (grown_set _ ⟨w.heap.size + 3, 0, none⟩ (.int .i64 0)) (fun j e => by injection e with e; have h : w.heap.size + 3 = j := e; first | omega | (rw [World.size_alloc]; omega))), ⟨rfl, pre, x, rfl, hP, hnx.out⟩, ⟨?_, World.cell?_setCell_same _ _ _ s2⟩, ?_⟩
        · rw [List.getLast?_append]
          exact (World.cell?_setCell_far _ _ _ _ (by show w.heap.size + 3 ≠ w.heap.size + 2; omega)).trans s1
        · exact ((hB1.trans ((hBW.trans hb6).mono (by omega))).setCell (p := ⟨w.heap.size + 2, 0, none⟩) (by simp) _).setCell (p := ⟨w.heap.size + 3, 0, none⟩) (by simp) _
      · have hbf := hNx.out.2 hnx
        subst hbf
        have hP2 : ∀ y, y ∈ pre ++ [x] → ¬ NrmI D d n y := fun y hy => by
          rcases List.mem_append.1 hy with h | h
          · exact hP y h
          · rw [List.mem_singleton.1 h]; exact hnx
        replace hP2 := Lib.hid hP2
        clear hnx
        gi_wp2
        exact ⟨hko.from _, hb6, hP2.out, hBW.trans hb6⟩
  case done =>
    rintro D' ys W hD rfl ⟨hP, hBW⟩ hK
    exact absurd hk0.2.1 (hP _ (by unfold upI; exact List.mem_map.2 ⟨k0, List.mem_range.2 hk0.1, rfl⟩))
  case stop =>
    rintro D' c pre W hD hSp ⟨⟨rfl, p, x, rfl, hP, hnx⟩, ⟨hc2, hc3⟩, hBW⟩ hK
    obtain ⟨k, hkq, rfl, hall⟩ := upI_prefix hSp
    obtain rfl : k = k0 := IsNrm.uniq (F := D) (d := d) (n := n) ⟨hkq, hnx, fun j hj => hP _ (hall j hj)⟩ hk0
    rw [List.getLast?_append] at hc2
    have hc2' : W.cell? ⟨w.heap.size + 2, 0, none⟩ = some (.int .i64 k) := by simpa using hc2
    have hDl : w.heap.size + 3 < D' := by simp at hD; omega
    have key2 : ∀ o, (W.putObj D' o).cell? ⟨w.heap.size + 2, 0, none⟩ = some (.int .i64 k) := fun o => (grownBy_putObj' W D' o).cell hc2' (fun e => by injection e with e; have h : w.heap.size + 2 = D' := e; omega)
    have key3 : ∀ o, (W.putObj D' o).cell? ⟨w.heap.size + 3, 0, none⟩ = some (.int .i64 0) := fun o => (grownBy_putObj' W D' o).cell hc3 (fun e => by injection e with e; have h : w.heap.size + 3 = D' := e; omega)
    have hbl : ∀ o, Below w.heap.size w (W.putObj D' o) := fun o => hBW.trans ((belowK_b (w := w1) (n₀ := w.heap.size) (by omega) W D' _ o (by simp at hD; omega) hK rfl rfl))
    clear hP hall hc2 hc3
    gi_wp2
    refine ⟨by simp, .inl ⟨_, _, rfl, run_takeDeferred hK, ?_⟩⟩
    refine ⟨.tuple #[.int .i64 k, .int .i64 0], by simp [results, Try.results103, go_sem, key2, key3], rfl, hbl _⟩
end Go.Proofs.Ytakonlfojblcmaa
