/- Layer 7 of the program: Subfield, a range over a function. -/
import Derived.Test.YteamndefbpdcjaaTowC
namespace Go.Proofs.Yteamndefbpdcjaa
open Go.RowKit Go.Shelf Cw
attribute [local go_sem] Oper.semAt_some

noncomputable def subF (D : FD) (d : Nat) (pre : List Int) : List Int := pre.filter fun x => decide (frob d (eli D.toDesc x) = eli D.toDesc x)
theorem subF_hit (D : FD) (d : Nat) (pre : List Int) {x : Int} (h : frob d (eli D.toDesc x) = eli D.toDesc x) : subF D d (pre ++ [x]) = subF D d pre ++ [x] := by simp [subF, h]
theorem subF_miss (D : FD) (d : Nat) (pre : List Int) {x : Int} (h : ¬ frob d (eli D.toDesc x) = eli D.toDesc x) : subF D d (pre ++ [x]) = subF D d pre := by simp [subF, h]
theorem subF_up (D : FD) (d : Nat) : subF D d (upI D.q) = subL D d D.q := by
  unfold subF subL upI
  rw [List.filter_map]
  congr 1
  apply List.filter_congr
  intro k hk
  show decide (frob d (eli D.toDesc (k : Int)) = eli D.toDesc (k : Int)) = _
  rw [eli_nat (List.mem_range.1 hk)]

set_option maxHeartbeats 1000000 in
theorem tSubfield_no (D : FD) (d : Int) (g : Nat) (w : World) (hg : GF w w.heap.size g D) (hd : divB D.m d = false) :
    Calls Try.prog 27 #[.pointer (some ⟨g, 0, none⟩), .int .i64 d] w fun e w' => e = .returned (.tuple #[.slice none 0 0, .int .i64 6]) ∧ Below w.heap.size w w' := by
  have hI := fun W hg => Lib.hid (isDegree_any D d g W hg)
  rw [hd] at hI
  have hB : Below w.heap.size w ((w.alloc (.cells #[.pointer (some ⟨g, 0, none⟩)] 26)).alloc (.cells #[.int .i64 d] 3)) := ((Below.refl _ _).alloc (Nat.le_refl _) _).alloc (by simp) _
  have hI2 := hI _ ((hg.below hB).more hB.size)
  clear hg hd hI
  go_enter Try.func27, Try.ntmps27
  go_wp2_with (fail)
  refine hI2.out.mono ?_
  rintro e w1 ⟨rfl, hb1⟩
  go_wp2_with (fail)
  go_ret2
  exact ⟨rfl, hB.trans (hb1.mono hB.size)⟩

set_option maxRecDepth 100000 in
set_option maxHeartbeats 4000000 in
theorem tSubfield_yes (D : FD) (d : Nat) (g : Nat) (w : World) (hg : GF w w.heap.size g D) (hd1 : 1 ≤ d) (hd2 : d ∣ D.m) :
    Calls Try.prog 27 #[.pointer (some ⟨g, 0, none⟩), .int .i64 d] w fun e w' =>
      ∃ v, e = .returned (.tuple #[v, .int .i64 0]) ∧ Own w' w.heap.size v (subL D d D.q) ∧ Below w.heap.size w w' := by
  have hI := fun W hg => isDegree_any D d g W hg
  rw [divB_of hd1 hd2 D.m1] at hI
  have hB : Below w.heap.size w ((w.alloc (.cells #[.pointer (some ⟨g, 0, none⟩)] 26)).alloc (.cells #[.int .i64 d] 3)) := ((Below.refl _ _).alloc (Nat.le_refl _) _).alloc (by simp) _
  have hI2 := Lib.hid (hI _ ((hg.below hB).more hB.size))
  clear hI
  refine (callsIn_wide (n := 3)).1 ?_
  refine callsIn_of_wp_marks Try.func27 rfl trivial ?_ rfl
  simp only [Try.ntmps27, List.size_toArray, List.length_cons, List.length_nil, Nat.reduceAdd, Nat.reduceSub, Array.replicate_succ, Array.replicate_zero, List.push_toArray, List.append_toArray, List.nil_append, List.cons_append]
  have bG0 := (Boxed.new w 26 (.pointer (some ⟨g, 0, none⟩))).alloc (.cells #[.int .i64 d] 3)
  have bD0 := Boxed.new (w.alloc (.cells #[.pointer (some ⟨g, 0, none⟩)] 26)) 3 (.int .i64 d)
  rw [World.size_alloc] at bD0
  have hmx : Try.prog.follows .mixedOrders = true := by kernel_rfl
  obtain ⟨i0, hi, hz0, hz1, hz2⟩ := info_parts infoInt
  gi_wp2_with (first
    | (refine ⟨trivial, ?_⟩; gi_at_call 65; refine (callsIn_wide.2 hI2.out).mono ?_; rintro e w1 ⟨rfl, hb1⟩; have hs1 := hb1.size; simp only [World.size_alloc] at hs1; have bG1 : Boxed w1 w.heap.size 26 (.pointer (some ⟨g, 0, none⟩)) := (hb1.block _ (by simp; omega)).trans bG0; have bD1 : Boxed w1 (w.heap.size + 1) 3 (.int .i64 d) := (hb1.block _ (by simp)).trans bD0; have cG1 := bG1.cell; have cD1 := bD1.cell; have hlt1 : w.heap.size < w1.heap.size := by omega)
    | (refine ⟨trivial, ?_⟩; gi_at_call 66; refine (elements_in Fence.wide _ trivial rfl g _).mono ?_; rintro e w2 ⟨rfl, rfl⟩))
  have hgl : g < w.heap.size := hg.lt
  have hW1 : Below w.heap.size w w1 := hB.trans (hb1.mono hB.size)
  have hg1 := hg.below hW1
  have bO := Boxed.new w1 22 (.slice none 0 0)
  have bN := Boxed.new (w1.alloc (.cells #[.slice none 0 0] 22)) 26 (.pointer (some ⟨g, 0, none⟩))
  rw [World.size_alloc] at bN
  have hB0 : Below w1.heap.size w1 ((w1.alloc (.cells #[.slice none 0 0] 22)).alloc (.cells #[.pointer (some ⟨g, 0, none⟩)] 26)) := ((Below.refl _ w1).alloc (Nat.le_refl _) _).alloc (by simp) _
  refine wpIn_rangeFunc_ownG rfl (by omega) (gf := 88) (lb := #[.pointer (some ⟨w1.heap.size + 1, 0, none⟩)]) rfl trivial (enters_of Try.func88 (by kernel_rfl) rfl)
    (elements_stops Fence.wide _ trivial rfl (by omega) (w1.heap.size + 1) w1.heap.size g D _ (by simp) (by simp; omega) (by omega) bN.cell ((hB0.cell (p := ⟨g, 3, none⟩) (by simp; omega)).trans hg1.c3)) belowK_t (belowK_b (by simp; omega)) (Below.refl _ _) (fun _ => rfl)
    (fun pre W => (∃ v, Boxed W w1.heap.size 22 v ∧ W.ownsRow w1.heap.size 3 1 v (subF D d pre).length ((subF D d pre).map (Value.int .i64)) ∧ True) ∧ Below w1.heap.size w1 W)
    (fun _ _ _ => False)
    (OwnFrom.and (Own.from (holdsRow_own w1.heap.size w1.heap.size 22 3 1 (fun pre => (subF D d pre).length) (fun pre => (subF D d pre).map (Value.int .i64)) (fun _ _ => True)) _) (ownFrom_below (Nat.le_refl _) (by simp; omega)))
    (fun _ _ _ _ _ hs _ _ => hs)
    ⟨⟨_, bO.alloc _, World.ownsRow_nil _ _ _ _, trivial⟩, hB0⟩
    (fun x => { tmps := #[.pointer (some ⟨g, 0, none⟩), .int .i64 d, .pointer (some ⟨w.heap.size, 0, none⟩), .pointer (some ⟨w.heap.size + 1, 0, none⟩), .slice none 0 0, .int .i64 0, .pointer (some ⟨w1.heap.size, 0, none⟩), .int .i64 x, .pointer (some ⟨g, 0, none⟩), .int .i64 d, .bool true, .bool false, .pointer (some ⟨g, 0, none⟩), .func (.func 88) #[] #[.pointer (some ⟨w1.heap.size + 1, 0, none⟩)], .int .i64 x, undef, undef, undef, undef, undef, undef, undef, undef, undef, undef, undef], defers := [] }) ?assign ?body ?done ?stop
  case assign =>
    intro l x W K hK
    gi_wp2
    exact hK
  case body =>
    rintro l pre x W ⟨⟨v, hv, hrow, -⟩, hBW⟩ hlt
    have hc := hv.cell
    have hpl : (subF D d pre).length ≤ pre.length := List.length_filter_le _ _
    have hq3 := D.q256
    have cG2 := (hBW.cell (p := ⟨w.heap.size, 0, none⟩) hlt1).trans cG1
    have cD2 := (hBW.cell (p := ⟨w.heap.size + 1, 0, none⟩) (by simp; omega)).trans cD1
    have hgW : GF W W.heap.size g D := ((hg1.more (by omega)).below hBW).more hBW.size
    have hT := Lib.hid (tDegree_any D x g W.drew hgW.drew)
    have hlt3 : w.heap.size + 1 < W.drew.heap.size := by have := hBW.size; show w.heap.size + 1 < W.heap.size; omega
    have hlt4 : w1.heap.size < W.drew.heap.size := hv.lt
    have cD2d : W.drew.cell? ⟨w.heap.size + 1, 0, none⟩ = some (.int .i64 d) := cD2
    have hcd : W.drew.cell? ⟨w1.heap.size, 0, none⟩ = some v := hc
    have hbx : ∀ w3 : World, Below W.drew.heap.size W.drew w3 → w3.cell? ⟨w.heap.size + 1, 0, none⟩ = some (.int .i64 d) ∧ w3.cell? ⟨w1.heap.size, 0, none⟩ = some v := fun w3 hb3 => ⟨(hb3.cell (p := ⟨w.heap.size + 1, 0, none⟩) hlt3).trans cD2d, (hb3.cell (p := ⟨w1.heap.size, 0, none⟩) hlt4).trans hcd⟩
    have hT2 : Hid (Calls Try.prog 35 #[.pointer (some ⟨g, 0, none⟩), .int .i64 x] W.drew fun e w' => ∃ k : Nat, 1 ≤ k ∧ ¬ (k : Int) = 0 ∧ w'.cell? ⟨w.heap.size + 1, 0, none⟩ = some (.int .i64 d) ∧ w'.cell? ⟨w1.heap.size, 0, none⟩ = some v ∧ Hid (IsDeg (eli D.toDesc x) k) ∧ e = .returned (.int .i64 k) ∧ Hid (Below W.drew.heap.size W.drew w')) :=
      Lib.hid (hT.out.mono (by rintro e w' ⟨k, h1, rfl, h3⟩; exact ⟨k, h1.1, by have := h1.1; omega, (hbx w' h3).1, (hbx w' h3).2, Lib.hid h1, rfl, Lib.hid h3⟩))
    clear hbx hT hcd cD2d
    gi_wp2
    gi_region_with_o (refine ⟨trivial, ?_⟩; gi_at_call 35; refine (CallsIn.inRound l (callsIn_wide.2 hT2.out)).mono ?_; rintro e w3 ⟨k, hk1, hkz, cD3, cO3, hk, rfl, hb3⟩)
    all_goals
      have hb4 : Below W.heap.size W w3 := ((Below.refl _ W).drew).trans hb3.out
      have hk0 := hk.out
      clear hk hb3 cD3
      have hv3 : Boxed w3 w1.heap.size 22 v := (hb4.block _ hv.lt).trans hv
      have hrow3 : w3.ownsRow w1.heap.size 3 1 v (subF D d pre).length ((subF D d pre).map (Value.int .i64)) := World.ownsRow.kept hrow (below_grown hb4 (Nat.le_refl _)) (by cases v.ownBlock <;> simp)
      have hko3 : KeepsOthers W w3 := KeepsOthers.of_grownBy (below_grown hb4 (Nat.le_refl _)) (fun j o ej => by cases ej)
      have hb5 : Below w1.heap.size W w3 := hb4.mono hBW.size
      have hsz3 : w1.heap.size ≤ w3.heap.size := Nat.le_trans hBW.size hb4.size
      by_cases hfx : k ∣ d
      · have hx : frob d (eli D.toDesc x) = eli D.toDesc x := hk0.fix_iff.2 hfx
        have hz : (((d : Int) % (k : Int)) == 0) = true := by have := Nat.mod_eq_zero_of_dvd hfx; simp; omega
        clear hfx hk0
        gi_wp2_with (gi_at_builtin; refine wpListIn_append_own _ rfl _ _ 22 rfl w1.heap.size 3 i0 (.int .i64 0) 1 8 Try.underlying22 hi hz0 hz1 hz2 rfl (by decide) _ _ _ rfl (hrow3.alloc _) ⟨w3.heap.size, 0, none⟩ 1 1 [.int .i64 x] rfl rfl (cell_one_new _ _ _) (by simp [Value.oneCell']) (by simp only [maxLen]; omega) (by omega) (by simp; omega) ?_; intro v' w4 hown' hgrow _; obtain ⟨g', cap', rfl⟩ := ownsRow_succ hown'; obtain ⟨hv1, hv2, hr2, hk2, hb2⟩ := hv3.appended (by decide) hrow3 hsz3 (Nat.le_refl _) hown' hgrow; have hc1 := hv1.cell; have hf1 := hv1.frozen)
        exact ⟨(hko3.trans hk2).from _, hb5.trans hb2, ⟨_, hv2, by rw [subF_hit D d pre hx]; simpa using hr2, trivial⟩, hBW.trans (hb5.trans hb2)⟩
      · have hx : ¬ frob d (eli D.toDesc x) = eli D.toDesc x := fun h => hfx (hk0.fix_iff.1 h)
        have hz : (((d : Int) % (k : Int)) == 0) = false := by have : ¬ d % k = 0 := fun h => hfx (Nat.dvd_of_mod_eq_zero h); simp; omega
        clear hfx hk0
        gi_wp2
        exact ⟨hko3.from _, hb5, ⟨v, hv3, by rw [subF_miss D d pre hx]; exact hrow3, trivial⟩, hBW.trans hb5⟩
  case done =>
    rintro D' ys W hD rfl ⟨⟨v, hv, hrow, -⟩, hBW⟩ hK
    have hc := hv.cell
    gi_wp2
    refine ⟨by simp, .inl ⟨_, _, rfl, run_takeDeferred hK, ?_⟩⟩
    have hle : w.heap.size ≤ w1.heap.size := by omega
    have hq5 : subF D d (upI D.q) = subL D d D.q := subF_up D d
    have key : ∀ W' : World, W'.ownsRow w1.heap.size 3 1 v (subF D d (upI D.q)).length ((subF D d (upI D.q)).map (Value.int .i64)) → Own W' w.heap.size v (subL D d D.q) := fun W' hfin => by
      rw [hq5] at hfin
      exact ⟨hfin.1, hfin.2.imp id fun ⟨g', cap, cur, h1, h2, r⟩ => ⟨g', cap, cur, h1, Nat.le_trans hle h2, r⟩⟩
    refine ⟨.tuple #[v, .int .i64 0], by simp [results, Try.results27, go_sem], v, rfl, ?_, ?_⟩
    · exact key _ (ownsRow_putObj hrow _ hK rfl)
    · exact hW1.trans ((hBW.trans (belowK_b (w := w1) (Nat.le_refl _) W D' _ _ (by simp at hD; omega) hK rfl rfl)).mono hle)
  case stop =>
    rintro D' c pre W _ _ h _
    exact h.elim
end Go.Proofs.Yteamndefbpdcjaa
