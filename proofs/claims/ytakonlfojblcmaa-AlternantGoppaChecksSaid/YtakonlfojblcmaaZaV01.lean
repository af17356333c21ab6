/- AlternantGoppaChecks: the law's walk. -/
import Derived.Test.YtakonlfojblcmaaZaAlv
namespace Go.Proofs.Ytakonlfojblcmaa
open Go.RowKit Cw
attribute [local go_sem] Oper.semAt_some

set_option maxRecDepth 100000 in
set_option maxHeartbeats 8000000 in
theorem goppaChecks_core (E P M Q N : Int) (ml nl poly pts : List Int) (A B C D : Option Addr) (c b k e1 : Nat) (w : World) (hpl : poly.length ≤ maxLen) (hql : pts.length ≤ maxLen)
    (hA : poly.length ≤ 300 → pts.length ≤ 300 → ∀ W, Below w.heap.size w W → Calls Try.prog 19 #[.agg #[.int .i64 P, .int .i64 M, .slice A ml.length c, .int .i64 Q, .int .i64 N, .slice B nl.length b, .slice C poly.length k, .slice D pts.length e1]] W fun e w' => e = .returned (.int .i64 E) ∧ Below W.heap.size W w')
    (hR : poly.length ≤ 300 → pts.length ≤ 300 → ∀ W, Below w.heap.size w W → Calls Try.prog 20 #[.agg #[.int .i64 P, .int .i64 M, .slice A ml.length c, .int .i64 Q, .int .i64 N, .slice B nl.length b, .slice C poly.length k, .slice D pts.length e1]] W fun e w' => e = .returned (.int .i64 E) ∧ Below W.heap.size W w') :
    Calls Try.prog 5 #[.agg #[.int .i64 P, .int .i64 M, .slice A ml.length c, .int .i64 Q, .int .i64 N, .slice B nl.length b, .slice C poly.length k, .slice D pts.length e1]] w fun e w' => e = .returned (.bool true) ∧ Below w.heap.size w w' := by
  unfold maxLen at hpl hql
  obtain ⟨s, hs⟩ : ∃ s, s = w.heap.size := ⟨_, rfl⟩
  obtain ⟨Z, hZ⟩ : ∃ Z, Z = w.alloc (.cells #[.int .i64 P, .int .i64 M, .slice A ml.length c, .int .i64 Q, .int .i64 N, .slice B nl.length b, .slice C poly.length k, .slice D pts.length e1] 47) := ⟨_, rfl⟩
  have hB : Below w.heap.size w Z := by rw [hZ]; exact (Below.refl _ _).alloc (Nat.le_refl _) _
  have hsZ : s < Z.heap.size := by rw [hZ, hs]; simp
  have hbG : Hid (Bxs Z s [.int .i64 P, .int .i64 M, .slice A ml.length c, .int .i64 Q, .int .i64 N, .slice B nl.length b, .slice C poly.length k, .slice D pts.length e1]) := by rw [hZ, hs]; exact Bxs.new w _ _
  have hq := Lib.hid (alive19_any Z)
  replace hZ := Lib.hid hZ
  go_enter Try.func5, Try.ntmps5
  go_wp2_with (fail)
  rw [← hZ.out]
  simp only [← hs]
  replace hs := Lib.hid hs
  (with_reducible refine hq.out.mono ?_)
  rintro e w1 ⟨rfl, hb⟩
  clear hq
  have hB1 := hB.trans (hb.mono hB.size)
  replace hbG := Lib.hid (hbG.out.keep hb hsZ)
  have hs1 : s < w1.heap.size := Nat.lt_of_lt_of_le hsZ hb.size
  obtain ⟨a0, a1, a2, a3, a4, a5, a6, a7⟩ := hbG.out.c8
  by_cases h1 : (300 : Int) < (pts.length : Int)
  · have h1b : decide ((300 : Int) < (pts.length : Int)) = true := decide_eq_true h1
    replace h1 := Lib.hid h1
    go_wp2_with (fail)
    go_ret
    exact ⟨rfl, hB1⟩
  · have h1b : decide ((300 : Int) < (pts.length : Int)) = false := decide_eq_false h1
    by_cases h2 : (300 : Int) < (poly.length : Int)
    · have h2b : decide ((300 : Int) < (poly.length : Int)) = true := decide_eq_true h2
      replace h1 := Lib.hid h1
      replace h2 := Lib.hid h2
      go_wp2_with (fail)
      go_ret
      exact ⟨rfl, hB1⟩
    · have h2b : decide ((300 : Int) < (poly.length : Int)) = false := decide_eq_false h2
      have hA2 := hA (by omega) (by omega)
      have hR2 := hR (by omega) (by omega)
      have hwd : Below w.heap.size w w1.drew := hB1.drew
      have hS0 : Hid (w1.cell? ⟨s, 0, none⟩ = some (.int .i64 P) ∧ w1.cell? ⟨s, 1, none⟩ = some (.int .i64 M) ∧ w1.cell? ⟨s, 2, none⟩ = some (.slice A ml.length c) ∧ w1.cell? ⟨s, 3, none⟩ = some (.int .i64 Q) ∧ w1.cell? ⟨s, 4, none⟩ = some (.int .i64 N) ∧ w1.cell? ⟨s, 5, none⟩ = some (.slice B nl.length b) ∧ w1.cell? ⟨s, 6, none⟩ = some (.slice C poly.length k) ∧ w1.cell? ⟨s, 7, none⟩ = some (.slice D pts.length e1)) := hbG.out.c8
      have hkp : ∀ {Bn : Nat} {W W' : World}, Below Bn W W' → s < Bn → Hid (W.cell? ⟨s, 0, none⟩ = some (.int .i64 P) ∧ W.cell? ⟨s, 1, none⟩ = some (.int .i64 M) ∧ W.cell? ⟨s, 2, none⟩ = some (.slice A ml.length c) ∧ W.cell? ⟨s, 3, none⟩ = some (.int .i64 Q) ∧ W.cell? ⟨s, 4, none⟩ = some (.int .i64 N) ∧ W.cell? ⟨s, 5, none⟩ = some (.slice B nl.length b) ∧ W.cell? ⟨s, 6, none⟩ = some (.slice C poly.length k) ∧ W.cell? ⟨s, 7, none⟩ = some (.slice D pts.length e1)) → Hid (W'.cell? ⟨s, 0, none⟩ = some (.int .i64 P) ∧ W'.cell? ⟨s, 1, none⟩ = some (.int .i64 M) ∧ W'.cell? ⟨s, 2, none⟩ = some (.slice A ml.length c) ∧ W'.cell? ⟨s, 3, none⟩ = some (.int .i64 Q) ∧ W'.cell? ⟨s, 4, none⟩ = some (.int .i64 N) ∧ W'.cell? ⟨s, 5, none⟩ = some (.slice B nl.length b) ∧ W'.cell? ⟨s, 6, none⟩ = some (.slice C poly.length k) ∧ W'.cell? ⟨s, 7, none⟩ = some (.slice D pts.length e1)) := fun {Bn} {W} {W'} hb h1 ⟨y0, y1, y2, y3, y4, y5, y6, y7⟩ =>
        ⟨(hb.cell (p := ⟨s, 0, none⟩) h1).trans y0, (hb.cell (p := ⟨s, 1, none⟩) h1).trans y1, (hb.cell (p := ⟨s, 2, none⟩) h1).trans y2, (hb.cell (p := ⟨s, 3, none⟩) h1).trans y3, (hb.cell (p := ⟨s, 4, none⟩) h1).trans y4, (hb.cell (p := ⟨s, 5, none⟩) h1).trans y5, (hb.cell (p := ⟨s, 6, none⟩) h1).trans y6, (hb.cell (p := ⟨s, 7, none⟩) h1).trans y7⟩
      replace hA2 := fun W h => Lib.hid (hA2 W h)
      replace hR2 := fun W h => Lib.hid (hR2 W h)
      have hsd : s < w1.drew.heap.size := hs1
      replace h1 := Lib.hid h1
      replace h2 := Lib.hid h2
      clear hA hR
      go_wp2_with (fail)
      clear a0 a1 a2 a3 a4 a5 a6 a7
      have hS9 : Hid (w1.drew.cell? ⟨s, 0, none⟩ = some (.int .i64 P) ∧ w1.drew.cell? ⟨s, 1, none⟩ = some (.int .i64 M) ∧ w1.drew.cell? ⟨s, 2, none⟩ = some (.slice A ml.length c) ∧ w1.drew.cell? ⟨s, 3, none⟩ = some (.int .i64 Q) ∧ w1.drew.cell? ⟨s, 4, none⟩ = some (.int .i64 N) ∧ w1.drew.cell? ⟨s, 5, none⟩ = some (.slice B nl.length b) ∧ w1.drew.cell? ⟨s, 6, none⟩ = some (.slice C poly.length k) ∧ w1.drew.cell? ⟨s, 7, none⟩ = some (.slice D pts.length e1)) := hS0
      refine wp_region_held_drew (S := fun w' => w'.cell? ⟨s, 0, none⟩ = some (.int .i64 P) ∧ w'.cell? ⟨s, 1, none⟩ = some (.int .i64 M) ∧ w'.cell? ⟨s, 2, none⟩ = some (.slice A ml.length c) ∧ w'.cell? ⟨s, 3, none⟩ = some (.int .i64 Q) ∧ w'.cell? ⟨s, 4, none⟩ = some (.int .i64 N) ∧ w'.cell? ⟨s, 5, none⟩ = some (.slice B nl.length b) ∧ w'.cell? ⟨s, 6, none⟩ = some (.slice C poly.length k) ∧ w'.cell? ⟨s, 7, none⟩ = some (.slice D pts.length e1)) (by kernel_rfl) (by (try dsimp only); exact hS0.out) (fun hHeld => ?_)
      revert hwd hsd hS9 hHeld
      generalize w1.drew = wq
      intro hwd hsd hS9 hHeld
      refine wpAnyH_take (i := 0) (oi := ⟨_, _, _, _, _, _⟩) (v := ?_) rfl (by kernel_rfl) (by kernel_rfl) (by kernel_rfl) (fun _ _ _ h => h) (Or.inl ⟨by rfl, ?_⟩) (by assumption) ?_
      rotate_left
      · intro w hSw; (try dsimp only at hSw); go_simp; try with_reducible rfl
      try simp only [Act.put, List.setIfInBounds_toArray, List.set_cons_zero, List.set_cons_succ]
      refine wpAnyH_take (i := 2) (oi := ⟨_, _, _, _, _, _⟩) (v := ?_) rfl (by kernel_rfl) (by kernel_rfl) (by kernel_rfl) (fun _ _ _ h => h) (Or.inl ⟨by rfl, ?_⟩) (by assumption) ?_
      rotate_left
      · intro w hSw; (try dsimp only at hSw); go_simp; try with_reducible rfl
      try simp only [Act.put, List.setIfInBounds_toArray, List.set_cons_zero, List.set_cons_succ]
      refine wpAnyH_ready (rs := [1]) (by kernel_rfl) (by simp) ?_
      refine AllReadyH.cons (o := ⟨_, _, _, _, _, _⟩) rfl (fun K hK => ?_) AllReadyH.nil
      go_simp
      go_at_call 19
      (with_reducible refine ((hA2 _ (by assumption))).out.mono ?_)
      rintro e wq ⟨rfl, hbx⟩
      replace hwd := hwd.trans (hbx.mono hwd.size)
      replace hS9 := hkp hbx hsd hS9
      replace hsd := Nat.lt_of_lt_of_le hsd hbx.size
      clear hbx
      go_wp2_with (fail)
      refine hK.out _ _ (by (try dsimp only); exact hS9.out) (fun hHeld => ?_)
      clear hK K
      try simp only [Act.put, List.setIfInBounds_toArray, List.set_cons_zero, List.set_cons_succ]
      refine wpAnyH_ready (rs := [3]) (by kernel_rfl) (by simp) ?_
      refine AllReadyH.cons (o := ⟨_, _, _, _, _, _⟩) rfl (fun K hK => ?_) AllReadyH.nil
      go_simp
      go_at_call 20
      (with_reducible refine ((hR2 _ (by assumption))).out.mono ?_)
      rintro e wq ⟨rfl, hbx⟩
      replace hwd := hwd.trans (hbx.mono hwd.size)
      replace hS9 := hkp hbx hsd hS9
      replace hsd := Nat.lt_of_lt_of_le hsd hbx.size
      clear hbx
      go_wp2_with (fail)
      refine hK.out _ _ (by (try dsimp only); exact hS9.out) (fun hHeld => ?_)
      clear hK K
      try simp only [Act.put, List.setIfInBounds_toArray, List.set_cons_zero, List.set_cons_succ]
      refine wpAnyH_take (i := 4) (oi := ⟨_, _, _, _, _, _⟩) (v := ?_) rfl (by kernel_rfl) (by kernel_rfl) (by kernel_rfl) (fun _ _ _ h => h) (Or.inl ⟨by rfl, ?_⟩) (by assumption) ?_
      rotate_left
      · intro w hSw; (try dsimp only at hSw); go_simp; try with_reducible rfl
      try simp only [Act.put, List.setIfInBounds_toArray, List.set_cons_zero, List.set_cons_succ]
      refine wpAnyH_take (i := 5) (oi := ⟨_, _, _, _, _, _⟩) (v := ?_) rfl (by kernel_rfl) (by kernel_rfl) (by kernel_rfl) (fun _ _ _ h => h) (Or.inl ⟨by rfl, ?_⟩) (by assumption) ?_
      rotate_left
      · intro w hSw; (try dsimp only at hSw); go_simp; try with_reducible rfl
      try simp only [Act.put, List.setIfInBounds_toArray, List.set_cons_zero, List.set_cons_succ]
      refine wpAnyH_done (by kernel_rfl) ?_ _
      go_wp2_with (fail)
      go_ret
      exact ⟨ret_bool (by simp), hwd⟩
theorem goppaChecksL (P M Q N : Int) (ml nl poly pts : List Int) (A B C D : Option Addr) (c b k e1 : Nat) (w : World) (hP : I64 P) (hM : I64 M) (hQ : I64 Q) (hN : I64 N) (hl : ml.length ≤ maxLen) (hn : nl.length ≤ maxLen) (hk : poly.length ≤ k ∧ k ≤ maxLen) (he : pts.length ≤ e1 ∧ e1 ≤ maxLen) (_hi : ∀ x ∈ poly, I64 x) (_hj : ∀ x ∈ pts, I64 x)
    (hr : Rd w w.heap.size A ml) (hs : Rd w w.heap.size B nl) (ht : Rd w w.heap.size C poly) (hu : Rd w w.heap.size D pts) :
    Calls Try.prog 5 #[.agg #[.int .i64 P, .int .i64 M, .slice A ml.length c, .int .i64 Q, .int .i64 N, .slice B nl.length b, .slice C poly.length k, .slice D pts.length e1]] w fun e w' => e = .returned (.bool true) ∧ Below w.heap.size w w' := by
  have hpl : poly.length ≤ maxLen := Nat.le_trans hk.1 hk.2
  have hql : pts.length ≤ maxLen := Nat.le_trans he.1 he.2
  by_cases hg1 : Good P M ml
  · obtain ⟨S, rfl, rfl, rfl, hS⟩ := hg1
    have hgS : Good S.p S.m (modL S) := ⟨S, rfl, rfl, rfl, hS⟩
    by_cases hg2 : Good Q N nl
    · obtain ⟨F, rfl, rfl, rfl, hF⟩ := hg2
      have hgF : Good F.p F.m (modL F) := ⟨F, rfl, rfl, rfl, hF⟩
      rw [modL_length, modL_length]
      obtain ⟨S0, rfl⟩ := good_FD hgS
      have h := goppaChecks_core (gopD S0.toDesc F poly pts) S0.p S0.m F.p F.m (modL S0.toDesc) (modL F) poly pts A B C D c b k e1 w hpl hql
      rw [modL_length, modL_length] at h
      refine h (fun h1 h2 W hb => ?_) (fun h1 h2 W hb => ?_)
      · refine aCheck_E (gopD S0.toDesc F poly pts) S0.p S0.m F.p F.m S0.mod.length F.mod.length poly.length pts.length A B C D c b k e1 W fun W2 hb2 => ?_
        have hbb := hb.trans (hb2.mono hb.size)
        refine (goppa_D S0 F poly pts A B C D c b k e1 W2 ((hr.below hbb).more hbb.size) ((hs.below hbb).more hbb.size) hgS hgF ((ht.below hbb).more hbb.size) ((hu.below hbb).more hbb.size) hpl hql).mono ?_
        rintro e w' ⟨hb3, ⟨-, rfl⟩ | ⟨hz, F1, rt, k0, n, g, gb, Ab, cb, gv, -, -, -, -, rfl, -, -⟩⟩
        · exact ⟨⟨_, _, _, _, _, _, _, _, _, _, _, _, _, _, rfl⟩, hb3⟩
        · exact ⟨⟨_, _, _, _, _, _, _, _, _, _, _, _, _, _, by rw [hz]⟩, hb3⟩
      · exact GopChk_D S0.toDesc F poly pts A B C D c b k e1 W ((hr.below hb).more hb.size) ((hs.below hb).more hb.size) hgS hgF ((ht.below hb).more hb.size) ((hu.below hb).more hb.size) (by omega) hql
    · rw [modL_length]
      have h := goppaChecks_core 1 S.p S.m Q N (modL S) nl poly pts A B C D c b k e1 w hpl hql
      rw [modL_length] at h
      refine h (fun h1 h2 W hb => ?_) (fun h1 h2 W hb => ?_)
      · refine aCheck_E 1 S.p S.m Q N S.mod.length nl.length poly.length pts.length A B C D c b k e1 W fun W2 hb2 => ?_
        have hbb := hb.trans (hb2.mono hb.size)
        refine (goppa_bad2 S Q N nl poly pts A B C D c b k e1 W2 ((hr.below hbb).more hbb.size) hgS hQ hN hn ((hs.below hbb).more hbb.size) hg2).mono ?_
        rintro e w' ⟨rfl, hb3⟩
        exact ⟨⟨_, _, _, _, _, _, _, _, _, _, _, _, _, _, rfl⟩, hb3⟩
      · exact GopChk_bad2 S Q N nl poly pts A B C D c b k e1 W ((hr.below hb).more hb.size) hgS hQ hN hn ((hs.below hb).more hb.size) hg2
  · refine goppaChecks_core 1 P M Q N ml nl poly pts A B C D c b k e1 w hpl hql (fun h1 h2 W hb => ?_) (fun h1 h2 W hb => ?_)
    · refine aCheck_E 1 P M Q N ml.length nl.length poly.length pts.length A B C D c b k e1 W fun W2 hb2 => ?_
      have hbb := hb.trans (hb2.mono hb.size)
      refine (goppa_bad1 P M ml Q N nl poly pts A B C D c b k e1 W2 hP hM hl ((hr.below hbb).more hbb.size) hg1).mono ?_
      rintro e w' ⟨rfl, hb3⟩
      exact ⟨⟨_, _, _, _, _, _, _, _, _, _, _, _, _, _, rfl⟩, hb3⟩
    · exact GopChk_bad1 P M ml Q N nl poly pts A B C D c b k e1 W hP hM hl ((hr.below hb).more hb.size) hg1
end Go.Proofs.Ytakonlfojblcmaa
