/- Layer 12 of the reference: the dual of a valid code. -/
import Derived.Test.YtkmhopefnfaecaaZgT00
import Derived.Test.YtkmhopefnfaecaaZgNul
import Derived.Test.YtkmhopefnfaecaaZgNulQ
import Derived.Test.YtkmhopefnfaecaaZgAsE
namespace Go.Proofs.Ytkmhopefnfaecaa
open Go.RowKit Cw
attribute [local go_sem] Oper.semAt_some

theorem below_set5d {B : Nat} {a w : World} (h : Below B a w) {b : Nat} (hb : B ≤ b) (u0 u1 u2 u3 u4 : Value) : Below B a (((((w.setCell ⟨b, 0, none⟩ u0).setCell ⟨b, 1, none⟩ u1).setCell ⟨b, 2, none⟩ u2).setCell ⟨b, 3, none⟩ u3).setCell ⟨b, 4, none⟩ u4) :=
  ((((h.setCell (p := ⟨b, 0, none⟩) hb u0).setCell (p := ⟨b, 1, none⟩) hb u1).setCell (p := ⟨b, 2, none⟩) hb u2).setCell (p := ⟨b, 3, none⟩) hb u3).setCell (p := ⟨b, 4, none⟩) hb u4
section
variable {Pa Ma Na : Int} {mla : List Int} {na : Nat} {rowsa : Nat → List Int} {F : FD} {m : Nat} {M : Nat → Nat → R F.toDesc}
/-- The rows of the dual code. -/
noncomputable def duM (F : FD) (na m : Nat) (M : Nat → Nat → R F.toDesc) : Nat → Nat → R F.toDesc := (elS (m - na) (nulM na m (pvF (elS na M m).2) (elS na M m).1) m).1
theorem du_RR (va : VC Pa Ma Na mla na rowsa F m M) : RR m na (pvF (elS na M m).2) (elS na M m).1 := by
  have h := elS_RR na m M
  rw [show (elS na M m).2.length = na from va.can.1] at h
  exact h
theorem du_len (va : VC Pa Ma Na mla na rowsa F m M) : (npv (pvF (elS na M m).2) na m).length = m - na := by
  have h := npv_len (m := m) na (du_RR va).lt (du_RR va).inj
  omega
theorem du_dual (va : VC Pa Ma Na mla na rowsa F m M) : DualM (m - na) na m (duM F na m M) M := by
  have hs := elS_span na m M
  rw [show (elS na M m).2.length = na from va.can.1] at hs
  have hT := du_len va
  have h2 := elS_span (m - na) m (nulM na m (pvF (elS na M m).2) (elS na M m).1)
  have hi := nul_indep (F := R F.toDesc) (m := m) (r := na) (p := pvF (elS na M m).2) (A := (elS na M m).1)
  rw [hT] at hi
  rw [show (elS (m - na) (nulM na m (pvF (elS na M m).2) (elS na M m).1) m).2.length = m - na from rk_full hi] at h2
  intro u
  have h3 := nul_iff (du_RR va) u
  rw [hT] at h3
  rw [← Orth.same hs u, ← h3]
  exact same_iff h2 u
theorem du_vc (va : VC Pa Ma Na mla na rowsa F m M) : VC Pa Ma (m : Int) mla (m - na) (rowsL F.toDesc m (duM F na m M)) F m (duM F na m M) := by
  have hT := du_len va
  have hi := nul_indep (F := R F.toDesc) (m := m) (r := na) (p := pvF (elS na M m).2) (A := (elS na M m).1)
  rw [hT] at hi
  have h := vc_res F va.good (m - na) m (nulM na m (pvF (elS na M m).2) (elS na M m).1) va.m1 va.m64
  rw [rk_full hi] at h
  have eP := va.hP; have eM := va.hM; have eL := va.hl
  subst eP eM eL
  exact h
set_option maxHeartbeats 2000000 in
theorem Parity12_vc (va : VC Pa Ma Na mla na rowsa F m M) (A Ar : Option Addr) (c k : Nat) (w : World) (hr : Rd w w.heap.size A mla) (hm : RdM w w.heap.size Ar na rowsa) :
    Calls Try.prog 41 #[.agg #[.int .i64 Pa, .int .i64 Ma, .slice A mla.length c, .int .i64 Na, .slice Ar na k]] w fun e w' => ∃ Al cl, e = .returned (.slice Al (m - na) cl) ∧ Below w.heap.size w w' ∧ RdM w' w'.heap.size Al (m - na) (rowsL F.toDesc m (duM F na m M)) := by
  have hT := du_len va
  have h1 := va.m64; have h2 := va.le
  have hNu : ∀ W, Rd W W.heap.size A mla → RdM W W.heap.size Ar na rowsa → Calls Try.prog 86 #[.agg #[.int .i64 Pa, .int .i64 Ma, .slice A mla.length c], .slice Ar na k, .int .i64 Na] W fun e w' => ∃ Al cl, e = .returned (.slice Al (m - na) cl) ∧ Below W.heap.size W w' ∧ RdM w' w'.heap.size Al (m - na) (rowsL F.toDesc m (duM F na m M)) := by
    intro W g1 g2
    have eP := va.hP; have eM := va.hM; have eL := va.hl; have eN := va.hN
    subst eP eM eL eN
    rw [modL_length]
    refine (Null9_any F na m M A Ar c k W g1 (g2.congr va.hr) (by omega) (by omega)).mono ?_
    rintro e w' ⟨p, rfl, Al, cl, rfl, hb, hrd⟩
    rw [show rkS F na m M = na from va.can.1, hT] at hrd ⊢
    exact ⟨Al, cl, rfl, hb, hrd.rdm⟩
  replace hNu := fun W a b => Lib.hid (hNu W a b)
  obtain ⟨s, hs⟩ : ∃ s, s = w.heap.size := ⟨_, rfl⟩
  obtain ⟨Z, hZ⟩ : ∃ Z, Z = w.alloc (.cells #[.int .i64 Pa, .int .i64 Ma, .slice A mla.length c, .int .i64 Na, .slice Ar na k] 27) := ⟨_, rfl⟩
  have hB : Below w.heap.size w Z := by rw [hZ]; exact (Below.refl _ _).alloc (Nat.le_refl _) _
  obtain ⟨k0, k1, k2, k3, k4⟩ : Z.cell? ⟨s, 0, none⟩ = some (.int .i64 Pa) ∧ Z.cell? ⟨s, 1, none⟩ = some (.int .i64 Ma) ∧ Z.cell? ⟨s, 2, none⟩ = some (.slice A mla.length c) ∧ Z.cell? ⟨s, 3, none⟩ = some (.int .i64 Na) ∧ Z.cell? ⟨s, 4, none⟩ = some (.slice Ar na k) := by rw [hZ, hs]; simp [go_sem]
  have hq := hNu Z ((hr.below hB).more hB.size) ((hm.below hB).more hB.size)
  obtain ⟨T, hTe⟩ : ∃ T, T = m - na := ⟨_, rfl⟩
  rw [← hTe] at hq ⊢
  replace hTe := Lib.hid hTe
  replace hZ := Lib.hid hZ
  clear hNu hT h1 h2
  replace va := Lib.hid va
  go_enter Try.func41, Try.ntmps41
  go_wp2_with (fail)
  rw [← hZ.out]
  simp only [← hs]
  replace hs := Lib.hid hs
  go_wp2_with (fail)
  (with_reducible refine hq.out.mono ?_)
  rintro e w1 ⟨Al, cl, rfl, hb, hrd⟩
  clear hq k0 k1 k2 k3 k4
  have hBe := hB.trans (hb.mono hB.size)
  go_wp2_with (fail)
  go_ret
  exact ⟨Al, cl, rfl, hBe, hrd⟩
set_option maxRecDepth 100000 in
set_option maxHeartbeats 4000000 in
theorem Dual12_vc (va : VC Pa Ma Na mla na rowsa F m M) (A Ar : Option Addr) (c k : Nat) (w : World) (hr : Rd w w.heap.size A mla) (hm : RdM w w.heap.size Ar na rowsa) :
    Calls Try.prog 10 #[.agg #[.int .i64 Pa, .int .i64 Ma, .slice A mla.length c, .int .i64 Na, .slice Ar na k]] w (fun e w' => ∃ A3 c3 Al cl, e = .returned (.tuple #[.agg #[.int .i64 Pa, .int .i64 Ma, .slice A3 mla.length c3, .int .i64 Na, .slice Al (m - na) cl], .int .i64 0]) ∧ InM w' w.heap.size A3 mla Al (m - na) (rowsL F.toDesc m (duM F na m M)) ∧ Below w.heap.size w w') := by
  obtain ⟨hP, hM, hl, hn, hk⟩ := va.bounds
  have h64 := va.m64
  have hC := fun W a b => Check12_any Pa Ma Na mla na rowsa A Ar c k W hP hM hl hn hk a b
  rw [vc_err va] at hC
  replace hC := fun W a b => Lib.hid (hC W a b)
  have hPy := fun W a b => Lib.hid (Parity12_vc va A Ar c k W a b)
  have hMk := fun Al cl W a b => make_in va (du_vc va) (SameSpan.refl (m - na) m (duM F na m M)) (by omega) A Al c cl W a b
  rw [← va.hN] at hMk
  replace hMk := fun Al cl W a b => Lib.hid (hMk Al cl W a b)
  obtain ⟨T, hTe⟩ : ∃ T, T = m - na := ⟨_, rfl⟩
  rw [← hTe] at hPy hMk ⊢
  obtain ⟨rows, hrows⟩ : ∃ rows, rows = rowsL F.toDesc m (duM F na m M) := ⟨_, rfl⟩
  rw [← hrows] at hPy hMk ⊢
  replace hTe := Lib.hid hTe
  replace hrows := Lib.hid hrows
  replace va := Lib.hid va
  obtain ⟨s, hs⟩ : ∃ s, s = w.heap.size := ⟨_, rfl⟩
  obtain ⟨Z, hZ⟩ : ∃ Z, Z = (w.alloc (.cells #[.int .i64 Pa, .int .i64 Ma, .slice A mla.length c, .int .i64 Na, .slice Ar na k] 27)).alloc (.cells #[.int .i64 0, .int .i64 0, .slice none 0 0, .int .i64 0, .slice none 0 0] 27) := ⟨_, rfl⟩
  have hB : Below w.heap.size w Z := by rw [hZ]; exact ((Below.refl _ _).alloc (Nat.le_refl _) _).alloc (by simp) _
  obtain ⟨hZs, f1, f2⟩ := (two_enter2 Pa Ma Na mla na (fun _ => []) A Ar c k 0 0 0 [] 0 (fun _ => []) none none 0 0 w hZ hs)
  have hsZ : s + 1 < Z.heap.size := by omega
  have hw : w.heap.size ≤ s := Nat.le_of_eq hs.symm
  replace f1 := Lib.hid f1
  replace f2 := Lib.hid f2
  have hq := hC Z ((hr.below hB).more hB.size) ((hm.below hB).more hB.size)
  replace hZ := Lib.hid hZ
  replace hZs := Lib.hid hZs
  clear hC hP hM hn hk
  go_enter Try.func10, Try.ntmps10
  obtain ⟨a0, a1, a2, a3, a4, -⟩ := f1.out
  go_wp2_with (fail)
  rw [← hZ.out]
  simp only [← hs]
  replace hs := Lib.hid hs
  go_wp2_with (fail)
  (with_reducible refine hq.out.mono ?_)
  rintro e w1 ⟨rfl, hb1⟩
  clear hq a0 a1 a2 a3 a4
  have hB1 := hB.trans (hb1.mono hB.size)
  have g1 := Lib.hid (f1.out.keep hb1 (by omega))
  have g2 := Lib.hid (f2.out.keep hb1 hsZ)
  have hs1 : s + 1 < w1.heap.size := Nat.lt_of_lt_of_le hsZ hb1.size
  clear f1 f2 hb1 hB
  have hbd : Below w1.heap.size w1 w1.drew := (Below.refl _ w1).drew
  have vF := fun W (h : Below w1.heap.size w1 W) => Lib.hid (show W.cell? ⟨s, 0, none⟩ = some (.int .i64 Pa) ∧ W.cell? ⟨s, 1, none⟩ = some (.int .i64 Ma) ∧ W.cell? ⟨s, 2, none⟩ = some (.slice A mla.length c) ∧ W.cell? ⟨s, 3, none⟩ = some (.int .i64 Na) ∧ W.cell? ⟨s, 4, none⟩ = some (.slice Ar na k) from ⟨(g1.out.keep h (by omega)).1, (g1.out.keep h (by omega)).2.1, (g1.out.keep h (by omega)).2.2.1, (g1.out.keep h (by omega)).2.2.2.1, (g1.out.keep h (by omega)).2.2.2.2.1⟩)
  have hr1 := (hr.below hB1).more hB1.size
  have hm1 := (hm.below hB1).more hB1.size
  obtain ⟨hb0, hl0⟩ : Below w1.heap.size w1 w1.drew ∧ w1.heap.size ≤ w1.drew.heap.size := ⟨(Below.refl _ _).drew, Nat.le_refl _⟩
  replace hb0 := Lib.hid hb0
  obtain ⟨a0, a1, a2, a3, a4, -⟩ := g1.out
  go_wp2_with (fail)
  clear a0 a1 a2 a3 a4
  refine wp_region_held_drew (S := fun w' => w'.cell? ⟨s, 0, none⟩ = some (.int .i64 Pa) ∧ w'.cell? ⟨s, 1, none⟩ = some (.int .i64 Ma) ∧ w'.cell? ⟨s, 2, none⟩ = some (.slice A mla.length c) ∧ w'.cell? ⟨s, 3, none⟩ = some (.int .i64 Na) ∧ w'.cell? ⟨s, 4, none⟩ = some (.slice Ar na k)) (by kernel_rfl) (by (try dsimp only); exact (vF _ hb0.out).out) (fun hHeld => ?_)
  revert hb0 hl0 hHeld
  generalize w1.drew = wq
  intro hl0 hb0 hHeld
  refine wpAnyH_take (i := 0) (oi := ⟨_, _, _, _, _, _⟩) (v := ?_) rfl (by kernel_rfl) (by kernel_rfl) (by kernel_rfl) (fun _ _ _ h => h) (Or.inl ⟨by rfl, ?_⟩) (by assumption) ?_
  rotate_left
  · intro w hSw; (try dsimp only at hSw); go_simp; try with_reducible rfl
  try simp only [Act.put, List.setIfInBounds_toArray, List.set_cons_zero, List.set_cons_succ]
  refine wpAnyH_take (i := 1) (oi := ⟨_, _, _, _, _, _⟩) (v := ?_) rfl (by kernel_rfl) (by kernel_rfl) (by kernel_rfl) (fun _ _ _ h => h) (Or.inl ⟨by rfl, ?_⟩) (by assumption) ?_
  rotate_left
  · intro w hSw; (try dsimp only at hSw); go_simp; try with_reducible rfl
  try simp only [Act.put, List.setIfInBounds_toArray, List.set_cons_zero, List.set_cons_succ]
  refine wpAnyH_take (i := 2) (oi := ⟨_, _, _, _, _, _⟩) (v := ?_) rfl (by kernel_rfl) (by kernel_rfl) (by kernel_rfl) (fun _ _ _ h => h) (Or.inl ⟨by rfl, ?_⟩) (by assumption) ?_
  rotate_left
  · intro w hSw; (try dsimp only at hSw); go_simp; try with_reducible rfl
  try simp only [Act.put, List.setIfInBounds_toArray, List.set_cons_zero, List.set_cons_succ]
  refine wpAnyH_take (i := 4) (oi := ⟨_, _, _, _, _, _⟩) (v := ?_) rfl (by kernel_rfl) (by kernel_rfl) (by kernel_rfl) (fun _ _ _ h => h) (Or.inl ⟨by rfl, ?_⟩) (by assumption) ?_
  rotate_left
  · intro w hSw; (try dsimp only at hSw); go_simp; try with_reducible rfl
  try simp only [Act.put, List.setIfInBounds_toArray, List.set_cons_zero, List.set_cons_succ]
  refine wpAnyH_take (i := 5) (oi := ⟨_, _, _, _, _, _⟩) (v := ?_) rfl (by kernel_rfl) (by kernel_rfl) (by kernel_rfl) (fun _ _ _ h => h) (Or.inl ⟨by rfl, ?_⟩) (by assumption) ?_
  rotate_left
  · intro w hSw; (try dsimp only at hSw); go_simp; try with_reducible rfl
  try simp only [Act.put, List.setIfInBounds_toArray, List.set_cons_zero, List.set_cons_succ]
  refine wpAnyH_ready (rs := [3]) (by kernel_rfl) (by simp) ?_
  refine AllReadyH.cons (o := ⟨_, _, _, _, _, _⟩) rfl (fun K hK => ?_) AllReadyH.nil
  go_simp
  go_at_call 41
  (with_reducible refine (hPy _ ((hr1.below hb0.out).more hl0) ((hm1.below hb0.out).more hl0)).out.mono ?_)
  rintro e wq ⟨Al, cl, rfl, hb, hrd⟩
  replace hb0 := Lib.hid (hb0.out.trans (hb.mono hl0))
  replace hl0 := Nat.le_trans hl0 hb.size
  go_wp2_with (fail)
  refine hK.out _ _ (by (try dsimp only); exact (vF _ hb0.out).out) (fun hHeld => ?_)
  clear hK K
  try simp only [Act.put, List.setIfInBounds_toArray, List.set_cons_zero, List.set_cons_succ]
  refine wpAnyH_ready (rs := [6]) (by kernel_rfl) (by simp) ?_
  refine AllReadyH.cons (o := ⟨_, _, _, _, _, _⟩) rfl (fun K hK => ?_) AllReadyH.nil
  go_simp
  go_at_call 40
  (with_reducible refine (hMk _ _ _ ((hr1.below hb0.out).more hl0) hrd).out.mono ?_)
  rintro e wq ⟨A3, c3, Al2, cl2, rfl, hin, hb⟩
  replace hin := hin.low (show s + 1 + 1 ≤ _ from Nat.le_trans hs1 hl0)
  replace hb0 := Lib.hid (hb0.out.trans (hb.mono hl0))
  replace hl0 := Nat.le_trans hl0 hb.size
  go_wp2_with (fail)
  refine hK.out _ _ (by (try dsimp only); exact (vF _ hb0.out).out) (fun hHeld => ?_)
  clear hK K
  try simp only [Act.put, List.setIfInBounds_toArray, List.set_cons_zero, List.set_cons_succ]
  refine wpAnyH_ready (rs := [7]) (by kernel_rfl) (by simp) ?_
  refine AllReadyH.cons (o := ⟨_, _, _, _, _, _⟩) rfl (fun K hK => ?_) AllReadyH.nil
  obtain ⟨y0, y1, y2, y3, y4, z0, z1, z2, z3, z4⟩ := g2.out.keep hb0.out hs1
  go_simp
  clear y0 y1 y2 y3 y4 z0 z1 z2 z3 z4
  have g3 := Lib.hid ((g2.out.keep hb0.out hs1).set_ (.int .i64 Pa) (.int .i64 Ma) (.slice A3 mla.length c3) (.int .i64 Na) (.slice Al2 T cl2))
  have hin2 := hin.store (b := s + 1) (Nat.lt_succ_self _) (.int .i64 Pa) (.int .i64 Ma) (.slice A3 mla.length c3) (.int .i64 Na) (.slice Al2 T cl2)
  have g4 := Lib.hid ((g1.out.keep hb0.out (by omega)).farS (b := s + 1) (by omega) (.int .i64 Pa) (.int .i64 Ma) (.slice A3 mla.length c3) (.int .i64 Na) (.slice Al2 T cl2))
  have hBx := below_set5d (hB1.trans (hb0.out.mono hB1.size)) (b := s + 1) (by omega) (.int .i64 Pa) (.int .i64 Ma) (.slice A3 mla.length c3) (.int .i64 Na) (.slice Al2 T cl2)
  obtain ⟨y0, y1, y2, y3, y4, -⟩ := g4.out
  refine hK.out _ _ (by (try dsimp only); exact ⟨y0, y1, y2, y3, y4⟩) (fun hHeld => ?_)
  clear hK K
  try simp only [Act.put, List.setIfInBounds_toArray, List.set_cons_zero, List.set_cons_succ]
  refine wpAnyH_take (i := 8) (oi := ⟨_, _, _, _, _, _⟩) (v := ?_) rfl (by kernel_rfl) (by kernel_rfl) (by kernel_rfl) (fun _ _ _ h => h) (Or.inl ⟨by rfl, ?_⟩) (by assumption) ?_
  rotate_left
  · intro w hSw; (try dsimp only at hSw); go_simp; try with_reducible rfl
  try simp only [Act.put, List.setIfInBounds_toArray, List.set_cons_zero, List.set_cons_succ]
  refine wpAnyH_done (by kernel_rfl) ?_ _
  obtain ⟨a0, a1, a2, a3, a4, -⟩ := g3.out
  go_wp2_with (fail)
  refine bodyPost_ret (v := .tuple #[.agg #[.int .i64 Pa, .int .i64 Ma, .slice A3 mla.length c3, .int .i64 Na, .slice Al2 T cl2], .int .i64 0]) (by simp [results, Try.results10, go_sem, a0, a1, a2, a3, a4]) rfl ⟨A3, c3, Al2, cl2, rfl, hin2.low (by omega), hBx⟩
end
end Go.Proofs.Ytkmhopefnfaecaa
