/- The program's product of two residues at M = 1, and in general. -/
import Derived.Test.YtnbkmkeiophjoaaPrgC
namespace Go.Proofs.Ytnbkmkeiophjoaa
open Go.RowKit Cw

theorem ci_one_digit (D : Desc) (hm : D.m = 1) (u : R D) : ci u = (di u 0 : Nat) := by
  unfold ci rcode
  rw [hm]
  show ((0 + di u 0 * D.p ^ 0 : Nat) : Int) = _
  rw [Nat.pow_zero, Nat.mul_one, Nat.zero_add]
theorem dl_one (D : Desc) (hm : D.m = 1) (u : R D) : dl u = [ci u] := by
  unfold dl; rw [hm, ci_one_digit D hm]; rfl
theorem mul_one_digit (D : Desc) (hm : D.m = 1) (u v : R D) : ci (u * v) = (ci v * ci u) % (D.p : Int) := by
  rw [ci_one_digit D hm, ci_one_digit D hm, ci_one_digit D hm]
  have e : di (u * v) 0 = (di u 0 * di v 0) % D.p := by
    unfold di
    rw [mul_v _ _ (by omega), hm, rsum_succ, rsum_zero, zero_add]; rfl
  rw [e, Nat.mul_comm, Int.natCast_emod, Int.natCast_mul]
theorem digitsOf_one (D : Desc) (hm : D.m = 1) (u : R D) (w : World) : Calls Try.prog 142 #[.int .i64 (ci u), .int .i64 D.p, .int .i64 1] w fun e w' =>
    ∃ g, e = .returned (.slice (some ⟨g, 0, none⟩) 1 1) ∧ w.heap.size ≤ g ∧ IB w' g [ci u] ∧ Below w.heap.size w w' := by
  have h := digitsOf_ci D u w
  rw [hm, dl_one D hm] at h
  exact h
theorem valueOf_one (D : Desc) (hm : D.m = 1) (u : R D) (A : Option Addr) (w : World) (hr : Rd w w.heap.size A [ci u]) :
    Calls Try.prog 143 #[.slice A 1 1, .int .i64 D.p] w fun e w' => e = .returned (.int .i64 (ci u)) ∧ w = w' := by
  have hp0 := D.p2
  have h := valueOf_any D.p D.m (di u) A 1 w (by omega) D.p256 D.m8 (fun i _ => di_lt _ i) D.hq (by rw [← dl_one D hm] at hr; exact hr)
  rw [show ((nval D.p (di u) D.m : Nat) : Int) = ci u from rfl, hm] at h
  exact h

structure M1St (D : Desc) (u v : R D) (A : Option Addr) (n c g1 g2 g3 : Nat) (w : World) (l : List Int) (wr : World) : Prop where
  i1 : IB wr g1 [ci u]
  i2 : IB wr g2 [ci v]
  i3 : IB wr g3 l
  bw : Below w.heap.size w wr
  bx : wr.cell? ⟨w.heap.size, 0, none⟩ = some (.int .i64 D.p) ∧ wr.cell? ⟨w.heap.size, 1, none⟩ = some (.int .i64 1) ∧ wr.cell? ⟨w.heap.size, 2, none⟩ = some (.slice A n c)
theorem M1St.set_ {D : Desc} {u v : R D} {A : Option Addr} {n c g1 g2 g3 : Nat} {w wr : World} {l : List Int} (h : M1St D u v A n c g1 g2 g3 w l wr)
    (h1 : w.heap.size < g1) (h2 : g1 < g2) (h3 : g2 < g3) (k : Nat) (z : Int) : M1St D u v A n c g1 g2 g3 w (l.set k z) (wr.setCell ⟨g3, k, none⟩ (.int .i64 z)) where
  i1 := h.i1.far (p := ⟨g3, k, none⟩) (by show g1 ≠ g3; omega) _
  i2 := h.i2.far (p := ⟨g3, k, none⟩) (by show g2 ≠ g3; omega) _
  i3 := h.i3.set_ k z
  bw := h.bw.setCell (p := ⟨g3, k, none⟩) (by show w.heap.size ≤ g3; omega) _
  bx := keep3 (B := w.heap.size + 1) ((Below.refl _ _).setCell (p := ⟨g3, k, none⟩) (by show w.heap.size + 1 ≤ g3; omega) _) (by omega) h.bx
theorem M1St.drew {D : Desc} {u v : R D} {A : Option Addr} {n c g1 g2 g3 : Nat} {w wr : World} {l : List Int} (h : M1St D u v A n c g1 g2 g3 w l wr) : M1St D u v A n c g1 g2 g3 w l wr.drew :=
  ⟨h.i1, h.i2, h.i3, h.bw.drew, h.bx⟩

set_option maxRecDepth 100000 in
set_option maxHeartbeats 4000000 in
theorem multiply_one (D : Desc) (hm : D.m = 1) (u v : R D) (A : Option Addr) (n c : Nat) (w : World) :
    Calls Try.prog 129 #[.agg #[.int .i64 D.p, .int .i64 1, .slice A n c], .int .i64 (ci u), .int .i64 (ci v)] w fun e w' =>
      e = .returned (.int .i64 (ci (u * v))) ∧ Below w.heap.size w w' := by
  have hp0 := D.p2; have hp1 := D.p256
  have hDx := fun w => Lib.hid (digitsOf_one D hm u w)
  have hDy := fun w => Lib.hid (digitsOf_one D hm v w)
  have hV := fun A w hr => Lib.hid (valueOf_one D hm (u * v) A w hr)
  have hprod := Lib.hid (mul_one_digit D hm u v)
  have hu0 := ci_nonneg u; have hu1 := ci_le u
  have hv0 := ci_nonneg v; have hv1 := ci_le v
  have hmk : ∀ w : World, (Instr.makeSlice 22 (.int .i64 1) (.int .i64 1)).run Try.prog w =
    .ok (.slice (some ⟨w.heap.size, 0, none⟩) 1 1) (w.alloc (.cells #[Value.int .i64 0] 3)) := mk_ints 1 (by omega)
  clear hm
  have k0 := Lib.hid (alloc3 w (.int .i64 D.p) (.int .i64 1) (.slice A n c) 24)
  go_enter Try.func129, Try.ntmps129
  go_wp2_with (fail)
  go_region_held3 (fun w' => w'.cell? ⟨w.heap.size, 0, none⟩ = some (.int .i64 D.p) ∧ w'.cell? ⟨w.heap.size, 1, none⟩ = some (.int .i64 1) ∧ w'.cell? ⟨w.heap.size, 2, none⟩ = some (.slice A n c)) (first | exact k0.out | exact k1.out | exact k2.out)
    (first
      | (go_at_call 142; refine (hDx _).out.mono ?_; clear hDx; rintro e w1 ⟨g1, rfl, hg1, hib1, hb1⟩; have k1 := Lib.hid (keep3 (b := w.heap.size) hb1 (by simp) k0.out); have hs1 := hb1.size; simp only [World.drew, World.size_alloc] at hs1 hg1)
      | (go_at_call 142; refine (hDy _).out.mono ?_; rintro e w2 ⟨g2, rfl, hg2, hib2, hb2⟩; have k2 := Lib.hid (keep3 (b := w.heap.size) hb2 (by omega) k1.out)))
  have hs2 := hb2.size
  have hg1l := hib1.lt
  have hg2l := hib2.lt
  have hib1' := hib1.below hb2 (by omega)
  have hbw2 : Below w.heap.size w w2 := ((((Below.refl _ _).alloc (Nat.le_refl _) _).drew).trans (hb1.mono (by simp))).trans (hb2.mono (by omega))
  have hb0 : w.heap.size < g1 := by omega
  have hne : g1 < g2 := by omega
  have hst : Hid (M1St D u v A n c g1 g2 w2.heap.size w [0] (w2.alloc (.cells #[Value.int .i64 0] 3))) :=
    ⟨hib1'.alloc _, hib2.alloc _, IB.new w2 [0], hbw2.alloc (by omega) _, keep3 (B := w2.heap.size) ((Below.refl _ _).alloc (Nat.le_refl _) _) (by omega) k2.out⟩
  have hne2 : g2 < w2.heap.size := hg2l
  have kc := k2.out
  obtain ⟨kc0, kc1, kc2⟩ := kc
  have hlt0 : w.heap.size < w2.heap.size := by omega
  clear hib1 hb1 hb2 k1 k0 hib2 hib1' hbw2
  go_wp2_with (fail)
  clear kc0 kc1 kc2 k2 hmk
  generalize w2.heap.size = g3 at *
  generalize (w2.alloc (.cells #[Value.int .i64 0] 3)) = w3 at *
  obtain ⟨kc0, kc1, kc2⟩ := hst.out.bx
  have hc3 : w3.cell? ⟨g3, 0, none⟩ = some (.int .i64 0) := hst.out.i3.cell (i := 0) (by simp)
  have hc1 : w3.cell? ⟨g1, 0, none⟩ = some (.int .i64 (ci u)) := hst.out.i1.cell (i := 0) (by simp)
  have hc2 : w3.cell? ⟨g2, 0, none⟩ = some (.int .i64 (ci v)) := hst.out.i2.cell (i := 0) (by simp)
  refine wp_loop_rounds 2 ?_
  rw [rounds_succ]
  go_wp2_with (fail)
  have ew : IntKind.i64.wrap 0 = 0 := rfl
  go_still_tail 7, (by kernel_rfl)
  change wpList _ _ _ _ _ w3.drew
  clear ew
  refine wpList_copy_nothing rfl (.tmp 43) (.tmp 48) 22 22 rfl 3 Try.underlying22 sizeInt _ _ 0 _ 0 _ rfl rfl rfl ?_
  have hf := hst.out.i3.frozen 0
  have hst2 := Lib.hid (hst.out.set_ hb0 hne hne2 0 0).drew
  clear hst
  go_wp2_with (fail)
  clear kc0 kc1 kc2 hc1 hc2 hc3 hf
  generalize (w3.setCell ⟨g3, 0, none⟩ (.int .i64 0)).drew = w4 at *
  obtain ⟨kc0, kc1, kc2⟩ := hst2.out.bx
  have hc3 : w4.cell? ⟨g3, 0, none⟩ = some (.int .i64 0) := hst2.out.i3.cell (i := 0) (by simp)
  have hc1 : w4.cell? ⟨g1, 0, none⟩ = some (.int .i64 (ci u)) := hst2.out.i1.cell (i := 0) (by simp)
  have hc2 : w4.cell? ⟨g2, 0, none⟩ = some (.int .i64 (ci v)) := hst2.out.i2.cell (i := 0) (by simp)
  have hf := hst2.out.i3.frozen 0
  refine wp_loop_rounds 2 ?_
  rw [rounds_succ]
  go_wp2_with (fail)
  obtain ⟨hm2a, hm2b⟩ : (0 : Int) ≤ ci v * ci u ∧ ci v * ci u ≤ 65536 := by
    have h1 := Nat.mul_le_mul (show (ci v).toNat ≤ 256 by omega) (show (ci u).toNat ≤ 256 by omega)
    have h2 : (((ci v).toNat * (ci u).toNat : Nat) : Int) = ci v * ci u := by rw [Int.natCast_mul, Int.toNat_of_nonneg hv0, Int.toNat_of_nonneg hu0]
    omega
  have hset := Lib.hid (hst2.out.set_ hb0 hne hne2 0 (ci (u * v))).drew
  have hpz : ¬ D.p = 0 := by omega
  have e1 : IntKind.i64.wrap (D.p : Int) = (D.p : Int) := IntWalk.i64_in _ (by omega)
  have e2 : IntKind.i64.wrap (0 : Int) = 0 := rfl
  have e4 : IntKind.i64.wrap (ci v * ci u) = ci v * ci u := IntWalk.i64_in _ (by omega)
  have e6 : (ci v * ci u).tmod (D.p : Int) = ci v * ci u % (D.p : Int) := Int.tmod_eq_emod_of_nonneg hm2a
  go_still_tail 27, (by kernel_rfl)
  change wpList _ _ _ _ _ w4.drew
  clear e1 e2 e4 e6 hpz
  rw [hprod.out] at hset
  go_wp2_with (fail)
  generalize (w4.setCell ⟨g3, 0, none⟩ (.int .i64 (ci v * ci u % (D.p : Int)))).drew = w5 at *
  clear hst2 kc0 kc1 kc2 hc1 hc2 hc3 hf hm2a hm2b
  obtain ⟨kc0, kc1, kc2⟩ := hset.out.bx
  have hV2 := Lib.hid (hV (some ⟨g3, 0, none⟩) w5 (by have h4 := hset.out.i3.rd; simp only [List.set_cons_zero] at h4; rw [← hprod.out] at h4; exact h4)).out
  rw [rounds_succ]
  go_wp2_with (fail)
  rw [rounds_succ]
  go_wp2_with (fail)
  refine hV2.out.mono ?_
  rintro e w6 ⟨rfl, rfl⟩
  go_wp2_with (fail)
  go_ret
  exact ⟨rfl, hset.out.bw⟩

theorem multiply_any (D : Desc) (u v : R D) (A : Option Addr) (c : Nat) (w : World) (hr : Rd w w.heap.size A (modL D)) :
    Calls Try.prog 129 #[.agg #[.int .i64 D.p, .int .i64 D.m, .slice A D.mod.length c], .int .i64 (ci u), .int .i64 (ci v)] w fun e w' =>
      e = .returned (.int .i64 (ci (u * v))) ∧ Below w.heap.size w w' := by
  by_cases hm : D.m = 1
  · have h := multiply_one D hm u v A D.mod.length c w
    rw [hm]; exact h
  · exact multiply_two D (by have := D.m1; omega) u v A c w hr
end Go.Proofs.Ytnbkmkeiophjoaa
