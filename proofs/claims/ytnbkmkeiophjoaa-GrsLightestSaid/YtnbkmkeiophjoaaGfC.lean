/- The program's Field. -/
import Derived.Test.YtnbkmkeiophjoaaGfB
namespace Go.Proofs.Ytnbkmkeiophjoaa
open Go.RowKit Cw

theorem keep3' {B g : Nat} {W w1 : World} {v0 v1 v2 : Value} (hb : Below B W w1) (hlt : g < B) (h : W.cell? ⟨g, 0, none⟩ = some v0 ∧ W.cell? ⟨g, 1, none⟩ = some v1 ∧ W.cell? ⟨g, 2, none⟩ = some v2) :
    w1.cell? ⟨g, 0, none⟩ = some v0 ∧ w1.cell? ⟨g, 1, none⟩ = some v1 ∧ w1.cell? ⟨g, 2, none⟩ = some v2 := keep3 hb hlt h

theorem set3 {w3 : World} {b : Nat} (u0 u1 u2 : Value) : Below b w3 (((w3.setCell ⟨b, 0, none⟩ u0).setCell ⟨b, 1, none⟩ u1).setCell ⟨b, 2, none⟩ u2) :=
  (((Below.refl _ _).setCell (p := ⟨b, 0, none⟩) (Nat.le_refl _) _).setCell (p := ⟨b, 1, none⟩) (Nat.le_refl _) _).setCell (p := ⟨b, 2, none⟩) (Nat.le_refl _) _
theorem own3 {B b : Nat} {X w3 : World} (hc : ∀ i, i < 3 → ∃ v, X.cell? ⟨b, i, none⟩ = some v) (hf : ∀ i, X.frozen? ⟨b, i, none⟩ = false) (hb : Below B X w3) (hlt : b < B) :
    ∃ v0 v1 v2, w3.cell? ⟨b, 0, none⟩ = some v0 ∧ w3.cell? ⟨b, 1, none⟩ = some v1 ∧ w3.cell? ⟨b, 2, none⟩ = some v2 ∧ w3.frozen? ⟨b, 0, none⟩ = false ∧ w3.frozen? ⟨b, 1, none⟩ = false ∧ w3.frozen? ⟨b, 2, none⟩ = false := by
  obtain ⟨v0, h0⟩ := hc 0 (by omega)
  obtain ⟨v1, h1⟩ := hc 1 (by omega)
  obtain ⟨v2, h2⟩ := hc 2 (by omega)
  exact ⟨v0, v1, v2, (hb.cell (p := ⟨b, 0, none⟩) hlt).trans h0, (hb.cell (p := ⟨b, 1, none⟩) hlt).trans h1, (hb.cell (p := ⟨b, 2, none⟩) hlt).trans h2,
    (hb.frozen (p := ⟨b, 0, none⟩) hlt).trans (hf 0), (hb.frozen (p := ⟨b, 1, none⟩) hlt).trans (hf 1), (hb.frozen (p := ⟨b, 2, none⟩) hlt).trans (hf 2)⟩

set_option maxHeartbeats 2000000 in
theorem gField_any (D : FD) (g : Nat) (w : World) (hg : GF w w.heap.size g D) :
    Calls Try.prog 58 #[.pointer (some ⟨g, 0, none⟩)] w fun e w' => ∃ A3 c3, e = .returned (.agg #[.int .i64 D.p, .int .i64 D.m, .slice A3 D.mod.length c3]) ∧
      Rd w' w'.heap.size A3 (modL D.toDesc) ∧ (∀ b, A3 = some b → w.heap.size ≤ b.block) ∧ Below w.heap.size w w' := by
  have hml : D.mod.length ≤ 8 := by have := D.hlen; have := D.m8; rw [D.hlen]; split <;> omega
  have c0 := hg.c0
  have c1 := hg.c1
  have hgl := hg.lt
  obtain ⟨A, c, c2, hr⟩ := hg.md
  clear hg
  obtain ⟨Z, hZ⟩ : ∃ Z, Z = w.alloc (.cells #[.int .i64 0, .int .i64 0, .slice none 0 0] 24) := ⟨_, rfl⟩
  have hZb : Below w.heap.size w Z := by rw [hZ]; exact (Below.refl _ _).alloc (Nat.le_refl _) _
  have hZs : Z.heap.size = w.heap.size + 1 := by rw [hZ]; simp
  have kz := Lib.hid (keep3 hZb hgl ⟨c0, c1, c2⟩)
  have o1 : Hid (Own (Z.alloc (.cells #[] 3)).drew (w.heap.size + 1) (.slice (some ⟨w.heap.size + 1, 0, none⟩) 0 0) []) := own_empty (by have := heap_alloc_new Z (.cells #[] 3); rw [hZs] at this; exact this) (Nat.le_refl _)
  have hX : Below w.heap.size w (Z.alloc (.cells #[] 3)).drew := (hZb.alloc (by omega) _).drew
  have k1 := Lib.hid (keep3 hX hgl ⟨c0, c1, c2⟩)
  have r1 : Hid (Rd (Z.alloc (.cells #[] 3)).drew w.heap.size A (modL D.toDesc)) := hr.below hX
  have hmn : Hid (D.mod.length = (modL D.toDesc).length) := (modL_length D.toDesc).symm
  have hmn' : Hid ((([] : List Int) ++ modL D.toDesc).length = D.mod.length) := by unfold Hid; rw [List.nil_append, modL_length]
  have hm8 : ([] : List Int).length + (modL D.toDesc).length ≤ 1000000000 := by rw [modL_length]; simp; omega
  have b1 : w.heap.size + 1 ≤ (Z.alloc (.cells #[] 3)).drew.heap.size := by simp [hZs]
  have hcz : ∀ i, i < 3 → ∃ v, Z.cell? ⟨w.heap.size, i, none⟩ = some v := fun i hi => by
    rw [hZ]
    match i, hi with
    | 0, _ => exact ⟨_, (alloc3 _ _ _ _ _).1⟩
    | 1, _ => exact ⟨_, (alloc3 _ _ _ _ _).2.1⟩
    | 2, _ => exact ⟨_, (alloc3 _ _ _ _ _).2.2⟩
  have hfz : ∀ i, Z.frozen? ⟨w.heap.size, i, none⟩ = false := fun i => by rw [hZ]; exact World.frozen?_alloc_at _ _ _ _ rfl
  have hlz : w.heap.size < Z.heap.size := by omega
  have hcx : ∀ i, i < 3 → ∃ v, (Z.alloc (.cells #[] 3)).drew.cell? ⟨w.heap.size, i, none⟩ = some v := fun i hi => by
    obtain ⟨v, hv⟩ := hcz i hi
    exact ⟨v, (((Below.refl Z.heap.size Z).alloc (Nat.le_refl _) _).cell (p := ⟨w.heap.size, i, none⟩) hlz).trans hv⟩
  have hfx : ∀ i, (Z.alloc (.cells #[] 3)).drew.frozen? ⟨w.heap.size, i, none⟩ = false := fun i =>
    (((Below.refl Z.heap.size Z).alloc (Nat.le_refl _) (.cells #[] 3)).frozen (p := ⟨w.heap.size, i, none⟩) hlz).trans (hfz i)
  replace hZ := Lib.hid hZ
  replace hcx := Lib.hid hcx
  replace hfx := Lib.hid hfx
  clear hcz hfz
  clear c0 c1 c2
  go_enter Try.func58, Try.ntmps58
  go_wp2_with (fail)
  rw [← hZ.out]
  go_region_held3 (fun w' => w'.cell? ⟨g, 0, none⟩ = some (.int .i64 D.p) ∧ w'.cell? ⟨g, 1, none⟩ = some (.int .i64 D.m) ∧ w'.cell? ⟨g, 2, none⟩ = some (.slice A D.mod.length c))
    (first | exact kz.out | exact k1.out | exact y.out | exact keep3 (b := g) (set3 _ _ _) hgl y.out)
    (first
      | (refine step_appN rfl (.tmp 13) (.tmp 18) rfl (w.heap.size + 1) _ [] w.heap.size A c (modL D.toDesc) o1.out r1.out rfl rfl hmn.out hm8 b1 ?_; intro v3 w3 hown3 hb3 hg3 hv3; obtain ⟨A3, c3, rfl, hc3, hr3, hA3⟩ := hown3.form; rw [hmn'.out]; have y := Lib.hid (keep3 (b := g) hb3 (Nat.lt_succ_of_lt hgl) k1.out); obtain ⟨z0, z1, z2, q0, q1, q2, q3, q4, q5⟩ := own3 hcx.out hfx.out hb3 (Nat.lt_succ_self _)))
  go_wp2_with (fail)
  rw [List.nil_append] at hr3
  have hbW : Below w.heap.size w (((w3.setCell ⟨w.heap.size, 0, none⟩ (.int .i64 D.p)).setCell ⟨w.heap.size, 1, none⟩ (.int .i64 D.m)).setCell ⟨w.heap.size, 2, none⟩ (.slice A3 D.mod.length c3)) := (hX.trans (hb3.mono (Nat.le_succ _))).trans (set3 _ _ _)
  have hrW : Rd (((w3.setCell ⟨w.heap.size, 0, none⟩ (.int .i64 D.p)).setCell ⟨w.heap.size, 1, none⟩ (.int .i64 D.m)).setCell ⟨w.heap.size, 2, none⟩ (.slice A3 D.mod.length c3)) w3.heap.size A3 (modL D.toDesc) := fun hn => by
    obtain ⟨b, off, e, hbl, hcell⟩ := hr3 hn
    have h8 := (hA3 _ e).1
    refine ⟨b, off, e, hbl, fun j hj => ?_⟩
    have ne : ∀ i, (⟨b, off + j, none⟩ : Addr) ≠ ⟨w.heap.size, i, none⟩ := fun i e2 => by
      have h9 := congrArg Addr.block e2
      simp at h9 h8; omega
    rw [World.cell?_setCell_other _ _ _ _ (fun e2 => ne 2 (by first | exact e2 | exact e2.symm)), World.cell?_setCell_other _ _ _ _ (fun e2 => ne 1 (by first | exact e2 | exact e2.symm)), World.cell?_setCell_other _ _ _ _ (fun e2 => ne 0 (by first | exact e2 | exact e2.symm))]
    exact hcell j hj
  have t0 := World.cell?_setCell_same w3 ⟨w.heap.size, 0, none⟩ (.int .i64 D.p) q0
  refine bodyPost_ret (v := .agg #[.int .i64 D.p, .int .i64 D.m, .slice A3 D.mod.length c3]) (by simp [results, Try.results58, go_sem, q0, q1, q2]) rfl ⟨A3, c3, rfl, hrW.more (by simp [World.setCell]), fun b hb => by have := (hA3 b hb).1; omega, hbW⟩
end Go.Proofs.Ytnbkmkeiophjoaa
