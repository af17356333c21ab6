/- TowerClosed: the walk. -/
import Derived.Test.YteamndefbpdcjaaL01
import Derived.Test.YteamndefbpdcjaaCnt
namespace Go.Proofs.Yteamndefbpdcjaa
open Go.RowKit Go.Shelf Cw
open CField (inv)
attribute [local go_sem] Oper.semAt_some

theorem mem_subL (D : FD) (d : Nat) (x : Int) : x ∈ subL D d D.q ↔ 0 ≤ x ∧ x < D.q ∧ frob d (eli D.toDesc x) = eli D.toDesc x := by
  unfold subL
  simp only [List.mem_map, List.mem_filter, List.mem_range, decide_eq_true_iff]
  constructor
  · rintro ⟨n, ⟨hn, h⟩, rfl⟩
    exact ⟨by omega, by omega, by rw [eli_nat hn]; exact h⟩
  · rintro ⟨h0, h1, h⟩
    obtain ⟨n, rfl⟩ := Int.eq_ofNat_of_zero_le h0
    have hn : n < D.q := by omega
    rw [eli_nat hn] at h
    exact ⟨n, ⟨hn, h⟩, rfl⟩
theorem ci_mem_subL (D : FD) (d : Nat) (u : R D.toDesc) : ci u ∈ subL D d D.q ↔ frob d u = u := by
  rw [mem_subL, eli_ci]
  exact ⟨fun h => h.2.2, fun h => ⟨ci_nonneg u, ci_lt u, h⟩⟩

set_option maxHeartbeats 1000000 in
theorem clL_bad (P M : Int) (ml : List Int) (A : Option Addr) (c : Nat) (x1 y1 : Int) (x2 : Int) (w : World) (hP : I64 P) (hM : I64 M) (hl : ml.length ≤ maxLen) (hr : Rd w w.heap.size A ml) (hb : ¬ Good P M ml) :
    Calls Try.prog 6 #[.agg #[.int .i64 P, .int .i64 M, .slice A ml.length c], .agg #[.int .i64 x1, .int .i64 y1], .int .i64 x2] w (LawEnd w) := by
  have hA := fun W => Lib.hid (alive_any W)
  have hM := fun W (h : Rd W W.heap.size A ml) => Lib.hid (made_bad P M ml A c W hP.2 hM.2 hl h hb)
  have hB : Below w.heap.size w ((w.alloc (.cells #[.int .i64 P, .int .i64 M, .slice A ml.length c] 24)).alloc (.cells #[.int .i64 x1, .int .i64 y1] 31)) := (((Below.refl _ _).alloc (by simp) _).alloc (by simp) _)
  have k0 := Lib.hid (show (((w.alloc (.cells #[.int .i64 P, .int .i64 M, .slice A ml.length c] 24)).alloc (.cells #[.int .i64 x1, .int .i64 y1] 31))).cell? ⟨w.heap.size, 0, none⟩ = some (.int .i64 P) ∧ (((w.alloc (.cells #[.int .i64 P, .int .i64 M, .slice A ml.length c] 24)).alloc (.cells #[.int .i64 x1, .int .i64 y1] 31))).cell? ⟨w.heap.size, 1, none⟩ = some (.int .i64 M) ∧ (((w.alloc (.cells #[.int .i64 P, .int .i64 M, .slice A ml.length c] 24)).alloc (.cells #[.int .i64 x1, .int .i64 y1] 31))).cell? ⟨w.heap.size, 2, none⟩ = some (.slice A ml.length c) from by simp [go_sem])
  clear hP hl hb
  go_enter Try.func6, Try.ntmps6
  go_wp2_with (fail)
  refine (hA _).out.mono ?_
  rintro e w1 ⟨rfl, hb1⟩
  obtain ⟨ka, kb, kc⟩ := keep3 hb1 (by simp; try omega) k0.out
  have hr1 := (((hr.below hB).more hB.size).below hb1).more hb1.size
  have hB1 := hB.trans (hb1.mono hB.size)
  have hM1 := hM _ hr1
  clear hM hA
  go_wp2_with (fail)
  refine hM1.out.mono ?_
  rintro e w2 ⟨rfl, hb2⟩
  go_wp2_with (fail)
  go_ret
  exact ⟨rfl, hB1.trans (hb2.mono hB1.size)⟩

set_option maxRecDepth 100000 in
set_option maxHeartbeats 2000000 in
theorem clL_good (D : Desc) (A : Option Addr) (c : Nat) (x1 y1 : Int) (x2 : Int) (w : World)  (hr : Rd w w.heap.size A (modL D)) (hb : Good D.p D.m (modL D)) :
    Calls Try.prog 6 #[.agg #[.int .i64 D.p, .int .i64 D.m, .slice A D.mod.length c], .agg #[.int .i64 x1, .int .i64 y1], .int .i64 x2] w (LawEnd w) := by
  have hp2 := D.m8; have hm1 := D.m1
  have hA := fun W => Lib.hid (alive_any W)
  have hM := fun W (h : Rd W W.heap.size A (modL D)) => Lib.hid (made_good D A c W h hb)
  have hB : Below w.heap.size w ((w.alloc (.cells #[.int .i64 D.p, .int .i64 D.m, .slice A D.mod.length c] 24)).alloc (.cells #[.int .i64 x1, .int .i64 y1] 31)) := (((Below.refl _ _).alloc (by simp) _).alloc (by simp) _)
  have k0 := Lib.hid (show (((w.alloc (.cells #[.int .i64 D.p, .int .i64 D.m, .slice A D.mod.length c] 24)).alloc (.cells #[.int .i64 x1, .int .i64 y1] 31))).cell? ⟨w.heap.size, 0, none⟩ = some (.int .i64 D.p) ∧ (((w.alloc (.cells #[.int .i64 D.p, .int .i64 D.m, .slice A D.mod.length c] 24)).alloc (.cells #[.int .i64 x1, .int .i64 y1] 31))).cell? ⟨w.heap.size, 1, none⟩ = some (.int .i64 D.m) ∧ (((w.alloc (.cells #[.int .i64 D.p, .int .i64 D.m, .slice A D.mod.length c] 24)).alloc (.cells #[.int .i64 x1, .int .i64 y1] 31))).cell? ⟨w.heap.size, 2, none⟩ = some (.slice A D.mod.length c) from by simp [go_sem])
  have p0 := Lib.hid (show (((w.alloc (.cells #[.int .i64 D.p, .int .i64 D.m, .slice A D.mod.length c] 24)).alloc (.cells #[.int .i64 x1, .int .i64 y1] 31))).cell? ⟨w.heap.size + 1, 0, none⟩ = some (.int .i64 x1) ∧ (((w.alloc (.cells #[.int .i64 D.p, .int .i64 D.m, .slice A D.mod.length c] 24)).alloc (.cells #[.int .i64 x1, .int .i64 y1] 31))).cell? ⟨w.heap.size + 1, 1, none⟩ = some (.int .i64 y1) from by simp [go_sem])
  go_enter Try.func6, Try.ntmps6
  go_wp2_with (fail)
  refine (hA _).out.mono ?_
  rintro e w1 ⟨rfl, hb1⟩
  obtain ⟨ka, kb, kc⟩ := keep3 hb1 (by simp; try omega) k0.out
  have p1 := Lib.hid (keep2 hb1 (by simp) p0.out)
  have hr1 := (((hr.below hB).more hB.size).below hb1).more hb1.size
  have hB1 := hB.trans (hb1.mono hB.size)
  have hM1 := hM _ hr1
  clear hM hA
  go_wp2_with (fail)
  refine hM1.out.mono ?_
  rintro e w2 ⟨hb2, ⟨g, F, rfl, rfl, hgl, hg⟩ | ⟨-, rfl⟩⟩
  rotate_left
  · go_wp2_with (fail)
    go_ret
    exact ⟨rfl, hB1.trans (hb2.mono hB1.size)⟩
  have hlt2 : w.heap.size < w2.heap.size := by have := hb1.size; have := hb2.size; simp only [World.size_alloc] at *; omega
  have hlt2b : w.heap.size + 1 < w2.heap.size := by have := hb1.size; have := hb2.size; simp only [World.size_alloc] at *; omega
  have kk2 := Lib.hid (keep3 hb2 (by have := hb1.size; simp only [World.size_alloc] at this; omega) ⟨ka, kb, kc⟩)
  have pk2 := Lib.hid (keep2 hb2 (by have := hb1.size; simp only [World.size_alloc] at this; omega) p1.out)
  have kp2 : Hid (w2.cell? ⟨w.heap.size, 0, none⟩ = some (.int .i64 F.p) ∧ w2.cell? ⟨w.heap.size, 1, none⟩ = some (.int .i64 F.m) ∧ w2.cell? ⟨w.heap.size, 2, none⟩ = some (.slice A F.mod.length c) ∧ w2.cell? ⟨w.heap.size + 1, 0, none⟩ = some (.int .i64 x1) ∧ w2.cell? ⟨w.heap.size + 1, 1, none⟩ = some (.int .i64 y1)) := Lib.hid (⟨kk2.out.1, kk2.out.2.1, kk2.out.2.2, pk2.out.1, pk2.out.2⟩ : _ ∧ _ ∧ _ ∧ _ ∧ _)
  have hl2 := hlt2b
  have hB2 := hB1.trans (hb2.mono hB1.size)
  have hr2 := (hr1.below hb2).more hb2.size
  have hg2 := hg
  clear ka kb kc hr1 hM1 hb hb1 hB hB1 k0 hr kk2 hlt2 hb2 hg pk2 p0 p1 hlt2b
  have hV := fun W => Lib.hid (Divides_any F.toDesc x2 A F.mod.length c W)
  by_cases hdv : divB F.m x2 = true
  · obtain ⟨d, rfl, hk1, hkm, hkd⟩ := divB_nat hdv
    rw [hdv] at hV
    have hq256 := F.q256; have hp256 := F.p256
    have hS := fun W hg => Lib.hid (tSubfield_yes F d g W hg hk1 hkd)
    have hO := fun W => Lib.hid (Order_any F.p F.m A F.mod.length c W (by omega) (by omega))
    rw [qOf_D] at hO
    have hmem := Lib.hid (mem_subL F d)
    have hcm := Lib.hid (ci_mem_subL F d)
    have hle : (subL F d F.q).length ≤ 256 := Nat.le_trans (subL_le F d F.q) hq256
    have hl1 : 1 ≤ (subL F d F.q).length := List.length_pos_of_mem ((ci_mem_subL F d 0).2 (frob_zero d))
    have hmk := mk_bools F.q (by omega)
    generalize subL F d F.q = l at *
    have hl0 : ¬ l.length = 0 := by omega
    clear hdv
    obtain ⟨q0, q1, q2, q3, q4⟩ := kp2.out
    go_wp2_with (fail)
    (with_reducible refine (hV w2).out.mono ?_)
    rintro e w3 ⟨rfl, hb3⟩
    have hs3 : w2.heap.size ≤ w3.heap.size := hb3.size
    have hg3 := (hg2.below hb3).more hb3.size
    have hr3 := (hr2.below hb3).more hb3.size
    have kp3 := Lib.hid (keep5 hb3 (Nat.lt_of_succ_lt hl2) hl2 kp2.out)
    have hl3 := Nat.lt_of_lt_of_le hl2 hs3
    have hB3 := (hB2).trans (hb3.mono hB2.size)
    clear q0 q1 q2 q3 q4 hg2 hr2 hB2 kp2 hb3
    obtain ⟨q0, q1, q2, q3, q4⟩ := kp3.out
    go_wp2_with (fail)
    (with_reducible refine (hS w3 hg3).out.mono ?_)
    rintro e w4 ⟨v, rfl, hown, hb4⟩
    have hs4 : w3.heap.size ≤ w4.heap.size := hb4.size
    have hg4 := (hg3.below hb4).more hb4.size
    have hr4 := (hr3.below hb4).more hb4.size
    have kp4 := Lib.hid (keep5 hb4 (Nat.lt_of_succ_lt hl3) hl3 kp3.out)
    have hl4 := Nat.lt_of_lt_of_le hl3 hs4
    have hB4 := (hB3).trans (hb4.mono hB3.size)
    clear q0 q1 q2 q3 q4 hg3 hr3 hB3 kp3 hb4
    obtain ⟨A1, c1, rfl, -, hv4, -⟩ := hown.form
    clear hS hown hV
    obtain ⟨q0, q1, q2, q3, q4⟩ := kp4.out
    go_wp2_with (fail)
    (with_reducible refine (hO w4).out.mono ?_)
    rintro e w5 ⟨rfl, hb5⟩
    have hs5 : w4.heap.size ≤ w5.heap.size := hb5.size
    have hg5 := (hg4.below hb5).more hb5.size
    have hr5 := (hr4.below hb5).more hb5.size
    have kp5 := Lib.hid (keep5 hb5 (Nat.lt_of_succ_lt hl4) hl4 kp4.out)
    have hl5 := Nat.lt_of_lt_of_le hl4 hs5
    have hB5 := (hB4).trans (hb5.mono hB4.size)
    have hv5 := (hv4.below hb5).more hb5.size
    clear q0 q1 q2 q3 q4 hg4 hr4 hB4 kp4 hb5
    have hb0 := BB.newz w5 F.q
    have hbA : Below w5.heap.size w5 (w5.alloc (.cells (Array.replicate F.q (Value.bool false)) 4)) := (Below.refl _ _).alloc (Nat.le_refl _) _
    go_wp2_with (fail)
    obtain ⟨gI, hgI⟩ : ∃ gI, gI = w5.heap.size := ⟨_, rfl⟩
    rw [← hgI] at hb0
    simp only [← hgI]
    clear hmk hv4 hO
    have hgI2 : w5.heap.size ≤ gI := Nat.le_of_eq hgI.symm
    replace hgI := Lib.hid hgI
    go_loopw [45, 12] (fun i _ wr => ∃ k : Nat, k ≤ l.length ∧ i = .int .i64 k ∧ BB wr gI F.q (fun n => decide ((n : Int) ∈ l.take k)) ∧ Below w5.heap.size w5 wr) (fun i _ _ => l.length - (intOf i).toNat)
    case atStart => exact ⟨0, by omega, rfl, by simpa using hb0, hbA⟩
    case round =>
      clear hb0 hbA
      obtain ⟨w7, rfl⟩ : ∃ w7 : World, w7 = wr := ⟨_, rfl⟩
      obtain ⟨k, hk, rfl, hbb, hb7⟩ := hrel
      have hg7 := (hg5.below hb7).more hb7.size
      have hr7 := (hr5.below hb7).more hb7.size
      have hv7 := (hv5.below hb7).more hb7.size
      have hB7 := hB5.trans (hb7.mono hB5.size)
      have hs7 := hb7.size
      have hl7 := Nat.lt_of_lt_of_le hl5 hs7
      have kp7 : Hid (w7.cell? ⟨w.heap.size, 0, none⟩ = some (.int .i64 F.p) ∧ w7.cell? ⟨w.heap.size, 1, none⟩ = some (.int .i64 F.m) ∧ w7.cell? ⟨w.heap.size, 2, none⟩ = some (.slice A F.mod.length c) ∧ w7.cell? ⟨w.heap.size + 1, 0, none⟩ = some (.int .i64 x1) ∧ w7.cell? ⟨w.heap.size + 1, 1, none⟩ = some (.int .i64 y1)) := Lib.hid (keep5 hb7 (Nat.lt_of_succ_lt hl5) hl5 kp5.out)
      by_cases hlt : k < l.length
      · obtain ⟨b1, o1, rfl, hb1, hc1⟩ := hv7.at_ hlt
        have hin : l[k]?.getD 0 ∈ l := by rw [List.getElem?_eq_getElem hlt]; exact List.getElem_mem _
        obtain ⟨hx0, hxq, -⟩ := (hmem.out _).1 hin
        have htk : Hid (l.take (k + 1) = l.take k ++ [l[k]?.getD 0]) := by
          unfold Hid; rw [List.take_add_one, List.getElem?_eq_getElem hlt]; rfl
        obtain ⟨y, hy⟩ := Int.eq_ofNat_of_zero_le hx0
        rw [hy] at hc1 hxq htk
        have hyq : y < F.q := by omega
        have hIs := fun W => Lib.hid (Is_any F.toDesc (y : Int) A F.mod.length c W)
        rw [decide_eq_true (show (0 : Int) ≤ (y : Int) ∧ (y : Int) < F.q from ⟨by omega, hxq⟩)] at hIs
        clear hx0 hxq hin hy
        obtain ⟨q0, q1, q2, q3, q4⟩ := kp7.out
        go_wp2_with (fail)
        (with_reducible refine (hIs w7).out.mono ?_)
        rintro e w8 ⟨rfl, hb8⟩
        have hs8 : w7.heap.size ≤ w8.heap.size := hb8.size
        have hg8 := (hg7.below hb8).more hb8.size
        have hr8 := (hr7.below hb8).more hb8.size
        have kp8 := Lib.hid (keep5 hb8 (Nat.lt_of_succ_lt hl7) hl7 kp7.out)
        have hl8 := Nat.lt_of_lt_of_le hl7 hs8
        have hB8 := (hB7).trans (hb8.mono hB7.size)
        have hbb8 := hbb.below hb8 hbb.lt
        have hb8' := hb7.trans (hb8.mono hb7.size)
        have hf8 := hbb8.frozen y
        have hc8 := hbb8.cell hyq
        clear q0 q1 q2 q3 q4 hg7 hr7 hB7 kp7 hb8
        go_wp2_with (fail)
        go_roundw
        case rel =>
          refine ⟨k + 1, by omega, by go_num, ?_, hb8'.setCell (p := ⟨gI, y, none⟩) hgI2 _⟩
          have h9 := hbb8.set_ y true
          rw [show (fun i => if i = y then true else decide ((i : Int) ∈ l.take k)) = (fun i : Nat => decide ((i : Int) ∈ l.take (k + 1))) from funext fun i => by
            rw [htk.out]
            by_cases e : i = y
            · subst e; simp
            · have e2 : ¬ (i : Int) = (y : Int) := by omega
              simp [e, e2]] at h9
          exact h9
        case measure => simp [intOf]; omega
      · obtain rfl : k = l.length := by omega
        rw [List.take_length] at hbb
        obtain ⟨a1, ha1⟩ : ∃ a1 : Nat, IntKind.u64.wrap x1 = a1 := Int.eq_ofNat_of_zero_le (by unfold IntKind.wrap; simp [IntKind.signed, IntKind.bits]; omega)
        obtain ⟨a2, ha2⟩ : ∃ a2 : Nat, IntKind.u64.wrap y1 = a2 := Int.eq_ofNat_of_zero_le (by unfold IntKind.wrap; simp [IntKind.signed, IntKind.bits]; omega)
        have hwl : IntKind.u64.wrap (l.length : Int) = l.length := by unfold IntKind.wrap; simp [IntKind.signed, IntKind.bits]; omega
        obtain ⟨z1, hz1⟩ : ∃ z1, z1 = a1 % l.length := ⟨_, rfl⟩
        obtain ⟨z2, hz2⟩ : ∃ z2, z2 = a2 % l.length := ⟨_, rfl⟩
        have hz1l : z1 < l.length := by rw [hz1]; exact Nat.mod_lt _ (by omega)
        have hz2l : z2 < l.length := by rw [hz2]; exact Nat.mod_lt _ (by omega)
        have hm1 : (a1 : Int) % (l.length : Int) = (z1 : Int) := by rw [hz1]; rfl
        have hm2 : (a2 : Int) % (l.length : Int) = (z2 : Int) := by rw [hz2]; rfl
        have ht1 : (a1 : Int).tmod (l.length : Int) = (z1 : Int) := by rw [hz1]; rfl
        have ht2 : (a2 : Int).tmod (l.length : Int) = (z2 : Int) := by rw [hz2]; rfl
        have hw1 : IntKind.i64.wrap (z1 : Int) = z1 := IntWalk.i64_in _ ⟨by omega, by omega⟩
        have hw2 : IntKind.i64.wrap (z2 : Int) = z2 := IntWalk.i64_in _ ⟨by omega, by omega⟩
        have hw3 : IntKind.u64.wrap (z1 : Int) = z1 := by unfold IntKind.wrap; simp [IntKind.signed, IntKind.bits]; omega
        have hw4 : IntKind.u64.wrap (z2 : Int) = z2 := by unfold IntKind.wrap; simp [IntKind.signed, IntKind.bits]; omega
        have hi1 : (z1 : Int) < (l.length : Int) := by omega
        have hi2 : (z2 : Int) < (l.length : Int) := by omega
        have hi3 : (0 : Int) ≤ z1 := by omega
        have hi4 : (0 : Int) ≤ z2 := by omega
        obtain ⟨b1, o1, rfl, hb1, hc1⟩ := hv7.at_ hz1l
        obtain ⟨b2, o2, e2, -, hc2⟩ := hv7.at_ hz2l
        cases e2
        have hin1 : l[z1]?.getD 0 ∈ l := by rw [List.getElem?_eq_getElem hz1l]; exact List.getElem_mem _
        have hin2 : l[z2]?.getD 0 ∈ l := by rw [List.getElem?_eq_getElem hz2l]; exact List.getElem_mem _
        generalize l[z1]?.getD 0 = av at *
        generalize l[z2]?.getD 0 = bv at *
        clear hz1 hz2
        have hcs := Lib.hid (show _ ∧ _ ∧ _ from ⟨kp7.out, hc1, hc2⟩)
        go_wp2_with (fail)
        go_region_held3 (fun w' => (w'.cell? ⟨w.heap.size, 0, none⟩ = some (.int .i64 F.p) ∧ w'.cell? ⟨w.heap.size, 1, none⟩ = some (.int .i64 F.m) ∧ w'.cell? ⟨w.heap.size, 2, none⟩ = some (.slice A F.mod.length c) ∧ w'.cell? ⟨w.heap.size + 1, 0, none⟩ = some (.int .i64 x1) ∧ w'.cell? ⟨w.heap.size + 1, 1, none⟩ = some (.int .i64 y1)) ∧ w'.cell? ⟨b1, o1 + z1, none⟩ = some (.int .i64 av) ∧ w'.cell? ⟨b1, o1 + z2, none⟩ = some (.int .i64 bv)) (first | exact hcs.out) (fail)
        have hbb8 : BB w7.drew gI F.q (fun n => decide ((n : Int) ∈ l)) := hbb
        have hg8 : GF w7.drew w7.drew.heap.size g F := hg7.drew
        have hr8 : Rd w7.drew w7.drew.heap.size A (modL F.toDesc) := hr7.drew
        have kp8 : Hid (w7.drew.cell? ⟨w.heap.size, 0, none⟩ = some (.int .i64 F.p) ∧ w7.drew.cell? ⟨w.heap.size, 1, none⟩ = some (.int .i64 F.m) ∧ w7.drew.cell? ⟨w.heap.size, 2, none⟩ = some (.slice A F.mod.length c) ∧ w7.drew.cell? ⟨w.heap.size + 1, 0, none⟩ = some (.int .i64 x1) ∧ w7.drew.cell? ⟨w.heap.size + 1, 1, none⟩ = some (.int .i64 y1)) := kp7
        have hl8 : _ < w7.drew.heap.size := hl7
        have hB8 := hB7.drew
        clear hg7 hr7 kp7 hB7
        generalize w7.drew = w8 at *
        obtain ⟨-, -, hfa⟩ := (hmem.out _).1 hin1
        obtain ⟨-, -, hfb⟩ := (hmem.out _).1 hin2
        have hget : ∀ u : R F.toDesc, frob d u = u → ∃ y : Nat, ci u = y ∧ y < F.q ∧ decide ((y : Int) ∈ l) = true := fun u hu => by
          refine ⟨rcode u, rfl, rcode_lt u, decide_eq_true ?_⟩
          exact (hcm.out u).2 hu
        have hA := fun W => Lib.hid (Add_any F.toDesc av bv A F.mod.length c W)
        have hM := fun W hr => Lib.hid (Mul_any F.toDesc av bv A c W hr)
        have hIv := fun W hr => Lib.hid (Inv_any F av A c W hr)
        have hNg := fun W => Lib.hid (Neg_any F.toDesc av A F.mod.length c W)
        generalize eli F.toDesc av = ua at *
        generalize eli F.toDesc bv = ub at *
        obtain ⟨y1, e1, hq1, hd1⟩ := hget (ua + ub) (InSub.add (F := R F.toDesc) hfa hfb)
        obtain ⟨y2, e2, hq2, hd2⟩ := hget (ua * ub) (InSub.mul (F := R F.toDesc) hfa hfb)
        obtain ⟨y3, e3, hq3, hd3⟩ := hget (inv ua) (InSub.inv (F := R F.toDesc) hfa)
        obtain ⟨y4, e4, hq4, hd4⟩ := hget (-ua) (InSub.neg (F := R F.toDesc) hfa)
        rw [e1] at hA
        rw [e2] at hM
        rw [e3] at hIv
        rw [e4] at hNg
        generalize hf : (fun n : Nat => decide ((n : Int) ∈ l)) = f at *
        replace hd1 : f y1 = true := by rw [← hf]; exact hd1
        replace hd2 : f y2 = true := by rw [← hf]; exact hd2
        replace hd3 : f y3 = true := by rw [← hf]; exact hd3
        replace hd4 : f y4 = true := by rw [← hf]; exact hd4
        clear hf e1 e2 e3 e4 hget hin1 hin2 hmem hcm ha1 ha2 hwl hm1 hm2 ht1 ht2 hw1 hw2 hw3 hw4 hc1 hc2 hcs hbb
        obtain ⟨q0, q1, q2, q3, q4⟩ := kp8.out
        go_wp2_with (fail)
        (with_reducible refine (hA w8).out.mono ?_)
        rintro e w9 ⟨rfl, hb9⟩
        have hs9 : w8.heap.size ≤ w9.heap.size := hb9.size
        have hg9 := (hg8.below hb9).more hb9.size
        have hr9 := (hr8.below hb9).more hb9.size
        have kp9 := Lib.hid (keep5 hb9 (Nat.lt_of_succ_lt hl8) hl8 kp8.out)
        have hl9 := Nat.lt_of_lt_of_le hl8 hs9
        have hB9 := (hB8).trans (hb9.mono hB8.size)
        have hbb9 := hbb8.below hb9 hbb8.lt
        have hca := (hbb9.cell hq1).trans (by rw [hd1])
        clear q0 q1 q2 q3 q4 hg8 hr8 hB8 kp8 hb9
        obtain ⟨q0, q1, q2, q3, q4⟩ := kp9.out
        go_wp2_with (fail)
        (with_reducible refine (hM w9 hr9).out.mono ?_)
        rintro e w10 ⟨rfl, hb10⟩
        have hs10 : w9.heap.size ≤ w10.heap.size := hb10.size
        have hg10 := (hg9.below hb10).more hb10.size
        have hr10 := (hr9.below hb10).more hb10.size
        have kp10 := Lib.hid (keep5 hb10 (Nat.lt_of_succ_lt hl9) hl9 kp9.out)
        have hl10 := Nat.lt_of_lt_of_le hl9 hs10
        have hB10 := (hB9).trans (hb10.mono hB9.size)
        have hbb10 := hbb9.below hb10 hbb9.lt
        have hcb := (hbb10.cell hq2).trans (by rw [hd2])
        clear q0 q1 q2 q3 q4 hg9 hr9 hB9 kp9 hb10
        obtain ⟨q0, q1, q2, q3, q4⟩ := kp10.out
        go_wp2_with (fail)
        (with_reducible refine (hIv w10 hr10).out.mono ?_)
        rintro e w11 ⟨rfl, hb11⟩
        have hs11 : w10.heap.size ≤ w11.heap.size := hb11.size
        have hg11 := (hg10.below hb11).more hb11.size
        have hr11 := (hr10.below hb11).more hb11.size
        have kp11 := Lib.hid (keep5 hb11 (Nat.lt_of_succ_lt hl10) hl10 kp10.out)
        have hl11 := Nat.lt_of_lt_of_le hl10 hs11
        have hB11 := (hB10).trans (hb11.mono hB10.size)
        have hbb11 := hbb10.below hb11 hbb10.lt
        have hcc := (hbb11.cell hq3).trans (by rw [hd3])
        clear q0 q1 q2 q3 q4 hg10 hr10 hB10 kp10 hb11
        obtain ⟨q0, q1, q2, q3, q4⟩ := kp11.out
        go_wp2_with (fail)
        (with_reducible refine (hNg w11).out.mono ?_)
        rintro e w12 ⟨rfl, hb12⟩
        have hs12 : w11.heap.size ≤ w12.heap.size := hb12.size
        have hg12 := (hg11.below hb12).more hb12.size
        have hr12 := (hr11.below hb12).more hb12.size
        have kp12 := Lib.hid (keep5 hb12 (Nat.lt_of_succ_lt hl11) hl11 kp11.out)
        have hl12 := Nat.lt_of_lt_of_le hl11 hs12
        have hB12 := (hB11).trans (hb12.mono hB11.size)
        have hbb12 := hbb11.below hb12 hbb11.lt
        have hcd := (hbb12.cell hq4).trans (by rw [hd4])
        clear q0 q1 q2 q3 q4 hg11 hr11 hB11 kp11 hb12
        go_wp2_with (fail)
        go_ret
        exact ⟨rfl, hB12⟩
  · rw [Bool.not_eq_true] at hdv
    rw [hdv] at hV
    obtain ⟨q0, q1, q2, q3, q4⟩ := kp2.out
    go_wp2_with (fail)
    (with_reducible refine (hV w2).out.mono ?_)
    rintro e w3 ⟨rfl, hb3⟩
    have hs3 : w2.heap.size ≤ w3.heap.size := hb3.size
    have hg3 := (hg2.below hb3).more hb3.size
    have hr3 := (hr2.below hb3).more hb3.size
    have kp3 := Lib.hid (keep5 hb3 (Nat.lt_of_succ_lt hl2) hl2 kp2.out)
    have hl3 := Nat.lt_of_lt_of_le hl2 hs3
    have hB3 := (hB2).trans (hb3.mono hB2.size)
    clear q0 q1 q2 q3 q4 hg2 hr2 hB2 kp2 hb3
    go_wp2_with (fail)
    go_ret
    exact ⟨rfl, hB3⟩
end Go.Proofs.Yteamndefbpdcjaa
