/- The reference's Sum, Plotkin and Juxtapose of two codes without an error. -/
import Derived.Test.YtghgbjgoedlnjaaCodK
namespace Go.Proofs.Ytghgbjgoedlnjaa
open Go.RowKit Cw
attribute [local go_sem] Oper.semAt_some

/-- What the reference's Make hands back. -/
def ResM (P M N : Int) (ml : List Int) (n : Nat) (rows : Nat → List Int) (w : World) (e : Ending) (w' : World) : Prop :=
  ∃ A c Al cl, e = .returned (.agg #[.int .i64 P, .int .i64 M, .slice A ml.length c, .int .i64 N, .slice Al n cl]) ∧ Rd w' w'.heap.size A ml ∧ (∀ b, A = some b → w.heap.size ≤ b.block) ∧ RdMU w' w.heap.size w'.heap.size Al n rows ∧ Below w.heap.size w w'

set_option maxRecDepth 100000 in
set_option maxHeartbeats 4000000 in
theorem rSum_code (Pa Ma Na : Int) (mla : List Int) (na : Nat) (rowsa : Nat → List Int) (Aa Ra : Option Addr) (ca ka : Nat) (Pb Mb Nb : Int) (mlb : List Int) (nb : Nat) (rowsb : Nat → List Int) (Ab Rb : Option Addr) (cb kb : Nat) (w : World) (hPa : I64 Pa) (hMa : I64 Ma) (hla : mla.length ≤ maxLen) (hna : na ≤ 64) (hka : ∀ i, i < na → (rowsa i).length ≤ 4200) (hra : Rd w w.heap.size Aa mla) (hma : RdM w w.heap.size Ra na rowsa) (hPb : I64 Pb) (hMb : I64 Mb) (hlb : mlb.length ≤ maxLen) (hnb : nb ≤ 64) (hkb : ∀ i, i < nb → (rowsb i).length ≤ 4200) (hrb : Rd w w.heap.size Ab mlb) (hmb : RdM w w.heap.size Rb nb rowsb) (F : FD) (m1 m2 : Nat) (M1 M2 : Nat → Nat → R F.toDesc) (va : VC Pa Ma Na mla na rowsa F m1 M1) (vb : VC Pb Mb Nb mlb nb rowsb F m2 M2) (hE : twoE Pa Ma Na mla na rowsa Aa Ra ca ka Pb Mb Nb mlb nb rowsb Ab Rb cb kb = 0) (hlen : m1 + m2 ≤ 64) {P M N : Int} {ml : List Int} {n : Nat} {rows : Nat → List Int}
    (hG : ∀ (W : World) (Al : Option Addr) (cl : Nat), Rd W W.heap.size Aa mla → RdM W W.heap.size Al (na + nb) (rowsL F.toDesc (m1 + m2) (sumR na m1 M1 M2)) → Calls Try.prog 34 #[.agg #[.int .i64 Pa, .int .i64 Ma, .slice Aa mla.length ca], .slice Al (na + nb) cl, .int .i64 ((m1 : Int) + (m2 : Int))] W (ResM P M N ml n rows W)) :
    Calls Try.prog 30 #[.agg #[.int .i64 Pa, .int .i64 Ma, .slice Aa mla.length ca, .int .i64 Na, .slice Ra na ka], .agg #[.int .i64 Pb, .int .i64 Mb, .slice Ab mlb.length cb, .int .i64 Nb, .slice Rb nb kb]] w (ResC P M N ml n rows 0 w) := by
  have hN1 := va.hN
  have hN2 := vb.hN
  subst hN1 hN2
  have hm1 := va.m64; have hm2 := vb.m64
  have hmar := va.rdm hma
  have hmbr := vb.rdm hmb
  have hlen2 : ¬ (64 : Int) < (m1 : Int) + (m2 : Int) := by omega
  obtain ⟨Z, hZ⟩ : ∃ Z, Z = (((w.alloc (.cells #[.int .i64 Pa, .int .i64 Ma, .slice Aa mla.length ca, .int .i64 m1, .slice Ra na ka] 27)).alloc (.cells #[.int .i64 Pb, .int .i64 Mb, .slice Ab mlb.length cb, .int .i64 m2, .slice Rb nb kb] 27)).alloc (.cells #[.int .i64 0, .int .i64 0, .slice none 0 0, .int .i64 0, .slice none 0 0] 27)) := ⟨_, rfl⟩
  have hB : Below w.heap.size w Z := by rw [hZ]; exact (((Below.refl _ _).alloc (Nat.le_refl _) _).alloc (by simp) _).alloc (by simp; omega) _
  obtain ⟨s, hs⟩ : ∃ s, s = w.heap.size := ⟨_, rfl⟩
  obtain ⟨hZe, fa, fb, fz⟩ := two_enter Pa Ma m1 mla na rowsa Aa Ra ca ka Pb Mb m2 mlb nb rowsb Ab Rb cb kb w hZ hs
  have hZs : s + 1 + 1 < Z.heap.size := by omega
  have hC1 := Two14_any Pa Ma m1 mla na rowsa Aa Ra ca ka Pb Mb m2 mlb nb rowsb Ab Rb cb kb Z hPa hMa hla hna hka ((hra.below hB).more hB.size) ((hma.below hB).more hB.size) hPb hMb hlb hnb hkb ((hrb.below hB).more hB.size) ((hmb.below hB).more hB.size)
  rw [hE] at hC1
  replace hC1 := Lib.hid hC1
  replace hZe := Lib.hid hZe
  replace hE := Lib.hid hE
  replace hZ := Lib.hid hZ
  replace fa := Lib.hid fa
  replace fb := Lib.hid fb
  clear hka hkb va vb hma hmb
  unfold ResC
  unfold ResM at hG
  go_enter Try.func30, Try.ntmps30
  go_wp2_with (fail)
  rw [← hZ.out]
  simp only [← hs]
  have hsw : w.heap.size ≤ s := Nat.le_of_eq hs.symm
  replace hs := Lib.hid hs
  (with_reducible refine hC1.out.mono ?_)
  rintro e w1 ⟨rfl, hbz⟩
  obtain ⟨a0, a1, a2, a3, a4, -⟩ := fa.out.keep hbz (by omega)
  obtain ⟨c0, c1, c2, c3, c4, -⟩ := fb.out.keep hbz (by omega)
  clear hC1
  go_wp2_with (fail)
  clear a0 a1 a2 a3 a4 c0 c1 c2 c3 c4
  go_loopw [8, 7] (fun iS vS  wr => ∃ k : Nat, k ≤ na ∧ iS = .int .i64 k ∧ OwnM wr Z.heap.size vS (k) (rowsL F.toDesc (m1 + m2) (sumR na m1 M1 M2)) ∧ Below Z.heap.size Z wr) (fun iS _  _ => na - (intOf iS).toNat)
  case atStart => exact ⟨0, by omega, rfl, OwnM.nil _ _ _, hbz⟩
  case round =>
    obtain ⟨k, hk, rfl, hown, hbw⟩ := hrel
    obtain ⟨w3, rfl⟩ : ∃ w3 : World, w3 = wr := ⟨_, rfl⟩
    have hB3 := hB.trans (hbw.mono hB.size)
    obtain ⟨a0, a1, a2, a3, a4, -⟩ := fa.out.keep hbw (by omega)
    obtain ⟨c0, c1, c2, c3, c4, -⟩ := fb.out.keep hbw (by omega)
    by_cases hlt : k < na
    · have hk0 : (0 : Int) ≤ (k : Int) := by omega
      have hk1 : (k : Int) < (na : Int) := by omega
      have hZ3 : Z.heap.size ≤ w3.heap.size := hbw.size
      have hs3 : s + 1 < w3.heap.size := by omega
      obtain ⟨ba, oa, Ka, la, rfl, hha, hca, hrka, hlka, hcka⟩ := hmar.at_ (show k < na by omega)
      rw [rowsL_length] at hca hlka
      have hda := (hB3.cell (p := ⟨ba, oa + k, none⟩) hha).trans hca
      have hxa : ba < w3.heap.size := Nat.lt_of_lt_of_le hha hB3.size
      clear hca
      have hkqa : (k : Int) < (na : Int) := by omega
      have kk := Lib.hid (show w3.cell? ⟨s, 4, none⟩ = some (.slice (some ⟨ba, oa, none⟩) na ka) ∧ w3.cell? ⟨ba, oa + k, none⟩ = some (.slice Ka m1 la) ∧ w3.cell? ⟨s + 1, 3, none⟩ = some (.int .i64 (m2 : Int)) from ⟨a4, hda, c3⟩)
      have kp : ∀ {B : Nat} {W W' : World}, Below B W W' → s < B → s + 1 < B → ba < B → Hid (W.cell? ⟨s, 4, none⟩ = some (.slice (some ⟨ba, oa, none⟩) na ka) ∧ W.cell? ⟨ba, oa + k, none⟩ = some (.slice Ka m1 la) ∧ W.cell? ⟨s + 1, 3, none⟩ = some (.int .i64 (m2 : Int))) → Hid (W'.cell? ⟨s, 4, none⟩ = some (.slice (some ⟨ba, oa, none⟩) na ka) ∧ W'.cell? ⟨ba, oa + k, none⟩ = some (.slice Ka m1 la) ∧ W'.cell? ⟨s + 1, 3, none⟩ = some (.int .i64 (m2 : Int))) := fun {B W W'} hb u0 u1 u2 h => ⟨(hb.cell (p := ⟨s, 4, none⟩) (by assumption)).trans h.out.1, (hb.cell (p := ⟨ba, oa + k, none⟩) (by assumption)).trans h.out.2.1, (hb.cell (p := ⟨s + 1, 3, none⟩) (by assumption)).trans h.out.2.2⟩
      replace kp := fun {B : Nat} {W W' : World} a u0 u1 u2 b => Lib.hid (@kp B W W' a u0 u1 u2 b)
      have hmk := mk_ints m2 (by omega)
      have hbe : Below w3.heap.size w3 (w3.alloc (.cells (Array.replicate m2 (Value.int .i64 0)) 3)).drew := ((Below.refl _ _).alloc (Nat.le_refl _) _).drew
      have hrz : Rd (w3.alloc (.cells (Array.replicate m2 (Value.int .i64 0)) 3)).drew (w3.alloc (.cells (Array.replicate m2 (Value.int .i64 0)) 3)).drew.heap.size (some ⟨w3.heap.size, 0, none⟩) (List.replicate m2 0) := (IB.newz w3 m2).rd.drew
      have kk8 := (kp hbe (Nat.lt_of_lt_of_le (Nat.lt_of_succ_lt hs3) (Nat.le_refl _)) (Nat.lt_of_lt_of_le hs3 (Nat.le_refl _)) (Nat.lt_of_lt_of_le hxa (Nat.le_refl _)) kk).out
      have hBe := hB3.trans (hbe.mono hB3.size)
      have hrow : (rowL F.toDesc m1 (M1 k)) ++ (List.replicate m2 (0 : Int)) = (rowsL F.toDesc (m1 + m2) (sumR na m1 M1 M2)) (k) := by rw [rowL_zero, rowL_join]; unfold rowsL sumR; rw [stackR_lo _ _ hlt]
      have hBes := Join14_any (rowL F.toDesc m1 (M1 k)) (List.replicate m2 (0 : Int)) Ka (some ⟨w3.heap.size, 0, none⟩) la m2 (w3.alloc (.cells (Array.replicate m2 (Value.int .i64 0)) 3)).drew ((hrka.below hBe).more hBe.size) hrz (by rw [rowL_length]; omega) (by rw [List.length_replicate]; omega)
      rw [hrow] at hBes
      unfold GivesA at hBes
      simp only [rowL_length, List.length_replicate] at hBes
      replace hBes := Lib.hid hBes
      replace hrow := Lib.hid hrow
      have hownH := hown
      obtain ⟨Av, cv, rfl⟩ := hown.size
      clear hrka hcka hrz hB3
      go_wp2_with (fail)
      clear a0 a1 a2 a3 a4 c0 c1 c2 c3 c4 hda
      refine wp_region_held_drew (S := fun w' => w'.cell? ⟨s, 4, none⟩ = some (.slice (some ⟨ba, oa, none⟩) na ka) ∧ w'.cell? ⟨ba, oa + k, none⟩ = some (.slice Ka m1 la) ∧ w'.cell? ⟨s + 1, 3, none⟩ = some (.int .i64 (m2 : Int))) (by kernel_rfl) (by (try dsimp only); exact kk.out) (fun hHeld => ?_)
      refine wpAnyH_take (i := 0) (oi := ⟨_, _, _, _, _, _⟩) (v := ?_) rfl (by kernel_rfl) (by kernel_rfl) (by kernel_rfl) (fun _ _ _ h => h) (Or.inl ⟨by rfl, ?_⟩) (by assumption) ?_
      rotate_left
      · intro w hSw; (try dsimp only at hSw); go_simp; try with_reducible rfl
      try simp only [Act.put, List.setIfInBounds_toArray, List.set_cons_zero, List.set_cons_succ]
      refine wpAnyH_take (i := 1) (oi := ⟨_, _, _, _, _, _⟩) (v := ?_) rfl (by kernel_rfl) (by kernel_rfl) (by kernel_rfl) (fun _ _ _ h => h) (Or.inl ⟨by rfl, ?_⟩) (by assumption) ?_
      rotate_left
      · intro w hSw; (try dsimp only at hSw); go_simp; try with_reducible rfl
      try simp only [Act.put, List.setIfInBounds_toArray, List.set_cons_zero, List.set_cons_succ]
      refine wpAnyH_take (i := 2) (oi := ⟨_, _, _, _, _, _⟩) (v := ?_) rfl (by kernel_rfl) (by kernel_rfl) (by kernel_rfl) (fun _ _ _ h => h) (Or.inl ⟨by rfl, ?_⟩) (by assumption) ?_
      rotate_left
      · intro w hSw; (try dsimp only at hSw); go_simp; try with_reducible rfl
      try simp only [Act.put, List.setIfInBounds_toArray, List.set_cons_zero, List.set_cons_succ]
      refine wpAnyH_take (i := 3) (oi := ⟨_, _, _, _, _, _⟩) (v := ?_) rfl (by kernel_rfl) (by kernel_rfl) (by kernel_rfl) (fun _ _ _ h => h) (Or.inl ⟨by rfl, ?_⟩) (by assumption) ?_
      rotate_left
      · intro w hSw; (try dsimp only at hSw); go_simp; try with_reducible rfl
      try simp only [Act.put, List.setIfInBounds_toArray, List.set_cons_zero, List.set_cons_succ]
      refine wpAnyH_take (i := 4) (oi := ⟨_, _, _, _, _, _⟩) (v := ?_) rfl (by kernel_rfl) (by kernel_rfl) (by kernel_rfl) (fun _ _ _ h => h) (Or.inl ⟨by rfl, ?_⟩) (by assumption) ?_
      rotate_left
      · intro w hSw; (try dsimp only at hSw); go_simp; try with_reducible rfl
      try simp only [Act.put, List.setIfInBounds_toArray, List.set_cons_zero, List.set_cons_succ]
      refine wpAnyH_take (i := 5) (oi := ⟨_, _, _, _, _, _⟩) (v := ?_) rfl (by kernel_rfl) (by kernel_rfl) (by kernel_rfl) (fun _ _ _ h => h) (Or.inl ⟨by rfl, ?_⟩) (by assumption) ?_
      rotate_left
      · intro w hSw; (try dsimp only at hSw); go_simp; try with_reducible rfl
      try simp only [Act.put, List.setIfInBounds_toArray, List.set_cons_zero, List.set_cons_succ]
      refine wpAnyH_take (i := 6) (oi := ⟨_, _, _, _, _, _⟩) (v := ?_) rfl (by kernel_rfl) (by kernel_rfl) (by kernel_rfl) (fun _ _ _ h => h) (Or.inl ⟨by rfl, ?_⟩) (by assumption) ?_
      rotate_left
      · intro w hSw; (try dsimp only at hSw); go_simp; try with_reducible rfl
      try simp only [Act.put, List.setIfInBounds_toArray, List.set_cons_zero, List.set_cons_succ]
      refine wpAnyH_take (i := 7) (oi := ⟨_, _, _, _, _, _⟩) (v := ?_) rfl (by kernel_rfl) (by kernel_rfl) (by kernel_rfl) (fun _ _ _ h => h) (Or.inl ⟨by rfl, ?_⟩) (by assumption) ?_
      rotate_left
      · intro w hSw; (try dsimp only at hSw); go_simp; try with_reducible rfl
      try simp only [Act.put, List.setIfInBounds_toArray, List.set_cons_zero, List.set_cons_succ]
      refine wpAnyH_ready (rs := [8]) (by kernel_rfl) (by simp) ?_
      refine AllReadyH.cons (o := ⟨_, _, _, _, _, _⟩) rfl (fun K hK => ?_) AllReadyH.nil
      go_simp
      refine hK.out _ _ (by (try dsimp only); exact kk8.out) (fun hHeld => ?_)
      clear hK K
      try simp only [Act.put, List.setIfInBounds_toArray, List.set_cons_zero, List.set_cons_succ]
      refine wpAnyH_ready (rs := [9]) (by kernel_rfl) (by simp) ?_
      refine AllReadyH.cons (o := ⟨_, _, _, _, _, _⟩) rfl (fun K hK => ?_) AllReadyH.nil
      go_simp
      go_at_call 36
      (with_reducible refine (hBes).out.mono ?_)
      rintro e w4 ⟨v4, rfl, ho4, hb4⟩
      obtain ⟨A4, c4, rfl, hl4, hc4, hr4, hA4⟩ := ho4.parts
      rw [rowsL_length] at hl4
      have hb34 := hbe.trans (hb4.mono hbe.size)
      have kk9 := (kp hb34 (Nat.lt_of_lt_of_le (Nat.lt_of_succ_lt hs3) (Nat.le_refl _)) (Nat.lt_of_lt_of_le hs3 (Nat.le_refl _)) (Nat.lt_of_lt_of_le hxa (Nat.le_refl _)) kk).out
      have hown4 := hown.below hb34 (Nat.le_refl _)
      have hA5 : ∀ a, A4 = some a → w3.heap.size ≤ a.block := fun a e => Nat.le_trans hbe.size (hA4 a e)
      have hs34 := hb34.size
      have hb45 : Below w4.heap.size w4 (w4.alloc (.cells #[.slice A4 (m1 + m2) c4] 22)) := (Below.refl _ _).alloc (Nat.le_refl _) _
      have kk10 := (kp hb45 (Nat.lt_of_lt_of_le (Nat.lt_of_succ_lt hs3) hs34) (Nat.lt_of_lt_of_le hs3 hs34) (Nat.lt_of_lt_of_le hxa hs34) kk9).out
      rw [rowsL_length]
      go_wp2_with (fail)
      refine hK.out _ _ (by (try dsimp only); exact kk9.out) (fun hHeld => ?_)
      clear hK K
      try simp only [Act.put, List.setIfInBounds_toArray, List.set_cons_zero, List.set_cons_succ]
      refine wpAnyH_ready (rs := [10]) (by kernel_rfl) (by simp) ?_
      refine AllReadyH.cons (o := ⟨_, _, _, _, _, _⟩) rfl (fun K hK => ?_) AllReadyH.nil
      go_simp
      refine hK.out _ _ (by (try dsimp only); exact kk10.out) (fun hHeld => ?_)
      clear hK K
      try simp only [Act.put, List.setIfInBounds_toArray, List.set_cons_zero, List.set_cons_succ]
      refine wpAnyH_ready (rs := [11]) (by kernel_rfl) (by simp) ?_
      refine AllReadyH.cons (o := ⟨_, _, _, _, _, _⟩) rfl (fun K hK => ?_) AllReadyH.nil
      refine step_appRow rfl (.tmp 31) (.tmp 41) rfl Z.heap.size _ (k) _ hown4 A4 (m1 + m2) c4 hr4 (rowsL_length _ _ _ _) hl4 hc4 w3.heap.size hownH.lt0 hA5 hZ3 (by rfl) (by rfl) rfl (by omega) (Nat.le_trans hZ3 hs34) ?_
      intro v5 w5 ho5 hb5
      have kk11 := (kp hb5 (by omega) (by omega) (by omega) kk9).out
      refine hK.out _ _ (by (try dsimp only); exact kk11.out) (fun hHeld => ?_)
      clear hK K
      try simp only [Act.put, List.setIfInBounds_toArray, List.set_cons_zero, List.set_cons_succ]
      refine wpAnyH_take (i := 12) (oi := ⟨_, _, _, _, _, _⟩) (v := ?_) rfl (by kernel_rfl) (by kernel_rfl) (by kernel_rfl) (fun _ _ _ h => h) (Or.inl ⟨by rfl, ?_⟩) (by assumption) ?_
      rotate_left
      · intro w hSw; (try dsimp only at hSw); go_simp; try with_reducible rfl
      try simp only [Act.put, List.setIfInBounds_toArray, List.set_cons_zero, List.set_cons_succ]
      refine wpAnyH_done (by kernel_rfl) ?_ _
      go_wp2_with (fail)
      go_roundw
      case rel => exact ⟨k + 1, by omega, by go_num, ho5, hbw.trans ((hb34.mono hbw.size).trans (hb5.mono (Nat.le_refl _)))⟩
      case measure => simp [intOf]; omega
    · obtain rfl : na = k := by omega
      go_wp2_with (fail)
      clear a0 a1 a2 a3 a4 c0 c1 c2 c3 c4 hB3
      go_loopw [9, 7] (fun iS vS  wr => ∃ k : Nat, k ≤ nb ∧ iS = .int .i64 k ∧ OwnM wr Z.heap.size vS (na + k) (rowsL F.toDesc (m1 + m2) (sumR na m1 M1 M2)) ∧ Below Z.heap.size Z wr) (fun iS _  _ => nb - (intOf iS).toNat)
      case atStart => exact ⟨0, by omega, rfl, hown, hbw⟩
      case round =>
        obtain ⟨k, hk, rfl, hown, hbw⟩ := hrel
        obtain ⟨w3, rfl⟩ : ∃ w3 : World, w3 = wr := ⟨_, rfl⟩
        have hB3 := hB.trans (hbw.mono hB.size)
        obtain ⟨a0, a1, a2, a3, a4, -⟩ := fa.out.keep hbw (by omega)
        obtain ⟨c0, c1, c2, c3, c4, -⟩ := fb.out.keep hbw (by omega)
        by_cases hlt : k < nb
        · have hk0 : (0 : Int) ≤ (k : Int) := by omega
          have hk1 : (k : Int) < (nb : Int) := by omega
          have hZ3 : Z.heap.size ≤ w3.heap.size := hbw.size
          have hs3 : s + 1 < w3.heap.size := by omega
          obtain ⟨bb, ob, Kb, lb, rfl, hhb, hcb, hrkb, hlkb, hckb⟩ := hmbr.at_ (show k < nb by omega)
          rw [rowsL_length] at hcb hlkb
          have hdb := (hB3.cell (p := ⟨bb, ob + k, none⟩) hhb).trans hcb
          have hxb : bb < w3.heap.size := Nat.lt_of_lt_of_le hhb hB3.size
          clear hcb
          have hkqb : (k : Int) < (nb : Int) := by omega
          have kk := Lib.hid (show w3.cell? ⟨s + 1, 4, none⟩ = some (.slice (some ⟨bb, ob, none⟩) nb kb) ∧ w3.cell? ⟨bb, ob + k, none⟩ = some (.slice Kb m2 lb) ∧ w3.cell? ⟨s, 3, none⟩ = some (.int .i64 (m1 : Int)) from ⟨c4, hdb, a3⟩)
          have kp : ∀ {B : Nat} {W W' : World}, Below B W W' → s < B → s + 1 < B → bb < B → Hid (W.cell? ⟨s + 1, 4, none⟩ = some (.slice (some ⟨bb, ob, none⟩) nb kb) ∧ W.cell? ⟨bb, ob + k, none⟩ = some (.slice Kb m2 lb) ∧ W.cell? ⟨s, 3, none⟩ = some (.int .i64 (m1 : Int))) → Hid (W'.cell? ⟨s + 1, 4, none⟩ = some (.slice (some ⟨bb, ob, none⟩) nb kb) ∧ W'.cell? ⟨bb, ob + k, none⟩ = some (.slice Kb m2 lb) ∧ W'.cell? ⟨s, 3, none⟩ = some (.int .i64 (m1 : Int))) := fun {B W W'} hb u0 u1 u2 h => ⟨(hb.cell (p := ⟨s + 1, 4, none⟩) (by assumption)).trans h.out.1, (hb.cell (p := ⟨bb, ob + k, none⟩) (by assumption)).trans h.out.2.1, (hb.cell (p := ⟨s, 3, none⟩) (by assumption)).trans h.out.2.2⟩
          replace kp := fun {B : Nat} {W W' : World} a u0 u1 u2 b => Lib.hid (@kp B W W' a u0 u1 u2 b)
          have hmk := mk_ints m1 (by omega)
          have hbe : Below w3.heap.size w3 (w3.alloc (.cells (Array.replicate m1 (Value.int .i64 0)) 3)).drew := ((Below.refl _ _).alloc (Nat.le_refl _) _).drew
          have hrz : Rd (w3.alloc (.cells (Array.replicate m1 (Value.int .i64 0)) 3)).drew (w3.alloc (.cells (Array.replicate m1 (Value.int .i64 0)) 3)).drew.heap.size (some ⟨w3.heap.size, 0, none⟩) (List.replicate m1 0) := (IB.newz w3 m1).rd.drew
          have kk8 := (kp hbe (Nat.lt_of_lt_of_le (Nat.lt_of_succ_lt hs3) (Nat.le_refl _)) (Nat.lt_of_lt_of_le hs3 (Nat.le_refl _)) (Nat.lt_of_lt_of_le hxb (Nat.le_refl _)) kk).out
          have hBe := hB3.trans (hbe.mono hB3.size)
          have hrow : (List.replicate m1 (0 : Int)) ++ (rowL F.toDesc m2 (M2 k)) = (rowsL F.toDesc (m1 + m2) (sumR na m1 M1 M2)) (na + k) := by rw [rowL_zero, rowL_join]; unfold rowsL sumR; rw [stackR_hi]
          have hBes := Join14_any (List.replicate m1 (0 : Int)) (rowL F.toDesc m2 (M2 k)) (some ⟨w3.heap.size, 0, none⟩) Kb m1 lb (w3.alloc (.cells (Array.replicate m1 (Value.int .i64 0)) 3)).drew hrz ((hrkb.below hBe).more hBe.size) (by rw [List.length_replicate]; omega) (by rw [rowL_length]; omega)
          rw [hrow] at hBes
          unfold GivesA at hBes
          simp only [rowL_length, List.length_replicate] at hBes
          replace hBes := Lib.hid hBes
          replace hrow := Lib.hid hrow
          have hownH := hown
          obtain ⟨Av, cv, rfl⟩ := hown.size
          clear hrkb hckb hrz hB3
          go_wp2_with (fail)
          clear a0 a1 a2 a3 a4 c0 c1 c2 c3 c4 hdb
          refine wp_region_held_drew (S := fun w' => w'.cell? ⟨s + 1, 4, none⟩ = some (.slice (some ⟨bb, ob, none⟩) nb kb) ∧ w'.cell? ⟨bb, ob + k, none⟩ = some (.slice Kb m2 lb) ∧ w'.cell? ⟨s, 3, none⟩ = some (.int .i64 (m1 : Int))) (by kernel_rfl) (by (try dsimp only); exact kk.out) (fun hHeld => ?_)
          refine wpAnyH_take (i := 0) (oi := ⟨_, _, _, _, _, _⟩) (v := ?_) rfl (by kernel_rfl) (by kernel_rfl) (by kernel_rfl) (fun _ _ _ h => h) (Or.inl ⟨by rfl, ?_⟩) (by assumption) ?_
          rotate_left
          · intro w hSw; (try dsimp only at hSw); go_simp; try with_reducible rfl
          try simp only [Act.put, List.setIfInBounds_toArray, List.set_cons_zero, List.set_cons_succ]
          refine wpAnyH_take (i := 1) (oi := ⟨_, _, _, _, _, _⟩) (v := ?_) rfl (by kernel_rfl) (by kernel_rfl) (by kernel_rfl) (fun _ _ _ h => h) (Or.inl ⟨by rfl, ?_⟩) (by assumption) ?_
          rotate_left
          · intro w hSw; (try dsimp only at hSw); go_simp; try with_reducible rfl
          try simp only [Act.put, List.setIfInBounds_toArray, List.set_cons_zero, List.set_cons_succ]
          refine wpAnyH_take (i := 2) (oi := ⟨_, _, _, _, _, _⟩) (v := ?_) rfl (by kernel_rfl) (by kernel_rfl) (by kernel_rfl) (fun _ _ _ h => h) (Or.inl ⟨by rfl, ?_⟩) (by assumption) ?_
          rotate_left
          · intro w hSw; (try dsimp only at hSw); go_simp; try with_reducible rfl
          try simp only [Act.put, List.setIfInBounds_toArray, List.set_cons_zero, List.set_cons_succ]
          refine wpAnyH_take (i := 4) (oi := ⟨_, _, _, _, _, _⟩) (v := ?_) rfl (by kernel_rfl) (by kernel_rfl) (by kernel_rfl) (fun _ _ _ h => h) (Or.inl ⟨by rfl, ?_⟩) (by assumption) ?_
          rotate_left
          · intro w hSw; (try dsimp only at hSw); go_simp; try with_reducible rfl
          try simp only [Act.put, List.setIfInBounds_toArray, List.set_cons_zero, List.set_cons_succ]
          refine wpAnyH_take (i := 5) (oi := ⟨_, _, _, _, _, _⟩) (v := ?_) rfl (by kernel_rfl) (by kernel_rfl) (by kernel_rfl) (fun _ _ _ h => h) (Or.inl ⟨by rfl, ?_⟩) (by assumption) ?_
          rotate_left
          · intro w hSw; (try dsimp only at hSw); go_simp; try with_reducible rfl
          try simp only [Act.put, List.setIfInBounds_toArray, List.set_cons_zero, List.set_cons_succ]
          refine wpAnyH_take (i := 6) (oi := ⟨_, _, _, _, _, _⟩) (v := ?_) rfl (by kernel_rfl) (by kernel_rfl) (by kernel_rfl) (fun _ _ _ h => h) (Or.inl ⟨by rfl, ?_⟩) (by assumption) ?_
          rotate_left
          · intro w hSw; (try dsimp only at hSw); go_simp; try with_reducible rfl
          try simp only [Act.put, List.setIfInBounds_toArray, List.set_cons_zero, List.set_cons_succ]
          refine wpAnyH_take (i := 7) (oi := ⟨_, _, _, _, _, _⟩) (v := ?_) rfl (by kernel_rfl) (by kernel_rfl) (by kernel_rfl) (fun _ _ _ h => h) (Or.inl ⟨by rfl, ?_⟩) (by assumption) ?_
          rotate_left
          · intro w hSw; (try dsimp only at hSw); go_simp; try with_reducible rfl
          try simp only [Act.put, List.setIfInBounds_toArray, List.set_cons_zero, List.set_cons_succ]
          refine wpAnyH_take (i := 8) (oi := ⟨_, _, _, _, _, _⟩) (v := ?_) rfl (by kernel_rfl) (by kernel_rfl) (by kernel_rfl) (fun _ _ _ h => h) (Or.inl ⟨by rfl, ?_⟩) (by assumption) ?_
          rotate_left
          · intro w hSw; (try dsimp only at hSw); go_simp; try with_reducible rfl
          try simp only [Act.put, List.setIfInBounds_toArray, List.set_cons_zero, List.set_cons_succ]
          refine wpAnyH_ready (rs := [3]) (by kernel_rfl) (by simp) ?_
          refine AllReadyH.cons (o := ⟨_, _, _, _, _, _⟩) rfl (fun K hK => ?_) AllReadyH.nil
          go_simp
          refine hK.out _ _ (by (try dsimp only); exact kk8.out) (fun hHeld => ?_)
          clear hK K
          try simp only [Act.put, List.setIfInBounds_toArray, List.set_cons_zero, List.set_cons_succ]
          refine wpAnyH_ready (rs := [9]) (by kernel_rfl) (by simp) ?_
          refine AllReadyH.cons (o := ⟨_, _, _, _, _, _⟩) rfl (fun K hK => ?_) AllReadyH.nil
          go_simp
          go_at_call 36
          (with_reducible refine (hBes).out.mono ?_)
          rintro e w4 ⟨v4, rfl, ho4, hb4⟩
          obtain ⟨A4, c4, rfl, hl4, hc4, hr4, hA4⟩ := ho4.parts
          rw [rowsL_length] at hl4
          have hb34 := hbe.trans (hb4.mono hbe.size)
          have kk9 := (kp hb34 (Nat.lt_of_lt_of_le (Nat.lt_of_succ_lt hs3) (Nat.le_refl _)) (Nat.lt_of_lt_of_le hs3 (Nat.le_refl _)) (Nat.lt_of_lt_of_le hxb (Nat.le_refl _)) kk).out
          have hown4 := hown.below hb34 (Nat.le_refl _)
          have hA5 : ∀ a, A4 = some a → w3.heap.size ≤ a.block := fun a e => Nat.le_trans hbe.size (hA4 a e)
          have hs34 := hb34.size
          have hb45 : Below w4.heap.size w4 (w4.alloc (.cells #[.slice A4 (m1 + m2) c4] 22)) := (Below.refl _ _).alloc (Nat.le_refl _) _
          have kk10 := (kp hb45 (Nat.lt_of_lt_of_le (Nat.lt_of_succ_lt hs3) hs34) (Nat.lt_of_lt_of_le hs3 hs34) (Nat.lt_of_lt_of_le hxb hs34) kk9).out
          rw [rowsL_length]
          go_wp2_with (fail)
          refine hK.out _ _ (by (try dsimp only); exact kk9.out) (fun hHeld => ?_)
          clear hK K
          try simp only [Act.put, List.setIfInBounds_toArray, List.set_cons_zero, List.set_cons_succ]
          refine wpAnyH_ready (rs := [10]) (by kernel_rfl) (by simp) ?_
          refine AllReadyH.cons (o := ⟨_, _, _, _, _, _⟩) rfl (fun K hK => ?_) AllReadyH.nil
          go_simp
          refine hK.out _ _ (by (try dsimp only); exact kk10.out) (fun hHeld => ?_)
          clear hK K
          try simp only [Act.put, List.setIfInBounds_toArray, List.set_cons_zero, List.set_cons_succ]
          refine wpAnyH_ready (rs := [11]) (by kernel_rfl) (by simp) ?_
          refine AllReadyH.cons (o := ⟨_, _, _, _, _, _⟩) rfl (fun K hK => ?_) AllReadyH.nil
          refine step_appRow rfl (.tmp 50) (.tmp 60) rfl Z.heap.size _ (na + k) _ hown4 A4 (m1 + m2) c4 hr4 (rowsL_length _ _ _ _) hl4 hc4 w3.heap.size hownH.lt0 hA5 hZ3 (by rfl) (by rfl) rfl (by omega) (Nat.le_trans hZ3 hs34) ?_
          intro v5 w5 ho5 hb5
          have kk11 := (kp hb5 (by omega) (by omega) (by omega) kk9).out
          refine hK.out _ _ (by (try dsimp only); exact kk11.out) (fun hHeld => ?_)
          clear hK K
          try simp only [Act.put, List.setIfInBounds_toArray, List.set_cons_zero, List.set_cons_succ]
          refine wpAnyH_take (i := 12) (oi := ⟨_, _, _, _, _, _⟩) (v := ?_) rfl (by kernel_rfl) (by kernel_rfl) (by kernel_rfl) (fun _ _ _ h => h) (Or.inl ⟨by rfl, ?_⟩) (by assumption) ?_
          rotate_left
          · intro w hSw; (try dsimp only at hSw); go_simp; try with_reducible rfl
          try simp only [Act.put, List.setIfInBounds_toArray, List.set_cons_zero, List.set_cons_succ]
          refine wpAnyH_done (by kernel_rfl) ?_ _
          go_wp2_with (fail)
          go_roundw
          case rel => exact ⟨k + 1, by omega, by go_num, ho5, hbw.trans ((hb34.mono hbw.size).trans (hb5.mono (Nat.le_refl _)))⟩
          case measure => simp [intOf]; omega
        · obtain rfl : nb = k := by omega
          have hB9 := hB3
          obtain ⟨A9, c9, rfl, hr9⟩ := hown.rdm
          have hG9 := Lib.hid (hG w3 A9 c9 ((hra.below hB9).more hB9.size) hr9)
          have hs9 : s + 1 + 1 < w3.heap.size := Nat.lt_of_lt_of_le hZs hbw.size
          have fz9 := fz.keep hbw hZs
          clear hG fz hown hr9
          go_wp2_with (fail)
          (with_reducible refine hG9.out.mono ?_)
          rintro e w6 ⟨A6, c6, Al, cl, rfl, hr6, hA6, hru, hb6⟩
          obtain ⟨t0, t1, t2, t3, t4, g0, g1, g2, g3, g4⟩ := fz9.keep hb6 hs9
          have hrf := Lib.hid (hr6.set5 (b := s + 1 + 1) (fun b hb => by have := hA6 b hb; omega) (.int .i64 P) (.int .i64 M) (.slice A6 ml.length c6) (.int .i64 N) (.slice Al n cl))
          have hruf : Hid (RdMU (((((w6.setCell ⟨s + 1 + 1, 0, none⟩ (.int .i64 P)).setCell ⟨s + 1 + 1, 1, none⟩ (.int .i64 M)).setCell ⟨s + 1 + 1, 2, none⟩ (.slice A6 ml.length c6)).setCell ⟨s + 1 + 1, 3, none⟩ (.int .i64 N)).setCell ⟨s + 1 + 1, 4, none⟩ (.slice Al n cl)) w3.heap.size w6.heap.size Al n rows) := hru.keepU fun p hp _ => set5_above (b := s + 1 + 1) (L := w3.heap.size) hs9 _ _ _ _ _ p hp
          have hBf : Hid (Below w.heap.size w (((((w6.setCell ⟨s + 1 + 1, 0, none⟩ (.int .i64 P)).setCell ⟨s + 1 + 1, 1, none⟩ (.int .i64 M)).setCell ⟨s + 1 + 1, 2, none⟩ (.slice A6 ml.length c6)).setCell ⟨s + 1 + 1, 3, none⟩ (.int .i64 N)).setCell ⟨s + 1 + 1, 4, none⟩ (.slice Al n cl))) := (hB9.trans (hb6.mono hB9.size)).trans ((set5 _ _ _ _ _).mono (by omega))
          have hsz : Hid ((((((w6.setCell ⟨s + 1 + 1, 0, none⟩ (.int .i64 P)).setCell ⟨s + 1 + 1, 1, none⟩ (.int .i64 M)).setCell ⟨s + 1 + 1, 2, none⟩ (.slice A6 ml.length c6)).setCell ⟨s + 1 + 1, 3, none⟩ (.int .i64 N)).setCell ⟨s + 1 + 1, 4, none⟩ (.slice Al n cl)).heap.size = w6.heap.size) := by unfold Hid; simp [World.setCell]
          have hW9 : w.heap.size ≤ w3.heap.size := hB9.size
          have hA9 : ∀ b, A6 = some b → w.heap.size ≤ b.block := fun b hb => Nat.le_trans hW9 (hA6 b hb)
          clear hr6 hA6 hru hb6 hB9 hG9
          go_wp2_with (fail)
          refine bodyPost_ret (v := .tuple #[.agg #[.int .i64 P, .int .i64 M, .slice A6 ml.length c6, .int .i64 N, .slice Al n cl], .int .i64 0]) (by simp [results, Try.results30, go_sem, t0, t1, t2, t3, t4]) rfl ⟨A6, c6, Al, cl, rfl, hrf.out.more (by rw [hsz.out]; exact Nat.le_refl _), hA9, ?_, hBf.out⟩
          have h5 := hruf.out.low hW9
          rw [← hsz.out] at h5
          exact h5

set_option maxRecDepth 100000 in
set_option maxHeartbeats 4000000 in
theorem rPlotkin_code (Pa Ma Na : Int) (mla : List Int) (na : Nat) (rowsa : Nat → List Int) (Aa Ra : Option Addr) (ca ka : Nat) (Pb Mb Nb : Int) (mlb : List Int) (nb : Nat) (rowsb : Nat → List Int) (Ab Rb : Option Addr) (cb kb : Nat) (w : World) (hPa : I64 Pa) (hMa : I64 Ma) (hla : mla.length ≤ maxLen) (hna : na ≤ 64) (hka : ∀ i, i < na → (rowsa i).length ≤ 4200) (hra : Rd w w.heap.size Aa mla) (hma : RdM w w.heap.size Ra na rowsa) (hPb : I64 Pb) (hMb : I64 Mb) (hlb : mlb.length ≤ maxLen) (hnb : nb ≤ 64) (hkb : ∀ i, i < nb → (rowsb i).length ≤ 4200) (hrb : Rd w w.heap.size Ab mlb) (hmb : RdM w w.heap.size Rb nb rowsb) (F : FD) (m1 m2 : Nat) (M1 M2 : Nat → Nat → R F.toDesc) (va : VC Pa Ma Na mla na rowsa F m1 M1) (vb : VC Pb Mb Nb mlb nb rowsb F m2 M2) (hE : twoE Pa Ma Na mla na rowsa Aa Ra ca ka Pb Mb Nb mlb nb rowsb Ab Rb cb kb = 0) (hmm : m1 = m2) (hlen : m1 + m2 ≤ 64) {P M N : Int} {ml : List Int} {n : Nat} {rows : Nat → List Int}
    (hG : ∀ (W : World) (Al : Option Addr) (cl : Nat), Rd W W.heap.size Aa mla → RdM W W.heap.size Al (na + nb) (rowsL F.toDesc (m1 + m2) (ploR na m1 M1 M2)) → Calls Try.prog 34 #[.agg #[.int .i64 Pa, .int .i64 Ma, .slice Aa mla.length ca], .slice Al (na + nb) cl, .int .i64 ((m1 : Int) + (m2 : Int))] W (ResM P M N ml n rows W)) :
    Calls Try.prog 32 #[.agg #[.int .i64 Pa, .int .i64 Ma, .slice Aa mla.length ca, .int .i64 Na, .slice Ra na ka], .agg #[.int .i64 Pb, .int .i64 Mb, .slice Ab mlb.length cb, .int .i64 Nb, .slice Rb nb kb]] w (ResC P M N ml n rows 0 w) := by
  have hN1 := va.hN
  have hN2 := vb.hN
  subst hN1 hN2
  have hm1 := va.m64; have hm2 := vb.m64
  have hmar := va.rdm hma
  have hmbr := vb.rdm hmb
  have hlen2 : ¬ (64 : Int) < (m1 : Int) + (m2 : Int) := by omega
  obtain ⟨Z, hZ⟩ : ∃ Z, Z = (((w.alloc (.cells #[.int .i64 Pa, .int .i64 Ma, .slice Aa mla.length ca, .int .i64 m1, .slice Ra na ka] 27)).alloc (.cells #[.int .i64 Pb, .int .i64 Mb, .slice Ab mlb.length cb, .int .i64 m2, .slice Rb nb kb] 27)).alloc (.cells #[.int .i64 0, .int .i64 0, .slice none 0 0, .int .i64 0, .slice none 0 0] 27)) := ⟨_, rfl⟩
  have hB : Below w.heap.size w Z := by rw [hZ]; exact (((Below.refl _ _).alloc (Nat.le_refl _) _).alloc (by simp) _).alloc (by simp; omega) _
  obtain ⟨s, hs⟩ : ∃ s, s = w.heap.size := ⟨_, rfl⟩
  obtain ⟨hZe, fa, fb, fz⟩ := two_enter Pa Ma m1 mla na rowsa Aa Ra ca ka Pb Mb m2 mlb nb rowsb Ab Rb cb kb w hZ hs
  have hZs : s + 1 + 1 < Z.heap.size := by omega
  have hC1 := Two14_any Pa Ma m1 mla na rowsa Aa Ra ca ka Pb Mb m2 mlb nb rowsb Ab Rb cb kb Z hPa hMa hla hna hka ((hra.below hB).more hB.size) ((hma.below hB).more hB.size) hPb hMb hlb hnb hkb ((hrb.below hB).more hB.size) ((hmb.below hB).more hB.size)
  rw [hE] at hC1
  replace hC1 := Lib.hid hC1
  replace hZe := Lib.hid hZe
  replace hE := Lib.hid hE
  replace hZ := Lib.hid hZ
  replace fa := Lib.hid fa
  replace fb := Lib.hid fb
  clear hka hkb va vb hma hmb
  have hq : ((m1 : Int) != (m2 : Int)) = false := by rw [bne_eq_false_iff_eq]; omega
  have hq2 : (m1 != m2) = false := by rw [bne_eq_false_iff_eq]; exact hmm
  replace hmm := Lib.hid hmm
  unfold ResC
  unfold ResM at hG
  go_enter Try.func32, Try.ntmps32
  go_wp2_with (fail)
  rw [← hZ.out]
  simp only [← hs]
  have hsw : w.heap.size ≤ s := Nat.le_of_eq hs.symm
  replace hs := Lib.hid hs
  (with_reducible refine hC1.out.mono ?_)
  rintro e w1 ⟨rfl, hbz⟩
  obtain ⟨a0, a1, a2, a3, a4, -⟩ := fa.out.keep hbz (by omega)
  obtain ⟨c0, c1, c2, c3, c4, -⟩ := fb.out.keep hbz (by omega)
  clear hC1
  go_wp2_with (fail)
  clear a0 a1 a2 a3 a4 c0 c1 c2 c3 c4
  go_loopw [8, 7] (fun iS vS  wr => ∃ k : Nat, k ≤ na ∧ iS = .int .i64 k ∧ OwnM wr Z.heap.size vS (k) (rowsL F.toDesc (m1 + m2) (ploR na m1 M1 M2)) ∧ Below Z.heap.size Z wr) (fun iS _  _ => na - (intOf iS).toNat)
  case atStart => exact ⟨0, by omega, rfl, OwnM.nil _ _ _, hbz⟩
  case round =>
    obtain ⟨k, hk, rfl, hown, hbw⟩ := hrel
    obtain ⟨w3, rfl⟩ : ∃ w3 : World, w3 = wr := ⟨_, rfl⟩
    have hB3 := hB.trans (hbw.mono hB.size)
    obtain ⟨a0, a1, a2, a3, a4, -⟩ := fa.out.keep hbw (by omega)
    obtain ⟨c0, c1, c2, c3, c4, -⟩ := fb.out.keep hbw (by omega)
    by_cases hlt : k < na
    · have hk0 : (0 : Int) ≤ (k : Int) := by omega
      have hk1 : (k : Int) < (na : Int) := by omega
      have hZ3 : Z.heap.size ≤ w3.heap.size := hbw.size
      have hs3 : s + 1 < w3.heap.size := by omega
      obtain ⟨ba, oa, Ka, la, rfl, hha, hca, hrka, hlka, hcka⟩ := hmar.at_ (show k < na by omega)
      rw [rowsL_length] at hca hlka
      have hda := (hB3.cell (p := ⟨ba, oa + k, none⟩) hha).trans hca
      have hxa : ba < w3.heap.size := Nat.lt_of_lt_of_le hha hB3.size
      clear hca
      have hkqa : (k : Int) < (na : Int) := by omega
      have kk := Lib.hid (show w3.cell? ⟨s, 4, none⟩ = some (.slice (some ⟨ba, oa, none⟩) na ka) ∧ w3.cell? ⟨ba, oa + k, none⟩ = some (.slice Ka m1 la) from ⟨a4, hda⟩)
      have kp : ∀ {B : Nat} {W W' : World}, Below B W W' → s < B → s + 1 < B → ba < B → Hid (W.cell? ⟨s, 4, none⟩ = some (.slice (some ⟨ba, oa, none⟩) na ka) ∧ W.cell? ⟨ba, oa + k, none⟩ = some (.slice Ka m1 la)) → Hid (W'.cell? ⟨s, 4, none⟩ = some (.slice (some ⟨ba, oa, none⟩) na ka) ∧ W'.cell? ⟨ba, oa + k, none⟩ = some (.slice Ka m1 la)) := fun {B W W'} hb u0 u1 u2 h => ⟨(hb.cell (p := ⟨s, 4, none⟩) (by assumption)).trans h.out.1, (hb.cell (p := ⟨ba, oa + k, none⟩) (by assumption)).trans h.out.2⟩
      replace kp := fun {B : Nat} {W W' : World} a u0 u1 u2 b => Lib.hid (@kp B W W' a u0 u1 u2 b)
      have hbe : Below w3.heap.size w3 w3.drew := (Below.refl w3.heap.size w3).drew
      have hBe := hB3.trans (hbe.mono hB3.size)
      have hrow : (rowL F.toDesc m1 (M1 k)) ++ (rowL F.toDesc m1 (M1 k)) = (rowsL F.toDesc (m1 + m2) (ploR na m1 M1 M2)) (k) := by rw [rowL_join]; unfold rowsL ploR; rw [stackR_lo _ _ hlt, ← hmm.out]
      have hBes := Join14_any (rowL F.toDesc m1 (M1 k)) (rowL F.toDesc m1 (M1 k)) Ka Ka la la w3.drew ((hrka.below hBe).more hBe.size) ((hrka.below hBe).more hBe.size) (by rw [rowL_length]; omega) (by rw [rowL_length]; omega)
      rw [hrow] at hBes
      unfold GivesA at hBes
      simp only [rowL_length] at hBes
      replace hBes := Lib.hid hBes
      replace hrow := Lib.hid hrow
      have hownH := hown
      obtain ⟨Av, cv, rfl⟩ := hown.size
      clear hrka hcka hB3
      go_wp2_with (fail)
      clear a0 a1 a2 a3 a4 c0 c1 c2 c3 c4 hda
      refine wp_region_held_drew (S := fun w' => w'.cell? ⟨s, 4, none⟩ = some (.slice (some ⟨ba, oa, none⟩) na ka) ∧ w'.cell? ⟨ba, oa + k, none⟩ = some (.slice Ka m1 la)) (by kernel_rfl) (by (try dsimp only); exact kk.out) (fun hHeld => ?_)
      refine wpAnyH_take (i := 0) (oi := ⟨_, _, _, _, _, _⟩) (v := ?_) rfl (by kernel_rfl) (by kernel_rfl) (by kernel_rfl) (fun _ _ _ h => h) (Or.inl ⟨by rfl, ?_⟩) (by assumption) ?_
      rotate_left
      · intro w hSw; (try dsimp only at hSw); go_simp; try with_reducible rfl
      try simp only [Act.put, List.setIfInBounds_toArray, List.set_cons_zero, List.set_cons_succ]
      refine wpAnyH_take (i := 1) (oi := ⟨_, _, _, _, _, _⟩) (v := ?_) rfl (by kernel_rfl) (by kernel_rfl) (by kernel_rfl) (fun _ _ _ h => h) (Or.inl ⟨by rfl, ?_⟩) (by assumption) ?_
      rotate_left
      · intro w hSw; (try dsimp only at hSw); go_simp; try with_reducible rfl
      try simp only [Act.put, List.setIfInBounds_toArray, List.set_cons_zero, List.set_cons_succ]
      refine wpAnyH_take (i := 2) (oi := ⟨_, _, _, _, _, _⟩) (v := ?_) rfl (by kernel_rfl) (by kernel_rfl) (by kernel_rfl) (fun _ _ _ h => h) (Or.inl ⟨by rfl, ?_⟩) (by assumption) ?_
      rotate_left
      · intro w hSw; (try dsimp only at hSw); go_simp; try with_reducible rfl
      try simp only [Act.put, List.setIfInBounds_toArray, List.set_cons_zero, List.set_cons_succ]
      refine wpAnyH_take (i := 3) (oi := ⟨_, _, _, _, _, _⟩) (v := ?_) rfl (by kernel_rfl) (by kernel_rfl) (by kernel_rfl) (fun _ _ _ h => h) (Or.inl ⟨by rfl, ?_⟩) (by assumption) ?_
      rotate_left
      · intro w hSw; (try dsimp only at hSw); go_simp; try with_reducible rfl
      try simp only [Act.put, List.setIfInBounds_toArray, List.set_cons_zero, List.set_cons_succ]
      refine wpAnyH_take (i := 4) (oi := ⟨_, _, _, _, _, _⟩) (v := ?_) rfl (by kernel_rfl) (by kernel_rfl) (by kernel_rfl) (fun _ _ _ h => h) (Or.inl ⟨by rfl, ?_⟩) (by assumption) ?_
      rotate_left
      · intro w hSw; (try dsimp only at hSw); go_simp; try with_reducible rfl
      try simp only [Act.put, List.setIfInBounds_toArray, List.set_cons_zero, List.set_cons_succ]
      refine wpAnyH_take (i := 5) (oi := ⟨_, _, _, _, _, _⟩) (v := ?_) rfl (by kernel_rfl) (by kernel_rfl) (by kernel_rfl) (fun _ _ _ h => h) (Or.inl ⟨by rfl, ?_⟩) (by assumption) ?_
      rotate_left
      · intro w hSw; (try dsimp only at hSw); go_simp; try with_reducible rfl
      try simp only [Act.put, List.setIfInBounds_toArray, List.set_cons_zero, List.set_cons_succ]
      refine wpAnyH_take (i := 6) (oi := ⟨_, _, _, _, _, _⟩) (v := ?_) rfl (by kernel_rfl) (by kernel_rfl) (by kernel_rfl) (fun _ _ _ h => h) (Or.inl ⟨by rfl, ?_⟩) (by assumption) ?_
      rotate_left
      · intro w hSw; (try dsimp only at hSw); go_simp; try with_reducible rfl
      try simp only [Act.put, List.setIfInBounds_toArray, List.set_cons_zero, List.set_cons_succ]
      refine wpAnyH_take (i := 7) (oi := ⟨_, _, _, _, _, _⟩) (v := ?_) rfl (by kernel_rfl) (by kernel_rfl) (by kernel_rfl) (fun _ _ _ h => h) (Or.inl ⟨by rfl, ?_⟩) (by assumption) ?_
      rotate_left
      · intro w hSw; (try dsimp only at hSw); go_simp; try with_reducible rfl
      try simp only [Act.put, List.setIfInBounds_toArray, List.set_cons_zero, List.set_cons_succ]
      refine wpAnyH_take (i := 8) (oi := ⟨_, _, _, _, _, _⟩) (v := ?_) rfl (by kernel_rfl) (by kernel_rfl) (by kernel_rfl) (fun _ _ _ h => h) (Or.inl ⟨by rfl, ?_⟩) (by assumption) ?_
      rotate_left
      · intro w hSw; (try dsimp only at hSw); go_simp; try with_reducible rfl
      try simp only [Act.put, List.setIfInBounds_toArray, List.set_cons_zero, List.set_cons_succ]
      refine wpAnyH_take (i := 9) (oi := ⟨_, _, _, _, _, _⟩) (v := ?_) rfl (by kernel_rfl) (by kernel_rfl) (by kernel_rfl) (fun _ _ _ h => h) (Or.inl ⟨by rfl, ?_⟩) (by assumption) ?_
      rotate_left
      · intro w hSw; (try dsimp only at hSw); go_simp; try with_reducible rfl
      try simp only [Act.put, List.setIfInBounds_toArray, List.set_cons_zero, List.set_cons_succ]
      refine wpAnyH_take (i := 10) (oi := ⟨_, _, _, _, _, _⟩) (v := ?_) rfl (by kernel_rfl) (by kernel_rfl) (by kernel_rfl) (fun _ _ _ h => h) (Or.inl ⟨by rfl, ?_⟩) (by assumption) ?_
      rotate_left
      · intro w hSw; (try dsimp only at hSw); go_simp; try with_reducible rfl
      try simp only [Act.put, List.setIfInBounds_toArray, List.set_cons_zero, List.set_cons_succ]
      refine wpAnyH_ready (rs := [11]) (by kernel_rfl) (by simp) ?_
      refine AllReadyH.cons (o := ⟨_, _, _, _, _, _⟩) rfl (fun K hK => ?_) AllReadyH.nil
      go_simp
      go_at_call 36
      (with_reducible refine (hBes).out.mono ?_)
      rintro e w4 ⟨v4, rfl, ho4, hb4⟩
      obtain ⟨A4, c4, rfl, hl4, hc4, hr4, hA4⟩ := ho4.parts
      rw [rowsL_length] at hl4
      have hb34 := hbe.trans (hb4.mono hbe.size)
      have kk9 := (kp hb34 (Nat.lt_of_lt_of_le (Nat.lt_of_succ_lt hs3) (Nat.le_refl _)) (Nat.lt_of_lt_of_le hs3 (Nat.le_refl _)) (Nat.lt_of_lt_of_le hxa (Nat.le_refl _)) kk).out
      have hown4 := hown.below hb34 (Nat.le_refl _)
      have hA5 : ∀ a, A4 = some a → w3.heap.size ≤ a.block := fun a e => Nat.le_trans hbe.size (hA4 a e)
      have hs34 := hb34.size
      have hb45 : Below w4.heap.size w4 (w4.alloc (.cells #[.slice A4 (m1 + m2) c4] 22)) := (Below.refl _ _).alloc (Nat.le_refl _) _
      have kk10 := (kp hb45 (Nat.lt_of_lt_of_le (Nat.lt_of_succ_lt hs3) hs34) (Nat.lt_of_lt_of_le hs3 hs34) (Nat.lt_of_lt_of_le hxa hs34) kk9).out
      rw [rowsL_length]
      go_wp2_with (fail)
      refine hK.out _ _ (by (try dsimp only); exact kk9.out) (fun hHeld => ?_)
      clear hK K
      try simp only [Act.put, List.setIfInBounds_toArray, List.set_cons_zero, List.set_cons_succ]
      refine wpAnyH_ready (rs := [12]) (by kernel_rfl) (by simp) ?_
      refine AllReadyH.cons (o := ⟨_, _, _, _, _, _⟩) rfl (fun K hK => ?_) AllReadyH.nil
      go_simp
      refine hK.out _ _ (by (try dsimp only); exact kk10.out) (fun hHeld => ?_)
      clear hK K
      try simp only [Act.put, List.setIfInBounds_toArray, List.set_cons_zero, List.set_cons_succ]
      refine wpAnyH_ready (rs := [13]) (by kernel_rfl) (by simp) ?_
      refine AllReadyH.cons (o := ⟨_, _, _, _, _, _⟩) rfl (fun K hK => ?_) AllReadyH.nil
      refine step_appRow rfl (.tmp 37) (.tmp 49) rfl Z.heap.size _ (k) _ hown4 A4 (m1 + m2) c4 hr4 (rowsL_length _ _ _ _) hl4 hc4 w3.heap.size hownH.lt0 hA5 hZ3 (by rfl) (by rfl) rfl (by omega) (Nat.le_trans hZ3 hs34) ?_
      intro v5 w5 ho5 hb5
      have kk11 := (kp hb5 (by omega) (by omega) (by omega) kk9).out
      refine hK.out _ _ (by (try dsimp only); exact kk11.out) (fun hHeld => ?_)
      clear hK K
      try simp only [Act.put, List.setIfInBounds_toArray, List.set_cons_zero, List.set_cons_succ]
      refine wpAnyH_take (i := 14) (oi := ⟨_, _, _, _, _, _⟩) (v := ?_) rfl (by kernel_rfl) (by kernel_rfl) (by kernel_rfl) (fun _ _ _ h => h) (Or.inl ⟨by rfl, ?_⟩) (by assumption) ?_
      rotate_left
      · intro w hSw; (try dsimp only at hSw); go_simp; try with_reducible rfl
      try simp only [Act.put, List.setIfInBounds_toArray, List.set_cons_zero, List.set_cons_succ]
      refine wpAnyH_done (by kernel_rfl) ?_ _
      go_wp2_with (fail)
      go_roundw
      case rel => exact ⟨k + 1, by omega, by go_num, ho5, hbw.trans ((hb34.mono hbw.size).trans (hb5.mono (Nat.le_refl _)))⟩
      case measure => simp [intOf]; omega
    · obtain rfl : na = k := by omega
      go_wp2_with (fail)
      clear a0 a1 a2 a3 a4 c0 c1 c2 c3 c4 hB3
      go_loopw [9, 7] (fun iS vS  wr => ∃ k : Nat, k ≤ nb ∧ iS = .int .i64 k ∧ OwnM wr Z.heap.size vS (na + k) (rowsL F.toDesc (m1 + m2) (ploR na m1 M1 M2)) ∧ Below Z.heap.size Z wr) (fun iS _  _ => nb - (intOf iS).toNat)
      case atStart => exact ⟨0, by omega, rfl, hown, hbw⟩
      case round =>
        obtain ⟨k, hk, rfl, hown, hbw⟩ := hrel
        obtain ⟨w3, rfl⟩ : ∃ w3 : World, w3 = wr := ⟨_, rfl⟩
        have hB3 := hB.trans (hbw.mono hB.size)
        obtain ⟨a0, a1, a2, a3, a4, -⟩ := fa.out.keep hbw (by omega)
        obtain ⟨c0, c1, c2, c3, c4, -⟩ := fb.out.keep hbw (by omega)
        by_cases hlt : k < nb
        · have hk0 : (0 : Int) ≤ (k : Int) := by omega
          have hk1 : (k : Int) < (nb : Int) := by omega
          have hZ3 : Z.heap.size ≤ w3.heap.size := hbw.size
          have hs3 : s + 1 < w3.heap.size := by omega
          obtain ⟨bb, ob, Kb, lb, rfl, hhb, hcb, hrkb, hlkb, hckb⟩ := hmbr.at_ (show k < nb by omega)
          rw [rowsL_length] at hcb hlkb
          have hdb := (hB3.cell (p := ⟨bb, ob + k, none⟩) hhb).trans hcb
          have hxb : bb < w3.heap.size := Nat.lt_of_lt_of_le hhb hB3.size
          clear hcb
          have hkqb : (k : Int) < (nb : Int) := by omega
          have kk := Lib.hid (show w3.cell? ⟨s + 1, 4, none⟩ = some (.slice (some ⟨bb, ob, none⟩) nb kb) ∧ w3.cell? ⟨bb, ob + k, none⟩ = some (.slice Kb m2 lb) ∧ w3.cell? ⟨s, 3, none⟩ = some (.int .i64 (m1 : Int)) from ⟨c4, hdb, a3⟩)
          have kp : ∀ {B : Nat} {W W' : World}, Below B W W' → s < B → s + 1 < B → bb < B → Hid (W.cell? ⟨s + 1, 4, none⟩ = some (.slice (some ⟨bb, ob, none⟩) nb kb) ∧ W.cell? ⟨bb, ob + k, none⟩ = some (.slice Kb m2 lb) ∧ W.cell? ⟨s, 3, none⟩ = some (.int .i64 (m1 : Int))) → Hid (W'.cell? ⟨s + 1, 4, none⟩ = some (.slice (some ⟨bb, ob, none⟩) nb kb) ∧ W'.cell? ⟨bb, ob + k, none⟩ = some (.slice Kb m2 lb) ∧ W'.cell? ⟨s, 3, none⟩ = some (.int .i64 (m1 : Int))) := fun {B W W'} hb u0 u1 u2 h => ⟨(hb.cell (p := ⟨s + 1, 4, none⟩) (by assumption)).trans h.out.1, (hb.cell (p := ⟨bb, ob + k, none⟩) (by assumption)).trans h.out.2.1, (hb.cell (p := ⟨s, 3, none⟩) (by assumption)).trans h.out.2.2⟩
          replace kp := fun {B : Nat} {W W' : World} a u0 u1 u2 b => Lib.hid (@kp B W W' a u0 u1 u2 b)
          have hmk := mk_ints m1 (by omega)
          have hbe : Below w3.heap.size w3 (w3.alloc (.cells (Array.replicate m1 (Value.int .i64 0)) 3)).drew := ((Below.refl _ _).alloc (Nat.le_refl _) _).drew
          have hrz : Rd (w3.alloc (.cells (Array.replicate m1 (Value.int .i64 0)) 3)).drew (w3.alloc (.cells (Array.replicate m1 (Value.int .i64 0)) 3)).drew.heap.size (some ⟨w3.heap.size, 0, none⟩) (List.replicate m1 0) := (IB.newz w3 m1).rd.drew
          have kk8 := (kp hbe (Nat.lt_of_lt_of_le (Nat.lt_of_succ_lt hs3) (Nat.le_refl _)) (Nat.lt_of_lt_of_le hs3 (Nat.le_refl _)) (Nat.lt_of_lt_of_le hxb (Nat.le_refl _)) kk).out
          have hBe := hB3.trans (hbe.mono hB3.size)
          have hrow : (List.replicate m1 (0 : Int)) ++ (rowL F.toDesc m2 (M2 k)) = (rowsL F.toDesc (m1 + m2) (ploR na m1 M1 M2)) (na + k) := by rw [rowL_zero, rowL_join]; unfold rowsL ploR; rw [stackR_hi]
          have hBes := Join14_any (List.replicate m1 (0 : Int)) (rowL F.toDesc m2 (M2 k)) (some ⟨w3.heap.size, 0, none⟩) Kb m1 lb (w3.alloc (.cells (Array.replicate m1 (Value.int .i64 0)) 3)).drew hrz ((hrkb.below hBe).more hBe.size) (by rw [List.length_replicate]; omega) (by rw [rowL_length]; omega)
          rw [hrow] at hBes
          unfold GivesA at hBes
          simp only [rowL_length, List.length_replicate] at hBes
          replace hBes := Lib.hid hBes
          replace hrow := Lib.hid hrow
          have hownH := hown
          obtain ⟨Av, cv, rfl⟩ := hown.size
          clear hrkb hckb hrz hB3
          go_wp2_with (fail)
          clear a0 a1 a2 a3 a4 c0 c1 c2 c3 c4 hdb
          refine wp_region_held_drew (S := fun w' => w'.cell? ⟨s + 1, 4, none⟩ = some (.slice (some ⟨bb, ob, none⟩) nb kb) ∧ w'.cell? ⟨bb, ob + k, none⟩ = some (.slice Kb m2 lb) ∧ w'.cell? ⟨s, 3, none⟩ = some (.int .i64 (m1 : Int))) (by kernel_rfl) (by (try dsimp only); exact kk.out) (fun hHeld => ?_)
          refine wpAnyH_take (i := 0) (oi := ⟨_, _, _, _, _, _⟩) (v := ?_) rfl (by kernel_rfl) (by kernel_rfl) (by kernel_rfl) (fun _ _ _ h => h) (Or.inl ⟨by rfl, ?_⟩) (by assumption) ?_
          rotate_left
          · intro w hSw; (try dsimp only at hSw); go_simp; try with_reducible rfl
          try simp only [Act.put, List.setIfInBounds_toArray, List.set_cons_zero, List.set_cons_succ]
          refine wpAnyH_take (i := 1) (oi := ⟨_, _, _, _, _, _⟩) (v := ?_) rfl (by kernel_rfl) (by kernel_rfl) (by kernel_rfl) (fun _ _ _ h => h) (Or.inl ⟨by rfl, ?_⟩) (by assumption) ?_
          rotate_left
          · intro w hSw; (try dsimp only at hSw); go_simp; try with_reducible rfl
          try simp only [Act.put, List.setIfInBounds_toArray, List.set_cons_zero, List.set_cons_succ]
          refine wpAnyH_take (i := 2) (oi := ⟨_, _, _, _, _, _⟩) (v := ?_) rfl (by kernel_rfl) (by kernel_rfl) (by kernel_rfl) (fun _ _ _ h => h) (Or.inl ⟨by rfl, ?_⟩) (by assumption) ?_
          rotate_left
          · intro w hSw; (try dsimp only at hSw); go_simp; try with_reducible rfl
          try simp only [Act.put, List.setIfInBounds_toArray, List.set_cons_zero, List.set_cons_succ]
          refine wpAnyH_take (i := 4) (oi := ⟨_, _, _, _, _, _⟩) (v := ?_) rfl (by kernel_rfl) (by kernel_rfl) (by kernel_rfl) (fun _ _ _ h => h) (Or.inl ⟨by rfl, ?_⟩) (by assumption) ?_
          rotate_left
          · intro w hSw; (try dsimp only at hSw); go_simp; try with_reducible rfl
          try simp only [Act.put, List.setIfInBounds_toArray, List.set_cons_zero, List.set_cons_succ]
          refine wpAnyH_take (i := 5) (oi := ⟨_, _, _, _, _, _⟩) (v := ?_) rfl (by kernel_rfl) (by kernel_rfl) (by kernel_rfl) (fun _ _ _ h => h) (Or.inl ⟨by rfl, ?_⟩) (by assumption) ?_
          rotate_left
          · intro w hSw; (try dsimp only at hSw); go_simp; try with_reducible rfl
          try simp only [Act.put, List.setIfInBounds_toArray, List.set_cons_zero, List.set_cons_succ]
          refine wpAnyH_take (i := 6) (oi := ⟨_, _, _, _, _, _⟩) (v := ?_) rfl (by kernel_rfl) (by kernel_rfl) (by kernel_rfl) (fun _ _ _ h => h) (Or.inl ⟨by rfl, ?_⟩) (by assumption) ?_
          rotate_left
          · intro w hSw; (try dsimp only at hSw); go_simp; try with_reducible rfl
          try simp only [Act.put, List.setIfInBounds_toArray, List.set_cons_zero, List.set_cons_succ]
          refine wpAnyH_take (i := 7) (oi := ⟨_, _, _, _, _, _⟩) (v := ?_) rfl (by kernel_rfl) (by kernel_rfl) (by kernel_rfl) (fun _ _ _ h => h) (Or.inl ⟨by rfl, ?_⟩) (by assumption) ?_
          rotate_left
          · intro w hSw; (try dsimp only at hSw); go_simp; try with_reducible rfl
          try simp only [Act.put, List.setIfInBounds_toArray, List.set_cons_zero, List.set_cons_succ]
          refine wpAnyH_take (i := 8) (oi := ⟨_, _, _, _, _, _⟩) (v := ?_) rfl (by kernel_rfl) (by kernel_rfl) (by kernel_rfl) (fun _ _ _ h => h) (Or.inl ⟨by rfl, ?_⟩) (by assumption) ?_
          rotate_left
          · intro w hSw; (try dsimp only at hSw); go_simp; try with_reducible rfl
          try simp only [Act.put, List.setIfInBounds_toArray, List.set_cons_zero, List.set_cons_succ]
          refine wpAnyH_ready (rs := [3]) (by kernel_rfl) (by simp) ?_
          refine AllReadyH.cons (o := ⟨_, _, _, _, _, _⟩) rfl (fun K hK => ?_) AllReadyH.nil
          go_simp
          refine hK.out _ _ (by (try dsimp only); exact kk8.out) (fun hHeld => ?_)
          clear hK K
          try simp only [Act.put, List.setIfInBounds_toArray, List.set_cons_zero, List.set_cons_succ]
          refine wpAnyH_ready (rs := [9]) (by kernel_rfl) (by simp) ?_
          refine AllReadyH.cons (o := ⟨_, _, _, _, _, _⟩) rfl (fun K hK => ?_) AllReadyH.nil
          go_simp
          go_at_call 36
          (with_reducible refine (hBes).out.mono ?_)
          rintro e w4 ⟨v4, rfl, ho4, hb4⟩
          obtain ⟨A4, c4, rfl, hl4, hc4, hr4, hA4⟩ := ho4.parts
          rw [rowsL_length] at hl4
          have hb34 := hbe.trans (hb4.mono hbe.size)
          have kk9 := (kp hb34 (Nat.lt_of_lt_of_le (Nat.lt_of_succ_lt hs3) (Nat.le_refl _)) (Nat.lt_of_lt_of_le hs3 (Nat.le_refl _)) (Nat.lt_of_lt_of_le hxb (Nat.le_refl _)) kk).out
          have hown4 := hown.below hb34 (Nat.le_refl _)
          have hA5 : ∀ a, A4 = some a → w3.heap.size ≤ a.block := fun a e => Nat.le_trans hbe.size (hA4 a e)
          have hs34 := hb34.size
          have hb45 : Below w4.heap.size w4 (w4.alloc (.cells #[.slice A4 (m1 + m2) c4] 22)) := (Below.refl _ _).alloc (Nat.le_refl _) _
          have kk10 := (kp hb45 (Nat.lt_of_lt_of_le (Nat.lt_of_succ_lt hs3) hs34) (Nat.lt_of_lt_of_le hs3 hs34) (Nat.lt_of_lt_of_le hxb hs34) kk9).out
          rw [rowsL_length]
          go_wp2_with (fail)
          refine hK.out _ _ (by (try dsimp only); exact kk9.out) (fun hHeld => ?_)
          clear hK K
          try simp only [Act.put, List.setIfInBounds_toArray, List.set_cons_zero, List.set_cons_succ]
          refine wpAnyH_ready (rs := [10]) (by kernel_rfl) (by simp) ?_
          refine AllReadyH.cons (o := ⟨_, _, _, _, _, _⟩) rfl (fun K hK => ?_) AllReadyH.nil
          go_simp
          refine hK.out _ _ (by (try dsimp only); exact kk10.out) (fun hHeld => ?_)
          clear hK K
          try simp only [Act.put, List.setIfInBounds_toArray, List.set_cons_zero, List.set_cons_succ]
          refine wpAnyH_ready (rs := [11]) (by kernel_rfl) (by simp) ?_
          refine AllReadyH.cons (o := ⟨_, _, _, _, _, _⟩) rfl (fun K hK => ?_) AllReadyH.nil
          refine step_appRow rfl (.tmp 58) (.tmp 68) rfl Z.heap.size _ (na + k) _ hown4 A4 (m1 + m2) c4 hr4 (rowsL_length _ _ _ _) hl4 hc4 w3.heap.size hownH.lt0 hA5 hZ3 (by rfl) (by rfl) rfl (by omega) (Nat.le_trans hZ3 hs34) ?_
          intro v5 w5 ho5 hb5
          have kk11 := (kp hb5 (by omega) (by omega) (by omega) kk9).out
          refine hK.out _ _ (by (try dsimp only); exact kk11.out) (fun hHeld => ?_)
          clear hK K
          try simp only [Act.put, List.setIfInBounds_toArray, List.set_cons_zero, List.set_cons_succ]
          refine wpAnyH_take (i := 12) (oi := ⟨_, _, _, _, _, _⟩) (v := ?_) rfl (by kernel_rfl) (by kernel_rfl) (by kernel_rfl) (fun _ _ _ h => h) (Or.inl ⟨by rfl, ?_⟩) (by assumption) ?_
          rotate_left
          · intro w hSw; (try dsimp only at hSw); go_simp; try with_reducible rfl
          try simp only [Act.put, List.setIfInBounds_toArray, List.set_cons_zero, List.set_cons_succ]
          refine wpAnyH_done (by kernel_rfl) ?_ _
          go_wp2_with (fail)
          go_roundw
          case rel => exact ⟨k + 1, by omega, by go_num, ho5, hbw.trans ((hb34.mono hbw.size).trans (hb5.mono (Nat.le_refl _)))⟩
          case measure => simp [intOf]; omega
        · obtain rfl : nb = k := by omega
          have hB9 := hB3
          obtain ⟨A9, c9, rfl, hr9⟩ := hown.rdm
          have hG9 := Lib.hid (hG w3 A9 c9 ((hra.below hB9).more hB9.size) hr9)
          have hs9 : s + 1 + 1 < w3.heap.size := Nat.lt_of_lt_of_le hZs hbw.size
          have fz9 := fz.keep hbw hZs
          clear hG fz hown hr9
          go_wp2_with (fail)
          (with_reducible refine hG9.out.mono ?_)
          rintro e w6 ⟨A6, c6, Al, cl, rfl, hr6, hA6, hru, hb6⟩
          obtain ⟨t0, t1, t2, t3, t4, g0, g1, g2, g3, g4⟩ := fz9.keep hb6 hs9
          have hrf := Lib.hid (hr6.set5 (b := s + 1 + 1) (fun b hb => by have := hA6 b hb; omega) (.int .i64 P) (.int .i64 M) (.slice A6 ml.length c6) (.int .i64 N) (.slice Al n cl))
          have hruf : Hid (RdMU (((((w6.setCell ⟨s + 1 + 1, 0, none⟩ (.int .i64 P)).setCell ⟨s + 1 + 1, 1, none⟩ (.int .i64 M)).setCell ⟨s + 1 + 1, 2, none⟩ (.slice A6 ml.length c6)).setCell ⟨s + 1 + 1, 3, none⟩ (.int .i64 N)).setCell ⟨s + 1 + 1, 4, none⟩ (.slice Al n cl)) w3.heap.size w6.heap.size Al n rows) := hru.keepU fun p hp _ => set5_above (b := s + 1 + 1) (L := w3.heap.size) hs9 _ _ _ _ _ p hp
          have hBf : Hid (Below w.heap.size w (((((w6.setCell ⟨s + 1 + 1, 0, none⟩ (.int .i64 P)).setCell ⟨s + 1 + 1, 1, none⟩ (.int .i64 M)).setCell ⟨s + 1 + 1, 2, none⟩ (.slice A6 ml.length c6)).setCell ⟨s + 1 + 1, 3, none⟩ (.int .i64 N)).setCell ⟨s + 1 + 1, 4, none⟩ (.slice Al n cl))) := (hB9.trans (hb6.mono hB9.size)).trans ((set5 _ _ _ _ _).mono (by omega))
          have hsz : Hid ((((((w6.setCell ⟨s + 1 + 1, 0, none⟩ (.int .i64 P)).setCell ⟨s + 1 + 1, 1, none⟩ (.int .i64 M)).setCell ⟨s + 1 + 1, 2, none⟩ (.slice A6 ml.length c6)).setCell ⟨s + 1 + 1, 3, none⟩ (.int .i64 N)).setCell ⟨s + 1 + 1, 4, none⟩ (.slice Al n cl)).heap.size = w6.heap.size) := by unfold Hid; simp [World.setCell]
          have hW9 : w.heap.size ≤ w3.heap.size := hB9.size
          have hA9 : ∀ b, A6 = some b → w.heap.size ≤ b.block := fun b hb => Nat.le_trans hW9 (hA6 b hb)
          clear hr6 hA6 hru hb6 hB9 hG9
          go_wp2_with (fail)
          refine bodyPost_ret (v := .tuple #[.agg #[.int .i64 P, .int .i64 M, .slice A6 ml.length c6, .int .i64 N, .slice Al n cl], .int .i64 0]) (by simp [results, Try.results32, go_sem, t0, t1, t2, t3, t4]) rfl ⟨A6, c6, Al, cl, rfl, hrf.out.more (by rw [hsz.out]; exact Nat.le_refl _), hA9, ?_, hBf.out⟩
          have h5 := hruf.out.low hW9
          rw [← hsz.out] at h5
          exact h5

set_option maxRecDepth 100000 in
set_option maxHeartbeats 4000000 in
theorem rJuxtapose_code (Pa Ma Na : Int) (mla : List Int) (na : Nat) (rowsa : Nat → List Int) (Aa Ra : Option Addr) (ca ka : Nat) (Pb Mb Nb : Int) (mlb : List Int) (nb : Nat) (rowsb : Nat → List Int) (Ab Rb : Option Addr) (cb kb : Nat) (w : World) (hPa : I64 Pa) (hMa : I64 Ma) (hla : mla.length ≤ maxLen) (hna : na ≤ 64) (hka : ∀ i, i < na → (rowsa i).length ≤ 4200) (hra : Rd w w.heap.size Aa mla) (hma : RdM w w.heap.size Ra na rowsa) (hPb : I64 Pb) (hMb : I64 Mb) (hlb : mlb.length ≤ maxLen) (hnb : nb ≤ 64) (hkb : ∀ i, i < nb → (rowsb i).length ≤ 4200) (hrb : Rd w w.heap.size Ab mlb) (hmb : RdM w w.heap.size Rb nb rowsb) (F : FD) (m1 m2 : Nat) (M1 M2 : Nat → Nat → R F.toDesc) (va : VC Pa Ma Na mla na rowsa F m1 M1) (vb : VC Pb Mb Nb mlb nb rowsb F m2 M2) (hE : twoE Pa Ma Na mla na rowsa Aa Ra ca ka Pb Mb Nb mlb nb rowsb Ab Rb cb kb = 0) (hnn : na = nb) (hlen : m1 + m2 ≤ 64) {P M N : Int} {ml : List Int} {n : Nat} {rows : Nat → List Int}
    (hG : ∀ (W : World) (Al : Option Addr) (cl : Nat), Rd W W.heap.size Aa mla → RdM W W.heap.size Al (na) (rowsL F.toDesc (m1 + m2) (juxR m1 M1 M2)) → Calls Try.prog 34 #[.agg #[.int .i64 Pa, .int .i64 Ma, .slice Aa mla.length ca], .slice Al (na) cl, .int .i64 ((m1 : Int) + (m2 : Int))] W (ResM P M N ml n rows W)) :
    Calls Try.prog 21 #[.agg #[.int .i64 Pa, .int .i64 Ma, .slice Aa mla.length ca, .int .i64 Na, .slice Ra na ka], .agg #[.int .i64 Pb, .int .i64 Mb, .slice Ab mlb.length cb, .int .i64 Nb, .slice Rb nb kb]] w (ResC P M N ml n rows 0 w) := by
  have hN1 := va.hN
  have hN2 := vb.hN
  subst hN1 hN2
  have hm1 := va.m64; have hm2 := vb.m64
  have hmar := va.rdm hma
  have hmbr := vb.rdm hmb
  have hlen2 : ¬ (64 : Int) < (m1 : Int) + (m2 : Int) := by omega
  obtain ⟨Z, hZ⟩ : ∃ Z, Z = (((w.alloc (.cells #[.int .i64 Pa, .int .i64 Ma, .slice Aa mla.length ca, .int .i64 m1, .slice Ra na ka] 27)).alloc (.cells #[.int .i64 Pb, .int .i64 Mb, .slice Ab mlb.length cb, .int .i64 m2, .slice Rb nb kb] 27)).alloc (.cells #[.int .i64 0, .int .i64 0, .slice none 0 0, .int .i64 0, .slice none 0 0] 27)) := ⟨_, rfl⟩
  have hB : Below w.heap.size w Z := by rw [hZ]; exact (((Below.refl _ _).alloc (Nat.le_refl _) _).alloc (by simp) _).alloc (by simp; omega) _
  obtain ⟨s, hs⟩ : ∃ s, s = w.heap.size := ⟨_, rfl⟩
  obtain ⟨hZe, fa, fb, fz⟩ := two_enter Pa Ma m1 mla na rowsa Aa Ra ca ka Pb Mb m2 mlb nb rowsb Ab Rb cb kb w hZ hs
  have hZs : s + 1 + 1 < Z.heap.size := by omega
  have hC1 := Two14_any Pa Ma m1 mla na rowsa Aa Ra ca ka Pb Mb m2 mlb nb rowsb Ab Rb cb kb Z hPa hMa hla hna hka ((hra.below hB).more hB.size) ((hma.below hB).more hB.size) hPb hMb hlb hnb hkb ((hrb.below hB).more hB.size) ((hmb.below hB).more hB.size)
  rw [hE] at hC1
  replace hC1 := Lib.hid hC1
  replace hZe := Lib.hid hZe
  replace hE := Lib.hid hE
  replace hZ := Lib.hid hZ
  replace fa := Lib.hid fa
  replace fb := Lib.hid fb
  clear hka hkb va vb hma hmb
  have hq : ((na : Int) != (nb : Int)) = false := by rw [bne_eq_false_iff_eq]; omega
  have hq2 : (na != nb) = false := by rw [bne_eq_false_iff_eq]; exact hnn
  have hnb2 : na ≤ nb := by omega
  replace hnn := Lib.hid hnn
  unfold ResC
  unfold ResM at hG
  go_enter Try.func21, Try.ntmps21
  go_wp2_with (fail)
  rw [← hZ.out]
  simp only [← hs]
  have hsw : w.heap.size ≤ s := Nat.le_of_eq hs.symm
  replace hs := Lib.hid hs
  (with_reducible refine hC1.out.mono ?_)
  rintro e w1 ⟨rfl, hbz⟩
  obtain ⟨a0, a1, a2, a3, a4, -⟩ := fa.out.keep hbz (by omega)
  obtain ⟨c0, c1, c2, c3, c4, -⟩ := fb.out.keep hbz (by omega)
  clear hC1
  go_wp2_with (fail)
  clear a0 a1 a2 a3 a4 c0 c1 c2 c3 c4
  go_loopw [8, 7] (fun iS vS  wr => ∃ k : Nat, k ≤ na ∧ iS = .int .i64 k ∧ OwnM wr Z.heap.size vS (k) (rowsL F.toDesc (m1 + m2) (juxR m1 M1 M2)) ∧ Below Z.heap.size Z wr) (fun iS _  _ => na - (intOf iS).toNat)
  case atStart => exact ⟨0, by omega, rfl, OwnM.nil _ _ _, hbz⟩
  case round =>
    obtain ⟨k, hk, rfl, hown, hbw⟩ := hrel
    obtain ⟨w3, rfl⟩ : ∃ w3 : World, w3 = wr := ⟨_, rfl⟩
    have hB3 := hB.trans (hbw.mono hB.size)
    obtain ⟨a0, a1, a2, a3, a4, -⟩ := fa.out.keep hbw (by omega)
    obtain ⟨c0, c1, c2, c3, c4, -⟩ := fb.out.keep hbw (by omega)
    by_cases hlt : k < na
    · have hk0 : (0 : Int) ≤ (k : Int) := by omega
      have hk1 : (k : Int) < (na : Int) := by omega
      have hZ3 : Z.heap.size ≤ w3.heap.size := hbw.size
      have hs3 : s + 1 < w3.heap.size := by omega
      obtain ⟨ba, oa, Ka, la, rfl, hha, hca, hrka, hlka, hcka⟩ := hmar.at_ (show k < na by omega)
      rw [rowsL_length] at hca hlka
      have hda := (hB3.cell (p := ⟨ba, oa + k, none⟩) hha).trans hca
      have hxa : ba < w3.heap.size := Nat.lt_of_lt_of_le hha hB3.size
      clear hca
      have hkqa : (k : Int) < (na : Int) := by omega
      obtain ⟨bb, ob, Kb, lb, rfl, hhb, hcb, hrkb, hlkb, hckb⟩ := hmbr.at_ (show k < nb by omega)
      rw [rowsL_length] at hcb hlkb
      have hdb := (hB3.cell (p := ⟨bb, ob + k, none⟩) hhb).trans hcb
      have hxb : bb < w3.heap.size := Nat.lt_of_lt_of_le hhb hB3.size
      clear hcb
      have hkqb : (k : Int) < (nb : Int) := by omega
      have kk := Lib.hid (show w3.cell? ⟨s, 4, none⟩ = some (.slice (some ⟨ba, oa, none⟩) na ka) ∧ w3.cell? ⟨ba, oa + k, none⟩ = some (.slice Ka m1 la) ∧ w3.cell? ⟨s + 1, 4, none⟩ = some (.slice (some ⟨bb, ob, none⟩) nb kb) ∧ w3.cell? ⟨bb, ob + k, none⟩ = some (.slice Kb m2 lb) from ⟨a4, hda, c4, hdb⟩)
      have kp : ∀ {B : Nat} {W W' : World}, Below B W W' → s < B → s + 1 < B → ba < B → bb < B → Hid (W.cell? ⟨s, 4, none⟩ = some (.slice (some ⟨ba, oa, none⟩) na ka) ∧ W.cell? ⟨ba, oa + k, none⟩ = some (.slice Ka m1 la) ∧ W.cell? ⟨s + 1, 4, none⟩ = some (.slice (some ⟨bb, ob, none⟩) nb kb) ∧ W.cell? ⟨bb, ob + k, none⟩ = some (.slice Kb m2 lb)) → Hid (W'.cell? ⟨s, 4, none⟩ = some (.slice (some ⟨ba, oa, none⟩) na ka) ∧ W'.cell? ⟨ba, oa + k, none⟩ = some (.slice Ka m1 la) ∧ W'.cell? ⟨s + 1, 4, none⟩ = some (.slice (some ⟨bb, ob, none⟩) nb kb) ∧ W'.cell? ⟨bb, ob + k, none⟩ = some (.slice Kb m2 lb)) := fun {B W W'} hb u0 u1 u2 u3 h => ⟨(hb.cell (p := ⟨s, 4, none⟩) (by assumption)).trans h.out.1, (hb.cell (p := ⟨ba, oa + k, none⟩) (by assumption)).trans h.out.2.1, (hb.cell (p := ⟨s + 1, 4, none⟩) (by assumption)).trans h.out.2.2.1, (hb.cell (p := ⟨bb, ob + k, none⟩) (by assumption)).trans h.out.2.2.2⟩
      replace kp := fun {B : Nat} {W W' : World} a u0 u1 u2 u3 b => Lib.hid (@kp B W W' a u0 u1 u2 u3 b)
      have hbe : Below w3.heap.size w3 w3.drew := (Below.refl w3.heap.size w3).drew
      have hBe := hB3.trans (hbe.mono hB3.size)
      have hrow : (rowL F.toDesc m1 (M1 k)) ++ (rowL F.toDesc m2 (M2 k)) = (rowsL F.toDesc (m1 + m2) (juxR m1 M1 M2)) (k) := by rw [rowL_join]; rfl
      have hBes := Join14_any (rowL F.toDesc m1 (M1 k)) (rowL F.toDesc m2 (M2 k)) Ka Kb la lb w3.drew ((hrka.below hBe).more hBe.size) ((hrkb.below hBe).more hBe.size) (by rw [rowL_length]; omega) (by rw [rowL_length]; omega)
      rw [hrow] at hBes
      unfold GivesA at hBes
      simp only [rowL_length] at hBes
      replace hBes := Lib.hid hBes
      replace hrow := Lib.hid hrow
      have hownH := hown
      obtain ⟨Av, cv, rfl⟩ := hown.size
      clear hrka hcka hrkb hckb hB3
      go_wp2_with (fail)
      clear a0 a1 a2 a3 a4 c0 c1 c2 c3 c4 hda hdb
      refine wp_region_held_drew (S := fun w' => w'.cell? ⟨s, 4, none⟩ = some (.slice (some ⟨ba, oa, none⟩) na ka) ∧ w'.cell? ⟨ba, oa + k, none⟩ = some (.slice Ka m1 la) ∧ w'.cell? ⟨s + 1, 4, none⟩ = some (.slice (some ⟨bb, ob, none⟩) nb kb) ∧ w'.cell? ⟨bb, ob + k, none⟩ = some (.slice Kb m2 lb)) (by kernel_rfl) (by (try dsimp only); exact kk.out) (fun hHeld => ?_)
      refine wpAnyH_take (i := 0) (oi := ⟨_, _, _, _, _, _⟩) (v := ?_) rfl (by kernel_rfl) (by kernel_rfl) (by kernel_rfl) (fun _ _ _ h => h) (Or.inl ⟨by rfl, ?_⟩) (by assumption) ?_
      rotate_left
      · intro w hSw; (try dsimp only at hSw); go_simp; try with_reducible rfl
      try simp only [Act.put, List.setIfInBounds_toArray, List.set_cons_zero, List.set_cons_succ]
      refine wpAnyH_take (i := 1) (oi := ⟨_, _, _, _, _, _⟩) (v := ?_) rfl (by kernel_rfl) (by kernel_rfl) (by kernel_rfl) (fun _ _ _ h => h) (Or.inl ⟨by rfl, ?_⟩) (by assumption) ?_
      rotate_left
      · intro w hSw; (try dsimp only at hSw); go_simp; try with_reducible rfl
      try simp only [Act.put, List.setIfInBounds_toArray, List.set_cons_zero, List.set_cons_succ]
      refine wpAnyH_take (i := 2) (oi := ⟨_, _, _, _, _, _⟩) (v := ?_) rfl (by kernel_rfl) (by kernel_rfl) (by kernel_rfl) (fun _ _ _ h => h) (Or.inl ⟨by rfl, ?_⟩) (by assumption) ?_
      rotate_left
      · intro w hSw; (try dsimp only at hSw); go_simp; try with_reducible rfl
      try simp only [Act.put, List.setIfInBounds_toArray, List.set_cons_zero, List.set_cons_succ]
      refine wpAnyH_take (i := 3) (oi := ⟨_, _, _, _, _, _⟩) (v := ?_) rfl (by kernel_rfl) (by kernel_rfl) (by kernel_rfl) (fun _ _ _ h => h) (Or.inl ⟨by rfl, ?_⟩) (by assumption) ?_
      rotate_left
      · intro w hSw; (try dsimp only at hSw); go_simp; try with_reducible rfl
      try simp only [Act.put, List.setIfInBounds_toArray, List.set_cons_zero, List.set_cons_succ]
      refine wpAnyH_take (i := 4) (oi := ⟨_, _, _, _, _, _⟩) (v := ?_) rfl (by kernel_rfl) (by kernel_rfl) (by kernel_rfl) (fun _ _ _ h => h) (Or.inl ⟨by rfl, ?_⟩) (by assumption) ?_
      rotate_left
      · intro w hSw; (try dsimp only at hSw); go_simp; try with_reducible rfl
      try simp only [Act.put, List.setIfInBounds_toArray, List.set_cons_zero, List.set_cons_succ]
      refine wpAnyH_take (i := 5) (oi := ⟨_, _, _, _, _, _⟩) (v := ?_) rfl (by kernel_rfl) (by kernel_rfl) (by kernel_rfl) (fun _ _ _ h => h) (Or.inl ⟨by rfl, ?_⟩) (by assumption) ?_
      rotate_left
      · intro w hSw; (try dsimp only at hSw); go_simp; try with_reducible rfl
      try simp only [Act.put, List.setIfInBounds_toArray, List.set_cons_zero, List.set_cons_succ]
      refine wpAnyH_take (i := 6) (oi := ⟨_, _, _, _, _, _⟩) (v := ?_) rfl (by kernel_rfl) (by kernel_rfl) (by kernel_rfl) (fun _ _ _ h => h) (Or.inl ⟨by rfl, ?_⟩) (by assumption) ?_
      rotate_left
      · intro w hSw; (try dsimp only at hSw); go_simp; try with_reducible rfl
      try simp only [Act.put, List.setIfInBounds_toArray, List.set_cons_zero, List.set_cons_succ]
      refine wpAnyH_take (i := 7) (oi := ⟨_, _, _, _, _, _⟩) (v := ?_) rfl (by kernel_rfl) (by kernel_rfl) (by kernel_rfl) (fun _ _ _ h => h) (Or.inl ⟨by rfl, ?_⟩) (by assumption) ?_
      rotate_left
      · intro w hSw; (try dsimp only at hSw); go_simp; try with_reducible rfl
      try simp only [Act.put, List.setIfInBounds_toArray, List.set_cons_zero, List.set_cons_succ]
      refine wpAnyH_take (i := 8) (oi := ⟨_, _, _, _, _, _⟩) (v := ?_) rfl (by kernel_rfl) (by kernel_rfl) (by kernel_rfl) (fun _ _ _ h => h) (Or.inl ⟨by rfl, ?_⟩) (by assumption) ?_
      rotate_left
      · intro w hSw; (try dsimp only at hSw); go_simp; try with_reducible rfl
      try simp only [Act.put, List.setIfInBounds_toArray, List.set_cons_zero, List.set_cons_succ]
      refine wpAnyH_take (i := 9) (oi := ⟨_, _, _, _, _, _⟩) (v := ?_) rfl (by kernel_rfl) (by kernel_rfl) (by kernel_rfl) (fun _ _ _ h => h) (Or.inl ⟨by rfl, ?_⟩) (by assumption) ?_
      rotate_left
      · intro w hSw; (try dsimp only at hSw); go_simp; try with_reducible rfl
      try simp only [Act.put, List.setIfInBounds_toArray, List.set_cons_zero, List.set_cons_succ]
      refine wpAnyH_take (i := 10) (oi := ⟨_, _, _, _, _, _⟩) (v := ?_) rfl (by kernel_rfl) (by kernel_rfl) (by kernel_rfl) (fun _ _ _ h => h) (Or.inl ⟨by rfl, ?_⟩) (by assumption) ?_
      rotate_left
      · intro w hSw; (try dsimp only at hSw); go_simp; try with_reducible rfl
      try simp only [Act.put, List.setIfInBounds_toArray, List.set_cons_zero, List.set_cons_succ]
      refine wpAnyH_ready (rs := [11]) (by kernel_rfl) (by simp) ?_
      refine AllReadyH.cons (o := ⟨_, _, _, _, _, _⟩) rfl (fun K hK => ?_) AllReadyH.nil
      go_simp
      go_at_call 36
      (with_reducible refine (hBes).out.mono ?_)
      rintro e w4 ⟨v4, rfl, ho4, hb4⟩
      obtain ⟨A4, c4, rfl, hl4, hc4, hr4, hA4⟩ := ho4.parts
      rw [rowsL_length] at hl4
      have hb34 := hbe.trans (hb4.mono hbe.size)
      have kk9 := (kp hb34 (Nat.lt_of_lt_of_le (Nat.lt_of_succ_lt hs3) (Nat.le_refl _)) (Nat.lt_of_lt_of_le hs3 (Nat.le_refl _)) (Nat.lt_of_lt_of_le hxa (Nat.le_refl _)) (Nat.lt_of_lt_of_le hxb (Nat.le_refl _)) kk).out
      have hown4 := hown.below hb34 (Nat.le_refl _)
      have hA5 : ∀ a, A4 = some a → w3.heap.size ≤ a.block := fun a e => Nat.le_trans hbe.size (hA4 a e)
      have hs34 := hb34.size
      have hb45 : Below w4.heap.size w4 (w4.alloc (.cells #[.slice A4 (m1 + m2) c4] 22)) := (Below.refl _ _).alloc (Nat.le_refl _) _
      have kk10 := (kp hb45 (Nat.lt_of_lt_of_le (Nat.lt_of_succ_lt hs3) hs34) (Nat.lt_of_lt_of_le hs3 hs34) (Nat.lt_of_lt_of_le hxa hs34) (Nat.lt_of_lt_of_le hxb hs34) kk9).out
      rw [rowsL_length]
      go_wp2_with (fail)
      refine hK.out _ _ (by (try dsimp only); exact kk9.out) (fun hHeld => ?_)
      clear hK K
      try simp only [Act.put, List.setIfInBounds_toArray, List.set_cons_zero, List.set_cons_succ]
      refine wpAnyH_ready (rs := [12]) (by kernel_rfl) (by simp) ?_
      refine AllReadyH.cons (o := ⟨_, _, _, _, _, _⟩) rfl (fun K hK => ?_) AllReadyH.nil
      go_simp
      refine hK.out _ _ (by (try dsimp only); exact kk10.out) (fun hHeld => ?_)
      clear hK K
      try simp only [Act.put, List.setIfInBounds_toArray, List.set_cons_zero, List.set_cons_succ]
      refine wpAnyH_ready (rs := [13]) (by kernel_rfl) (by simp) ?_
      refine AllReadyH.cons (o := ⟨_, _, _, _, _, _⟩) rfl (fun K hK => ?_) AllReadyH.nil
      refine step_appRow rfl (.tmp 38) (.tmp 50) rfl Z.heap.size _ (k) _ hown4 A4 (m1 + m2) c4 hr4 (rowsL_length _ _ _ _) hl4 hc4 w3.heap.size hownH.lt0 hA5 hZ3 (by rfl) (by rfl) rfl (by omega) (Nat.le_trans hZ3 hs34) ?_
      intro v5 w5 ho5 hb5
      have kk11 := (kp hb5 (by omega) (by omega) (by omega) (by omega) kk9).out
      refine hK.out _ _ (by (try dsimp only); exact kk11.out) (fun hHeld => ?_)
      clear hK K
      try simp only [Act.put, List.setIfInBounds_toArray, List.set_cons_zero, List.set_cons_succ]
      refine wpAnyH_take (i := 14) (oi := ⟨_, _, _, _, _, _⟩) (v := ?_) rfl (by kernel_rfl) (by kernel_rfl) (by kernel_rfl) (fun _ _ _ h => h) (Or.inl ⟨by rfl, ?_⟩) (by assumption) ?_
      rotate_left
      · intro w hSw; (try dsimp only at hSw); go_simp; try with_reducible rfl
      try simp only [Act.put, List.setIfInBounds_toArray, List.set_cons_zero, List.set_cons_succ]
      refine wpAnyH_done (by kernel_rfl) ?_ _
      go_wp2_with (fail)
      go_roundw
      case rel => exact ⟨k + 1, by omega, by go_num, ho5, hbw.trans ((hb34.mono hbw.size).trans (hb5.mono (Nat.le_refl _)))⟩
      case measure => simp [intOf]; omega
    · obtain rfl : na = k := by omega
      have hB9 := hB3
      obtain ⟨A9, c9, rfl, hr9⟩ := hown.rdm
      have hG9 := Lib.hid (hG w3 A9 c9 ((hra.below hB9).more hB9.size) hr9)
      have hs9 : s + 1 + 1 < w3.heap.size := Nat.lt_of_lt_of_le hZs hbw.size
      have fz9 := fz.keep hbw hZs
      clear hG fz hown hr9
      go_wp2_with (fail)
      (with_reducible refine hG9.out.mono ?_)
      rintro e w6 ⟨A6, c6, Al, cl, rfl, hr6, hA6, hru, hb6⟩
      obtain ⟨t0, t1, t2, t3, t4, g0, g1, g2, g3, g4⟩ := fz9.keep hb6 hs9
      have hrf := Lib.hid (hr6.set5 (b := s + 1 + 1) (fun b hb => by have := hA6 b hb; omega) (.int .i64 P) (.int .i64 M) (.slice A6 ml.length c6) (.int .i64 N) (.slice Al n cl))
      have hruf : Hid (RdMU (((((w6.setCell ⟨s + 1 + 1, 0, none⟩ (.int .i64 P)).setCell ⟨s + 1 + 1, 1, none⟩ (.int .i64 M)).setCell ⟨s + 1 + 1, 2, none⟩ (.slice A6 ml.length c6)).setCell ⟨s + 1 + 1, 3, none⟩ (.int .i64 N)).setCell ⟨s + 1 + 1, 4, none⟩ (.slice Al n cl)) w3.heap.size w6.heap.size Al n rows) := hru.keepU fun p hp _ => set5_above (b := s + 1 + 1) (L := w3.heap.size) hs9 _ _ _ _ _ p hp
      have hBf : Hid (Below w.heap.size w (((((w6.setCell ⟨s + 1 + 1, 0, none⟩ (.int .i64 P)).setCell ⟨s + 1 + 1, 1, none⟩ (.int .i64 M)).setCell ⟨s + 1 + 1, 2, none⟩ (.slice A6 ml.length c6)).setCell ⟨s + 1 + 1, 3, none⟩ (.int .i64 N)).setCell ⟨s + 1 + 1, 4, none⟩ (.slice Al n cl))) := (hB9.trans (hb6.mono hB9.size)).trans ((set5 _ _ _ _ _).mono (by omega))
      have hsz : Hid ((((((w6.setCell ⟨s + 1 + 1, 0, none⟩ (.int .i64 P)).setCell ⟨s + 1 + 1, 1, none⟩ (.int .i64 M)).setCell ⟨s + 1 + 1, 2, none⟩ (.slice A6 ml.length c6)).setCell ⟨s + 1 + 1, 3, none⟩ (.int .i64 N)).setCell ⟨s + 1 + 1, 4, none⟩ (.slice Al n cl)).heap.size = w6.heap.size) := by unfold Hid; simp [World.setCell]
      have hW9 : w.heap.size ≤ w3.heap.size := hB9.size
      have hA9 : ∀ b, A6 = some b → w.heap.size ≤ b.block := fun b hb => Nat.le_trans hW9 (hA6 b hb)
      clear hr6 hA6 hru hb6 hB9 hG9
      go_wp2_with (fail)
      refine bodyPost_ret (v := .tuple #[.agg #[.int .i64 P, .int .i64 M, .slice A6 ml.length c6, .int .i64 N, .slice Al n cl], .int .i64 0]) (by simp [results, Try.results21, go_sem, t0, t1, t2, t3, t4]) rfl ⟨A6, c6, Al, cl, rfl, hrf.out.more (by rw [hsz.out]; exact Nat.le_refl _), hA9, ?_, hBf.out⟩
      have h5 := hruf.out.low hW9
      rw [← hsz.out] at h5
      exact h5

end Go.Proofs.Ytghgbjgoedlnjaa
